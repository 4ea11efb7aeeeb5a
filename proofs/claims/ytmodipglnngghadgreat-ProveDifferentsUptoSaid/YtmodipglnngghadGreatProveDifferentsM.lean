/-
  The texts that the proof stands on, part 13.
-/
import Derived.Test.YtmodipglnngghadGreatProveDifferentsL
import Derived.Tactics
import Derived.KernelRfl
set_option linter.unusedVariables false
set_option linter.unusedSimpArgs false
set_option linter.unnecessarySimpa false

/-! Every operation of the machine, calls too, does what its Go operation does. -/
section
namespace Go.Lw
open Go Go.RowKit
section
variable {fi:FI} {M M':Mem} {w w':World} {P:Program} {s s':St} {a:Act} {cf:CallF}
def CallOk (P:Program) (fi:FI) (F:Nat) (vs:List PV) (gh:List GObj) (r:PV) (gh':List GObj):Prop:=
  ∀ (M:Mem) (w:World) (args:List Value),GI fi M w gh→M.lb=[]→(∀b l,M.own b=some l→∃i j,l= .gh i j)→args.length=vs.length→
    (∀(i:Nat) (p:PV) (v:Value),vs[i]?=some p→args[i]?=some v→RepP fi M w p v)→
    Calls P F args.toArray w fun e w'=>∃v M',e= .returned v∧GI fi M' w' gh'∧M'.lb=[]∧resOk r=true∧RepAt fi M' w' Loc.res r v∧Kp M w M' w'
def CfOk (P:Program) (fi:FI) (cf:CallF):Prop:=
  ∀ f vs gh r gh' F,cf f vs gh=some (r,gh')→(∀p∈vs,argOk p=true)→fi f=some F→
    (∃ fn c, P.funcs[F]? = some fn ∧ (fn.name == "runtime.NumGoroutine") = false ∧ fn.body = some c) ∧ CallOk P fi F vs gh r gh'
def mOpC (P:Program) (fi:FI) (i:IOp) (op:Op):Bool:=
  match i,op with
  | .call _ _ f xs,.call {callee:= .value (.func F),args,.. }| .callP _ f xs _,.call {callee:= .value (.func F),args,.. }| .callR _ f xs _ _,.call {callee:= .value (.func F),args,.. }| .callF _ f xs,.call {callee:= .value (.func F),args,.. }=>fi f==some F&&mXs fi xs args.toList
  | .callv _ _ fv xs,.call {callee:= .value y,args,.. }| .callE _ fv xs,.call {callee:= .value y,args,.. }=>mX fi fv y&&mXs fi xs args.toList
  | .loadN d agg k x _,op=>mOp P fi (.load d agg k x) op
  | .loadL d x,op=>mOp P fi (.loadT d x) op
  | .appendE d bytes y x,op=>mOp P fi (.append d 1 bytes y x) op
  | .loadKB d x _,op=>mOp P fi (.load d false 1 x) op
  | .loadTB d x _ _,op=>mOp P fi (.loadT d x) op
  | .loadB d agg k x _,op=>mOp P fi (.load d agg k x) op
  | .loadJ d agg k x,op=>mOp P fi (.load d agg k x) op
  | .appendP d bytes y x _,op=>mOp P fi (.append d 1 bytes y x) op
  | .mkarr d z bytes zero l,op=>mOp P fi (.mksl d true z bytes zero l) op
  | .buildA d z ps,op=>mOp P fi (.buildT d z ps) op
  | .appendK d bytes y x,op=>mOp P fi (.append d 1 bytes y x) op
  | .appendN d bytes y x,op=>mOp P fi (.append d 1 bytes y x) op
  | .buildSlK d els,op=>mOp P fi (.buildSl d 1 els) op
  | .boxSl d z els,op=>mOp P fi (.buildSl d z els) op
  | .loadK d x,op=>mOp P fi (.load d false 1 x) op
  | .loadH d x,op=>mOp P fi (.load d false 1 x) op
  | .storeK y x,op=>mOp P fi (.store false 1 y x) op
  |i,op=>mOp P fi i op
theorem jsx {F : Nat} {fn : Func} {c : Code} (hf : P.funcs[F]? = some fn) (hn : (fn.name == "runtime.NumGoroutine") = false) (hb : fn.body = some c) (args : Array Value) (w : World) :
    (callFunc F args).run P w= .ok (.enter F args) w:=by
  have h1 : fn.name ≠ "runtime.NumGoroutine" := by simpa using hn
  simp[callFunc,hf,h1,hb]
theorem RepE.fnInv {f:Nat} {cs:List PV} {v:Value} (h:RepE fi M w (.fn f cs) v):∃F vs,fi f=some F∧v= .func (.func F) #[] (vs:List Value).toArray∧vs.length=cs.length∧cs.all argOk=true∧
    ∀(i:Nat) (c:PV) (u:Value),cs[i]?=some c→vs[i]?=some u→RepP fi M w c u:=by
  cases (show RepP fi M w (.fn f cs) v from h) with
  |fn _ F _ vs hf hl h1 h2=>exact⟨F,vs,hf,rfl,hl,h1,h2⟩
theorem RepE.bfnInv {f:Nat} {cs:List PV} {v:Value} (h:RepE fi M w (.bfn f cs) v):∃F vs,fi f=some F∧v= .func (.func F) (vs:List Value).toArray #[]∧vs.length=cs.length∧cs.all argOk=true∧
    ∀(i:Nat) (c:PV) (u:Value),cs[i]?=some c→vs[i]?=some u→RepP fi M w c u:=by
  cases (show RepP fi M w (.bfn f cs) v from h) with
  |bfn _ F _ vs hf hl h1 h2=>exact⟨F,vs,hf,rfl,hl,h1,h2⟩
theorem j11u {g:Bool} {p:PV} {v:Value} (h:RepP fi M w p v) (hg:g=false→p.noG=true):RepP fi (M.callee g) w p v:=by
  cases hgb:g with
  |true=>subst hgb;exact h.mono (show Ext M w (M.callee true) w from⟨fun _ _ h=>h,fun _ _ h=>h,fun _ _ _=>rfl,fun _ _=>⟨Nat.le_refl _,fun _=>rfl⟩⟩)
  | false=>
    subst hgb
    exact (h.noG [] M.st (hg rfl)).mono (show Ext {M with gb:=[],st:=M.st } w (M.callee false) w from⟨fun _ _ h=>h,fun _ _ h=>h,fun _ _ _=>rfl,fun _ _=>⟨Nat.le_refl _,fun _=>rfl⟩⟩)
def dstL:Option Nat→Nat→Loc
  |some d=>Loc.env d
  |none=>Loc.lim
theorem jsy (hI:Inv fi M w s a) {o:Oper} {F:Nat} {args:List Value} {vs:List PV} {g:Bool} {r:PV} {gh':List GObj} (hrun:(execOp a.eval o).run P w= .ok (.enter F args.toArray) w)
    (hok:CallOk P fi F vs (if g then s.gh else []) r gh') (hl:args.length=vs.length) (hr:∀(i:Nat) (p:PV) (v:Value),vs[i]?=some p→args[i]?=some v→RepP fi M w p v) (hg:g=false→noGs vs=true∧r.noG=true)
    (hlt:∀d,o.dst=some d→d<a.tmps.size) {next:Act→World→Prop} {Q:Exit→Act→World→Prop}
    (hn:∀a' M' w',Inv fi M' w' ⟨putO s.env o.dst r,s.lh,if g then gh' else s.gh⟩ a'→Kp M w M' w'→a'.tmps.size=a.tmps.size→next a' w'):o.wp P a w next Q:=by
  unfold Oper.wp
  rw[hrun,Oper.upon_enter]
  obtain⟨c1,c2,c3⟩:=hI.callee g
  refine Calls.mono (hok (M.callee g) w args c1 c2 c3 hl (fun i p v hp hv=>j11u (hr i p v hp hv) (fun e=>jrk (hg e).1 hp))) ?_
  rintro e w2 ⟨v,M2,rfl,hG,hlb,hrok,hrep,hk⟩
  obtain⟨b1,b2,b3⟩:=hI.back g (dstL o.dst) (fun i=>by cases o.dst<;>rfl) hG hlb hk hrep (fun e=>(hg e).2) hrok
  simp only
  cases hd:o.dst with
  | none=>
    rw[hd] at b1 b2 b3 hn
    exact hn _ _ _ b1 b2 rfl
  | some d=>
    rw[hd] at b1 b2 b3 hn
    exact hn _ _ _ (b1.put (hlt d hd) b3) b2 (by simp[Act.put])
theorem Sim.wp {o:Oper} (h:Sim P fi o M w s' a) {next:Act→World→Prop} {Q:Exit→Act→World→Prop}
    (hn:∀a' M' w',Inv fi M' w' s' a'→Kp M w M' w'→a'.tmps.size=a.tmps.size→next a' w'):o.wp P a w next Q:=by
  obtain⟨n,v,M',w',h1,h2,h3,h4⟩:=h
  unfold Oper.wp
  rw[h1]
  have hs:(a.put o.dst v).tmps.size=a.tmps.size:=by cases o.dst<;>simp[Act.put]
  rcases h2 with rfl|⟨rfl,rfl⟩
  · exact hn _ _ _ h3 h4 hs
  · exact hn _ _ _ h3 h4 hs
theorem sim_load' {o:Oper} {d:Nat} {agg:Bool} {k:Nat} {x:IX} (A:Asks P fi M w s a o (.load d agg k x)) (h:opStep cf s (.load d agg k x)=some s'):Sim P fi o M w s' a:=sim_load A h
theorem jwi (hcf:CfOk P fi cf) (hI:Inv fi M w s a) {o:Oper} {d:Option Nat} {f F:Nat} {xs:List IX} {args:Array Operand} {ats:Array TypeId} (ho:o.op= .call ⟨.value (.func F),args,ats⟩) (hf:fi f=some F) (hxs:mXs fi xs args.toList=true)
    (hd:o.dst=d) (hlt':∀d,o.dst=some d→d<a.tmps.size) {vs:List PV} (hvs:evalXs s.env xs=some vs) (h:doCall cf s d false f vs=some s')
    {next:Act→World→Prop} {Q:Exit→Act→World→Prop} (hn:∀a' M' w',Inv fi M' w' s' a'→Kp M w M' w'→a'.tmps.size=a.tmps.size→next a' w'):o.wp P a w next Q:=by
  obtain⟨dst,op,ty,pos,aft,gd⟩:=o
  simp only at ho
  subst ho
  unfold doCall at h
  split at h
  · rename_i hall
    simp only[List.all_eq_true] at hall
    obtain⟨e1,e2⟩:=jrg hI hxs hvs
    cases hc:cf f vs s.gh with
    |none=>simp[hc] at h
    | some rg=>
      obtain⟨r,gh'⟩:=rg
      simp only[hc] at h
      obtain⟨⟨fn,cd,hfn,hnm,hbd⟩,hok⟩:=hcf f vs s.gh r gh' F hc hall hf
      have hs':s'=⟨putO s.env d r,s.lh,gh'⟩:=by
        simp at h;exact h.symm
      subst hs'
      refine jsy (g:=true) (args:=args.toList.map a.eval) (vs:=vs) (F:=F) (r:=r) (gh':=gh') hI ?_ hok (by simpa using e1) (fun i p v hp hv=>?_) (by simp) hlt' ?_
      · have hcap:args.map a.eval=(List.map a.eval args.toList).toArray:=by apply Array.ext';simp
        have hev:a.eval (.func F)= .func (.func F) #[] #[]:=rfl
        simp[execOp,resolve,Deferred.ofValue,invoke,hev,hcap,jsx hfn hnm hbd]
      · simp only[List.getElem?_map,Option.map_eq_some_iff] at hv
        obtain⟨y,hy,rfl⟩:=hv
        refine (e2 i p y hp hy).repP ?_
        exact hall p (List.mem_of_getElem? hp)
      · rw[show dst=d from hd];exact hn
  · cases h
set_option maxHeartbeats 1600000 in
theorem op_wp (hcf:CfOk P fi cf) (hI:Inv fi M w s a) {o:Oper} {i:IOp} (hm:mOpC P fi i o.op=true) (hd:o.dst=opDst i) (hlt:∀d,opDst i=some d→d<a.tmps.size) (h:opStep cf s i=some s')
    {next:Act→World→Prop} {Q:Exit→Act→World→Prop} (hn:∀a' M' w',Inv fi M' w' s' a'→Kp M w M' w'→a'.tmps.size=a.tmps.size→next a' w'):o.wp P a w next Q:=by
  have hlt':∀d,o.dst=some d→d<a.tmps.size:=fun d h=>hlt d (by rw[←hd];exact h)
  cases i with
  | call d q f xs=>
    obtain⟨dst,op,ty,pos,aft,gd⟩:=o
    cases op<;>simp[mOpC,mOp] at hm
    rename_i c
    obtain⟨callee,args,ats⟩:=c
    cases callee with
    | value y =>
      cases y<;>simp at hm
      rename_i F
      obtain⟨hf,hxs⟩:=hm
      simp only[opStep,Option.bind_eq_some_iff] at h
      obtain⟨vs,hvs,h⟩:=h
      unfold doCall at h
      split at h
      · rename_i hall
        simp only[List.all_eq_true] at hall
        obtain⟨e1,e2⟩:=jrg hI hxs hvs
        cases hc:cf f vs s.gh with
        |none=>simp[hc] at h
        | some rg=>
          obtain⟨r,gh'⟩:=rg
          simp only[hc] at h
          obtain⟨⟨fn,cd,hfn,hnm,hbd⟩,hok⟩:=hcf f vs s.gh r gh' F hc hall hf
          have hs':s'=⟨putO s.env d r,s.lh,gh'⟩:=by
            split at h
            · split at h
              · rename_i he;cases h;rw[he]
              · cases h
            · cases h;rfl
          subst hs'
          refine jsy (g:=true) (args:=args.toList.map a.eval) (vs:=vs) (F:=F) (r:=r) (gh':=gh') hI ?_ hok (by simpa using e1) (fun i p v hp hv=>?_) (by simp) hlt' ?_
          · have hcap:args.map a.eval=(List.map a.eval args.toList).toArray:=by apply Array.ext';simp
            have hev:a.eval (.func F)= .func (.func F) #[] #[]:=rfl
            simp[execOp,resolve,Deferred.ofValue,invoke,hev,hcap,jsx hfn hnm hbd]
          · simp only[List.getElem?_map,Option.map_eq_some_iff] at hv
            obtain⟨y,hy,rfl⟩:=hv
            refine (e2 i p y hp hy).repP ?_
            exact hall p (List.mem_of_getElem? hp)
          · rw[show dst=d from hd];exact hn
      · cases h
    |_=>simp at hm
  | callv d q fv xs=>
    obtain⟨dst,op,ty,pos,aft,gd⟩:=o
    cases op<;>simp[mOpC,mOp] at hm
    rename_i c
    obtain⟨callee,args,ats⟩:=c
    cases callee with
    | value y =>
      simp at hm
      obtain⟨hfv,hxs⟩:=hm
      simp only[opStep] at h
      split at h
      · rename_i f caps hcl
        simp only[Option.bind_eq_some_iff] at h
        obtain⟨vs,hvs,h⟩:=h
        obtain⟨F,us,hf,hv,hul,hcok,hur⟩:=(jqt hI hfv hcl).fnInv
        unfold doCall at h
        split at h
        · rename_i hall
          simp only[List.all_eq_true] at hall
          obtain⟨e1,e2⟩:=jrg hI hxs hvs
          cases hc:cf f (vs++caps) s.gh with
          |none=>simp[hc] at h
          | some rg=>
            obtain⟨r,gh'⟩:=rg
            simp only[hc] at h
            obtain⟨⟨fn,cd,hfn,hnm,hbd⟩,hok⟩:=hcf f (vs++caps) s.gh r gh' F hc hall hf
            have hs':s'=⟨putO s.env d r,s.lh,gh'⟩:=by
              split at h
              · split at h
                · rename_i he;cases h;rw[he]
                · cases h
              · cases h;rfl
            subst hs'
            have hvl:(args.toList.map a.eval).length=vs.length:=by simpa using e1
            refine jsy (g:=true) (args:=args.toList.map a.eval++us) (vs:=vs++caps) (F:=F) (r:=r) (gh':=gh') hI ?_ hok (by simp only[List.length_append];omega) (fun i p v hp hv=>?_) (by simp) hlt' ?_
            · have hcap:args.map a.eval=(List.map a.eval args.toList).toArray:=by apply Array.ext';simp
              simp[execOp,resolve,Deferred.ofValue,invoke,hv,hcap,jsx hfn hnm hbd]
            · by_cases hi:i<vs.length
              · rw[List.getElem?_append_left hi] at hp
                rw[List.getElem?_append_left (by omega)] at hv
                simp only[List.getElem?_map,Option.map_eq_some_iff] at hv
                obtain⟨y,hy,rfl⟩:=hv
                exact (e2 i p y hp hy).repP (hall p (List.mem_append_left _ (List.mem_of_getElem? hp)))
              · rw[List.getElem?_append_right (by omega)] at hp
                rw[List.getElem?_append_right (by omega),hvl] at hv
                exact hur _ p v hp hv
            · rw[show dst=d from hd];exact hn
        · cases h
      · rename_i f caps hcl
        simp only[Option.bind_eq_some_iff] at h
        obtain⟨vs,hvs,h⟩:=h
        obtain⟨F,us,hf,hv,hul,hcok,hur⟩:=(jqt hI hfv hcl).bfnInv
        unfold doCall at h
        split at h
        · rename_i hall
          simp only[List.all_eq_true] at hall
          obtain⟨e1,e2⟩:=jrg hI hxs hvs
          cases hc:cf f (caps++vs) s.gh with
          |none=>simp[hc] at h
          | some rg=>
            obtain⟨r,gh'⟩:=rg
            simp only[hc] at h
            obtain⟨⟨fn,cd,hfn,hnm,hbd⟩,hok⟩:=hcf f (caps++vs) s.gh r gh' F hc hall hf
            have hs':s'=⟨putO s.env d r,s.lh,gh'⟩:=by
              split at h
              · split at h
                · rename_i he;cases h;rw[he]
                · cases h
              · cases h;rfl
            subst hs'
            have hvl:(args.toList.map a.eval).length=vs.length:=by simpa using e1
            refine jsy (g:=true) (args:=us++args.toList.map a.eval) (vs:=caps++vs) (F:=F) (r:=r) (gh':=gh') hI ?_ hok (by simp only[List.length_append];omega) (fun i p v hp hv=>?_) (by simp) hlt' ?_
            · have hcap:args.map a.eval=(List.map a.eval args.toList).toArray:=by apply Array.ext';simp
              simp[execOp,resolve,Deferred.ofValue,invoke,hv,hcap,jsx hfn hnm hbd]
            · by_cases hi:i<caps.length
              · rw[List.getElem?_append_left hi] at hp
                rw[List.getElem?_append_left (by omega)] at hv
                exact hur _ p v hp hv
              · rw[List.getElem?_append_right (by omega)] at hp
                rw[List.getElem?_append_right (by omega),hul] at hv
                simp only[List.getElem?_map,Option.map_eq_some_iff] at hv
                obtain⟨y,hy,rfl⟩:=hv
                exact (e2 _ p y hp hy).repP (hall p (List.mem_append_right _ (List.mem_of_getElem? hp)))
            · rw[show dst=d from hd];exact hn
        · cases h
      · cases h
    |_=>simp at hm
  |callE=>simp[opStep] at h
  | callF d f xs=>
    obtain⟨dst,op,ty,pos,aft,gd⟩:=o
    cases op<;>simp[mOpC,mOp] at hm
    rename_i c
    obtain⟨callee,args,ats⟩:=c
    cases callee with
    | value y =>
      cases y<;>simp at hm
      rename_i F
      obtain⟨hf,hxs⟩:=hm
      simp only[opStep,Option.bind_eq_some_iff] at h
      obtain⟨vs,hvs,h⟩:=h
      unfold doFree at h
      split at h
      · rename_i hall
        obtain⟨hall,hng⟩:=hall
        simp only[List.all_eq_true] at hall
        obtain⟨e1,e2⟩:=jrg hI hxs hvs
        split at h
        · rename_i r hc
          split at h
          · rename_i hrg
            cases h
            obtain⟨⟨fn,cd,hfn,hnm,hbd⟩,hok⟩:=hcf f vs [] r [] F hc hall hf
            refine jsy (g:=false) (args:=args.toList.map a.eval) (vs:=vs) (F:=F) (r:=r) (gh':=[]) hI ?_ hok (by simpa using e1) (fun i p v hp hv=>?_) (fun _=>⟨hng,hrg⟩) hlt' ?_
            · have hcap:args.map a.eval=(List.map a.eval args.toList).toArray:=by apply Array.ext';simp
              have hev:a.eval (.func F)= .func (.func F) #[] #[]:=rfl
              simp[execOp,resolve,Deferred.ofValue,invoke,hev,hcap,jsx hfn hnm hbd]
            · simp only[List.getElem?_map,Option.map_eq_some_iff] at hv
              obtain⟨y,hy,rfl⟩:=hv
              refine (e2 i p y hp hy).repP ?_
              exact hall p (List.mem_of_getElem? hp)
            · rw[show dst=d from hd];exact hn
          · cases h
        · cases h
      · cases h
    |_=>simp at hm
  | callP d f xs ns=>
    obtain⟨dst,op,ty,pos,aft,gd⟩:=o
    cases op<;>simp[mOpC,mOp] at hm
    rename_i c
    obtain⟨callee,args,ats⟩:=c
    cases callee with
    | value y=>
      cases y<;>simp at hm
      rename_i F
      simp only[opStep,Option.bind_eq_some_iff] at h
      obtain⟨vs,hvs,s1,h1,h2⟩:=h
      split at h2
      · cases h2
        exact jwi hcf hI rfl hm.1 hm.2 hd hlt' hvs h1 hn
      · cases h2
    |_=>simp at hm
  | callR d f xs n o2=>
    obtain⟨dst,op,ty,pos,aft,gd⟩:=o
    cases op<;>simp[mOpC,mOp] at hm
    rename_i c
    obtain⟨callee,args,ats⟩:=c
    cases callee with
    | value y=>
      cases y<;>simp at hm
      rename_i F
      simp only[opStep,Option.bind_eq_some_iff] at h
      obtain⟨vs,hvs,h⟩:=h
      split at h
      · unfold doCallR at h
        simp only[Option.bind_eq_some_iff] at h
        obtain⟨s1,h1,_,_,_,_,_,_,_,_,h2⟩:=h
        split at h2
        · cases h2
          exact jwi hcf hI rfl hm.1 hm.2 hd hlt' hvs h1 hn
        · cases h2
      · cases h
    |_=>simp at hm
  |appendE=>exact (j11s (cf:=cf) hI (by simpa [mOpC] using hm) hd (hlt _ rfl) h).wp hn
  | loadKB d x n=>
    have h2:opStep cf s (.loadK d x)=some s':=by
      simp only[opStep] at h ⊢
      split at h
      · rename_i hp _
        split at h
        · rw[hp];exact h
        · cases h
      · cases h
    exact (jwf (cf:=cf) hI (by simpa [mOpC] using hm) hd (hlt _ rfl) h2).wp hn
  | loadTB d x n o2=>
    have h2:opStep cf s (.loadT d x)=some s':=by
      simp only[opStep] at h ⊢
      split at h
      · rename_i hp _
        split at h
        · rw[hp];exact h
        · cases h
      · cases h
    exact (jud (cf:=cf) ⟨hI,by simpa [mOpC] using hm,hd,hlt⟩ h2).wp hn
  | loadB d agg k x n=>
    have h2:opStep cf s (.load d agg k x)=some s':=by
      simp only[opStep] at h ⊢
      split at h
      · rename_i hp _
        split at h
        · rw[hp];exact h
        · cases h
      · cases h
    exact (sim_load' (cf:=cf) ⟨hI,by simpa [mOpC] using hm,hd,hlt⟩ h2).wp hn
  | loadJ d agg k x=>
    have h2:opStep cf s (.load d agg k x)=some s':=by
      simp only[opStep] at h ⊢
      split at h
      · rename_i hp
        rw[hp];exact h
      · cases h
    exact (sim_load' (cf:=cf) ⟨hI,by simpa [mOpC] using hm,hd,hlt⟩ h2).wp hn
  | appendP d bytes y x ns=>
    simp only[opStep,Option.bind_eq_some_iff] at h
    obtain⟨s1,h1,h2⟩:=h
    split at h2
    · cases h2
      exact (jwe (cf:=cf) hI (by simpa [mOpC] using hm) hd (hlt _ rfl) h1).wp hn
    · cases h2
  |mkarr=>exact (j11q (cf:=cf) hI (by simpa [mOpC] using hm) hd (hlt _ rfl) h).wp hn
  |buildA=>exact (j11r (cf:=cf) hI (by simpa [mOpC] using hm) hd hlt h).wp hn
  |boxSl=>exact (j11t (cf:=cf) hI (by simpa [mOpC] using hm) hd (hlt _ rfl) h).wp hn
  |loadN=>simp[opStep] at h
  | loadL d x=>
    have h2:opStep cf s (.loadT d x)=some s':=by
      simp only[opStep] at h ⊢
      split at h
      · rename_i hp
        rw[hp];exact h
      · cases h
    exact (jud (cf:=cf) ⟨hI,by simpa [mOpC] using hm,hd,hlt⟩ h2).wp hn
  |mv=>exact (sim_mv ⟨hI,by simpa [mOpC] using hm,hd,hlt⟩ h).wp hn
  |tk=>exact (sim_tk ⟨hI,by simpa [mOpC] using hm,hd,hlt⟩ h).wp hn
  |pick=>exact (j10n ⟨hI,by simpa [mOpC] using hm,hd,hlt⟩ h).wp hn
  |box=>exact (j10o ⟨hI,by simpa [mOpC] using hm,hd,hlt⟩ h).wp hn
  |alloc=>exact (j10p ⟨hI,by simpa [mOpC] using hm,hd,hlt⟩ h).wp hn
  |build=>exact (j11f ⟨hI,by simpa [mOpC] using hm,hd,hlt⟩ h).wp hn
  |buildT=>exact (jwc ⟨hI,by simpa [mOpC] using hm,hd,hlt⟩ h).wp hn
  |buildSl=>exact (j11h ⟨hI,by simpa [mOpC] using hm,hd,hlt⟩ h).wp hn
  |load=>exact (sim_load ⟨hI,by simpa [mOpC] using hm,hd,hlt⟩ h).wp hn
  |loadT=>exact (jud ⟨hI,by simpa [mOpC] using hm,hd,hlt⟩ h).wp hn
  |store=>exact (j10r ⟨hI,by simpa [mOpC] using hm,hd,hlt⟩ h).wp hn
  |nilc=>exact (j10s ⟨hI,by simpa [mOpC] using hm,hd,hlt⟩ h).wp hn
  |bin=>exact (j10t ⟨hI,by simpa [mOpC] using hm,hd,hlt⟩ h).wp hn
  |eqa=>exact (j10u ⟨hI,by simpa [mOpC] using hm,hd,hlt⟩ h).wp hn
  |eqb=>simp[opStep] at h
  |eqn=>simp[opStep] at h
  |un=>exact (sim_un ⟨hI,by simpa [mOpC] using hm,hd,hlt⟩ h).wp hn
  |conv=>exact (j10v ⟨hI,by simpa [mOpC] using hm,hd,hlt⟩ h).wp hn
  |mkfn=>exact (j10w ⟨hI,by simpa [mOpC] using hm,hd,hlt⟩ h).wp hn
  |mkbf=>exact (j10x ⟨hI,by simpa [mOpC] using hm,hd,hlt⟩ h).wp hn
  |storeK=>exact (j11l hI (by simpa [mOpC] using hm) hd h).wp hn
  |clearK=>exact (j11m hI (by simpa [mOpC] using hm) hd h).wp hn
  |loadG=>simp[opStep] at h
  |mkbld=>simp[opStep] at h
  |mkmap=>exact (j10y ⟨hI,by simpa [mOpC] using hm,hd,hlt⟩ h).wp hn
  |mksl=>exact (j11b ⟨hI,by simpa [mOpC] using hm,hd,hlt⟩ h).wp hn
  |slice=>exact (j10z ⟨hI,by simpa [mOpC] using hm,hd,hlt⟩ h).wp hn
  |sliceS=>simp[opStep] at h
  |faddr=>exact (j110 ⟨hI,by simpa [mOpC] using hm,hd,hlt⟩ h).wp hn
  |field=>exact (j111 ⟨hI,by simpa [mOpC] using hm,hd,hlt⟩ h).wp hn
  |iaddr=>exact (j112 ⟨hI,by simpa [mOpC] using hm,hd,hlt⟩ h).wp hn
  |index=>exact (j113 ⟨hI,by simpa [mOpC] using hm,hd,hlt⟩ h).wp hn
  |indexS=>exact (j114 ⟨hI,by simpa [mOpC] using hm,hd,hlt⟩ h).wp hn
  |lookup=>exact (j115 ⟨hI,by simpa [mOpC] using hm,hd,hlt⟩ h).wp hn
  |mupd=>exact (j116 ⟨hI,by simpa [mOpC] using hm,hd,hlt⟩ h).wp hn
  |len=>exact (j117 ⟨hI,by simpa [mOpC] using hm,hd,hlt⟩ h).wp hn
  |append=>exact (j118 ⟨hI,by simpa [mOpC] using hm,hd,hlt⟩ h).wp hn
  |appendK=>exact (j11i hI (by simpa [mOpC] using hm) hd (hlt _ rfl) h).wp hn
  |appendN=>exact (jwe hI (by simpa [mOpC] using hm) hd (hlt _ rfl) h).wp hn
  |loadH=>simp[opStep] at h
  |loadK=>exact (jwf hI (by simpa [mOpC] using hm) hd (hlt _ rfl) h).wp hn
  |buildSlK=>exact (j11k hI (by simpa [mOpC] using hm) hd (hlt _ rfl) h).wp hn
  |maxi=>exact (j11a ⟨hI,by simpa [mOpC] using hm,hd,hlt⟩ h).wp hn
  |extract=>exact (j119 ⟨hI,by simpa [mOpC] using hm,hd,hlt⟩ h).wp hn
end
end Go.Lw
end

/-! Regions that are run as they stand. -/
section
namespace Go.Lw
open Go Go.RowKit
section
variable {fi:FI} {M M':Mem} {w w':World} {P:Program} {s s':St} {a:Act} {cf:CallF}
def mGuard (ops:Array Oper):Option (Nat×Bool)→Option (Nat×Bool)→Bool
 |none,none=>true
 |some (t,want),some (g,want')=>((ops[g]?).bind (·.dst)==some t)&&(want==want')
 |_,_=>false
def mOpG (P:Program) (fi:FI) (N:Nat) (ops:Array Oper) (i:IOpG) (o:Oper):Bool:=
 mOpC P fi i.op o.op&&(o.dst==opDst i.op)&&(match opDst i.op with|some d=>decide (d<N)|none=>true)&&mGuard ops i.guard o.guard
def mOps (P:Program) (fi:FI) (N:Nat) (ops:Array Oper):List IOpG→List Oper→Bool
 |[],[]=>true
 |i::is,o::os=>mOpG P fi N ops i o&&mOps P fi N ops is os
 |_,_=>false
theorem j11v {N:Nat} {ops:Array Oper} {i:IOpG} {o:Oper} (h:mOpG P fi N ops i o=true) :
  mOpC P fi i.op o.op=true∧o.dst=opDst i.op∧(∀d,opDst i.op=some d→d<N)∧mGuard ops i.guard o.guard=true:=by
 simp only[mOpG,Bool.and_eq_true,beq_iff_eq] at h
 obtain⟨⟨⟨h1,h2⟩,h3⟩,h4⟩:=h
 refine⟨h1,h2,fun d hd=>?_,h4⟩
 rw[hd] at h3
 simpa using h3
noncomputable def opG (cf:CallF) (i:IOpG) (s:St):Option St:=
 match i.guard with
 |none=>opStep cf s i.op
 |some (g,want)=>match get s.env g with
  |some (.bool b)=>if b=want then opStep cf s i.op else some (skipped s i.op)
  |some .und=>some (skipped s i.op)
  |_=>none
theorem jsc (i:IOpG) (l:List IOpG) (s:St):opsRun cf (i::l) s=(opG cf i s).bind (opsRun cf l):=by
 obtain⟨op,gd⟩:=i
 cases gd with
 |none=>rfl
 | some q=>
  obtain⟨g,want⟩:=q
  simp only[opsRun,opG]
  cases hg:get s.env g with
  |none=>rfl
  |some v=>
   cases v<;>simp only[Option.bind_none,Option.bind_some]
   split<;>simp
theorem j11w (hI:Inv fi M w s a) {i:IOp} (hlt:∀d,opDst i=some d→d<a.tmps.size):Inv fi M w (skipped s i) (a.put (opDst i) undef):=by
 unfold skipped
 cases hd:opDst i with
 |none=>exact hI
 |some d=>exact hI.put (hlt d hd) (RepP.repE .und).repAt
theorem opG_wp (hcf:CfOk P fi cf) (hI:Inv fi M w s a) {N:Nat} {ops:Array Oper} {i:IOpG} {o:Oper} (hm:mOpG P fi N ops i o=true) (hN:N≤a.tmps.size) (h:opG cf i s=some s')
  {next:Act→World→Prop} {Q:Exit→Act→World→Prop} (hn:∀a' M' w',Inv fi M' w' s' a'→Kp M w M' w'→a'.tmps.size=a.tmps.size→next a' w') :
  if Region.wanted o (yielded ops a.tmps) then o.wp P a w next Q else next (a.put o.dst undef) w:=by
 obtain⟨h1,h2,h3,h4⟩:=j11v hm
 have hlt:∀d,opDst i.op=some d→d<a.tmps.size:=fun d hd=>Nat.lt_of_lt_of_le (h3 d hd) hN
 have hskip:next (a.put o.dst undef) w∨s'≠skipped s i.op:=by
  by_cases hs:s'=skipped s i.op
  ·left
   subst hs
   rw[h2]
   exact hn _ M w (j11w hI hlt) (Kp.refl M w) (by cases opDst i.op<;>simp[Act.put])
  ·exact .inr hs
 unfold opG at h
 unfold Region.wanted
 cases hg:i.guard with
 |none=>
  rw[hg] at h h4
  cases hog:o.guard with
  |none=>simp only[if_true];exact op_wp hcf hI h1 h2 hlt h hn
  |some q=>rw[hog] at h4;simp[mGuard] at h4
 | some q=>
  obtain⟨g,want⟩:=q
  rw[hg] at h h4
  cases hog:o.guard with
  |none=>rw[hog] at h4;simp[mGuard] at h4
  | some q'=>
   obtain⟨j,want'⟩:=q'
   rw[hog] at h4
   simp only[mGuard,Bool.and_eq_true,beq_iff_eq] at h4
   obtain⟨hdj,rfl⟩:=h4
   simp only at h
   have hy:∀v,get s.env g=some v→yielded ops a.tmps j=(match a.tmps.getD g undef with| .bool b=>some b|_=>none):=by
    intro v hv
    have hlt:=(hI.env g v hv).1
    simp only[yielded,hdj,Option.bind_some]
    simp only[Array.getD_eq_getD_getElem?,Array.getElem?_eq_getElem hlt,Option.getD_some]
    split<;>split<;>simp_all
   split at h
   ·rename_i b hb
    have hv:a.tmps.getD g undef= .bool b:=RepE.bool (hI.env g _ hb).2
    simp only[hy _ hb,hv]
    split at h
    ·rename_i hbw
     subst hbw
     simp only[beq_self_eq_true,if_true]
     exact op_wp hcf hI h1 h2 hlt h hn
    ·rename_i hbw
     cases h
     rw[if_neg (by simpa using hbw)]
     exact hskip.resolve_right (by simp)
   ·rename_i hb
    cases h
    have hv:a.tmps.getD g undef=undef:=by
     have:=(hI.env g _ hb).2
     generalize a.tmps.getD g undef=u at this
     cases (show RepP fi M w .und u from this);rfl
    simp only[hy _ hb,hv]
    rw[if_neg (by simp[undef])]
    exact hskip.resolve_right (by simp)
   ·cases h
theorem ops_wp (hcf:CfOk P fi cf) {N:Nat} {ops:Array Oper} {Q:Exit→Act→World→Prop}:∀{is:List IOpG} {os:List Oper} {M:Mem} {w:World} {s:St} {a:Act},mOps P fi N ops is os=true→Inv fi M w s a→N≤a.tmps.size→opsRun cf is s=some s'→
  (∀a' M' w',Inv fi M' w' s' a'→Kp M w M' w'→a'.tmps.size=a.tmps.size→Q .normal a' w')→wpList P ops Q os a w
 |[],[],M,w,s,a,_,hI,_,h,hn=>by
  simp[opsRun] at h;subst h
  exact hn a M w hI (Kp.refl M w) rfl
 |[],_::_,_,_,_,_,hm,_,_,_,_=>by simp[mOps] at hm
 |_::_,[],_,_,_,_,hm,_,_,_,_=>by simp[mOps] at hm
 | i::is,o::os,M,w,s,a,hm,hI,hN,h,hn=>by
  simp only[mOps,Bool.and_eq_true] at hm
  rw[jsc,Option.bind_eq_some_iff] at h
  obtain⟨s1,h1,h2⟩:=h
  have:=opG_wp (Q:=Q) (next:=wpList P ops Q os) hcf hI hm.1 hN h1 (fun a' M' w' hI' hk hs=>
   ops_wp hcf hm.2 hI' (by omega) h2 (fun a2 M2 w2 hI2 hk2 hs2=>hn a2 M2 w2 hI2 (hk.trans hk2) (hs2.trans hs)))
  unfold wpList
  split
  ·rename_i hw;rw[if_pos hw] at this;exact .inl this
  ·rename_i hw;rw[if_neg hw] at this;exact this
end
end Go.Lw
end

/-! What an operation looks at and what it changes: two that do not meet may change places. -/
section
namespace Go.Lw
open Go Go.RowKit
def rdX:IX→List Nat
 | .t n=>[n]
 |_=>[]
def rdXs (xs:List IX):List Nat:=xs.flatMap rdX
def rdO:Option IX→List Nat
 |some x=>rdX x
 |none=>[]
def rdPs (ps:List (Nat×Nat×IX)):List Nat:=ps.flatMap fun p=>rdX p.2.2
def rd:IOp→List Nat
 | .mv _ x| .clearK x| .box _ _ _ x| .load _ _ _ x| .loadK _ x| .loadH _ x| .loadT _ x| .loadL _ x| .nilc _ x| .eqn _ _ x| .un _ _ x| .conv _ _ x| .faddr _ x _| .field _ _ _ _ x| .len _ _ x| .extract _ x _| .mksl _ _ _ _ _ x| .mkarr _ _ _ _ x| .loadJ _ _ _ x=>rdX x
 | .tk _ n=>[n]
 | .pick _ c x y=>rdX c++(rdX x++rdX y)
 | .alloc _ _ _| .mkmap _| .mkbld _| .loadG _ _=>[]
 | .build _ _ ps| .buildT _ _ ps| .buildA _ _ ps=>rdPs ps
 | .buildSl _ _ xs| .boxSl _ _ xs| .buildSlK _ xs| .mkfn _ _ xs| .mkbf _ _ xs| .maxi _ xs| .call _ _ _ xs| .callF _ _ xs=>rdXs xs
 | .store _ _ x y| .bin _ _ x y| .eqa _ _ _ x y| .eqb _ _ x y| .iaddr _ _ _ x y| .index _ _ _ _ x y| .indexS _ x y| .lookup _ _ x y _ _| .append _ _ _ x y| .appendN _ _ x y| .appendK _ _ x y| .appendE _ _ x y| .storeK x y=>rdX x++rdX y
 | .slice _ _ x lo hi| .sliceS _ x lo hi=>rdX x++(rdO lo++rdO hi)
 | .mupd _ m k x=>rdX m++(rdX k++rdX x)
 | .callv _ _ f xs| .callE _ f xs=>rdX f++rdXs xs
 | .loadN _ _ _ x n| .loadB _ _ _ x n| .loadKB _ x n| .loadTB _ x n _=>n::rdX x
 | .callP _ _ xs ns=>ns++rdXs xs
 | .callR _ _ xs n _=>n::rdXs xs
 | .appendP _ _ x y ns=>ns++(rdX x++rdX y)
def wr (i:IOp):List Nat:=
 (opDst i).toList++match i with
  | .tk _ n=>[n]
  | .box _ _ true x| .store true _ _ x| .append _ _ _ x _| .appendE _ _ x _=>rdX x
  | .buildT _ _ ps| .buildA _ _ ps=>rdPs ps
  |_=>[]
def cls:IOp→Nat
 | .box _ false _ _| .alloc _ false _=>3
 | .box _ true _ _| .alloc _ true _| .mksl _ true _ _ _ _=>5
 | .mkmap _| .mkbld _| .buildSlK _ _=>4
 | .load _ _ _ _| .loadN _ _ _ _ _| .loadB _ _ _ _ _| .loadJ _ _ _ _| .lookup _ _ _ _ _ _| .callE _ _ _=>2
 | .len _ kd _=>if kd=2 then 2 else 0
 | .loadK _ _| .loadKB _ _ _| .appendE _ _ _ _=>1
 | .callP _ _ _ _| .callR _ _ _ _ _| .buildA _ _ _| .boxSl _ _ _=>5
 | .call _ q _ _| .callv _ q _ _=>if q then 1 else 5
 | .loadL _ _=>6
 | .loadH _ _=>8
 | .loadT _ _| .loadTB _ _ _ _| .appendK _ _ _ _=>7
 | .appendN _ _ _ _| .appendP _ _ _ _ _=>9
 | .store _ _ _ _| .mupd _ _ _ _| .storeK _ _| .clearK _=>5
 |_=>0
def GObj.deg:GObj→GObj
 | .cells cs=> .cells (cs.map degr1)
 | .map es=> .map es
 | .stk _ _=> .stk 0 []
 | .bld s=> .bld s
def HOk (c:Nat) (s s2:St):Prop:=
 match c with
 |0=>True
 |1=>s2.gh=s.gh
 |2=>(∀(b:Nat) (cs:List PV),s.lh[b]?=some cs→∃cs2,s2.lh[b]?=some cs2∧cs2.map degr1=cs.map degr1)∧∀(b:Nat) (o:GObj),s.gh[b]?=some o→∃o2,s2.gh[b]?=some o2∧o2.deg=o.deg
 |8=>s2.lh=s.lh
 |_=>s2.lh=s.lh∧s2.gh=s.gh
def HRes (c:Nat) (s s' s2 s2':St):Prop:=
 match c with
 |0|1|2|8=>s'.lh=s.lh∧s'.gh=s.gh∧s2'.lh=s2.lh∧s2'.gh=s2.gh
 |3=>(∃cs,s'.lh=s.lh++[cs])∧s'.gh=s.gh∧s2'.lh=s'.lh∧s2'.gh=s'.gh
 |4=>s'.lh=s.lh∧(∃o,s'.gh=s.gh++[o])∧s2'.lh=s'.lh∧s2'.gh=s'.gh
 |6=>s'.lh.map (List.map degr1)=s.lh.map (List.map degr1)∧s'.gh=s.gh∧s2'.lh=s'.lh∧s2'.gh=s'.gh
 |7=>s'.lh.map (List.map degr1)=s.lh.map (List.map degr1)∧s'.gh.map GObj.deg=s.gh.map GObj.deg∧s2'.lh=s'.lh∧s2'.gh=s'.gh
 |9=>s'.lh=s.lh∧(∀(b:Nat) (o:GObj),s.gh[b]?=some o→∃o2,s'.gh[b]?=some o2∧o2.deg=o.deg)∧s2'.lh=s'.lh∧s2'.gh=s'.gh
 |_=>s2'.lh=s'.lh∧s2'.gh=s'.gh
section
variable {s s' s2:St} {cf:CallF}
theorem jqu {e e2:List (Nat×PV)} {x:IX} (h:∀t∈rdX x,get e2 t=get e t):evalX e2 x=evalX e x:=by
 cases x<;>simp[evalX]
 rw[h _ (by simp[rdX])]
theorem j11x {e e2:List (Nat×PV)} {x:IX} (h:∀t∈rdX x,get e2 t=get e t):evalK e2 x=evalK e x:=by
 cases x<;>simp[evalK]
 rw[h _ (by simp[rdX])]
theorem jrd {e e2:List (Nat×PV)}:∀{xs:List IX},(∀t∈rdXs xs,get e2 t=get e t)→evalXs e2 xs=evalXs e xs
 |[],_=>rfl
 |x::l,h=>by
  simp only[rdXs,List.flatMap_cons,List.mem_append] at h
  simp only[evalXs]
  rw[jqu (fun t ht=>h t (.inl ht)),jrd (xs:=l) (fun t ht=>h t (.inr ht))]
theorem jwj {e e2:List (Nat×PV)}:∀{ps:List (Nat×Nat×IX)},(∀t∈rdPs ps,get e2 t=get e t)→evalPs e2 ps=evalPs e ps
 |[],_=>rfl
 |(o,k,x)::l,h=>by
  simp only[rdPs,List.flatMap_cons,List.mem_append] at h
  simp only[evalPs]
  rw[jqu (fun t ht=>h t (.inl ht)),jwj (ps:=l) (fun t ht=>h t (.inr ht))]
theorem jwk {e e2:List (Nat×PV)} {d:Nat} {x:Option IX} (h:∀t∈rdO x,get e2 t=get e t):sliceBd e2 d x=sliceBd e d x:=by
 cases x with
 |none=>rfl
 |some x=>simp only[sliceBd];rw[jqu h]
def EnvR (W:List Nat) (e' e2 e2':List (Nat×PV)):Prop:=∀t,get e2' t=if t∈W then get e' t else get e2 t
theorem EnvR.put {e e2:List (Nat×PV)} {d:Nat} {v:PV} {W:List Nat} (h:∀t,t∈W↔t=d):EnvR W (put e d v) e2 (put e2 d v):=by
 intro t
 rw[jr7,jr7]
 by_cases hd:d=t
 ·subst hd;simp[(h d).2 rfl]
 ·have:t∉W:=fun hw=>hd ((h t).1 hw).symm
  simp[hd,this]
theorem EnvR.refl {e' e2:List (Nat×PV)} {W:List Nat} (h:∀t,t∉W):EnvR W e' e2 e2:=fun t=>by simp[h t]
theorem jsd {e e2 e':List (Nat×PV)} {x:IX} {v:PV} (h:∀t∈rdX x,get e2 t=get e t) (ht:takeX e x=some (v,e')) :
  ∃e2',takeX e2 x=some (v,e2')∧EnvR (rdX x) e' e2 e2':=by
 cases x with
 |t n=>
  simp only[takeX,Option.map_eq_some_iff,Prod.mk.injEq] at ht ⊢
  obtain⟨v',hv,rfl,rfl⟩:=ht
  rw[h n (by simp[rdX])]
  exact⟨_,⟨v',hv,rfl,rfl⟩,EnvR.put (by simp[rdX])⟩
 |c p=>
  simp only[takeX,Option.some.injEq,Prod.mk.injEq] at ht ⊢
  obtain⟨rfl,rfl⟩:=ht
  exact⟨_,⟨rfl,rfl⟩,EnvR.refl (by simp[rdX])⟩
 |f id=>
  simp only[takeX,Option.some.injEq,Prod.mk.injEq] at ht ⊢
  obtain⟨rfl,rfl⟩:=ht
  exact⟨_,⟨rfl,rfl⟩,EnvR.refl (by simp[rdX])⟩
theorem EnvR.trans {W W2:List Nat} {e' e2 e2' e'' e2'':List (Nat×PV)} (h:EnvR W e' e2 e2') (h2:EnvR W2 e'' e2' e2'') (hf:∀t,t∉W2→get e'' t=get e' t):EnvR (W++W2) e'' e2 e2'':=by
 intro t
 rw[h2 t,h t]
 simp only[List.mem_append]
 by_cases hw2:t∈W2
 ·simp[hw2]
 ·by_cases hw:t∈W
  ·simp[hw,hw2,hf t hw2]
  ·simp[hw,hw2]
theorem jwl:∀{ps:List (Nat×Nat×IX)} {e e2 e':List (Nat×PV)} {vs:List (Nat×Nat×PV)},(∀t∈rdPs ps,get e2 t=get e t)→takePs e ps=some (vs,e')→
  ∃e2',takePs e2 ps=some (vs,e2')∧EnvR (rdPs ps) e' e2 e2'∧∀t,t∉rdPs ps→get e' t=get e t
 |[],e,e2,e',vs,_,ht=>by
  simp only[takePs,Option.some.injEq,Prod.mk.injEq] at ht ⊢
  obtain⟨rfl,rfl⟩:=ht
  exact⟨_,⟨rfl,rfl⟩,EnvR.refl (by simp[rdPs]),fun _ _=>rfl⟩
 | (o,k,x)::l,e,e2,e',vs,h,ht=>by
  simp only[rdPs,List.flatMap_cons,List.mem_append] at h
  simp only[takePs,Option.bind_eq_some_iff,Option.map_eq_some_iff,Prod.exists,Prod.mk.injEq] at ht ⊢
  obtain⟨v,e1,h1,vs',e'',h2,rfl,rfl⟩:=ht
  obtain⟨e3,t1,t2⟩:=jsd (e2:=e2) (fun t ht=>h t (.inl ht)) h1
  obtain⟨e5,u1,u2⟩:=jsd (e2:=e) (fun t ht=>rfl) h1
  rw[h1] at u1
  simp only[Option.some.injEq,Prod.mk.injEq,true_and] at u1
  subst u1
  obtain⟨e4,t3,t4,t5⟩:=jwl (ps:=l) (e2:=e3) (fun t ht=>by
   rw[t2 t]
   split
   ·rfl
   ·rename_i hx
    rw[u2 t,if_neg hx]
    exact h t (.inr ht)) h2
  refine⟨e4,⟨v,e3,t1,vs',e4,t3,rfl,rfl⟩,?_,fun t ht=>?_⟩
  ·simp only[rdPs,List.flatMap_cons]
   exact t2.trans t4 t5
  ·simp only[rdPs,List.flatMap_cons,List.mem_append,not_or] at ht
   rw[t5 t ht.2,u2 t,if_neg ht.1]
end
end Go.Lw
end

/-! An operation that looks at no box: what it does elsewhere. Written by program. -/
section
namespace Go.Lw
open Go Go.RowKit
section
variable {s s' s2:St} {cf:CallF}
def Fills (cf:CallF) (i:IOp) (d:Nat):Prop:=
 ∀s s2:St,(∀t∈rd i,get s2.env t=get s.env t)→∀s',opStep cf s i=some s'→∃v,s'=s.put d v∧opStep cf s2 i=some (s2.put d v)
theorem fills_mv {d x}:Fills cf (.mv d x) d:=by
 intro s s2 ha s' h
 have h1:evalK s2.env x=evalK s.env x:=j11x (fun t ht=>ha t (by simp[rd,ht]))
 simp only[opStep,h1] at h ⊢
 simp only[Option.map_eq_some_iff] at h ⊢
 obtain⟨v,hv,rfl⟩:=h
 exact⟨v,rfl,v,hv,rfl⟩
theorem fills_pick {d c x y}:Fills cf (.pick d c x y) d:=by
 intro s s2 ha s' h
 have h1:evalX s2.env c=evalX s.env c:=jqu (fun t ht=>ha t (by simp[rd,ht]))
 have h2:evalX s2.env x=evalX s.env x:=jqu (fun t ht=>ha t (by simp[rd,ht]))
 have h3:evalX s2.env y=evalX s.env y:=jqu (fun t ht=>ha t (by simp[rd,ht]))
 simp only[opStep,h1,h2,h3] at h ⊢
 repeat' split at h
 all_goals first
  |(cases h;done)
  |(cases h;exact⟨_,rfl,by simp[*]⟩)
  |(simp only[Option.map_eq_some_iff] at h;obtain⟨v,hv,rfl⟩:=h;exact⟨_,rfl,by simp[*]⟩)
  | (simp only[Option.bind_eq_some_iff] at h;obtain⟨p,hp,q,hq,h⟩:=h;split at h
     ·rename_i hc;cases h;exact⟨_,rfl,by simp[*]⟩
     ·cases h)
theorem fills_build {d z ps}:Fills cf (.build d z ps) d:=by
 intro s s2 ha s' h
 have h1:evalPs s2.env ps=evalPs s.env ps:=jwj (fun t ht=>ha t (by simp[rd,ht]))
 simp only[opStep,h1] at h ⊢
 simp only[Option.bind_eq_some_iff] at h ⊢
 obtain⟨p,hp,h⟩:=h
 split at h
 ·rename_i hc
  simp only[Option.map_eq_some_iff] at h
  obtain⟨v,hv,rfl⟩:=h
  exact⟨_,rfl,p,hp,by rw[if_pos hc,hv];rfl⟩
 ·cases h
theorem fills_buildSl {d z els}:Fills cf (.buildSl d z els) d:=by
 intro s s2 ha s' h
 have h1:evalXs s2.env els=evalXs s.env els:=jrd (fun t ht=>ha t (by simp[rd,ht]))
 simp only[opStep,h1] at h ⊢
 simp only[Option.bind_eq_some_iff] at h ⊢
 obtain⟨p,hp,h⟩:=h
 split at h
 ·rename_i hc;cases h;exact⟨_,rfl,p,hp,by rw[if_pos hc]⟩
 ·cases h
theorem fills_mksl {d z bytes zero l}:Fills cf (.mksl d false z bytes zero l) d:=by
 intro s s2 ha s' h
 have h1:evalX s2.env l=evalX s.env l:=jqu (fun t ht=>ha t (by simp[rd,ht]))
 simp only[opStep,h1] at h ⊢
 split at h
 ·rename_i k n hp
  split at h
  ·rename_i hc
   split at h<;>try (cases h;done)
   rename_i hf
   cases h;exact⟨_,rfl,by rw[if_pos hc];simp only[if_pos hf]⟩
  ·cases h
 ·cases h
theorem fills_nilc {d x}:Fills cf (.nilc d x) d:=by
 intro s s2 ha s' h
 have h1:evalX s2.env x=evalX s.env x:=jqu (fun t ht=>ha t (by simp[rd,ht]))
 simp only[opStep,h1] at h ⊢
 repeat' split at h
 all_goals first
  |(cases h;done)
  |(cases h;exact⟨_,rfl,by simp[*]⟩)
  |(simp only[Option.map_eq_some_iff] at h;obtain⟨v,hv,rfl⟩:=h;exact⟨_,rfl,by simp[*]⟩)
  | (simp only[Option.bind_eq_some_iff] at h;obtain⟨p,hp,q,hq,h⟩:=h;split at h
     ·rename_i hc;cases h;exact⟨_,rfl,by simp[*]⟩
     ·cases h)
theorem fills_bin {d op x y}:Fills cf (.bin d op x y) d:=by
 intro s s2 ha s' h
 have h1:evalX s2.env x=evalX s.env x:=jqu (fun t ht=>ha t (by simp[rd,ht]))
 have h2:evalX s2.env y=evalX s.env y:=jqu (fun t ht=>ha t (by simp[rd,ht]))
 simp only[opStep,h1,h2] at h ⊢
 simp only[Option.bind_eq_some_iff,Option.map_eq_some_iff] at h ⊢
 obtain⟨p,hp,q,hq,v,hv,rfl⟩:=h
 exact⟨v,rfl,p,hp,q,hq,v,hv,rfl⟩
theorem fills_eqa {d neg ks x y}:Fills cf (.eqa d neg ks x y) d:=by
 intro s s2 ha s' h
 have h1:evalX s2.env x=evalX s.env x:=jqu (fun t ht=>ha t (by simp[rd,ht]))
 have h2:evalX s2.env y=evalX s.env y:=jqu (fun t ht=>ha t (by simp[rd,ht]))
 simp only[opStep,h1,h2] at h ⊢
 repeat' split at h
 all_goals first
  |(cases h;done)
  |(cases h;exact⟨_,rfl,by simp[*]⟩)
  |(simp only[Option.map_eq_some_iff] at h;obtain⟨v,hv,rfl⟩:=h;exact⟨_,rfl,by simp[*]⟩)
  | (simp only[Option.bind_eq_some_iff] at h;obtain⟨p,hp,q,hq,h⟩:=h;split at h
     ·rename_i hc;cases h;exact⟨_,rfl,by simp[*]⟩
     ·cases h)
theorem fills_un {d op x}:Fills cf (.un d op x) d:=by
 intro s s2 ha s' h
 have h1:evalX s2.env x=evalX s.env x:=jqu (fun t ht=>ha t (by simp[rd,ht]))
 simp only[opStep,h1] at h ⊢
 simp only[Option.bind_eq_some_iff,Option.map_eq_some_iff] at h ⊢
 obtain⟨p,hp,v,hv,rfl⟩:=h
 exact⟨v,rfl,p,hp,v,hv,rfl⟩
theorem fills_conv {d k x}:Fills cf (.conv d k x) d:=by
 intro s s2 ha s' h
 have h1:evalX s2.env x=evalX s.env x:=jqu (fun t ht=>ha t (by simp[rd,ht]))
 simp only[opStep,h1] at h ⊢
 repeat' split at h
 all_goals first
  |(cases h;done)
  |(cases h;exact⟨_,rfl,by simp[*]⟩)
  |(simp only[Option.map_eq_some_iff] at h;obtain⟨v,hv,rfl⟩:=h;exact⟨_,rfl,by simp[*]⟩)
  | (simp only[Option.bind_eq_some_iff] at h;obtain⟨p,hp,q,hq,h⟩:=h;split at h
     ·rename_i hc;cases h;exact⟨_,rfl,by simp[*]⟩
     ·cases h)
theorem fills_mkfn {d f caps}:Fills cf (.mkfn d f caps) d:=by
 intro s s2 ha s' h
 have h1:evalXs s2.env caps=evalXs s.env caps:=jrd (fun t ht=>ha t (by simp[rd,ht]))
 simp only[opStep,h1] at h ⊢
 simp only[Option.bind_eq_some_iff] at h ⊢
 obtain⟨p,hp,h⟩:=h
 split at h
 ·rename_i hc;cases h;exact⟨_,rfl,p,hp,by rw[if_pos hc]⟩
 ·cases h
theorem fills_mkbf {d f caps}:Fills cf (.mkbf d f caps) d:=by
 intro s s2 ha s' h
 have h1:evalXs s2.env caps=evalXs s.env caps:=jrd (fun t ht=>ha t (by simp[rd,ht]))
 simp only[opStep,h1] at h ⊢
 simp only[Option.bind_eq_some_iff] at h ⊢
 obtain⟨p,hp,h⟩:=h
 split at h
 ·rename_i hc;cases h;exact⟨_,rfl,p,hp,by rw[if_pos hc]⟩
 ·cases h
theorem fills_slice {d z x lo hi}:Fills cf (.slice d z x lo hi) d:=by
 intro s s2 ha s' h
 have h1:evalX s2.env x=evalX s.env x:=jqu (fun t ht=>ha t (by simp[rd,ht]))
 have h2:∀n,sliceBd s2.env n lo=sliceBd s.env n lo:=fun n=>jwk (fun t ht=>ha t (by simp[rd,ht]))
 have h3:∀n,sliceBd s2.env n hi=sliceBd s.env n hi:=fun n=>jwk (fun t ht=>ha t (by simp[rd,ht]))
 simp only[opStep,h1,h2,h3] at h ⊢
 repeat' split at h
 all_goals first
  |(cases h;done)
  |(cases h;exact⟨_,rfl,by simp[*]⟩)
  |(simp only[Option.map_eq_some_iff] at h;obtain⟨v,hv,rfl⟩:=h;exact⟨_,rfl,by simp[*]⟩)
  | (simp only[Option.bind_eq_some_iff] at h;obtain⟨p,hp,q,hq,h⟩:=h;split at h
     ·rename_i hc;cases h;exact⟨_,rfl,by simp[*]⟩
     ·cases h)
  | (simp only[Option.bind_eq_some_iff] at h;obtain⟨p,hp,h⟩:=h;split at h
     ·rename_i hc;cases h;exact⟨_,rfl,by simp[*]⟩
     ·cases h)
theorem fills_faddr {d x off}:Fills cf (.faddr d x off) d:=by
 intro s s2 ha s' h
 have h1:evalX s2.env x=evalX s.env x:=jqu (fun t ht=>ha t (by simp[rd,ht]))
 simp only[opStep,h1] at h ⊢
 repeat' split at h
 all_goals first
  |(cases h;done)
  |(cases h;exact⟨_,rfl,by simp[*]⟩)
  |(simp only[Option.map_eq_some_iff] at h;obtain⟨v,hv,rfl⟩:=h;exact⟨_,rfl,by simp[*]⟩)
  | (simp only[Option.bind_eq_some_iff] at h;obtain⟨p,hp,q,hq,h⟩:=h;split at h
     ·rename_i hc;cases h;exact⟨_,rfl,by simp[*]⟩
     ·cases h)
theorem fills_field {d agg k off x}:Fills cf (.field d agg k off x) d:=by
 intro s s2 ha s' h
 have h1:evalX s2.env x=evalX s.env x:=jqu (fun t ht=>ha t (by simp[rd,ht]))
 simp only[opStep,h1] at h ⊢
 repeat' split at h
 all_goals first
  |(cases h;done)
  |(cases h;exact⟨_,rfl,by simp[*]⟩)
  |(simp only[Option.map_eq_some_iff] at h;obtain⟨v,hv,rfl⟩:=h;exact⟨_,rfl,by simp[*]⟩)
  | (simp only[Option.bind_eq_some_iff] at h;obtain⟨p,hp,q,hq,h⟩:=h;split at h
     ·rename_i hc;cases h;exact⟨_,rfl,by simp[*]⟩
     ·cases h)
theorem fills_iaddr {d z arr x i}:Fills cf (.iaddr d z arr x i) d:=by
 intro s s2 ha s' h
 have h1:evalX s2.env x=evalX s.env x:=jqu (fun t ht=>ha t (by simp[rd,ht]))
 have h2:evalX s2.env i=evalX s.env i:=jqu (fun t ht=>ha t (by simp[rd,ht]))
 simp only[opStep,h1,h2] at h ⊢
 repeat' split at h
 all_goals first
  |(cases h;done)
  |(cases h;exact⟨_,rfl,by simp[*]⟩)
  |(simp only[Option.map_eq_some_iff] at h;obtain⟨v,hv,rfl⟩:=h;exact⟨_,rfl,by simp[*]⟩)
  | (simp only[Option.bind_eq_some_iff] at h;obtain⟨p,hp,q,hq,h⟩:=h;split at h
     ·rename_i hc;cases h;exact⟨_,rfl,by simp[*]⟩
     ·cases h)
theorem fills_index {d z arr agg x i}:Fills cf (.index d z arr agg x i) d:=by
 intro s s2 ha s' h
 have h1:evalX s2.env x=evalX s.env x:=jqu (fun t ht=>ha t (by simp[rd,ht]))
 have h2:evalX s2.env i=evalX s.env i:=jqu (fun t ht=>ha t (by simp[rd,ht]))
 simp only[opStep,h1,h2] at h ⊢
 repeat' split at h
 all_goals first
  |(cases h;done)
  |(cases h;exact⟨_,rfl,by simp[*]⟩)
  |(simp only[Option.map_eq_some_iff] at h;obtain⟨v,hv,rfl⟩:=h;exact⟨_,rfl,by simp[*]⟩)
  | (simp only[Option.bind_eq_some_iff] at h;obtain⟨p,hp,q,hq,h⟩:=h;split at h
     ·rename_i hc;cases h;exact⟨_,rfl,by simp[*]⟩
     ·cases h)
theorem fills_indexS {d x i}:Fills cf (.indexS d x i) d:=by
 intro s s2 ha s' h
 have h1:evalX s2.env x=evalX s.env x:=jqu (fun t ht=>ha t (by simp[rd,ht]))
 have h2:evalX s2.env i=evalX s.env i:=jqu (fun t ht=>ha t (by simp[rd,ht]))
 simp only[opStep,h1,h2] at h ⊢
 repeat' split at h
 all_goals first
  |(cases h;done)
  |(cases h;exact⟨_,rfl,by simp[*]⟩)
  |(simp only[Option.map_eq_some_iff] at h;obtain⟨v,hv,rfl⟩:=h;exact⟨_,rfl,by simp[*]⟩)
  | (simp only[Option.bind_eq_some_iff] at h;obtain⟨p,hp,q,hq,h⟩:=h;split at h
     ·rename_i hc;cases h;exact⟨_,rfl,by simp[*]⟩
     ·cases h)
theorem fills_maxi {d xs}:Fills cf (.maxi d xs) d:=by
 intro s s2 ha s' h
 have h1:evalXs s2.env xs=evalXs s.env xs:=jrd (fun t ht=>ha t (by simp[rd,ht]))
 simp only[opStep,h1] at h ⊢
 simp only[Option.bind_eq_some_iff,Option.map_eq_some_iff] at h ⊢
 obtain⟨p,hp,v,hv,rfl⟩:=h
 exact⟨v,rfl,p,hp,v,hv,rfl⟩
theorem fills_extract {d x i}:Fills cf (.extract d x i) d:=by
 intro s s2 ha s' h
 have h1:evalX s2.env x=evalX s.env x:=jqu (fun t ht=>ha t (by simp[rd,ht]))
 simp only[opStep,h1] at h ⊢
 repeat' split at h
 all_goals first
  |(cases h;done)
  |(cases h;exact⟨_,rfl,by simp[*]⟩)
  |(simp only[Option.map_eq_some_iff] at h;obtain⟨v,hv,rfl⟩:=h;exact⟨_,rfl,by simp[*]⟩)
  | (simp only[Option.bind_eq_some_iff] at h;obtain⟨p,hp,q,hq,h⟩:=h;split at h
     ·rename_i hc;cases h;exact⟨_,rfl,by simp[*]⟩
     ·cases h)
end
end Go.Lw
end

/-! What any operation does elsewhere, where what it looks at is the same. -/
section
namespace Go.Lw
open Go Go.RowKit
section
variable {s s' s2:St} {cf:CallF}
def Local (cf:CallF) (i:IOp):Prop:=
 ∀s s2:St,(∀t∈rd i,get s2.env t=get s.env t)→HOk (cls i) s s2→∀s',opStep cf s i=some s'→
  ∃s2',opStep cf s2 i=some s2'∧EnvR (wr i) s'.env s2.env s2'.env∧HRes (cls i) s s' s2 s2'
theorem EnvR.congr {W W2:List Nat} {e' e2 e2':List (Nat×PV)} (h:EnvR W e' e2 e2') (hw:∀t,t∈W↔t∈W2):EnvR W2 e' e2 e2':=fun t=>by
 rw[h t]
 by_cases ht:t∈W
 ·simp[ht,(hw t).1 ht]
 ·have:t∉W2:=fun h2=>ht ((hw t).2 h2)
  simp[ht,this]
theorem EnvR.put1 {e e2:List (Nat×PV)} (d:Nat) (v:PV):EnvR [d] (Lw.put e d v) e2 (Lw.put e2 d v):=EnvR.put (by simp)
theorem EnvR.thenPut {W:List Nat} {e' e2 e2':List (Nat×PV)} (h:EnvR W e' e2 e2') (d:Nat) (v:PV):EnvR (W++[d]) (Lw.put e' d v) e2 (Lw.put e2' d v):=
 h.trans (EnvR.put1 d v) (fun t ht=>by rw[jr7];simp at ht;simp[Ne.symm ht])
theorem Fills.local {i:IOp} {d:Nat} (h:Fills cf i d) (hc:cls i=0) (hw:wr i=[d]):Local cf i:=by
 intro s s2 ha _ s' hs
 obtain⟨v,rfl,h2⟩:=h s s2 ha s' hs
 refine⟨_,h2,by rw[hw];exact EnvR.put1 d v,?_⟩
 rw[hc];exact⟨rfl,rfl,rfl,rfl⟩
theorem j11y {d n:Nat}:Local cf (.tk d n):=by
 intro s s2 ha _ s' h
 simp only[opStep,Option.map_eq_some_iff] at h ⊢
 obtain⟨v,hv,rfl⟩:=h
 refine⟨_,⟨v,by rw[ha n (by simp[rd])];exact hv,rfl⟩,?_,rfl,rfl,rfl,rfl⟩
 exact ((EnvR.put1 (e:=s.env) (e2:=s2.env) n (degr v)).thenPut d v).congr (fun t=>by simp[wr,opDst];exact or_comm)
theorem j11z {d:Nat} {g tk:Bool} {x:IX}:Local cf (.box d g tk x):=by
 intro s s2 ha hh s' h
 obtain⟨e2,l2,g2⟩:=s2
 have hh':l2=s.lh∧g2=s.gh:=by cases g<;>exact hh
 obtain⟨rfl,rfl⟩:=hh'
 simp only[opStep] at h ⊢
 split at h
 ·rename_i htk
  subst htk
  simp only[Option.bind_eq_some_iff,Prod.exists] at h
  obtain⟨v,e1,hv,h⟩:=h
  split at h
  ·rename_i hok
   cases h
   obtain⟨e3,t1,t2⟩:=jsd (e2:=e2) (fun t ht=>ha t (by simp[rd,ht])) hv
   refine⟨putNew ⟨e3,s.lh,s.gh⟩ d g v.cells,by simp[t1,hok],?_,?_⟩
   ·cases g
    ·exact (t2.thenPut d _).congr (fun t=>by simp[wr,opDst];exact or_comm)
    ·exact (t2.thenPut d _).congr (fun t=>by simp[wr,opDst];exact or_comm)
   ·cases g
    ·exact⟨⟨v.cells,rfl⟩,rfl,rfl,rfl⟩
    ·exact⟨rfl,rfl⟩
  ·cases h
 ·rename_i htk
  simp only[Bool.not_eq_true] at htk
  subst htk
  simp only[Option.bind_eq_some_iff] at h
  obtain⟨v,hv,h⟩:=h
  split at h
  ·rename_i hok
   cases h
   have h1:evalX e2 x=some v:=by rw[←hv];exact jqu (fun t ht=>ha t (by simp[rd,ht]))
   refine⟨putNew ⟨e2,s.lh,s.gh⟩ d g v.cells,by simp[h1,hok],?_,?_⟩
   ·cases g
    ·exact (EnvR.put1 d _).congr (fun t=>by simp[wr,opDst])
    ·exact (EnvR.put1 d _).congr (fun t=>by simp[wr,opDst])
   ·cases g
    ·exact⟨⟨v.cells,rfl⟩,rfl,rfl,rfl⟩
    ·exact⟨rfl,rfl⟩
  ·cases h
theorem j120 {d:Nat} {g:Bool} {z:PV}:Local cf (.alloc d g z):=by
 intro s s2 ha hh s' h
 obtain⟨e2,l2,g2⟩:=s2
 have hh':l2=s.lh∧g2=s.gh:=by cases g<;>exact hh
 obtain⟨rfl,rfl⟩:=hh'
 simp only[opStep] at h ⊢
 split at h
 ·rename_i hok
  cases h
  refine⟨putNew ⟨e2,s.lh,s.gh⟩ d g z.cells,by rw[if_pos hok],?_,?_⟩
  ·cases g
   ·exact (EnvR.put1 d _).congr (fun t=>by simp[wr,opDst])
   ·exact (EnvR.put1 d _).congr (fun t=>by simp[wr,opDst])
  ·cases g
   ·exact⟨⟨z.cells,rfl⟩,rfl,rfl,rfl⟩
   ·exact⟨rfl,rfl⟩
 ·cases h
theorem jwm {d:Nat} {z:List PV} {ps:List (Nat×Nat×IX)}:Local cf (.buildT d z ps):=by
 intro s s2 ha _ s' h
 simp only[opStep,Option.bind_eq_some_iff,Prod.exists] at h
 obtain⟨vs,e1,hv,h⟩:=h
 split at h
 ·rename_i hc
  simp only[Option.map_eq_some_iff] at h
  obtain⟨cs,hcs,rfl⟩:=h
  obtain⟨e3,t1,t2,_⟩:=jwl (e2:=s2.env) (fun t ht=>ha t (by simp[rd,ht])) hv
  refine⟨⟨Lw.put e3 d (.agg cs),s2.lh,s2.gh⟩,?_,?_,rfl,rfl,rfl,rfl⟩
  ·simp only[opStep,t1,Option.bind_some]
   rw[if_pos hc,hcs];rfl
  ·exact (t2.thenPut d _).congr (fun t=>by simp[wr,opDst];exact or_comm)
 ·cases h
theorem jui {g:Bool} {b:Nat} {cs:List PV} (hh:HOk 2 s s2) (h:s.cellsAt g b=some cs):∃cs2,s2.cellsAt g b=some cs2∧cs2.map degr1=cs.map degr1:=by
 unfold St.cellsAt at *
 split at h
 ·rename_i hg
  simp only[hg,if_true]
  split at h
  ·rename_i cs' hc
   cases h
   obtain⟨o2,h1,h2⟩:=hh.2 b _ hc
   cases o2 with
   |cells cs2=>
    simp only[GObj.deg,GObj.cells.injEq] at h2
    exact⟨cs2,by rw[h1],h2⟩
   |map es=>simp[GObj.deg] at h2
   |stk g xs=>simp[GObj.deg] at h2
   |bld t=>simp[GObj.deg] at h2
  ·cases h
 ·rename_i hg
  simp only[hg,Bool.false_eq_true,if_false]
  exact hh.1 b cs h
theorem jwn {b:Nat} {es:List (PV×PV)} (hh:HOk 2 s s2) (h:s.gh[b]?=some (.map es)):s2.gh[b]?=some (.map es):=by
 obtain⟨o2,h1,h2⟩:=hh.2 b _ h
 cases o2 with
 |cells cs=>simp[GObj.deg] at h2
 |map es2=>simp only[GObj.deg,GObj.map.injEq] at h2;rw[h1,h2]
 |stk g xs=>simp[GObj.deg] at h2
 |bld t=>simp[GObj.deg] at h2
theorem jwo (v:PV):degr (degr1 v)=degr v:=by cases v<;>rfl
theorem juj {agg:Bool} {k off:Nat} {cs cs2:List PV} {v:PV} (he:cs2.map degr1=cs.map degr1) (h:grab agg k off cs=some v):∃v2,grab agg k off cs2=some v2∧degr v2=degr v:=by
 have hl:cs2.length=cs.length:=by rw[←List.length_map (f:=degr1) (as:=cs2),he,List.length_map]
 unfold grab at h ⊢
 cases agg with
 | true=>
  simp only[if_true] at h ⊢
  split at h
  ·rename_i hk
   cases h
   rw[hl,if_pos hk]
   refine⟨_,rfl,?_⟩
   simp only[degr,PV.agg.injEq]
   rw[List.map_take,List.map_drop,he,List.map_take,List.map_drop]
  ·cases h
 |false=>
  simp only[Bool.false_eq_true,if_false] at h ⊢
  have h1:(cs2.map degr1)[off]?=(cs.map degr1)[off]?:=by rw[he]
  rw[List.getElem?_map,List.getElem?_map,h] at h1
  simp only[Option.map_some,Option.map_eq_some_iff] at h1
  obtain⟨v2,h2,h3⟩:=h1
  exact⟨v2,h2,by rw[←jwo v2,h3,jwo]⟩
theorem j121 {d:Nat} {agg:Bool} {k:Nat} {x:IX}:Local cf (.load d agg k x):=by
 intro s s2 ha hh s' h
 have h1:evalX s2.env x=evalX s.env x:=jqu (fun t ht=>ha t (by simp[rd,ht]))
 simp only[opStep,h1] at h ⊢
 have fin:∀v,s'=s.put d v→∀o,o=some (s2.put d v)→∃s2',o=some s2'∧EnvR (wr (.load d agg k x)) s'.env s2.env s2'.env∧HRes 2 s s' s2 s2':=by
  rintro v rfl o rfl
  exact⟨_,rfl,(EnvR.put1 d v).congr (fun t=>by simp[wr,opDst]),rfl,rfl,rfl,rfl⟩
 split at h
 ·rename_i g b off hp
  simp only[Option.bind_eq_some_iff,Option.map_eq_some_iff] at h
  obtain⟨cs,hc,v,hv,rfl⟩:=h
  obtain⟨cs2,hc2,he⟩:=jui hh hc
  obtain⟨v2,hv2,he2⟩:=juj he hv
  exact fin _ rfl _ (by simp[hc2,hv2,he2])
 ·rename_i e off hp
  simp only[Option.map_eq_some_iff] at h
  obtain⟨v,hv,rfl⟩:=h
  exact fin _ rfl _ (by simp[hv])
 ·cases h
theorem j122 {d kn:Nat} {m k:IX} {ok:Bool} {zero:PV}:Local cf (.lookup d kn m k ok zero):=by
 intro s s2 ha hh s' h
 have h1:evalX s2.env m=evalX s.env m:=jqu (fun t ht=>ha t (by simp[rd,ht]))
 have h2:evalX s2.env k=evalX s.env k:=jqu (fun t ht=>ha t (by simp[rd,ht]))
 simp only[opStep,h1,h2] at h ⊢
 have fin:∀v,s'=s.put d v→∀o,o=some (s2.put d v)→∃s2',o=some s2'∧EnvR (wr (.lookup d kn m k ok zero)) s'.env s2.env s2'.env∧HRes 2 s s' s2 s2':=by
  rintro v rfl o rfl
  exact⟨_,rfl,(EnvR.put1 d v).congr (fun t=>by simp[wr,opDst]),rfl,rfl,rfl,rfl⟩
 split at h
 ·rename_i b kv hp hkv
  split at h
  ·rename_i es hes
   have hes2:=jwn hh hes
   split at h
   ·cases h
   ·rename_i hki
    split at h
    ·rename_i v hf
     cases h
     exact fin _ rfl _ (by simp[hes2,hki,hf])
    ·rename_i hf
     cases h
     exact fin _ rfl _ (by simp[hes2,hki,hf])
    ·cases h
  ·cases h
 ·cases h
theorem j123 {d kd:Nat} {x:IX}:Local cf (.len d kd x):=by
 intro s s2 ha hh s' h
 have h1:evalX s2.env x=evalX s.env x:=jqu (fun t ht=>ha t (by simp[rd,ht]))
 simp only[opStep,h1] at h ⊢
 have fin:∀v,s'=s.put d v→∀o,o=some (s2.put d v)→∃s2',o=some s2'∧EnvR (wr (.len d kd x)) s'.env s2.env s2'.env∧HRes (if kd=2 then 2 else 0) s s' s2 s2':=by
  rintro v rfl o rfl
  refine⟨_,rfl,(EnvR.put1 d v).congr (fun t=>by simp[wr,opDst]),?_⟩
  split<;>exact⟨rfl,rfl,rfl,rfl⟩
 split at h
 ·rename_i hp;cases h;exact fin _ rfl _ (by simp)
 ·rename_i hp;cases h;exact fin _ rfl _ (by simp)
 ·rename_i hp;cases h;exact fin _ rfl _ (by simp)
 ·rename_i hp;cases h;exact fin _ rfl _ (by simp)
 ·rename_i hp;cases h;exact fin _ rfl _ (by simp)
 ·rename_i hp;cases h;exact fin _ rfl _ (by simp)
 ·rename_i b hp
  split at h
  ·rename_i es hes
   cases h
   exact fin _ rfl _ (by simp[jwn (show HOk 2 s s2 from hh) hes])
  ·cases h
 ·cases h
theorem j124 {d:Nat}:Local cf (.mkmap d):=by
 intro s s2 ha hh s' h
 obtain⟨e2,l2,g2⟩:=s2
 obtain⟨rfl,rfl⟩:=hh
 simp only[opStep,Option.some.injEq] at h
 subst h
 exact⟨_,rfl,(EnvR.put1 d _).congr (fun t=>by simp[wr,opDst]),rfl,⟨_,rfl⟩,rfl,rfl⟩
theorem j125 {d:Nat} {els:List IX}:Local cf (.buildSlK d els):=by
 intro s s2 ha hh s' h
 obtain⟨e2,l2,g2⟩:=s2
 obtain⟨rfl,rfl⟩:=hh
 have h1:evalXs e2 els=evalXs s.env els:=jrd (fun t ht=>ha t (by simp[rd,ht]))
 simp only[opStep,h1,Option.bind_eq_some_iff] at h ⊢
 obtain⟨vs,hvs,h⟩:=h
 split at h
 ·rename_i hc
  cases h
  refine⟨(⟨e2,s.lh,s.gh++[.stk 0 vs]⟩:St).put d (.stk s.gh.length 0 vs.length),⟨vs,hvs,by rw[if_pos hc]⟩,?_,rfl,⟨_,rfl⟩,rfl,rfl⟩
  exact (EnvR.put1 d (.stk s.gh.length 0 vs.length)).congr (fun t=>by simp[wr,opDst])
 ·cases h
theorem jwp {gh:List GObj} {b g g2:Nat} {xs ys:List PV} (h:gh[b]?=some (.stk g xs)):(gh.set b (.stk g2 ys)).map GObj.deg=gh.map GObj.deg:=by
 apply List.ext_getElem?
 intro j
 rw[List.getElem?_map,List.getElem?_map,List.getElem?_set]
 by_cases hj:b=j
 ·subst hj
  have hl:=(List.getElem?_eq_some_iff.1 h).1
  rw[if_pos rfl,if_pos hl,h];rfl
 ·simp[hj]
theorem j126 {d bytes:Nat} {sx x:IX}:Local cf (.appendK d bytes sx x):=by
 intro s s2 ha hh s' h
 obtain⟨e2,l2,g2⟩:=s2
 obtain⟨rfl,rfl⟩:=hh
 have h1:evalX e2 x=evalX s.env x:=jqu (fun t ht=>ha t (by simp[rd,ht]))
 have h2:evalX e2 sx=evalX s.env sx:=jqu (fun t ht=>ha t (by simp[rd,ht]))
 simp only[opStep,h1,h2,Option.bind_eq_some_iff] at h ⊢
 obtain⟨xv,hxv,ys,hys,h⟩:=h
 split at h
 ·rename_i b gen n hsv
  split at h
  ·rename_i g xs hg
   split at h
   ·rename_i hc
    cases h
    refine⟨(⟨e2,s.lh,s.gh.set b (.stk (g+1) (xs.take n++ys))⟩:St).put d (.stk b (g+1) (n+ys.length)),⟨xv,hxv,ys,hys,by rw[if_pos hc]⟩,(EnvR.put1 d (.stk b (g+1) (n+ys.length))).congr (fun t=>by simp[wr,opDst]),rfl,jwp hg,rfl,rfl⟩
   ·cases h
  ·cases h
 ·cases h
theorem same_fwd' {α β:Type} (f:α→β) {l l':List α} (h:l'.map f=l.map f) {b:Nat} {x:α} (hx:l[b]?=some x):∃y,l'[b]?=some y∧f y=f x:=by
 have h1:(l'.map f)[b]?=(l.map f)[b]?:=by rw[h]
 rw[List.getElem?_map,List.getElem?_map,hx] at h1
 simpa using h1
theorem jwq {d bytes:Nat} {sx x:IX}:Local cf (.appendN d bytes sx x):=by
 intro s s2 ha hh s' h
 obtain⟨e2,l2,g2⟩:=s2
 obtain⟨rfl,rfl⟩:=hh
 have h1:evalX e2 x=evalX s.env x:=jqu (fun t ht=>ha t (by simp[rd,ht]))
 have h2:evalX e2 sx=evalX s.env sx:=jqu (fun t ht=>ha t (by simp[rd,ht]))
 simp only[opStep,h1,h2,Option.bind_eq_some_iff] at h ⊢
 obtain⟨xv,hxv,ys,hys,h⟩:=h
 split at h
 ·rename_i b gen n hsv
  split at h
  ·rename_i g xs hg
   split at h
   ·rename_i hc
    cases h
    exact⟨(⟨e2,s.lh,s.gh.set b (.stk (g+1) (xs.take n++ys))⟩:St).put d (.stk b (g+1) (n+ys.length)),⟨xv,hxv,ys,hys,by rw[if_pos hc]⟩,(EnvR.put1 d (.stk b (g+1) (n+ys.length))).congr (fun t=>by simp[wr,opDst]),rfl,fun b2 o h2=>same_fwd' _ (jwp hg) h2,rfl,rfl⟩
   ·cases h
  ·cases h
 ·rename_i hsv
  split at h
  ·rename_i hc
   cases h
   exact⟨(⟨e2,s.lh,s.gh++[.stk 0 ys]⟩:St).put d (.stk s.gh.length 0 ys.length),⟨xv,hxv,ys,hys,by rw[if_pos hc]⟩,(EnvR.put1 d (.stk s.gh.length 0 ys.length)).congr (fun t=>by simp[wr,opDst]),rfl,fun b2 o h2=>⟨o,by show (s.gh++[_])[b2]?=_;rw[List.getElem?_append_left (List.getElem?_eq_some_iff.1 h2).1];exact h2,rfl⟩,rfl,rfl⟩
  ·cases h
 ·cases h
theorem j127 {d:Nat} {x:IX}:Local cf (.loadK d x):=by
 intro s s2 ha hh s' h
 obtain⟨e2,l2,g2⟩:=s2
 obtain rfl:g2=s.gh:=hh
 have h1:evalX e2 x=evalX s.env x:=jqu (fun t ht=>ha t (by simp[rd,ht]))
 simp only[opStep,h1] at h ⊢
 split at h
 ·simp only[Option.map_eq_some_iff] at h
  obtain⟨v,hv,rfl⟩:=h
  exact⟨(⟨e2,l2,s.gh⟩:St).put d v,by simp[hv],(EnvR.put1 d v).congr (fun t=>by simp[wr,opDst]),rfl,rfl,rfl,rfl⟩
 ·cases h
theorem j128 {d z bytes:Nat} {g:Bool} {zero:PV} {l:IX}:Local cf (.mksl d g z bytes zero l):=by
 cases g with
 |false=>exact fills_mksl.local rfl rfl
 | true=>
  intro s s2 ha hh s' h
  obtain⟨e2,l2,g2⟩:=s2
  obtain⟨rfl,rfl⟩:=hh
  have h1:evalX e2 l=evalX s.env l:=jqu (fun t ht=>ha t (by simp[rd,ht]))
  simp only[opStep,h1] at h ⊢
  split at h
  ·rename_i k n hp
   split at h
   ·rename_i hc
    cases h
    refine⟨_,by rw[if_pos hc],?_,?_⟩
    ·exact (EnvR.put1 d _).congr (fun t=>by simp[wr,opDst])
    ·exact⟨rfl,rfl⟩
   ·cases h
  ·cases h
theorem j129 {d z:Nat} {els:List IX}:Local cf (.boxSl d z els):=by
 intro s s2 ha hh s' h
 obtain⟨e2,l2,g2⟩:=s2
 obtain⟨rfl,rfl⟩:=hh
 have h1:evalXs e2 els=evalXs s.env els:=jrd (fun t ht=>ha t (by simp[rd,ht]))
 simp only[opStep,h1,Option.bind_eq_some_iff] at h ⊢
 obtain⟨vs,hvs,h⟩:=h
 split at h
 ·rename_i hc
  cases h
  refine⟨_,⟨vs,hvs,by rw[if_pos hc]⟩,?_,?_⟩
  ·exact (EnvR.put1 d _).congr (fun t=>by simp[wr,opDst])
  ·exact⟨rfl,rfl⟩
 ·cases h
theorem jse (s:St) (g:Bool) (b:Nat) (cs:List PV):(s.setCells g b cs).env=s.env:=by cases g<;>rfl
theorem juk {cs:List PV} {off:Nat} {v:PV} (h:cs[off]?=some v):(spliceAt cs off [degr1 v]).map degr1=cs.map degr1:=by
 have hlt:=(List.getElem?_eq_some_iff.1 h).1
 apply List.ext_getElem?
 intro i
 rw[List.getElem?_map,List.getElem?_map,spliceAt,jrc _ _ _ _ (by simp;omega)]
 by_cases h1:i<off
 ·rw[if_pos h1]
 ·rw[if_neg h1]
  by_cases h2:i=off
  ·subst h2
   have hd:degr1 (degr1 v)=degr1 v:=by cases v<;>rfl
   simp[h,hd]
  ·rw[if_neg (by simp;omega)]
theorem jul {α β:Type} (f:α→β) {l:List α} {b:Nat} {x y:α} (h:l[b]?=some x) (he:f y=f x):(l.set b y).map f=l.map f:=by
 apply List.ext_getElem?
 intro k
 rw[List.getElem?_map,List.getElem?_map,List.getElem?_set]
 by_cases hk:b=k
 ·subst hk
  obtain⟨this,rfl⟩:=List.getElem?_eq_some_iff.1 h
  simp[this,he]
 ·simp[hk]
theorem jwr {d:Nat} {x:IX}:Local cf (.loadT d x):=by
 intro s s2 ha hh s' h
 obtain⟨e2,l2,g2⟩:=s2
 obtain⟨rfl,rfl⟩:=hh
 have h1:evalX e2 x=evalX s.env x:=jqu (fun t ht=>ha t (by simp[rd,ht]))
 simp only[opStep,h1] at h ⊢
 split at h
 ·rename_i g b off hp
  simp only[Option.bind_eq_some_iff,Option.map_eq_some_iff] at h
  obtain⟨cs,hc,v,hv,rfl⟩:=h
  have hc2:St.cellsAt ⟨e2,s.lh,s.gh⟩ g b=some cs:=hc
  refine⟨(St.setCells ⟨e2,s.lh,s.gh⟩ g b (spliceAt cs off [degr1 v])).put d v,by simp[hc2,hv],?_,?_⟩
  ·simp only[St.put,jse]
   exact (EnvR.put1 d v).congr (fun t=>by simp[wr,opDst])
  ·cases g with
   |false=>exact⟨jul (List.map degr1) (show s.lh[b]?=some cs from hc) (juk hv),rfl,rfl,rfl⟩
   | true=>
    have hg:s.gh[b]?=some (.cells cs):=by
     simp only[St.cellsAt,if_true] at hc
     split at hc
     ·rename_i hx;cases hc;exact hx
     ·cases hc
    exact⟨rfl,jul GObj.deg hg (by simp[GObj.deg,juk hv]),rfl,rfl⟩
 ·cases h
theorem j12a {d:Nat} {x:IX}:Local cf (.loadL d x):=by
 intro s s2 ha hh s' h
 obtain⟨e2,l2,g2⟩:=s2
 obtain⟨rfl,rfl⟩:=hh
 have h1:evalX e2 x=evalX s.env x:=jqu (fun t ht=>ha t (by simp[rd,ht]))
 simp only[opStep,h1] at h ⊢
 split at h
 ·rename_i b off hp
  simp only[Option.bind_eq_some_iff,Option.map_eq_some_iff] at h
  obtain⟨cs,hc,v,hv,rfl⟩:=h
  refine⟨(⟨e2,s.lh.set b (spliceAt cs off [degr1 v]),s.gh⟩:St).put d v,by simp[hc,hv],(EnvR.put1 d v).congr (fun t=>by simp[wr,opDst]),jul (List.map degr1) hc (juk hv),rfl,rfl,rfl⟩
 ·cases h
theorem j12b {tk:Bool} {k:Nat} {x y:IX}:Local cf (.store tk k x y):=by
 intro s s2 ha hh s' h
 obtain⟨e2,l2,g2⟩:=s2
 obtain⟨rfl,rfl⟩:=hh
 have h1:evalX e2 x=evalX s.env x:=jqu (fun t ht=>ha t (by simp[rd,ht]))
 have h2:evalX e2 y=evalX s.env y:=jqu (fun t ht=>ha t (by simp[rd,ht]))
 simp only[opStep,h1,h2] at h ⊢
 split at h
 ·rename_i g b off hp
  split at h
  ·rename_i htk
   subst htk
   simp only[Option.bind_eq_some_iff,Prod.exists] at h
   obtain⟨v,e1,hv,cs,hc,h⟩:=h
   split at h
   ·rename_i hk
    cases h
    obtain⟨e3,t1,t2⟩:=jsd (e2:=e2) (fun t ht=>ha t (by simp[rd,ht])) hv
    have hc2:St.cellsAt ⟨e3,s.lh,s.gh⟩ g b=some cs:=hc
    refine⟨St.setCells ⟨e3,s.lh,s.gh⟩ g b (spliceAt cs off v.cells),by simp[t1,hc2,hk],?_,?_⟩
    ·simp only[jse]
     exact t2.congr (fun t=>by simp[wr,opDst])
    ·cases g<;>exact⟨rfl,rfl⟩
   ·cases h
  ·rename_i htk
   simp only[Bool.not_eq_true] at htk
   subst htk
   simp only[Option.bind_eq_some_iff] at h
   obtain⟨v,hv,cs,hc,h⟩:=h
   split at h
   ·rename_i hk
    cases h
    have hc2:St.cellsAt ⟨e2,s.lh,s.gh⟩ g b=some cs:=hc
    refine⟨St.setCells ⟨e2,s.lh,s.gh⟩ g b (spliceAt cs off v.cells),by simp[hv,hc2,hk],?_,?_⟩
    ·simp only[jse]
     exact EnvR.refl (fun t=>by simp[wr,opDst])
    ·cases g<;>exact⟨rfl,rfl⟩
   ·cases h
 ·cases h
theorem j12c {kn:Nat} {m k x:IX}:Local cf (.mupd kn m k x):=by
 intro s s2 ha hh s' h
 obtain⟨e2,l2,g2⟩:=s2
 obtain⟨rfl,rfl⟩:=hh
 have h1:evalX e2 m=evalX s.env m:=jqu (fun t ht=>ha t (by simp[rd,ht]))
 have h2:evalX e2 k=evalX s.env k:=jqu (fun t ht=>ha t (by simp[rd,ht]))
 have h3:evalX e2 x=evalX s.env x:=jqu (fun t ht=>ha t (by simp[rd,ht]))
 simp only[opStep,h1,h2,h3] at h ⊢
 split at h
 ·rename_i b kv v hp hkv hv
  split at h
  ·rename_i es hes
   split at h
   ·rename_i hc
    simp only[Option.map_eq_some_iff] at h
    obtain⟨es',hs,rfl⟩:=h
    refine⟨⟨e2,s.lh,s.gh.set b (.map es')⟩,?_,EnvR.refl (fun t=>by simp[wr,opDst]),rfl,rfl⟩
    rw[if_pos hc,hs];rfl
   ·cases h
  ·cases h
 ·cases h
theorem jum {e e2:List (Nat×PV)} (d:Option Nat) (v:PV):EnvR d.toList (putO e d v) e2 (putO e2 d v):=by
 cases d with
 |none=>exact EnvR.refl (by simp)
 |some d=>exact EnvR.put (by simp)
theorem jsz {d:Option Nat} {q:Bool} {f:Nat} {vs:List PV} (hh:HOk (if q then 1 else 5) s s2) (h:doCall cf s d q f vs=some s') :
  ∃s2',doCall cf s2 d q f vs=some s2'∧EnvR d.toList s'.env s2.env s2'.env∧HRes (if q then 1 else 5) s s' s2 s2':=by
 have hgh:s2.gh=s.gh:=by
  cases q
  ·exact hh.2
  ·exact hh
 unfold doCall at h ⊢
 split at h
 ·rename_i hok
  rw[if_pos hok,hgh]
  split at h
  ·rename_i r gh' hc
   split at h
   ·rename_i hq
    subst hq
    split at h
    ·rename_i he
     cases h
     refine⟨⟨putO s2.env d r,s2.lh,s2.gh⟩,by simp[he,hgh],jum d r,rfl,rfl,rfl,rfl⟩
    ·cases h
   ·rename_i hq
    simp only[Bool.not_eq_true] at hq
    subst hq
    cases h
    exact⟨⟨putO s2.env d r,s2.lh,gh'⟩,by simp,jum d r,hh.1,rfl⟩
  ·cases h
 ·cases h
theorem j12d {d:Option Nat} {q:Bool} {f:Nat} {xs:List IX}:Local cf (.call d q f xs):=by
 intro s s2 ha hh s' h
 have h1:evalXs s2.env xs=evalXs s.env xs:=jrd (fun t ht=>ha t (by simp[rd,ht]))
 simp only[opStep,h1,Option.bind_eq_some_iff] at h ⊢
 obtain⟨vs,hv,h⟩:=h
 obtain⟨s2',c1,c2,c3⟩:=jsz (s2:=s2) hh h
 exact⟨s2',⟨vs,hv,c1⟩,by simpa [wr,opDst] using c2,c3⟩
theorem j12e {d:Option Nat} {q:Bool} {f:IX} {xs:List IX}:Local cf (.callv d q f xs):=by
 intro s s2 ha hh s' h
 have h0:evalX s2.env f=evalX s.env f:=jqu (fun t ht=>ha t (by simp[rd,ht]))
 have h1:evalXs s2.env xs=evalXs s.env xs:=jrd (fun t ht=>ha t (by simp[rd,ht]))
 simp only[opStep,h0,h1] at h ⊢
 split at h
 ·rename_i f caps hp
  simp only[Option.bind_eq_some_iff] at h
  obtain⟨vs,hv,h⟩:=h
  obtain⟨s2',c1,c2,c3⟩:=jsz (s2:=s2) hh h
  exact⟨s2',by simp[hv,c1],by simpa [wr,opDst] using c2,c3⟩
 ·rename_i f caps hp
  simp only[Option.bind_eq_some_iff] at h
  obtain⟨vs,hv,h⟩:=h
  obtain⟨s2',c1,c2,c3⟩:=jsz (s2:=s2) hh h
  exact⟨s2',by simp[hv,c1],by simpa [wr,opDst] using c2,c3⟩
 ·cases h
theorem j12f {y x:IX}:Local cf (.storeK y x):=by
 intro s s2 ha hh s' h
 obtain⟨e2,l2,g2⟩:=s2
 obtain⟨rfl,rfl⟩:=hh
 have h1:evalX e2 y=evalX s.env y:=jqu (fun t ht=>ha t (by simp[rd,ht]))
 have h2:evalX e2 x=evalX s.env x:=jqu (fun t ht=>ha t (by simp[rd,ht]))
 simp only[opStep,h1,h2] at h ⊢
 split at h
 ·rename_i b gen i v _ _
  split at h
  ·rename_i g xs hg
   split at h
   ·rename_i hc
    cases h
    exact⟨⟨e2,s.lh,s.gh.set b (.stk g (xs.set i v))⟩,by rw[if_pos hc],EnvR.refl (fun t=>by simp[wr,opDst]),rfl,rfl⟩
   ·cases h
  ·cases h
 ·cases h
theorem j12g {x:IX}:Local cf (.clearK x):=by
 intro s s2 ha hh s' h
 obtain⟨e2,l2,g2⟩:=s2
 obtain⟨rfl,rfl⟩:=hh
 have h1:evalX e2 x=evalX s.env x:=jqu (fun t ht=>ha t (by simp[rd,ht]))
 simp only[opStep,h1] at h ⊢
 split at h
 ·rename_i b gen off n _
  split at h
  ·rename_i g xs hg
   split at h
   ·rename_i hc
    cases h
    exact⟨⟨e2,s.lh,s.gh.set b (.stk g (xs.take off++List.replicate n (.int .i64 0)++xs.drop (off+n)))⟩,by rw[if_pos hc],EnvR.refl (fun t=>by simp[wr,opDst]),rfl,rfl⟩
   ·cases h
  ·cases h
 ·cases h
theorem j12h {d:Option Nat} {f:Nat} {xs:List IX}:Local cf (.callF d f xs):=by
 intro s s2 ha hh s' h
 have h1:evalXs s2.env xs=evalXs s.env xs:=jrd (fun t ht=>ha t (by simp[rd,ht]))
 simp only[opStep,h1,Option.bind_eq_some_iff] at h ⊢
 obtain⟨vs,hv,h⟩:=h
 unfold doFree at h
 split at h
 ·rename_i hok
  split at h
  ·rename_i r hc
   split at h
   ·rename_i hr
    cases h
    refine⟨⟨putO s2.env d r,s2.lh,s2.gh⟩,⟨vs,hv,?_⟩,by simpa [wr,opDst] using jum (e:=s.env) (e2:=s2.env) d r,rfl,rfl,rfl,rfl⟩
    unfold doFree
    rw[if_pos hok,hc]
    simp[hr]
   ·cases h
  ·cases h
 ·cases h
theorem j12i {d z bytes:Nat} {sx x:IX}:Local cf (.append d z bytes sx x):=by
 intro s s2 ha hh s' h
 have h1:evalX s2.env x=evalX s.env x:=jqu (fun t ht=>ha t (by simp[rd,ht]))
 simp only[opStep,h1,Option.bind_eq_some_iff] at h ⊢
 obtain⟨xv,hxv,h⟩:=h
 cases xv with
 | sl o2 z2 ys=>
  simp only[Option.bind_eq_some_iff,Prod.exists] at h
  obtain⟨v,e1,hv,h⟩:=h
  cases v with
  | sl o z1 xs=>
   simp only at h
   split at h
   ·rename_i hc
    cases h
    obtain⟨e3,t1,t2⟩:=jsd (e2:=s2.env) (fun t ht=>ha t (by simp[rd,ht])) hv
    refine⟨⟨Lw.put e3 d (.sl true z (xs++ys)),s2.lh,s2.gh⟩,⟨_,hxv,by simp only[t1,Option.bind_some];rw[if_pos hc]⟩,?_,rfl,rfl,rfl,rfl⟩
    exact (t2.thenPut d _).congr (fun t=>by simp[wr,opDst];exact or_comm)
   ·cases h
  |_=>cases h
 |_=>cases h
theorem js4 {e e2:List (Nat×PV)} {gh gh':List GObj} {n:Nat} (h:get e2 n=get e n) (hk:keptB e gh gh' n):keptB e2 gh gh' n:=by
 unfold keptB at *
 rw[h];exact hk
theorem j12j {d:Option Nat} {f:Nat} {xs:List IX} {ns:List Nat}:Local cf (.callP d f xs ns):=by
 intro s s2 ha hh s' h
 have h1:evalXs s2.env xs=evalXs s.env xs:=jrd (fun t ht=>ha t (by simp[rd,ht]))
 have hg:s2.gh=s.gh:=hh.2
 simp only[opStep,h1,Option.bind_eq_some_iff] at h ⊢
 obtain⟨vs,hv,s1,h2,h3⟩:=h
 split at h3
 ·rename_i hk
  cases h3
  obtain⟨s2',c1,c2,c3⟩:=jsz (q:=false) (s2:=s2) hh h2
  refine⟨s2',⟨vs,hv,s2',c1,?_⟩,by simpa [wr,opDst] using c2,c3⟩
  have hg':s2'.gh=s'.gh:=c3.2
  rw[if_pos (fun n hn=>by rw[hg,hg'];exact js4 (ha n (by simp[rd,hn])) (hk n hn))]
 ·cases h3
theorem j12k {d:Option Nat} {f:Nat} {xs:List IX} {n o2:Nat}:Local cf (.callR d f xs n o2):=by
 intro s s2 ha hh s' h
 have h1:evalXs s2.env xs=evalXs s.env xs:=jrd (fun t ht=>ha t (by simp[rd,ht]))
 have h2:get s2.env n=get s.env n:=ha n (by simp[rd])
 have hg:s2.gh=s.gh:=hh.2
 simp only[opStep,h1,h2,Option.bind_eq_some_iff] at h ⊢
 obtain⟨vs,hv,h⟩:=h
 split at h
 ·rename_i b off hp
  unfold doCallR at h ⊢
  simp only[Option.bind_eq_some_iff,hg] at h ⊢
  obtain⟨s1,h3,g1,h4,g2,h5,r1,h6,r2,h7,h8⟩:=h
  split at h8
  ·rename_i hk
   cases h8
   obtain⟨s2',c1,c2,c3⟩:=jsz (q:=false) (s2:=s2) hh h3
   exact⟨s2',⟨vs,hv,s2',c1,g1,h4,g2,h5,r1,h6,r2,h7,by rw[if_pos hk]⟩,by simpa [wr,opDst] using c2,c3⟩
  ·cases h8
 ·cases h
theorem j12l {d bytes:Nat} {sx x:IX}:Local cf (.appendE d bytes sx x):=by
 intro s s2 ha hh s' h
 obtain⟨e2,l2,g2⟩:=s2
 obtain rfl:g2=s.gh:=hh
 have h1:evalX e2 x=evalX s.env x:=jqu (fun t ht=>ha t (by simp[rd,ht]))
 simp only[opStep,h1,Option.bind_eq_some_iff,Prod.exists] at h ⊢
 obtain⟨xv,hxv,ys,hys,v,e1,hv,h⟩:=h
 cases v with
 | sl o z1 xs=>
  simp only at h
  split at h
  ·rename_i hc
   cases h
   obtain⟨e3,t1,t2⟩:=jsd (e2:=e2) (fun t ht=>ha t (by simp[rd,ht])) hv
   refine⟨⟨Lw.put e3 d (.sl true 1 (xs++ys)),l2,s.gh⟩,⟨xv,hxv,ys,hys,_,_,t1,by simp only;rw[if_pos hc]⟩,?_,rfl,rfl,rfl,rfl⟩
   exact (t2.thenPut d _).congr (fun t=>by simp[wr,opDst];exact or_comm)
  ·cases h
 |_=>cases h
theorem j12m {d:Nat} {x:IX} {n:Nat}:Local cf (.loadKB d x n):=by
 intro s s2 ha hh s' h
 obtain⟨e2,l2,g2⟩:=s2
 obtain rfl:g2=s.gh:=hh
 have h1:evalX e2 x=evalX s.env x:=jqu (fun t ht=>ha t (by simp[rd,ht]))
 have h2:get e2 n=get s.env n:=ha n (by simp[rd])
 simp only[opStep,h1,h2] at h ⊢
 split at h
 ·split at h
  ·rename_i hb
   simp only[Option.map_eq_some_iff] at h
   obtain⟨v,hv,rfl⟩:=h
   exact⟨(⟨e2,l2,s.gh⟩:St).put d v,by rw[if_pos hb,hv];rfl,(EnvR.put1 d v).congr (fun t=>by simp[wr,opDst]),rfl,rfl,rfl,rfl⟩
  ·cases h
 ·cases h
theorem j12n {d:Nat} {x:IX} {n o2:Nat} (h:opStep cf s (.loadTB d x n o2)=some s'):opStep cf s (.loadT d x)=some s':=by
 simp only[opStep] at h ⊢
 split at h
 ·rename_i hp _
  split at h
  ·rw[hp];exact h
  ·cases h
 ·cases h
theorem j12o {d:Nat} {x:IX} {n o2:Nat}:Local cf (.loadTB d x n o2):=by
 intro s s2 ha hh s' h
 have h1:evalX s2.env x=evalX s.env x:=jqu (fun t ht=>ha t (by simp[rd,ht]))
 have h2:get s2.env n=get s.env n:=ha n (by simp[rd])
 obtain⟨s2',c1,c2,c3⟩:=jwr (cf:=cf) (d:=d) (x:=x) s s2 (fun t ht=>ha t (by simp only[rd,List.mem_cons] at ht ⊢;exact .inr ht)) hh s' (j12n h)
 refine⟨s2',?_,c2,c3⟩
 simp only[opStep,h1,h2] at h c1 ⊢
 split at h
 ·rename_i hp _
  split at h
  ·rename_i hb
   rw[if_pos hb]
   rw[hp] at c1;exact c1
  ·cases h
 ·cases h
theorem j12p {d:Nat} {agg:Bool} {k:Nat} {x:IX} {n:Nat}:Local cf (.loadB d agg k x n):=by
 intro s s2 ha hh s' h
 have h1:evalX s2.env x=evalX s.env x:=jqu (fun t ht=>ha t (by simp[rd,ht]))
 have h2:get s2.env n=get s.env n:=ha n (by simp[rd])
 simp only[opStep,h1,h2] at h ⊢
 split at h
 ·rename_i b off b' o' hp hq
  split at h
  ·rename_i hne
   simp only[Option.bind_eq_some_iff,Option.map_eq_some_iff] at h
   obtain⟨cs,hc,v,hv,rfl⟩:=h
   obtain⟨cs2,hc2,he⟩:=jui hh hc
   obtain⟨v2,hv2,he2⟩:=juj he hv
   refine⟨s2.put d (degr v),by simp[hne,hc2,hv2,he2]<;>(subst hne;simp[hc2,hv2,he2]),(EnvR.put1 d _).congr (fun t=>by simp[wr,opDst]),rfl,rfl,rfl,rfl⟩
  ·cases h
 ·cases h
theorem j12q {d:Nat} {agg:Bool} {k:Nat} {x:IX}:Local cf (.loadJ d agg k x):=by
 intro s s2 ha hh s' h
 have h1:evalX s2.env x=evalX s.env x:=jqu (fun t ht=>ha t (by simp[rd,ht]))
 simp only[opStep,h1] at h ⊢
 split at h
 ·rename_i b off hp
  simp only[Option.bind_eq_some_iff,Option.map_eq_some_iff] at h
  obtain⟨cs,hc,v,hv,rfl⟩:=h
  obtain⟨cs2,hc2,he⟩:=jui hh hc
  obtain⟨v2,hv2,he2⟩:=juj he hv
  exact⟨s2.put d (degr v),by simp[hc2,hv2,he2],(EnvR.put1 d _).congr (fun t=>by simp[wr,opDst]),rfl,rfl,rfl,rfl⟩
 ·cases h
theorem j12r {d bytes:Nat} {sx x:IX} {ns:List Nat}:Local cf (.appendP d bytes sx x ns):=by
 intro s s2 ha hh s' h
 have hg:s2.gh=s.gh:=hh.2
 simp only[opStep,Option.bind_eq_some_iff] at h ⊢
 obtain⟨s1,h1,h2⟩:=h
 split at h2
 ·rename_i hk
  cases h2
  obtain⟨s2',c1,c2,c3⟩:=jwq (cf:=cf) s s2 (fun t ht=>ha t (by simp only[rd,List.mem_append] at ht ⊢;exact .inr ht)) hh _ h1
  have hg':s2'.gh=s'.gh:=c3.2.2.2
  refine⟨s2',⟨s2',c1,?_⟩,c2,c3⟩
  rw[if_pos (fun n hn=>by rw[hg,hg'];exact js4 (ha n (by simp[rd,hn])) (hk n hn))]
 ·cases h2
theorem fills_mkarr {d z bytes:Nat} {zero:PV} {l:IX}:Fills cf (.mkarr d z bytes zero l) d:=by
 intro s s2 ha s' h
 have h1:evalX s2.env l=evalX s.env l:=jqu (fun t ht=>ha t (by simp[rd,ht]))
 simp only[opStep,h1] at h ⊢
 split at h
 ·split at h
  ·rename_i hc;cases h;exact⟨_,rfl,by rw[if_pos hc]⟩
  ·cases h
 ·cases h
theorem jun {L:List Nat}:∀{l:List Nat} {s s2:St},(∀t∈l,t∈L)→s2.lh=s.lh→s2.gh=s.gh→(∀t∈L,get s2.env t=get s.env t)→
  (adopt l s2).lh=(adopt l s).lh∧(adopt l s2).gh=(adopt l s).gh∧(∀t∈L,get (adopt l s2).env t=get (adopt l s).env t)∧(∀t,t∉L→get (adopt l s2).env t=get s2.env t)∧(∀t,t∉L→get (adopt l s).env t=get s.env t)∧(adopt l s).lh=s.lh
 |[],s,s2,_,h1,h2,h3=>⟨h1,h2,h3,fun _ _=>rfl,fun _ _=>rfl,rfl⟩
 | t::l,s,s2,hl,h1,h2,h3=>by
  have ht:=h3 t (hl t (by simp))
  unfold adopt
  rw[ht]
  split
  ·rename_i z n hg
   obtain⟨r1,r2,r3,r4,r5,r6⟩:=jun (L:=L) (l:=l) (s:=⟨Lw.put s.env t (.bs true s.gh.length 0 n 1),s.lh,s.gh++[.cells (List.replicate n z)]⟩) (s2:=⟨Lw.put s2.env t (.bs true s2.gh.length 0 n 1),s2.lh,s2.gh++[.cells (List.replicate n z)]⟩)
    (fun t ht=>hl t (by simp[ht])) h1 (by rw[h2]) (fun u hu=>by simp only[jr7,h2];split<;>first|rfl|exact h3 u hu)
   refine⟨r1,r2,r3,fun u hu=>?_,fun u hu=>?_,r6⟩
   ·rw[r4 u hu]
    simp only[jr7]
    rw[if_neg (fun e=>hu (by rw[←e];exact hl t (by simp)))]
   ·rw[r5 u hu]
    simp only[jr7]
    rw[if_neg (fun e=>hu (by rw[←e];exact hl t (by simp)))]
  ·exact jun (L:=L) (l:=l) (fun t ht=>hl t (by simp[ht])) h1 h2 h3
theorem j12s {d:Nat} {z:List PV} {ps:List (Nat×Nat×IX)}:Local cf (.buildA d z ps):=by
 intro s s2 ha hh s' h
 have hsl:∀t∈(ps.flatMap fun p=>slotX p.2.2),t∈rdPs ps:=fun t ht=>by
  simp only[rdPs,List.mem_flatMap] at ht ⊢
  obtain⟨p,hp,ht⟩:=ht
  refine⟨p,hp,?_⟩
  cases hx:p.2.2<;>rw[hx] at ht<;>simp[slotX] at ht
  simp[rdX,ht]
 obtain⟨r1,r2,r3,r4,r5,r6⟩:=jun (L:=rdPs ps) (s:=s) (s2:=s2) hsl hh.1 hh.2 (fun t ht=>ha t (by simp only[rd];exact ht))
 have h':opStep cf (adopt (ps.flatMap fun p=>slotX p.2.2) s) (.buildT d z ps)=some s':=h
 obtain⟨s2',c1,c2,c3⟩:=jwm (cf:=cf) (adopt (ps.flatMap fun p=>slotX p.2.2) s) (adopt (ps.flatMap fun p=>slotX p.2.2) s2) (fun t ht=>r3 t ht) (show HOk 0 _ _ from trivial) s' h'
 refine⟨s2',c1,fun t=>?_,?_,?_⟩
 ·rw[c2 t]
  show (if t∈wr (.buildA d z ps) then _ else _)=(if t∈wr (.buildA d z ps) then _ else _)
  by_cases hw:t∈wr (.buildA d z ps)
  ·rw[if_pos hw,if_pos hw]
  ·rw[if_neg hw,if_neg hw]
   exact r4 t (fun h=>hw (by simp only[wr,List.mem_append];exact .inr h))
 ·rw[c3.2.2.1,r1,c3.1]
 ·rw[c3.2.2.2,r2,c3.2.1]
theorem juo (i:IOp):Local cf i:=by
 cases i with
 |callP=>exact j12j
 |callR=>exact j12k
 |loadB=>exact j12p
 |appendE=>exact j12l
 |loadKB=>exact j12m
 |loadTB=>exact j12o
 |loadJ=>exact j12q
 |appendP=>exact j12r
 |mkarr=>exact fills_mkarr.local rfl rfl
 |buildA=>exact j12s
 |boxSl=>exact j129
 |tk=>exact j11y
 |box=>exact j11z
 |alloc=>exact j120
 |buildT=>exact jwm
 |load=>exact j121
 |loadN=>exact fun _ _ _ _ _ h=>by simp[opStep] at h
 |lookup=>exact j122
 |len=>exact j123
 |mkmap=>exact j124
 |mkbld=>exact fun _ _ _ _ _ h=>by simp[opStep] at h
 |mksl=>exact j128
 |loadT=>exact jwr
 |loadL=>exact j12a
 |store=>exact j12b
 |mupd=>exact j12c
 |call=>exact j12d
 |callv=>exact j12e
 |callF=>exact j12h
 |callE=>exact fun _ _ _ _ _ h=>by simp[opStep] at h
 |append=>exact j12i
 |appendK=>exact j126
 |appendN=>exact jwq
 |buildSlK=>exact j125
 |loadK=>exact j127
 |loadH=>exact fun _ _ _ _ _ h=>by simp[opStep] at h
 |mv=>exact fills_mv.local rfl rfl
 |loadG=>exact fun _ _ _ _ _ h=>by simp[opStep] at h
 |pick=>exact fills_pick.local rfl rfl
 |build=>exact fills_build.local rfl rfl
 |buildSl=>exact fills_buildSl.local rfl rfl
 |nilc=>exact fills_nilc.local rfl rfl
 |bin=>exact fills_bin.local rfl rfl
 |eqa=>exact fills_eqa.local rfl rfl
 |eqb=>exact fun _ _ _ _ _ h=>by simp[opStep] at h
 |eqn=>exact fun _ _ _ _ _ h=>by simp[opStep] at h
 |un=>exact fills_un.local rfl rfl
 |conv=>exact fills_conv.local rfl rfl
 |mkfn=>exact fills_mkfn.local rfl rfl
 |mkbf=>exact fills_mkbf.local rfl rfl
 |storeK=>exact j12f
 |clearK=>exact j12g
 |slice=>exact fills_slice.local rfl rfl
 |sliceS=>exact fun _ _ _ _ _ h=>by simp[opStep] at h
 |faddr=>exact fills_faddr.local rfl rfl
 |field=>exact fills_field.local rfl rfl
 |iaddr=>exact fills_iaddr.local rfl rfl
 |index=>exact fills_index.local rfl rfl
 |indexS=>exact fills_indexS.local rfl rfl
 |maxi=>exact fills_maxi.local rfl rfl
 |extract=>exact fills_extract.local rfl rfl
end
end Go.Lw
end

/-! Two operations that do not meet change places; one that meets none of those ahead of it goes to the front. -/
section
namespace Go.Lw
open Go Go.RowKit
section
variable {s s' s1 s2 t1 t2:St} {cf:CallF}
def HRes2 (c:Nat) (s s' s2 s2':St):Prop:=
 match c with
 |0|1|2|8=>s'.lh=s.lh∧s'.gh=s.gh∧s2'.lh=s2.lh∧s2'.gh=s2.gh
 |3=>(∀(b:Nat) (cs:List PV),s.lh[b]?=some cs→s'.lh[b]?=some cs)∧s'.gh=s.gh∧s2'.lh=s'.lh∧s2'.gh=s'.gh
 |4=>s'.lh=s.lh∧(∀(b:Nat) (o:GObj),s.gh[b]?=some o→s'.gh[b]?=some o)∧s2'.lh=s'.lh∧s2'.gh=s'.gh
 |6=>s'.lh.map (List.map degr1)=s.lh.map (List.map degr1)∧s'.gh=s.gh∧s2'.lh=s'.lh∧s2'.gh=s'.gh
 |7=>s'.lh.map (List.map degr1)=s.lh.map (List.map degr1)∧s'.gh.map GObj.deg=s.gh.map GObj.deg∧s2'.lh=s'.lh∧s2'.gh=s'.gh
 |9=>s'.lh=s.lh∧(∀(b:Nat) (o:GObj),s.gh[b]?=some o→∃o2,s'.gh[b]?=some o2∧o2.deg=o.deg)∧s2'.lh=s'.lh∧s2'.gh=s'.gh
 |_=>s2'.lh=s'.lh∧s2'.gh=s'.gh
theorem HRes.two {c:Nat} (h:HRes c s s' s2 s1):HRes2 c s s' s2 s1:=by
 match c,h with
 |0,h=>exact h
 |1,h=>exact h
 |2,h=>exact h
 |3,⟨⟨cs,h1⟩,h2⟩=>exact⟨fun b cs' hb=>by rw[h1,List.getElem?_append_left (List.getElem?_eq_some_iff.1 hb).1];exact hb,h2⟩
 |4,⟨h0,⟨o,h1⟩,h2⟩=>exact⟨h0,fun b o' hb=>by rw[h1,List.getElem?_append_left (List.getElem?_eq_some_iff.1 hb).1];exact hb,h2⟩
 |5,h=>exact h
 |6,h=>exact h
 |7,h=>exact h
 |8,h=>exact h
 |9,h=>exact h
 |n+10,h=>exact h
def rdG (i:IOpG):List Nat:=(match i.guard with|some (g,_)=>[g]|none=>[])++rd i.op
theorem wr_rd {i:IOp} {t:Nat} (h:t∈wr i):opDst i=some t∨t∈rd i:=by
 simp only[wr,List.mem_append,Option.mem_toList] at h
 rcases h with h|h
 ·exact .inl h
 ·right
  split at h<;>first|(simp at h;done)|(simpa [rd] using h)|(simp[rd];first|exact .inl h|exact .inr h|exact h)
theorem jt0 (i:IOpG) (ha:∀t∈rdG i,get s2.env t=get s.env t) (hh:HOk (cls i.op) s s2) (h:opG cf i s=some s') :
  ∃s2',opG cf i s2=some s2'∧EnvR (wr i.op) s'.env s2.env s2'.env∧HRes2 (cls i.op) s s' s2 s2':=by
 have hstep:∀s',opStep cf s i.op=some s'→∃s2',opStep cf s2 i.op=some s2'∧EnvR (wr i.op) s'.env s2.env s2'.env∧HRes2 (cls i.op) s s' s2 s2':=fun s' hs=>by
  obtain⟨s2',h1,h2,h3⟩:=juo i.op s s2 (fun t ht=>ha t (by simp[rdG,ht])) hh s' hs
  exact⟨s2',h1,h2,h3.two⟩
 have hskip:EnvR (wr i.op) (skipped s i.op).env s2.env (skipped s2 i.op).env∧HRes2 (cls i.op) s (skipped s i.op) s2 (skipped s2 i.op):=by
  refine⟨fun t=>?_,?_⟩
  ·by_cases ht:t∈wr i.op
   ·rw[if_pos ht]
    unfold skipped
    cases hd:opDst i.op with
    |none=>
     have:=(wr_rd ht).resolve_left (by simp[hd])
     exact ha t (by simp[rdG,this])
    | some d=>
     simp only[St.put,jr7]
     by_cases hdt:d=t
     ·simp[hdt]
     ·have:=(wr_rd ht).resolve_left (by simp[hd,hdt])
      simp only[hdt,if_false]
      exact ha t (by simp[rdG,this])
   ·rw[if_neg ht]
    unfold skipped
    cases hd:opDst i.op with
    |none=>rfl
    |some d=>
     have:d≠t:=fun e=>ht (by subst e;simp[wr,hd])
     simp[St.put,jr7,this]
  ·have e1:(skipped s i.op).lh=s.lh∧(skipped s i.op).gh=s.gh:=by unfold skipped;cases opDst i.op<;>exact⟨rfl,rfl⟩
   have e2:(skipped s2 i.op).lh=s2.lh∧(skipped s2 i.op).gh=s2.gh:=by unfold skipped;cases opDst i.op<;>exact⟨rfl,rfl⟩
   generalize cls i.op=c at hh
   match c,hh with
   |0,_=>exact⟨e1.1,e1.2,e2.1,e2.2⟩
   |1,_=>exact⟨e1.1,e1.2,e2.1,e2.2⟩
   |2,_=>exact⟨e1.1,e1.2,e2.1,e2.2⟩
   |3,⟨h1,h2⟩=>exact⟨fun b cs hb=>by rw[e1.1];exact hb,e1.2,by rw[e1.1,e2.1,h1],by rw[e1.2,e2.2,h2]⟩
   |4,⟨h1,h2⟩=>exact⟨e1.1,fun b cs hb=>by rw[e1.2];exact hb,by rw[e1.1,e2.1,h1],by rw[e1.2,e2.2,h2]⟩
   |5,⟨h1,h2⟩=>exact⟨by rw[e1.1,e2.1,h1],by rw[e1.2,e2.2,h2]⟩
   |6,⟨h1,h2⟩=>exact⟨by rw[e1.1],e1.2,by rw[e1.1,e2.1,h1],by rw[e1.2,e2.2,h2]⟩
   |7,⟨h1,h2⟩=>exact⟨by rw[e1.1],by rw[e1.2],by rw[e1.1,e2.1,h1],by rw[e1.2,e2.2,h2]⟩
   |8,_=>exact⟨e1.1,e1.2,e2.1,e2.2⟩
   |9,⟨h1,h2⟩=>exact⟨e1.1,fun b o hb=>⟨o,by rw[e1.2];exact hb,rfl⟩,by rw[e1.1,e2.1,h1],by rw[e1.2,e2.2,h2]⟩
   |n+10,⟨h1,h2⟩=>exact⟨by rw[e1.1,e2.1,h1],by rw[e1.2,e2.2,h2]⟩
 unfold opG at h ⊢
 cases hg:i.guard with
 |none=>rw[hg] at h;exact hstep s' h
 | some q=>
  obtain⟨g,want⟩:=q
  rw[hg] at h
  have hgg:get s2.env g=get s.env g:=ha g (by simp[rdG,hg])
  simp only at h ⊢
  rw[hgg]
  split at h
  ·split at h
   ·rename_i hw
    simp only[hw,if_true]
    exact hstep s' h
   ·rename_i hw
    cases h
    simp only[if_neg hw]
    exact⟨_,rfl,hskip⟩
  ·cases h
   exact⟨_,rfl,hskip⟩
  ·cases h
theorem jsf (i:IOpG) (h:opG cf i s=some s') {t:Nat} (ht:t∉wr i.op):get s'.env t=get s.env t:=by
 have hh:HOk (cls i.op) s s:=by
  generalize cls i.op=c
  match c with
  |0=>trivial
  |1=>rfl
  |2=>exact⟨fun _ cs h=>⟨cs,h,rfl⟩,fun _ o h=>⟨o,h,rfl⟩⟩
  |3|4|5|6|7=>exact⟨rfl,rfl⟩
  |8=>exact (rfl:s.lh=s.lh)
  |9=>exact⟨rfl,rfl⟩
  |n+10=>exact⟨rfl,rfl⟩
 obtain⟨s2',h1,h2,_⟩:=jt0 (s2:=s) i (fun _ _=>rfl) hh h
 rw[h] at h1;cases h1
 have:=h2 t
 rwa [if_neg ht] at this
theorem j12t (i:IOpG) (h:opG cf i s=some s'):HRes2 (cls i.op) s s' s s':=by
 have hh:HOk (cls i.op) s s:=by
  generalize cls i.op=c
  match c with
  |0=>trivial
  |1=>rfl
  |2=>exact⟨fun _ cs h=>⟨cs,h,rfl⟩,fun _ o h=>⟨o,h,rfl⟩⟩
  |3|4|5|6|7=>exact⟨rfl,rfl⟩
  |8=>exact (rfl:s.lh=s.lh)
  |9=>exact⟨rfl,rfl⟩
  |n+10=>exact⟨rfl,rfl⟩
 obtain⟨s2',h1,_,h3⟩:=jt0 (s2:=s) i (fun _ _=>rfl) hh h
 rw[h] at h1;cases h1
 exact h3
def clsOk (p x:Nat):Bool:=p==0||(x==0||((decide (p≤2)&&decide (x≤2))||((p==1&&x==3)||((p==2&&x==3)||((p==2&&x==4)||((p==3&&x==1)||((p==1&&x==6)||((p==6&&x==1)||((p==2&&x==6)||((p==2&&x==7)||((p==6&&x==2)||((p==7&&x==2)||((p==4&&x==8)||((p==8&&x==8)||(p==2&&x==9)))))))))))))))
def apartS (p x:IOpG):Bool:=(wr p.op).all (fun t=> !(rdG x).contains t&& !(wr x.op).contains t)&&(wr x.op).all (fun t=> !(rdG p).contains t)
def Eqv (s s2:St):Prop:=(∀t,get s2.env t=get s.env t)∧s2.lh=s.lh∧s2.gh=s.gh
theorem ok_le {p x:Nat} (h:clsOk p x=true):(p=0)∨(x=0)∨(p≤2∧x≤2)∨(p=1∧x=3)∨(p=2∧x=3)∨(p=2∧x=4)∨(p=3∧x=1)∨(p=1∧x=6)∨(p=6∧x=1)∨(p=2∧x=6)∨(p=2∧x=7)∨(p=6∧x=2)∨(p=7∧x=2)∨(p=4∧x=8)∨(p=8∧x=8)∨(p=2∧x=9):=by
 simpa only[clsOk,Bool.or_eq_true,Bool.and_eq_true,beq_iff_eq,decide_eq_true_eq] using h
theorem jr2 {c:Nat} (hc:c≤2) (h:HRes2 c s s' s2 s1):s'.lh=s.lh∧s'.gh=s.gh∧s1.lh=s2.lh∧s1.gh=s2.gh:=by
 match c,hc,h with
 |0,_,h=>exact h
 |1,_,h=>exact h
 |2,_,h=>exact h
theorem res_eq {c:Nat} (h:HRes2 c s s' s2 s1) (e1:s2.lh=s.lh) (e2:s2.gh=s.gh):s1.lh=s'.lh∧s1.gh=s'.gh:=by
 match c,h with
 |0,h=>exact⟨by rw[h.2.2.1,e1,h.1],by rw[h.2.2.2,e2,h.2.1]⟩
 |1,h=>exact⟨by rw[h.2.2.1,e1,h.1],by rw[h.2.2.2,e2,h.2.1]⟩
 |2,h=>exact⟨by rw[h.2.2.1,e1,h.1],by rw[h.2.2.2,e2,h.2.1]⟩
 |3,h=>exact h.2.2
 |4,h=>exact h.2.2
 |5,h=>exact h
 |6,h=>exact h.2.2
 |7,h=>exact h.2.2
 |8,h=>exact⟨by rw[h.2.2.1,e1,h.1],by rw[h.2.2.2,e2,h.2.1]⟩
 |9,h=>exact h.2.2
 |n+10,h=>exact h
theorem hok_eq {c:Nat} (e1:s2.lh=s.lh) (e2:s2.gh=s.gh):HOk c s s2:=by
 match c with
 |0=>trivial
 |1=>exact e2
 |2=>exact⟨fun b cs h=>⟨cs,by rw[e1];exact h,rfl⟩,fun b o h=>⟨o,by rw[e2];exact h,rfl⟩⟩
 |3|4|5|6|7=>exact⟨e1,e2⟩
 |8=>exact e1
 |9=>exact⟨e1,e2⟩
 |n+10=>exact⟨e1,e2⟩
theorem same_fwd {α β:Type} (f:α→β) {l l':List α} (h:l'.map f=l.map f) {b:Nat} {x:α} (hx:l[b]?=some x):∃y,l'[b]?=some y∧f y=f x:=by
 have h1:(l'.map f)[b]?=(l.map f)[b]?:=by rw[h]
 rw[List.getElem?_map,List.getElem?_map,hx] at h1
 simpa using h1
theorem swap {p x:IOpG} (ha:apartS p x=true) (hc:clsOk (cls p.op) (cls x.op)=true) (h1:opG cf p s=some s1) (h2:opG cf x s1=some s2) :
  ∃t1 t2,opG cf x s=some t1∧opG cf p t1=some t2∧Eqv s2 t2:=by
 simp only[apartS,Bool.and_eq_true,List.all_eq_true,Bool.not_eq_true',List.contains_eq_mem,decide_eq_false_iff_not] at ha
 obtain⟨a1,a2⟩:=ha
 have r1:=j12t p h1
 have f1:=fun t ht=>jsf (t:=t) p h1 ht
 have f2:=fun t ht=>jsf (t:=t) x h2 ht
 have hx:HOk (cls x.op) s1 s:=by
  rcases ok_le hc with e|e|⟨e,_⟩|⟨e,_⟩|⟨e,_⟩|⟨e,_⟩|⟨e,e'⟩|⟨e,_⟩|⟨e,e'⟩|⟨e,_⟩|⟨e,_⟩|⟨e,e'⟩|⟨e,e'⟩|⟨e,e'⟩|⟨e,e'⟩|⟨e,e'⟩
  ·have:=jr2 (by omega) r1;exact hok_eq this.1.symm this.2.1.symm
  ·rw[e];trivial
  ·have:=jr2 (by omega) r1;exact hok_eq this.1.symm this.2.1.symm
  ·have:=jr2 (by omega) r1;exact hok_eq this.1.symm this.2.1.symm
  ·have:=jr2 (by omega) r1;exact hok_eq this.1.symm this.2.1.symm
  ·have:=jr2 (by omega) r1;exact hok_eq this.1.symm this.2.1.symm
  ·rw[e] at r1;rw[e'];exact r1.2.1.symm
  ·have:=jr2 (by omega) r1;exact hok_eq this.1.symm this.2.1.symm
  ·rw[e] at r1;rw[e'];exact r1.2.1.symm
  ·have:=jr2 (by omega) r1;exact hok_eq this.1.symm this.2.1.symm
  ·have:=jr2 (by omega) r1;exact hok_eq this.1.symm this.2.1.symm
  ·rw[e] at r1;rw[e'];exact⟨fun b cs=>same_fwd _ r1.1.symm,fun b o hb=>⟨o,by rw[←r1.2.1];exact hb,rfl⟩⟩
  ·rw[e] at r1;rw[e'];exact⟨fun b cs=>same_fwd _ r1.1.symm,fun b o=>same_fwd _ r1.2.1.symm⟩
  ·rw[e] at r1;rw[e'];exact r1.1.symm
  ·rw[e] at r1;rw[e'];exact r1.1.symm
  ·have:=jr2 (by omega) r1;exact hok_eq this.1.symm this.2.1.symm
 obtain⟨t1,g1,g2,g3⟩:=jt0 (s2:=s) x (fun t ht=>(f1 t (fun hw=>(a1 t hw).1 ht)).symm) hx h2
 have hp:HOk (cls p.op) s t1:=by
  rcases ok_le hc with e|e|⟨e,e'⟩|⟨e,e'⟩|⟨e,e'⟩|⟨e,e'⟩|⟨e,e'⟩|⟨e,e'⟩|⟨e,e'⟩|⟨e,e'⟩|⟨e,e'⟩|⟨e,e'⟩|⟨e,e'⟩|⟨e,e'⟩|⟨e,e'⟩|⟨e,e'⟩
  ·rw[e];trivial
  ·have:=jr2 (by omega) g3;exact hok_eq this.2.2.1 this.2.2.2
  ·have:=jr2 (by omega) g3;exact hok_eq this.2.2.1 this.2.2.2
  ·rw[e'] at g3
   have:=jr2 (by omega) r1
   rw[e];exact g3.2.2.2.trans (g3.2.1.trans this.2.1)
  ·rw[e'] at g3
   have:=jr2 (by omega) r1
   rw[e]
   exact⟨fun b cs hb=>⟨cs,by rw[g3.2.2.1];exact g3.1 b cs (by rw[this.1];exact hb),rfl⟩,fun b o hb=>⟨o,by rw[g3.2.2.2,g3.2.1,this.2.1];exact hb,rfl⟩⟩
  ·rw[e'] at g3
   have:=jr2 (by omega) r1
   rw[e]
   exact⟨fun b cs hb=>⟨cs,by rw[g3.2.2.1,g3.1,this.1];exact hb,rfl⟩,fun b o hb=>⟨o,by rw[g3.2.2.2];exact g3.2.1 b o (by rw[this.2.1];exact hb),rfl⟩⟩
  ·have:=jr2 (by omega) g3;exact hok_eq this.2.2.1 this.2.2.2
  ·rw[e'] at g3
   have:=jr2 (by omega) r1
   rw[e];exact g3.2.2.2.trans (g3.2.1.trans this.2.1)
  ·have:=jr2 (by omega) g3;exact hok_eq this.2.2.1 this.2.2.2
  ·rw[e'] at g3
   have:=jr2 (by omega) r1
   rw[e]
   refine⟨fun b cs hb=>?_,fun b o hb=>⟨o,by rw[g3.2.2.2,g3.2.1,this.2.1];exact hb,rfl⟩⟩
   rw[g3.2.2.1];exact same_fwd _ g3.1 (by rw[this.1];exact hb)
  ·rw[e'] at g3
   have:=jr2 (by omega) r1
   rw[e]
   refine⟨fun b cs hb=>?_,fun b o hb=>?_⟩
   ·rw[g3.2.2.1];exact same_fwd _ g3.1 (by rw[this.1];exact hb)
   ·rw[g3.2.2.2];exact same_fwd _ g3.2.1 (by rw[this.2.1];exact hb)
  ·have:=jr2 (by omega) g3;exact hok_eq this.2.2.1 this.2.2.2
  ·have:=jr2 (by omega) g3;exact hok_eq this.2.2.1 this.2.2.2
  ·rw[e'] at g3;exact hok_eq g3.2.2.1 g3.2.2.2
  ·rw[e'] at g3;exact hok_eq g3.2.2.1 g3.2.2.2
  ·rw[e'] at g3
   have:=jr2 (by omega) r1
   rw[e]
   exact⟨fun b cs hb=>⟨cs,by rw[g3.2.2.1,g3.1,this.1];exact hb,rfl⟩,fun b o hb=>by rw[g3.2.2.2];exact g3.2.1 b o (by rw[this.2.1];exact hb)⟩
 obtain⟨t2,k1,k2,k3⟩:=jt0 (s2:=t1) p (fun t ht=>by rw[g2 t,if_neg (fun hw=>a2 t hw ht)]) hp h1
 refine⟨t1,t2,g1,k1,fun t=>?_,?_⟩
 ·rw[k2 t]
  by_cases hw:t∈wr p.op
  ·rw[if_pos hw,f2 t (a1 t hw).2]
  ·rw[if_neg hw,g2 t]
   by_cases hw2:t∈wr x.op
   ·rw[if_pos hw2]
   ·rw[if_neg hw2,f2 t hw2,f1 t hw]
 · -- the boxes
  rcases ok_le hc with e|e|⟨e,e'⟩|⟨e,e'⟩|⟨e,e'⟩|⟨e,e'⟩|⟨e,e'⟩|⟨e,e'⟩|⟨e,e'⟩|⟨e,e'⟩|⟨e,e'⟩|⟨e,e'⟩|⟨e,e'⟩|⟨e,e'⟩|⟨e,e'⟩|⟨e,e'⟩
  ·have q1:=jr2 (by omega) r1
   have q2:=jr2 (by omega) k3
   have q3:=res_eq g3 q1.1.symm q1.2.1.symm
   exact⟨q2.2.2.1.trans q3.1,q2.2.2.2.trans q3.2⟩
  ·have q2:=jr2 (by omega) g3
   have q3:=res_eq k3 q2.2.2.1 q2.2.2.2
   exact⟨q3.1.trans q2.1.symm,q3.2.trans q2.2.1.symm⟩
  ·have q2:=jr2 (by omega) g3
   have q3:=res_eq k3 q2.2.2.1 q2.2.2.2
   exact⟨q3.1.trans q2.1.symm,q3.2.trans q2.2.1.symm⟩
  ·have q1:=jr2 (by omega) r1
   have q2:=jr2 (by omega) k3
   have q3:=res_eq g3 q1.1.symm q1.2.1.symm
   exact⟨q2.2.2.1.trans q3.1,q2.2.2.2.trans q3.2⟩
  ·have q1:=jr2 (by omega) r1
   have q2:=jr2 (by omega) k3
   have q3:=res_eq g3 q1.1.symm q1.2.1.symm
   exact⟨q2.2.2.1.trans q3.1,q2.2.2.2.trans q3.2⟩
  ·have q1:=jr2 (by omega) r1
   have q2:=jr2 (by omega) k3
   have q3:=res_eq g3 q1.1.symm q1.2.1.symm
   exact⟨q2.2.2.1.trans q3.1,q2.2.2.2.trans q3.2⟩
  ·have q2:=jr2 (by omega) g3
   have q3:=res_eq k3 q2.2.2.1 q2.2.2.2
   exact⟨q3.1.trans q2.1.symm,q3.2.trans q2.2.1.symm⟩
  ·have q1:=jr2 (by omega) r1
   have q2:=jr2 (by omega) k3
   have q3:=res_eq g3 q1.1.symm q1.2.1.symm
   exact⟨q2.2.2.1.trans q3.1,q2.2.2.2.trans q3.2⟩
  ·have q2:=jr2 (by omega) g3
   have q3:=res_eq k3 q2.2.2.1 q2.2.2.2
   exact⟨q3.1.trans q2.1.symm,q3.2.trans q2.2.1.symm⟩
  ·have q1:=jr2 (by omega) r1
   have q2:=jr2 (by omega) k3
   have q3:=res_eq g3 q1.1.symm q1.2.1.symm
   exact⟨q2.2.2.1.trans q3.1,q2.2.2.2.trans q3.2⟩
  ·have q1:=jr2 (by omega) r1
   have q2:=jr2 (by omega) k3
   have q3:=res_eq g3 q1.1.symm q1.2.1.symm
   exact⟨q2.2.2.1.trans q3.1,q2.2.2.2.trans q3.2⟩
  ·have q2:=jr2 (by omega) g3
   have q3:=res_eq k3 q2.2.2.1 q2.2.2.2
   exact⟨q3.1.trans q2.1.symm,q3.2.trans q2.2.1.symm⟩
  ·have q2:=jr2 (by omega) g3
   have q3:=res_eq k3 q2.2.2.1 q2.2.2.2
   exact⟨q3.1.trans q2.1.symm,q3.2.trans q2.2.1.symm⟩
  ·have q2:=g3
   rw[e'] at q2
   have q3:=res_eq k3 q2.2.2.1 q2.2.2.2
   exact⟨q3.1.trans q2.1.symm,q3.2.trans q2.2.1.symm⟩
  ·have q2:=g3
   rw[e'] at q2
   have q3:=res_eq k3 q2.2.2.1 q2.2.2.2
   exact⟨q3.1.trans q2.1.symm,q3.2.trans q2.2.1.symm⟩
  ·have q1:=jr2 (by omega) r1
   have q2:=jr2 (by omega) k3
   have q3:=res_eq g3 q1.1.symm q1.2.1.symm
   exact⟨q2.2.2.1.trans q3.1,q2.2.2.2.trans q3.2⟩
end
end Go.Lw
end

/-! What the functions of package gates come to. -/
section
namespace Go.Lw
open Go
theorem j14f (ins:Int) (ands:List (Int×Int)) (gh:List GObj):callL pg 88 [graphV ins ands] gh=some (I (IntKind.i64.wrap (IntKind.i64.wrap (1+ins)+ands.length)),gh):=by
 rw[jrm (fn:=q44) (s:=⟨[(2,I (IntKind.i64.wrap (IntKind.i64.wrap (1+ins)+ands.length)))],[],gh⟩) (e:= .ret) rfl rfl (qbu_ (by simp[qbu]))]
 simp[finish,results,q44,resOfs,resOf,resOk,argOk,PV.one,PV.noG]
theorem jxu {xs:List Int} {c:Nat} {caps:List PV} {gh:List GObj} {p:Int→Bool} (hc:∀x∈xs,callL pg c (I x::caps) gh=some (B (p x),gh)) (hcap:caps.all argOk=true) (hs:Sz xs.length) :
  ∀k i,i+k=xs.length→runL pg q48 ⟨[(0,LI xs),(1,.fn c caps),(7,I xs.length),(8,I i)],[],gh⟩=
   match (xs.drop i).findIdx? p with
   |some j=>some (.ret,⟨[(4,I ((i+j:Nat)))],[],gh⟩)
   |none=>some (.normal,⟨[],[],gh⟩)
 |0,i,h=>by
  rw[List.drop_eq_nil_of_le (by omega)]
  refine (jqy (s1:=?s1) (q35_ ?h1)).trans ?r1
  case h1=>simp[q35,show i=xs.length by omega];rfl
  case r1=>simp[keep]
 | k+1,i,h=>by
  have hlt:i<xs.length:=by omega
  have hx:xs[i]?=some xs[i]:=List.getElem?_eq_getElem hlt
  rw[List.drop_eq_getElem_cons hlt,List.findIdx?_cons]
  cases hp:p xs[i] with
  |true=>
   refine (lp_ret (s1:=?s2) (q35_ ?h2)).trans ?r2
   case h2=>simp[q35,hlt,hx,jv8 hcap,hc xs[i] (List.getElem_mem hlt),hp];rfl
   case r2=>simp
  | false=>
   refine jqw (s1:=?s3) (q35_ ?h3) ?r3
   case h3=>simp[q35,hlt,hx,jv8 hcap,hc xs[i] (List.getElem_mem hlt),hp];rfl
   case r3=>
    rw[jrj (by omega)]
    refine (jxu hc hcap hs k (i+1) (by omega)).trans ?_
    cases (xs.drop (i+1)).findIdx? p<;>simp
    omega
theorem j14g {xs:List Int} {c:Nat} {caps:List PV} {gh:List GObj} {p:Int→Bool} (hc:∀x∈xs,callL pg c (I x::caps) gh=some (B (p x),gh)) (hcap:caps.all argOk=true) (hs:Sz xs.length) :
  callL pg 111 [LI xs,.fn c caps] gh=some (I (match xs.findIdx? p with|some j=>(j:Int)|none=> -1),gh):=by
 have hl:=jxu hc hcap hs xs.length 0 (by omega)
 simp only[List.drop_zero,Nat.zero_add,Int.natCast_zero] at hl
 cases hf:xs.findIdx? p with
 |some j=>
  rw[hf] at hl
  refine jqs (fn:=q1b) (s:=?s4) rfl rfl (q6t_ ?h4) ?r4
  case h4=>simp[q6t,hl];rfl
  case r4=>simp[finish,results,q1b,resOfs,resOf,resOk,argOk,PV.one,PV.noG]
 |none=>
  rw[hf] at hl
  refine jqs (fn:=q1b) (s:=?s5) rfl rfl (q6t_ ?h5) ?r5
  case h5=>simp[q6t,hl,qps_ (s:=⟨[(4,I (-1))],[],gh⟩) (e:= .ret) rfl];rfl
  case r5=>simp[finish,results,q1b,resOfs,resOf,resOk,argOk,PV.one,PV.noG]
theorem jxv {xs:List Int} {c:Nat} {caps:List PV} {gh:List GObj} {p:Int→Bool} (hc:∀x∈xs,callL pg c (I x::caps) gh=some (B (p x),gh)) (hcap:caps.all argOk=true) (hs:Sz xs.length) :
  callL pg 86 [LI xs,.fn c caps] gh=some (B (xs.any p),gh):=by
 refine jqs (fn:=q47) (s:=?s6) rfl rfl (qbv_ ?h6) ?r6
 case h6=>simp[qbv,j14g hc hcap hs];rfl
 case r6=>
  have:(decide (0≤(match xs.findIdx? p with|some j=>(j:Int)|none=> -1)))=xs.any p:=by
   cases hf:xs.findIdx? p with
   |some j=>
    have:=List.findIdx?_eq_some_iff_getElem.1 hf
    obtain⟨hj,hpj,_⟩:=this
    simp only[Int.natCast_nonneg,decide_true]
    exact (List.any_eq_true.2 ⟨_,List.getElem_mem hj,hpj⟩).symm
   |none=>
    have:=List.findIdx?_eq_none_iff.1 hf
    simp only[show decide ((0:Int)≤ -1)=false by decide]
    exact (List.any_eq_false.2 fun x hx=>by simp[this x hx]).symm
  simp[finish,results,q47,resOfs,resOf,resOk,argOk,PV.one,PV.noG,this]
end Go.Lw
end

/-! Graphs: maps whose keys are Ands, and the check of a graph. -/
section
namespace Go.Lw
open Go
theorem jrx (x:Int×Int):andV x= .agg [I x.1,I x.2]:=rfl
def mapA (l:List ((Int×Int)×PV)):List (PV×PV):=l.map fun e=>(andV e.1,e.2)
def setA:List ((Int×Int)×PV)→Int×Int→PV→List ((Int×Int)×PV)
 |[],k,v=>[(k,v)]
 |(a,u)::l,k,v=>if k=a then (k,v)::l else (a,u)::setA l k v
theorem jxw (x y:Int×Int):sameKey 2 (andV x) (andV y)=some (decide (x=y)):=by
 obtain⟨a,b⟩:=x
 obtain⟨c,d⟩:=y
 by_cases h1:a=c
 ·by_cases h2:b=d<;>simp[sameKey,andV,flatEq,sameCell,h1,h2,List.replicate]
 ·simp[sameKey,andV,flatEq,sameCell,h1,List.replicate]
theorem j14h (l:List ((Int×Int)×PV)) (k:Int×Int) (v:PV):mset 2 (mapA l) (andV k) v=some (mapA (setA l k v)):=by
 induction l with
 |nil=>rfl
 | cons x l ih=>
  obtain⟨a,u⟩:=x
  by_cases h:k=a
  ·simp[mapA,setA,mset,jxw,h]
  ·have:mset 2 (l.map fun e=>(andV e.1,e.2)) (andV k) v=some (mapA (setA l k v)):=ih
   simp[mapA,setA,mset,jxw,h,this]
theorem j14i {l:List ((Int×Int)×PV)} {k:Int×Int} {v:PV} (h:k∉l.map (·.1)):setA l k v=l++[(k,v)]:=by
 induction l with
 |nil=>rfl
 |cons x l ih=>
  obtain⟨a,u⟩:=x
  simp only[List.map_cons,List.mem_cons,not_or] at h
  rw[setA,if_neg h.1,ih h.2];rfl
theorem j14j {l:List ((Int×Int)×PV)} {k:Int×Int} {v:PV} (h:k∈l.map (·.1)):(setA l k v).length=l.length:=by
 induction l with
 |nil=>simp at h
 | cons x l ih=>
  obtain⟨a,u⟩:=x
  rw[setA]
  split
  ·rfl
  ·rename_i hk
   simp only[List.map_cons,List.mem_cons] at h
   simp[ih (h.resolve_left hk)]
theorem jv9 {l:List ((Int×Int)×PV)} {k:Int×Int} {v:PV} (x:Int×Int):x∈(setA l k v).map (·.1)↔x=k∨x∈l.map (·.1):=by
 induction l with
 |nil=>simp[setA]
 | cons y l ih=>
  obtain⟨a,u⟩:=y
  rw[setA]
  split
  ·rename_i hk;subst hk;simp
  ·simp only[List.map_cons,List.mem_cons,ih]
   constructor
   ·rintro (h|h|h)
    ·exact .inr (.inl h)
    ·exact .inl h
    ·exact .inr (.inr h)
   ·rintro (h|h|h)
    ·exact .inr (.inl h)
    ·exact .inl h
    ·exact .inr (.inr h)
def metA:List (Int×Int)→List ((Int×Int)×PV)→List ((Int×Int)×PV)
 |[],m=>m
 |x::l,m=>metA l (setA m x (B true))
theorem jxx:∀(l:List (Int×Int)) (m:List ((Int×Int)×PV)),(metA l m).length≤m.length+l.length∧((metA l m).length=m.length+l.length↔(l.Nodup∧∀x∈l,x∉m.map (·.1)))
 |[],m=>by simp[metA]
 | x ::l,m=>by
  obtain⟨h1,h2⟩:=jxx l (setA m x (B true))
  rw[metA]
  by_cases hx:x∈m.map (·.1)
  ·have hl:=j14j (v:=B true) hx
   rw[hl] at h1 h2
   refine⟨by simp;omega,?_⟩
   constructor
   ·intro h;simp at h;omega
   ·intro h;exact absurd hx (h.2 x (by simp))
  ·have hl:(setA m x (B true)).length=m.length+1:=by rw[j14i hx];simp
   rw[hl] at h1 h2
   refine⟨by simp;omega,?_⟩
   rw[show (x::l).length=l.length+1 from rfl,show m.length+(l.length+1)=m.length+1+l.length by omega,h2,List.nodup_cons]
   constructor
   ·rintro⟨h3,h4⟩
    refine⟨⟨fun hm=>?_,h3⟩,fun y hy=>?_⟩
    ·exact h4 x hm ((jv9 x).2 (.inl rfl))
    ·rcases List.mem_cons.1 hy with rfl|hy
     ·exact hx
     ·exact fun hm=>h4 y hy ((jv9 y).2 (.inr hm))
   ·rintro⟨⟨h3,h4⟩,h5⟩
    refine⟨h4,fun y hy hm=>?_⟩
    rcases (jv9 y).1 hm with rfl|hm
    ·exact h3 hy
    ·exact h5 y (by simp[hy]) hm
def badA (ins:Int) (i:Nat) (x:Int×Int):Prop:=x.2≤x.1∨x.1<2∨2*(1+ins+i)≤x.2∨x.1/2=x.2/2
instance (ins:Int) (i:Nat) (x:Int×Int):Decidable (badA ins i x):=inferInstanceAs (Decidable (_∨_))
def okA (ins:Int):Nat→List (Int×Int)→Bool
 |_,[]=>true
 |i,x::l=>if badA ins i x then false else okA ins (i+1) l
def chkE (ins:Int) (ands:List (Int×Int)):Int:=
 if ¬(0≤ins∧ins≤1000) then 3 else if 1000000<ands.length then 2 else if okA ins 0 ands then (if ands.Nodup then 0 else 6) else 4
theorem tdiv2 {a:Int} (h:0≤a):Int.tdiv a 2=a/2:=Int.tdiv_eq_ediv_of_nonneg h
section
variable {ins:Int} {ands:List (Int×Int)} {gh:List GObj}
theorem j14k (hi:0≤ins∧ins≤1000) (hl:ands.length≤1000000) {i:Nat} (hlt:i<ands.length) (m:List ((Int×Int)×PV)) (hr: -9223372036854775808≤ands[i].1∧ands[i].1≤9223372036854775807) (hr2: -9223372036854775808≤ands[i].2∧ands[i].2≤9223372036854775807) :
  qi pg (.mp gh.length) (.sl false 2 (ands.map andV)) ands.length i ins (.sl false 2 (ands.map andV)) (gh++[.map (mapA m)])=
   if badA ins i ands[i] then some (.ret,⟨[(2,I 4)],[],gh++[.map (mapA m)]⟩)
   else some (.normal,⟨[(1,.ptr false 0 0),(3,.mp gh.length),(20,.sl false 2 (ands.map andV)),(21,I ands.length),(22,I ((i+1:Nat):Int))],[[I ins,.sl false 2 (ands.map andV)]],gh++[.map (mapA (setA m ands[i] (B true)))]⟩):=by
 have e2:IntKind.i64.wrap ((i:Int)+1)=((i+1:Nat):Int):=by rw[jqv (by omega) (by omega)];omega
 have hx:(ands.map andV)[i]?=some (.agg [I ands[i].1,I ands[i].2]):=by simp[List.getElem?_eq_getElem hlt,andV]
 generalize hy:ands[i]=x at *
 obtain⟨a,b⟩:=x
 simp only at hr hr2 hx
 have eN:IntKind.i64.wrap (IntKind.i64.wrap (1+ins)+(i:Int))=1+ins+i:=by
  rw[jqv (n:=1+ins) (by omega) (by omega),jqv (by omega) (by omega)]
 have hltI:(i:Int)<(ands.length:Int):=by omega
 by_cases h1:b≤a
 ·rw[if_pos (show badA ins i (a,b) from .inl h1)]
  simp[qi,hltI,hx,h1,-List.getElem?_map]
 by_cases h2:a<2
 ·rw[if_pos (show badA ins i (a,b) from .inr (.inl h2))]
  simp[qi,hltI,hx,h1,h2,-List.getElem?_map]
 have ea:IntKind.i64.wrap (Int.tdiv a 2)=a/2:=by rw[tdiv2 (by omega),jqv (by omega) (by omega)]
 have eb:IntKind.i64.wrap (Int.tdiv b 2)=b/2:=by rw[tdiv2 (by omega),jqv (by omega) (by omega)]
 by_cases h3:2*(1+ins+i)≤b
 ·rw[if_pos (show badA ins i (a,b) from .inr (.inr (.inl h3)))]
  have h3':1+ins+(i:Int)≤b/2:=by omega
  simp[qi,hltI,hx,h1,h2,eN,eb,h3',-List.getElem?_map]
 have h3':¬1+ins+(i:Int)≤b/2:=by omega
 by_cases h4:a/2=b/2
 ·rw[if_pos (show badA ins i (a,b) from .inr (.inr (.inr h4)))]
  simp[qi,hltI,hx,h1,h2,eN,ea,eb,h3',h4,-List.getElem?_map]
 ·rw[if_neg (show ¬badA ins i (a,b) by rintro (h|h|h|h)<;>contradiction)]
  have hm:=j14h m (a,b) (B true)
  rw[jrx] at hm
  simp[qi,hltI,hx,h1,h2,eN,ea,eb,h3',h4,e2,hm,-List.getElem?_map]
def RA (ands:List (Int×Int)):Prop:=∀x∈ands,(-9223372036854775808≤x.1∧x.1≤9223372036854775807)∧(-9223372036854775808≤x.2∧x.2≤9223372036854775807)
def chkSt (gh:List GObj) (ins:Int) (ands:List (Int×Int)) (m:List ((Int×Int)×PV)) (i:Nat):St:=
 ⟨[(1,.ptr false 0 0),(3,.mp gh.length),(20,.sl false 2 (ands.map andV)),(21,I ands.length),(22,I (i:Int))],[[I ins,.sl false 2 (ands.map andV)]],gh++[.map (mapA m)]⟩
theorem jxy (hi:0≤ins∧ins≤1000) (hl:ands.length≤1000000) (hr:RA ands):∀k i m,i+k=ands.length→
  (okA ins i (ands.drop i)=true→runL pg q29 (chkSt gh ins ands m i)=some (.normal,⟨[(1,.ptr false 0 0),(3,.mp gh.length)],[[I ins,.sl false 2 (ands.map andV)]],gh++[.map (mapA (metA (ands.drop i) m))]⟩))∧
  (okA ins i (ands.drop i)=false→∃m',runL pg q29 (chkSt gh ins ands m i)=some (.ret,⟨[(2,I 4)],[],gh++[.map (mapA m')]⟩))
 |0,i,m,h=>by
  rw[List.drop_eq_nil_of_le (by omega)]
  refine⟨fun _=>?_,fun h=>by simp[okA] at h⟩
  have hlt:¬(i:Int)<(ands.length:Int):=by omega
  refine (jqy (s1:=?s1) (qi_ ?h1)).trans ?r1
  case h1=>simp only[qi,decide_eq_false hlt,jr9];rfl
  case r1=>rfl
 | k+1,i,m,h=>by
  have hlt:i<ands.length:=by omega
  have hx:=hr ands[i] (List.getElem_mem hlt)
  have hb:=j14k (gh:=gh) hi hl hlt m hx.1 hx.2
  rw[List.drop_eq_getElem_cons hlt,okA]
  by_cases hbad:badA ins i ands[i]
  ·rw[if_pos hbad] at hb ⊢
   exact⟨fun h=>(by cases h),fun _=>⟨m,lp_ret (qi_ hb)⟩⟩
  ·rw[if_neg hbad] at hb ⊢
   obtain⟨g1,g2⟩:=jxy hi hl hr k (i+1) (setA m ands[i] (B true)) (by omega)
   refine⟨fun h=>?_,fun h=>?_⟩
   ·exact jqw (qi_ hb) (g1 h)
   ·obtain⟨m',g⟩:=g2 h
    exact⟨m',jqw (qi_ hb) g⟩
theorem j14l (hr:RA ands):callL pg 6 [graphV ins ands] gh=some (I (chkE ins ands),gh):=by
 by_cases h1:ins<0
 ·refine jqs (fn:=q9) (s:=?s1) rfl rfl (qt_ ?h1) ?r1
  case h1=>simp[qt,h1];rfl
  case r1=>
   have e:chkE ins ands=3:=by unfold chkE;rw[if_pos (by omega)]
   simp[finish,results,q9,resOfs,resOf,resOk,e]
 by_cases h2:1000<ins
 ·refine jqs (fn:=q9) (s:=?s2) rfl rfl (qt_ ?h2) ?r2
  case h2=>simp[qt,h1,h2];rfl
  case r2=>
   have e:chkE ins ands=3:=by unfold chkE;rw[if_pos (by omega)]
   simp[finish,results,q9,resOfs,resOf,resOk,e]
 have hi:0≤ins∧ins≤1000:=by omega
 by_cases h3:1000000<ands.length
 ·have h3':(1000000:Int)<(ands.length:Int):=by omega
  refine jqs (fn:=q9) (s:=?s3) rfl rfl (qt_ ?h3) ?r3
  case h3=>simp[qt,h1,h2,h3'];rfl
  case r3=>simp[finish,results,q9,resOfs,resOf,resOk,chkE,hi,h3]
 have h3':¬(1000000:Int)<(ands.length:Int):=by omega
 obtain⟨g1,g2⟩:=jxy (gh:=gh) hi (by omega) hr ands.length 0 [] (by omega)
 rw[List.drop_zero] at g1 g2
 unfold chkSt at g1 g2
 have hm0:mapA []=[]:=rfl
 rw[hm0] at g1 g2
 simp only[Int.natCast_zero] at g1 g2
 cases hok:okA ins 0 ands with
 |false=>
  obtain⟨m',g⟩:=g2 hok
  refine jqs (fn:=q9) (s:=?s4) rfl rfl (qt_ ?h4) ?r4
  case h4=>simp[qt,h1,h2,h3',g];rfl
  case r4=>simp[finish,results,q9,resOfs,resOf,resOk,chkE,hi,h3,hok]
 | true=>
  have g:=g1 hok
  obtain⟨l1,l2⟩:=jxx ands []
  simp only[List.length_nil,Nat.zero_add,List.map_nil,List.not_mem_nil,not_false_eq_true,implies_true,and_true] at l1 l2
  have hml:(mapA (metA ands [])).length=(metA ands []).length:=by simp[mapA]
  by_cases hnd:ands.Nodup
  ·have hlen:=l2.2 hnd
   have hk:=q6v_ (pg:=pg) (gh:=gh++[.map (mapA (metA ands []))]) (v3:= .mp gh.length) (xc0_0:=ins) (vc0_1:= .sl false 2 (ands.map andV)) (e:= .ret) (s:=⟨[(2,I 0)],[],gh++[.map (mapA (metA ands []))]⟩)
    (by simp[q6v,hml,hlen])
   refine jqs (fn:=q9) (s:=?s5) rfl rfl (qt_ ?h5) ?r5
   case h5=>simp[qt,h1,h2,h3',g,hk];rfl
   case r5=>simp[finish,results,q9,resOfs,resOf,resOk,chkE,hi,h3,hok,hnd]
  ·have hlen:(metA ands []).length<ands.length:=by
    rcases Nat.lt_or_ge (metA ands []).length ands.length with h|h
    ·exact h
    ·exact absurd (l2.1 (by omega)) hnd
   have hk:=q6v_ (pg:=pg) (gh:=gh++[.map (mapA (metA ands []))]) (v3:= .mp gh.length) (xc0_0:=ins) (vc0_1:= .sl false 2 (ands.map andV)) (e:= .ret) (s:=⟨[(2,I 6)],[],gh++[.map (mapA (metA ands []))]⟩)
    (by simp[q6v,hml,hlen])
   refine jqs (fn:=q9) (s:=?s6) rfl rfl (qt_ ?h6) ?r6
   case h6=>simp[qt,h1,h2,h3',g,hk];rfl
   case r6=>simp[finish,results,q9,resOfs,resOf,resOk,chkE,hi,h3,hok,hnd]
theorem jtw (h:chkE ins ands=0):(0≤ins∧ins≤1000)∧ands.length≤1000000∧okA ins 0 ands=true∧ands.Nodup:=by
 unfold chkE at h
 repeat' split at h
 all_goals first|(cases h;done)|skip
 rename_i h1 h2 h3 h4
 exact⟨Classical.not_not.1 h1,by omega,h3,h4⟩
def nodesOf (ins:Int) (ands:List (Int×Int)):Int:=1+ins+ands.length
theorem j14m (hi:0≤ins∧ins≤1000) (hl:ands.length≤1000001):callL pg 88 [graphV ins ands] gh=some (I (nodesOf ins ands),gh):=by
 rw[j14f,jqv (n:=1+ins) (by omega) (by omega),jqv (by omega) (by omega)];rfl
def isLit (ins:Int) (ands:List (Int×Int)) (n:Int):Bool:=decide (0≤n∧n<2*nodesOf ins ands)
theorem Is1_eq (hi:0≤ins∧ins≤1000) (hl:ands.length≤1000000) (n:Int) {b:Nat} (hb:gh[b]?=some (.cells [I ins,.sl false 2 (ands.map andV)])):callL pg 85 [I n,.ptr true b 0] gh=some (B (!isLit ins ands n),gh):=by
 have hN:nodesOf ins ands=1+ins+ands.length:=rfl
 by_cases h0:n<0
 ·refine jqs (fn:=q18) (s:=?s1) rfl rfl (q6w_ ?h1) ?r1
  case h1=>simp[q6w,h0];rfl
  case r1=>
   have:isLit ins ands n=false:=by unfold isLit;rw[decide_eq_false_iff_not];omega
   simp[finish,results,q18,resOfs,resOf,resOk,this]
 ·have ew:IntKind.i64.wrap (2*nodesOf ins ands)=2*nodesOf ins ands:=jqv (by omega) (by omega)
  have hN2:=j14m (gh:=gh) hi (show ands.length≤1000001 by omega)
  unfold graphV at hN2
  refine jqs (fn:=q18) (s:=?s2) rfl rfl (q6w_ ?h2) ?r2
  case h2=>simp[q6w,h0,hb,hN2,ew];rfl
  case r2=>
   have:(!isLit ins ands n)=decide (2*nodesOf ins ands≤n):=by
    unfold isLit
    by_cases h:2*nodesOf ins ands≤n
    ·rw[decide_eq_true h,decide_eq_false (by omega)];rfl
    ·rw[decide_eq_false h,decide_eq_true (by omega)];rfl
   simp[finish,results,q18,resOfs,resOf,resOk,this]
theorem Is_eq (hi:0≤ins∧ins≤1000) (hl:ands.length≤1000000) {lits:List Int} (hs:Sz lits.length):callL pg 47 [graphV ins ands,LI lits] gh=some (B (lits.all (isLit ins ands)),gh):=by
 have hc:∀x∈lits,callL pg 85 (I x::[.ptr true gh.length 0]) (gh++[.cells [I ins,.sl false 2 (ands.map andV)]])=some (B (!isLit ins ands x),gh++[.cells [I ins,.sl false 2 (ands.map andV)]]):=
  fun x _=>Is1_eq hi hl x (by simp)
 have:=jxv (caps:=[.ptr true gh.length 0]) hc (by simp) hs
 refine jqs (fn:=q43) (s:=?s1) rfl rfl (qbw_ ?h1) ?r1
 case h1=>simp[qbw,this];rfl
 case r1=>
  have e:(!lits.any fun x=> !isLit ins ands x)=lits.all (isLit ins ands):=by
   rw[List.not_any_eq_all_not];simp
  simp[finish,results,q43,resOfs,resOf,resOk,←e]
end
end Go.Lw
end

/-! Ands of a graph: what the program makes. -/
section
namespace Go.Lw
open Go
def atA:List (Int×Int)→Int×Int→Option Nat
 |[],_=>none
 |y::l,x=>if x=y then some 0 else (atA l x).map (· +1)
theorem atA_none {l:List (Int×Int)} {x:Int×Int}:atA l x=none↔x∉l:=by
 induction l with
 |nil=>simp[atA]
 | cons y l ih=>
  rw[atA]
  split
  ·rename_i h;subst h;simp
  ·rename_i h
   simp[ih,h]
section
variable {gh:List GObj} {x y z:GObj}
end
section
variable {ins:Int} {ands:List (Int×Int)} {gh:List GObj}
end
end Go.Lw
end

/-! What the nodes of a graph are: what the program makes. -/
section
namespace Go.Lw
open Go
@[simp] theorem noG_ep (e : PV) (o : Nat) : PV.noG (.ep e o) = e.noG := rfl
section
variable {gh:List GObj}
end
end Go.Lw
end

/-! What the functions of package word come to. -/
section
namespace Go.Lw
open Go
def takesOf (k:Int):Int:=
 if k<4 then 0 else if k<6 then 1 else if k<19 then 2 else if k=19 then 3 else if k=20 then 2 else if k<24 then 1 else 0
def wOk (k i w:Int):Prop:=if i<takesOf k then 1≤w∧w≤8 else w=0
instance (k i w:Int):Decidable (wOk k i w):=inferInstanceAs (Decidable (if i<takesOf k then 1≤w∧w≤8 else w=0))
end Go.Lw
end

/-! What the document's functions of words come to. -/
section
namespace Go.Lw
open Go
theorem jrz (n a b:Int) (gh:List GObj):callL pg 50 [I n,I a,I b] gh=some (B (decide (a≤n∧n≤b)),gh):=by
 by_cases h:a≤n
 ·refine jqs (fn:=q1g) (s:=?s1) rfl rfl (q6x_ ?h1) ?r1
  case h1=>simp[q6x,h];rfl
  case r1=>simp[finish,results,q1g,resOfs,resOf,resOk,h]
 ·refine jqs (fn:=q1g) (s:=?s2) rfl rfl (q6x_ ?h2) ?r2
  case h2=>simp[q6x,h];rfl
  case r2=>simp[finish,results,q1g,resOfs,resOf,resOk,h]
end Go.Lw
end

/-! What must be of gates in any case; the document's graphs. -/
section
namespace Go.Lw
open Go
section
variable {ins:Int} {ands:List (Int×Int)} {gh:List GObj}
theorem flat2 (x:Int×Int) (a b:Int):flatEq [false,false] [I x.1,I x.2] [I a,I b]=some (decide (x=(a,b))):=by
 obtain⟨c,d⟩:=x
 by_cases h1:c=a
 ·by_cases h2:d=b<;>simp[flatEq,sameCell,h1,h2]
 ·simp[flatEq,sameCell,h1]
theorem jxz {a b:Int} {f:Nat} (hf:f≤ands.length) (hl:ands.length≤1000000):∀k i,i+k=f→
  runL pg q52 ⟨[(1,I f),(3,.ptr false 0 0),(5,.ptr false 1 0),(7,I (i:Int))],[[I ins,.sl false 2 (ands.map andV)],[I a,I b]],gh⟩=
   match atA ((ands.take f).drop i) (a,b) with
   |some j=>some (.ret,⟨[(6,I ((i+j:Nat):Int))],[],gh⟩)
   |none=>some (.normal,⟨[],[],gh⟩)
 |0,i,h=>by
  rw[List.drop_eq_nil_of_le (by simp;omega)]
  have hlt:¬(i:Int)<(f:Int):=by omega
  refine (jqy (s1:=?s1) (q37_ ?h1)).trans ?r1
  case h1=>simp only[q37,decide_eq_false hlt,jr9];rfl
  case r1=>rfl
 | k+1,i,h=>by
  have hlt:i<ands.length:=by omega
  have hltf:i<(ands.take f).length:=by simp;omega
  have hltI:(i:Int)<(f:Int):=by omega
  have e2:IntKind.i64.wrap ((i:Int)+1)=((i+1:Nat):Int):=by rw[jqv (by omega) (by omega)];omega
  have hg:(ands.map andV)[i]?=some (.agg [I ands[i].1,I ands[i].2]):=by simp[List.getElem?_eq_getElem hlt,andV]
  rw[List.drop_eq_getElem_cons hltf,atA,List.getElem_take]
  have hfl:=flat2 ands[i] a b
  by_cases hx:(a,b)=ands[i]
  ·rw[if_pos hx]
   rw[decide_eq_true hx.symm] at hfl
   refine lp_ret (q37_ ?_)
   simp[q37,hltI,hg,hfl,-List.getElem?_map]
  ·rw[if_neg hx]
   rw[decide_eq_false (fun h=>hx h.symm)] at hfl
   refine jqw (s1:=⟨[(1,I f),(3,.ptr false 0 0),(5,.ptr false 1 0),(7,I ((i+1:Nat):Int))],[[I ins,.sl false 2 (ands.map andV)],[I a,I b]],gh⟩) (q37_ ?_) ?_
   ·simp[q37,hltI,hg,hfl,e2,-List.getElem?_map]
   ·refine (jxz hf hl k (i+1) (by omega)).trans ?_
    cases atA ((ands.take f).drop (i+1)) (a,b) with
    |none=>rfl
    |some j=>simp;omega
theorem j14n {a b:Int} {f:Nat} (hf:f≤ands.length) (hl:ands.length≤1000000):callL pg 51 [graphV ins ands,I f,.agg [I a,I b]] gh=some (I (match atA (ands.take f) (a,b) with|some j=>(j:Int)|none=> -1),gh):=by
 have hlp:=jxz (ins:=ins) (gh:=gh) (a:=a) (b:=b) hf hl f 0 (by omega)
 rw[List.drop_zero] at hlp
 simp only[Nat.zero_add,Int.natCast_zero] at hlp
 cases hat:atA (ands.take f) (a,b) with
 |some j=>
  rw[hat] at hlp
  refine jqs (fn:=q1h) (s:=?s1) rfl rfl (q70_ ?h1) ?r1
  case h1=>simp[q70,hlp];rfl
  case r1=>simp[finish,results,q1h,resOfs,resOf,resOk]
 |none=>
  rw[hat] at hlp
  have hk:=qpx_ (pg:=pg) (gh:=gh) (e:= .ret) (s:=⟨[(6,I (-1))],[],gh⟩) rfl
  refine jqs (fn:=q1h) (s:=?s2) rfl rfl (q70_ ?h2) ?r2
  case h2=>simp[q70,hlp,hk];rfl
  case r2=>simp[finish,results,q1h,resOfs,resOf,resOk]
theorem j14o (hi:0≤ins∧ins≤1000) (hl:ands.length≤1000000) {i:Nat} (hlt:i<ands.length) (hr: -9223372036854775808≤ands[i].1∧ands[i].1≤9223372036854775807) (hr2: -9223372036854775808≤ands[i].2∧ands[i].2≤9223372036854775807) :
  qj pg i ins (.sl false 2 (ands.map andV)) gh=
   if badA ins i ands[i] then some (.ret,⟨[(2,I 4)],[],gh⟩)
   else some (.normal,⟨[(1,.ptr false 0 0),(3,I ((i+1:Nat):Int))],[[I ins,.sl false 2 (ands.map andV)]],gh⟩):=by
 have e2:IntKind.i64.wrap ((i:Int)+1)=((i+1:Nat):Int):=by rw[jqv (by omega) (by omega)];omega
 have hx:(ands.map andV)[i]?=some (.agg [I ands[i].1,I ands[i].2]):=by simp[List.getElem?_eq_getElem hlt,andV]
 generalize hy:ands[i]=x at *
 obtain⟨a,b⟩:=x
 simp only at hr hr2 hx
 have eN:IntKind.i64.wrap (2*IntKind.i64.wrap (IntKind.i64.wrap (1+ins)+(i:Int)))=2*(1+ins+i):=by
  rw[jqv (n:=1+ins) (by omega) (by omega),jqv (n:=1+ins+i) (by omega) (by omega),jqv (by omega) (by omega)]
 have hltI:(i:Int)<(ands.length:Int):=by omega
 by_cases h1:b≤a
 ·rw[if_pos (show badA ins i (a,b) from .inl h1)]
  simp[qj,hlt,hx,hy,jrx,h1,-List.getElem?_map]
 by_cases h2:a<2
 ·rw[if_pos (show badA ins i (a,b) from .inr (.inl h2))]
  simp[qj,hlt,hx,hy,jrx,h1,h2,-List.getElem?_map]
 have ea:IntKind.i64.wrap (Int.tdiv a 2)=a/2:=by rw[tdiv2 (by omega),jqv (by omega) (by omega)]
 have eb:IntKind.i64.wrap (Int.tdiv b 2)=b/2:=by rw[tdiv2 (by omega),jqv (by omega) (by omega)]
 by_cases h3:2*(1+ins+i)≤b
 ·rw[if_pos (show badA ins i (a,b) from .inr (.inr (.inl h3)))]
  simp[qj,hlt,hx,hy,jrx,h1,h2,eN,h3,-List.getElem?_map]
 by_cases h4:a/2=b/2
 ·rw[if_pos (show badA ins i (a,b) from .inr (.inr (.inr h4)))]
  simp[qj,hlt,hx,hy,jrx,h1,h2,eN,ea,eb,h3,h4,-List.getElem?_map]
 ·rw[if_neg (show ¬badA ins i (a,b) by rintro (h|h|h|h)<;>contradiction)]
  simp[qj,hlt,hx,hy,jrx,h1,h2,eN,ea,eb,h3,h4,e2,-List.getElem?_map]
theorem jy0 (hi:0≤ins∧ins≤1000) (hl:ands.length≤1000000) (hr:RA ands):∀k i,i+k=ands.length→
  runL pg q4q ⟨[(1,.ptr false 0 0),(3,I (i:Int))],[[I ins,.sl false 2 (ands.map andV)]],gh⟩=
  if okA ins i (ands.drop i) then some (.normal,⟨[(1,.ptr false 0 0)],[[I ins,.sl false 2 (ands.map andV)]],gh⟩) else some (.ret,⟨[(2,I 4)],[],gh⟩)
 |0,i,h=>by
  rw[List.drop_eq_nil_of_le (by omega),okA,if_pos rfl]
  have hlt:¬i<ands.length:=by omega
  refine (jqy (s1:=?s1) (qj_ ?h1)).trans ?r1
  case h1=>simp[qj,hlt];rfl
  case r1=>simp[keep]
 | k+1,i,h=>by
  have hlt:i<ands.length:=by omega
  have hx:=hr ands[i] (List.getElem_mem hlt)
  have hb:=j14o (gh:=gh) hi hl hlt hx.1 hx.2
  rw[List.drop_eq_getElem_cons hlt,okA]
  by_cases hbad:badA ins i ands[i]
  ·rw[if_pos hbad] at hb ⊢
   exact lp_ret (qj_ hb)
  ·rw[if_neg hbad] at hb ⊢
   exact jqw (qj_ hb) (jy0 hi hl hr k (i+1) (by omega))
theorem jy1 (hl:ands.length≤1000000):∀k i,i+k=ands.length→(ands.take i).Nodup→
  runL pg q4r ⟨[(1,.ptr false 0 0),(6,I (i:Int))],[[I ins,.sl false 2 (ands.map andV)]],gh⟩=
  if ands.Nodup then some (.normal,⟨[],[],gh⟩) else some (.ret,⟨[(2,I 6)],[],gh⟩)
 |0,i,h,hn=>by
  rw[List.take_of_length_le (by omega)] at hn
  rw[if_pos hn]
  have hlt:¬i<ands.length:=by omega
  refine (jqy (s1:=?s1) (q36_ ?h1)).trans ?r1
  case h1=>simp[q36,hlt];rfl
  case r1=>simp[keep]
 | k+1,i,h,hn=>by
  have hlt:i<ands.length:=by omega
  have e2:IntKind.i64.wrap ((i:Int)+1)=((i+1:Nat):Int):=by rw[jqv (by omega) (by omega)];omega
  have hx:(ands.map andV)[i]?=some (.agg [I ands[i].1,I ands[i].2]):=by simp[List.getElem?_eq_getElem hlt,andV]
  have hat:=j14n (ins:=ins) (gh:=gh) (a:=ands[i].1) (b:=ands[i].2) (f:=i) (by omega) hl
  unfold graphV at hat
  have htake:ands.take (i+1)=ands.take i++[ands[i]]:=by rw[List.take_add_one,List.getElem?_eq_getElem hlt];rfl
  cases hf:atA (ands.take i) (ands[i].1,ands[i].2) with
  | some j=>
   rw[hf] at hat
   have hmem:ands[i]∈ands.take i:=by
    apply Classical.byContradiction
    intro hm
    rw[atA_none.2 (show (ands[i].1,ands[i].2)∉ands.take i from hm)] at hf;cases hf
   have hnd:¬ands.Nodup:=by
    intro hnd
    have:=hnd.sublist (List.take_sublist (i+1) ands)
    rw[htake,List.nodup_append] at this
    exact this.2.2 _ hmem _ (by simp) rfl
   rw[if_neg hnd]
   have hj:(0:Int)≤(j:Int):=by omega
   refine lp_ret (q36_ ?_)
   simp[q36,hlt,hx,jrx,hat,-List.getElem?_map]
  | none=>
   rw[hf] at hat
   have hmem:ands[i]∉ands.take i:=atA_none.1 hf
   refine jqw (s1:=⟨[(1,.ptr false 0 0),(6,I ((i+1:Nat):Int))],[[I ins,.sl false 2 (ands.map andV)]],gh⟩) (q36_ ?_) (jy1 hl k (i+1) (by omega) ?_)
   ·simp[q36,hlt,hx,jrx,hat,e2,-List.getElem?_map]
   ·rw[htake,List.nodup_append]
    exact⟨hn,by simp,fun x hx y hy hxy=>by simp at hy;subst hy;subst hxy;exact hmem hx⟩
theorem j14p (hr:RA ands):callL pg 2 [graphV ins ands] gh=some (I (chkE ins ands),gh):=by
 by_cases hi:0≤ins∧ins≤1000
 ·by_cases h3:1000000<ands.length
  ·have h3':(1000000:Int)<(ands.length:Int):=by omega
   have e:chkE ins ands=2:=by unfold chkE;rw[if_neg (fun h=>h hi),if_pos h3]
   refine jqs (fn:=qc) (s:=?s3) rfl rfl (q12_ ?h3) ?r3
   case h3=>simp[q12,jrz,hi,h3'];rfl
   case r3=>simp[finish,results,qc,resOfs,resOf,resOk,e]
  ·have h3':¬(1000000:Int)<(ands.length:Int):=by omega
   have g1:=jy0 (gh:=gh) hi (by omega) hr ands.length 0 (by omega)
   rw[List.drop_zero] at g1
   simp only[Int.natCast_zero] at g1
   cases hok:okA ins 0 ands with
   |false=>
    rw[hok] at g1
    have e:chkE ins ands=4:=by unfold chkE;rw[if_neg (fun h=>h hi),if_neg h3,hok];rfl
    refine jqs (fn:=qc) (s:=?s4) rfl rfl (q12_ ?h4) ?r4
    case h4=>simp[q12,jrz,hi,h3',g1];rfl
    case r4=>simp[finish,results,qc,resOfs,resOf,resOk,e]
   | true=>
    rw[hok,if_pos rfl] at g1
    have g2:=jy1 (ins:=ins) (gh:=gh) (show ands.length≤1000000 by omega) ands.length 0 (by omega) (by simp)
    simp only[Int.natCast_zero] at g2
    have hk2:=qpw_ (pg:=pg) (gh:=gh) (e:= .ret) (s:=⟨[(2,I 0)],[],gh⟩) rfl
    by_cases hnd:ands.Nodup
    ·rw[if_pos hnd] at g2
     have e:chkE ins ands=0:=by unfold chkE;rw[if_neg (fun h=>h hi),if_neg h3,hok,if_pos rfl,if_pos hnd]
     have hk1:=q6y_ (pg:=pg) (gh:=gh) (xc0_0:=ins) (vc0_1:= .sl false 2 (ands.map andV)) (e:= .ret) (s:=⟨[(2,I 0)],[],gh⟩) (by simp[q6y,g2,hk2])
     refine jqs (fn:=qc) (s:=?s5) rfl rfl (q12_ ?h5) ?r5
     case h5=>simp[q12,jrz,hi,h3',g1,hk1];rfl
     case r5=>simp[finish,results,qc,resOfs,resOf,resOk,e]
    ·rw[if_neg hnd] at g2
     have e:chkE ins ands=6:=by unfold chkE;rw[if_neg (fun h=>h hi),if_neg h3,hok,if_pos rfl,if_neg hnd]
     have hk1:=q6y_ (pg:=pg) (gh:=gh) (xc0_0:=ins) (vc0_1:= .sl false 2 (ands.map andV)) (e:= .ret) (s:=⟨[(2,I 6)],[],gh⟩) (by simp[q6y,g2])
     refine jqs (fn:=qc) (s:=?s6) rfl rfl (q12_ ?h6) ?r6
     case h6=>simp[q12,jrz,hi,h3',g1,hk1];rfl
     case r6=>simp[finish,results,qc,resOfs,resOf,resOk,e]
 ·have e:chkE ins ands=3:=by unfold chkE;rw[if_pos hi]
  refine jqs (fn:=qc) (s:=?s1) rfl rfl (q12_ ?h1) ?r1
  case h1=>simp[q12,jrz,hi];rfl
  case r1=>simp[finish,results,qc,resOfs,resOf,resOk,e]
theorem jy2 (hi:0≤ins∧ins≤1000) (hl:ands.length≤1000000) (n:Int):callL pg 3 [graphV ins ands,I n] gh=some (B (isLit ins ands n),gh):=by
 have ew:IntKind.i64.wrap (IntKind.i64.wrap (2*IntKind.i64.wrap (IntKind.i64.wrap (1+ins)+(ands.length:Int)))-1)=2*nodesOf ins ands-1:=by
  unfold nodesOf
  rw[jqv (n:=1+ins) (by omega) (by omega),jqv (n:=1+ins+ands.length) (by omega) (by omega),jqv (n:=2*(1+ins+ands.length)) (by omega) (by omega),jqv (by omega) (by omega)]
 have e:(decide (0≤n∧n≤2*nodesOf ins ands-1))=isLit ins ands n:=by
  unfold isLit
  rw[Bool.eq_iff_iff,decide_eq_true_eq,decide_eq_true_eq];omega
 have hb:=jrz n 0 (2*nodesOf ins ands-1) gh
 rw[e] at hb
 refine jqs (fn:=q4u) (s:=⟨[(4,B (isLit ins ands n))],[],gh⟩) rfl rfl (qbx_ ?h1) ?r1
 case h1=>simp[qbx,ew,hb]
 case r1=>simp[finish,results,q4u,resOfs,resOf,resOk]
end
end Go.Lw
end

/-! Circuits: what the program's Check comes to (slices.DeleteFunc and slices.Concat over stacks). -/
section
namespace Go.Lw
open Go
section
variable {gh:List GObj}
theorem jy3 (x:Int):callL pg 215 [I x] gh=some (B (x== -1),gh):=by
 refine jqs (fn:=q3u) (s:=⟨[(2,B (x== -1))],[],gh⟩) rfl rfl (qby_ ?h1) ?r1
 case h1=>simp[qby]
 case r1=>simp[finish,results,q3u,resOfs,resOf,resOk,get]
theorem jy4 {xs:List Int} {b g:Nat} (hg:gh[b]?=some (.stk g (xs.map I))) (hs:Sz xs.length):∀k i,i+k=xs.length→
  runL pg q2b ⟨[(0,.stk b g xs.length),(1,.fn 215 []),(7,I xs.length),(8,I (i:Nat))],[],gh⟩=
   match (xs.drop i).findIdx? (· == -1) with
   |some j=>some (.ret,⟨[(4,I ((i+j:Nat)))],[],gh⟩)
   |none=>some (.normal,⟨[],[],gh⟩)
 |0,i,h=>by
  rw[List.drop_eq_nil_of_le (by omega)]
  refine (jqy (s1:=?s1) (q1w_ ?h1)).trans ?r1
  case h1=>simp[q1w,show i=xs.length by omega];rfl
  case r1=>simp[keep]
 | k+1,i,h=>by
  have hlt:i<xs.length:=by omega
  have hx:stkGet gh b g i=some (I xs[i]):=by simp[stkGet,hg,hlt]
  have hn:=jy3 (gh:=gh) xs[i]
  rw[List.drop_eq_getElem_cons hlt,List.findIdx?_cons]
  generalize xs[i]=x at *
  cases hp:x== -1 with
  |true=>
   rw[hp] at hn
   refine (lp_ret (s1:=?s2) (q1w_ ?h2)).trans ?r2
   case h2=>simp[q1w,hlt,lkK,hx,hn];rfl
   case r2=>simp
  | false=>
   rw[hp] at hn
   refine jqw (s1:=?s3) (q1w_ ?h3) ?r3
   case h3=>simp[q1w,hlt,lkK,hx,hn];rfl
   case r3=>
    rw[jrj (by omega)]
    refine (jy4 hg hs k (i+1) (by omega)).trans ?_
    cases (xs.drop (i+1)).findIdx? (· == -1)<;>simp
    omega
theorem j14q {xs:List Int} {b g:Nat} (hg:gh[b]?=some (.stk g (xs.map I))) (hs:Sz xs.length) :
  callL pg 208 [.stk b g xs.length,.fn 215 []] gh=some (I (match xs.findIdx? (· == -1) with|some j=>(j:Int)|none=> -1),gh):=by
 have hl:=jy4 hg hs xs.length 0 (by omega)
 simp only[List.drop_zero,Nat.zero_add,Int.natCast_zero] at hl
 cases hf:xs.findIdx? (· == -1) with
 |some j=>
  rw[hf] at hl
  refine jqs (fn:=qm) (s:=?s4) rfl rfl (q3b_ ?h4) ?r4
  case h4=>simp[q3b,hl];rfl
  case r4=>simp[finish,results,qm,resOfs,resOf,resOk,argOk,PV.one]
 |none=>
  rw[hf] at hl
  refine jqs (fn:=qm) (s:=?s5) rfl rfl (q3b_ ?h5) ?r5
  case h5=>simp[q3b,hl,qq1_ (s:=⟨[(4,I (-1))],[],gh⟩) (e:= .ret) rfl];rfl
  case r5=>simp[finish,results,qm,resOfs,resOf,resOk,argOk,PV.one]
theorem j14r {o:Bool}:callL pg 208 [.sl o 1 [],.fn 215 []] gh=some (I (-1),gh):=by
 have hl:runL pg q2b ⟨[(0,.sl o 1 []),(1,.fn 215 []),(7,I 0),(8,I 0)],[],gh⟩=some (.normal,⟨[],[],gh⟩):=by
  refine (jqy (s1:=?s1) (q1w_ ?h1)).trans ?r1
  case h1=>simp[q1w];rfl
  case r1=>simp[keep]
 refine jqs (fn:=qm) (s:=?s5) rfl rfl (q3b_ ?h5) ?r5
 case h5=>simp[q3b,hl,qq1_ (s:=⟨[(4,I (-1))],[],gh⟩) (e:= .ret) rfl];rfl
 case r5=>simp[finish,results,qm,resOfs,resOf,resOk,argOk,PV.one]
abbrev dfSt (b g n i j:Nat) (gh:List GObj):St:=⟨[(0,.stk b g n),(1,.fn 215 []),(5,I i),(6,I j)],[],gh⟩
theorem df_k1 {b g n i j:Nat} (hs:Sz j):runL pg q1c (dfSt b g n i j gh)=some (.normal,dfSt b g n i (j+1) gh):=by
 have hw:IntKind.i64.wrap ((j:Int)+1)=((j+1:Nat):Int):=jrj hs
 exact qbz_ (by simp[qbz,hw])
theorem jva {xs:List Int} {b g:Nat} (hs:Sz (xs.length+1)):∀(k:Nat) (j i:Nat) (zs:List Int) (gh:List GObj),b<gh.length→gh[b]?=some (.stk g (zs.map I))→j+k=xs.length→zs.length=xs.length→i≤j→zs.take i=(xs.take j).filter (· != -1)→zs.drop j=xs.drop j→
  ∃(i':Nat) (zs':List Int),runL pg q4b (dfSt b g xs.length i j gh)=some (.normal,⟨[(0,.stk b g xs.length),(5,I i')],[],gh.set b (.stk g (zs'.map I))⟩)∧zs'.length=xs.length∧i'≤xs.length∧zs'.take i'=xs.filter (· != -1)
 | 0,j,i,zs,gh,hb,hg,h,hz,hij,ht,hd=>by
  refine⟨i,zs,?_,hz,by omega,?_⟩
  ·have hlt:¬j<xs.length:=by omega
   have e:gh.set b (.stk g (zs.map I))=gh:=by
    refine List.ext_getElem? fun q=>?_
    rw[List.getElem?_set]
    split
    ·rename_i hq;subst hq;exact hg.symm
    ·rfl
   rw[e]
   refine (jqy (s1:=?s1) (q39_ ?h1)).trans ?r1
   case h1=>simp[q39,hlt];rfl
   case r1=>simp[keep,stays]
  ·rw[ht,show j=xs.length by omega,List.take_length]
 | k +1,j,i,zs,gh,hb,hg,h,hz,hij,ht,hd=>by
  have hlt:j<xs.length:=by omega
  have hzj:zs[j]?=some xs[j]:=by
   have:=congrArg (fun l=>l[0]?) hd
   simpa [hlt] using this
  have hx:stkGet gh b g j=some (I xs[j]):=by simp[stkGet,hg,hzj]
  have hn:=jy3 (gh:=gh) xs[j]
  have hT:(xs.take (j+1)).filter (· != -1)=(xs.take j).filter (· != -1)++(if xs[j]== -1 then [] else [xs[j]]):=by
   rw[List.take_succ_eq_append_getElem hlt,List.filter_append]
   congr 1
   cases hq:xs[j]== -1 with
   |true=>simp only[beqI,decide_eq_true_eq] at hq;simp[hq]
   |false=>simp only[beqI,decide_eq_false_iff_not] at hq;simp[hq]
  have hD:xs.drop j=xs[j]::xs.drop (j+1):=List.drop_eq_getElem_cons hlt
  have hsj:Sz j:=by simp only[Sz] at hs ⊢;omega
  generalize xs[j]=x at *
  cases hp:x== -1 with
  | true=>
   rw[hp] at hn
   have hk:=df_k1 (gh:=gh) (b:=b) (g:=g) (n:=xs.length) (i:=i) (j:=j) hsj
   obtain⟨i',zs',e1,e2,e3,e4⟩:=jva (xs:=xs) (g:=g) hs k (j+1) i zs gh hb hg (by omega) hz (by omega) (by rw[ht,hT,hp];simp) (by
    have:=congrArg List.tail hd
    rw[List.tail_drop] at this
    rw[this,hD];rfl)
   refine⟨i',zs',jqw (s1:=dfSt b g xs.length i (j+1) gh) (q39_ ?h2) e1,e2,e3,e4⟩
   case h2=>simp[q39,hlt,lkK,hx,hn,hk]
  | false=>
   rw[hp] at hn
   have hw:IntKind.i64.wrap ((i:Int)+1)=((i+1:Nat):Int):=jrj (by simp only[Sz] at hs ⊢;omega)
   have hi:i<xs.length:=by omega
   have hst:ghStk gh b=some (g,zs.map I):=by simp[ghStk,hg]
   have hset:(zs.map I).set i (I x)=(zs.set i x).map I:=by rw[List.map_set]
   have hk:=df_k1 (gh:=gh.set b (.stk g ((zs.set i x).map I))) (b:=b) (g:=g) (n:=xs.length) (i:=i+1) (j:=j) hsj
   have hi2:i<zs.length:=by omega
   obtain⟨i',zs',e1,e2,e3,e4⟩:=jva (xs:=xs) (g:=g) hs k (j+1) (i+1) (zs.set i x) (gh.set b (.stk g ((zs.set i x).map I))) (by simpa using hb) (by simp[hb]) (by omega) (by simpa using hz) (by omega)
    (by
     rw[hT,hp,←ht,List.take_set,List.take_succ_eq_append_getElem hi2,List.set_append_right _ _ (by simp;omega)]
     simp[Nat.min_eq_left (Nat.le_of_lt hi2)])
    (by
     rw[List.drop_set,if_pos (by omega)]
     have:=congrArg List.tail hd
     rw[List.tail_drop] at this
     rw[this,hD];rfl)
   refine⟨i',zs',jqw (s1:=dfSt b g xs.length (i+1) (j+1) (gh.set b (.stk g ((zs.set i x).map I)))) (q39_ ?h3) ?_,e2,e3,e4⟩
   case h3=>
    have hiZ:i<(zs.map I).length:=by simpa using hi2
    obtain⟨u,hu⟩:∃u:Int,((i+1:Nat):Int)=u:=⟨_,rfl⟩
    obtain⟨W,hW⟩:∃W,(zs.set i x).map I=W:=⟨_,rfl⟩
    obtain⟨Z,hZ⟩:∃Z,zs.map I=Z:=⟨_,rfl⟩
    rw[hW] at hset
    rw[hu] at hw
    rw[hZ] at hiZ hst hset
    simp only[dfSt,hu,hW] at hk ⊢
    simp[q39,hlt,hi,lkK,hx,hn,hst,hiZ,hset,hw,hk]
   ·rw[List.set_set] at e1
    exact e1
abbrev noNeg (xs:List Int):List Int:=xs.filter (· != -1)
theorem df_eq {xs:List Int} {b g:Nat} (hb:b<gh.length) (hg:gh[b]?=some (.stk g (xs.map I))) (hs:Sz (xs.length+1)) :
  ∃(i:Nat) (zs:List Int),callL pg 343 [.stk b g xs.length,.fn 215 []] gh=some (.stk b g i,gh.set b (.stk g (zs.map I)))∧zs.length=xs.length∧i≤xs.length∧zs.take i=noNeg xs:=by
 have hs':Sz xs.length:=by simp only[Sz] at hs ⊢;omega
 have hi:=j14q hg hs'
 cases hf:xs.findIdx? (· == -1) with
 | none=>
  rw[hf] at hi
  simp only at hi
  have hall:noNeg xs=xs:=by
   rw[noNeg,List.filter_eq_self]
   intro x hx
   have:=List.findIdx?_eq_none_iff.1 hf x hx
   simpa [bne] using this
  refine⟨xs.length,xs,?_,rfl,Nat.le_refl _,by rw[List.take_length,hall]⟩
  have e:gh.set b (.stk g (xs.map I))=gh:=by
   refine List.ext_getElem? fun q=>?_
   rw[List.getElem?_set]
   split
   ·rename_i hq;subst hq;exact hg.symm
   ·rfl
  rw[e]
  refine jqs (fn:=qn) (s:=⟨[(4,.stk b g xs.length)],[],gh⟩) rfl rfl (q3a_ ?h1) ?r1
  case h1=>simp[q3a,hi]
  case r1=>simp[finish,results,qn,resOfs,resOf,resOk,get,argOk,PV.one,PV.noG]
 | some j=>
  rw[hf] at hi
  simp only at hi
  obtain⟨hj,hpj,hbe⟩:=List.findIdx?_eq_some_iff_getElem.1 hf
  have hw:IntKind.i64.wrap ((j:Int)+1)=((j+1:Nat):Int):=jrj (by simp only[Sz] at hs ⊢;omega)
  have hT:(xs.take (j+1)).filter (· != -1)=xs.take j:=by
   rw[List.take_succ_eq_append_getElem hj,List.filter_append]
   have e1:(xs.take j).filter (· != -1)=xs.take j:=by
    rw[List.filter_eq_self]
    intro x hx
    obtain⟨q,hq,rfl⟩:=List.getElem_of_mem hx
    have hq':q<j:=by simp at hq;omega
    have:=hbe q hq'
    rw[List.getElem_take]
    simpa [bne] using this
   rw[e1]
   simp only[beqI,decide_eq_true_eq] at hpj
   simp[hpj]
  obtain⟨i',zs,e1,e2,e3,e4⟩:=jva (xs:=xs) (b:=b) (g:=g) hs (xs.length-(j+1)) (j+1) j xs gh hb hg (by omega) rfl (by omega) hT.symm rfl
  have hgz:(gh.set b (.stk g (zs.map I)))[b]?=some (.stk g (zs.map I)):=by simp[hb]
  have hst:ghStk (gh.set b (.stk g (zs.map I))) b=some (g,zs.map I):=by simp[ghStk,hb]
  have hZ:(zs.map I).take i'++List.replicate (xs.length-i') (.int .i64 0)++(zs.map I).drop (i'+(xs.length-i'))=((zs.take i'++List.replicate (xs.length-i') 0).map I):=by
   rw[show i'+(xs.length-i')=(zs.map I).length by simp;omega,List.drop_length]
   simp
  refine⟨i',zs.take i'++List.replicate (xs.length-i') 0,?_,by simp;omega,e3,?_⟩
  ·have hk2:runL pg q2c ⟨[(0,.stk b g xs.length),(5,I i')],[],gh.set b (.stk g (zs.map I))⟩=some (.ret,⟨[(4,.stk b g i')],[],gh.set b (.stk g ((zs.take i'++List.replicate (xs.length-i') 0).map I))⟩):=by
    refine qc0_ ?_
    rw[←hZ]
    have hl:i'+(xs.length-i')≤(zs.map I).length:=by simp;omega
    have hl':xs.length≤(zs.map I).length:=by simp;omega
    generalize zs.map I=Z at *
    simp[qc0,e3,hst,hl',List.set_set]
   generalize (zs.take i'++List.replicate (xs.length-i') 0).map I=Y at *
   simp only[dfSt] at e1
   obtain⟨u,hu⟩:∃u:Int,((j+1:Nat):Int)=u:=⟨_,rfl⟩
   rw[hu] at hw e1
   have hj1:((j:Int)== -1)=false:=by rw[beqI];exact decide_eq_false (by omega)
   refine jqs (fn:=qn) (s:=⟨[(4,.stk b g i')],[],gh.set b (.stk g Y)⟩) rfl rfl (q3a_ ?h2) ?r2
   case h2=>simp[q3a,hi,hj1,hw,e1,hk2]
   case r2=>simp[finish,results,qn,resOfs,resOf,resOk,get,argOk,PV.one,PV.noG]
  ·rw[List.take_append_of_le_length (by simp;omega),List.take_take,Nat.min_self,e4]
theorem df_nil {o:Bool}:callL pg 343 [.sl o 1 [],.fn 215 []] gh=some (.sl false 1 [],gh):=by
 have hi:=j14r (gh:=gh) (o:=false)
 refine jqs (fn:=qn) (s:=⟨[(4,.sl false 1 [])],[],gh⟩) rfl rfl (q3a_ ?h1) ?r1
 case h1=>simp[q3a,hi]
 case r1=>simp[finish,results,qn,resOfs,resOf,resOk,get,argOk,PV.one,PV.noG]
theorem j14s (l:List Int):noGs (l.map I)=true:=by
 induction l with
 |nil=>rfl
 |cons a l ih=>exact ih
def Els (gh:List GObj) (w:PV) (xs:List Int):Prop:=
 w=LI xs∨∃(b g n:Nat) (zs:List Int),w= .stk b g n∧gh[b]?=some (.stk g (zs.map I))∧n≤zs.length∧zs.take n=xs
theorem Els.els {w:PV} {xs:List Int} (h:Els gh w xs):elsOf gh w=some (xs.map I):=by
 rcases h with rfl|⟨b,g,n,zs,rfl,hb,hn,rfl⟩
 ·rfl
 ·simp[elsOf,hb,hn]
theorem Els.len {w:PV} {xs:List Int} {R:Type} (h:Els gh w xs) (f:Nat→Option R):lenS w f=f xs.length:=by
 rcases h with rfl|⟨b,g,n,zs,rfl,hb,hn,rfl⟩
 ·simp
 ·simp[Nat.min_eq_left hn]
theorem Els.dg {w:PV} {xs:List Int} (h:Els gh w xs):degr w=w:=by
 rcases h with rfl|⟨b,g,n,zs,rfl,hb,hn,rfl⟩<;>rfl
theorem Els.isC {w:PV} {xs:List Int} {R:Type} (h:Els gh w xs) (x:Option R):Lw.isC w x=x:=by
 rcases h with rfl|⟨b,g,n,zs,rfl,hb,hn,rfl⟩<;>rfl
theorem Els.st {w:PV} {xs:List Int} {R:Type} (h:Els gh w xs) (n:Nat) (x:Option R):stK n w x=x:=by
 rcases h with rfl|⟨b,g,n,zs,rfl,hb,hn,rfl⟩<;>rfl
theorem Els.ar {w:PV} {xs:List Int} {R:Type} (h:Els gh w xs) (x:Option R):arK w x=x:=by
 rcases h with rfl|⟨b,g,n,zs,rfl,hb,hn,rfl⟩<;>rfl
theorem Els.ln {w:PV} {xs:List Int} {R:Type} (h:Els gh w xs) (x:Option R):lnK 1 w x=x:=by
 rcases h with rfl|⟨b,g,n,zs,rfl,hb,hn,rfl⟩<;>rfl
theorem Els.cells {w:PV} {xs:List Int} (h:Els gh w xs):w.cells=[w]:=by
 rcases h with rfl|⟨b,g,n,zs,rfl,hb,hn,rfl⟩<;>rfl
abbrev AllE (gh:List GObj) (l:List (PV×List Int)):Prop:=∀p∈l,Els gh p.1 p.2
abbrev sumL (l:List (PV×List Int)):Nat:=(l.map fun p=>p.2.length).sum
abbrev cV (l:List (PV×List Int)):PV:= .sl false 1 (l.map (·.1))
theorem cc_l1 {l:List (PV×List Int)} (h:AllE gh l) (hs:Sz (sumL l)) (hl:Sz l.length):∀k i,i+k=l.length→
  runL pg q4c ⟨[(0,cV l),(3,I (sumL (l.take i))),(9,cV l),(10,I l.length),(11,I i)],[],gh⟩=some (.normal,⟨[(0,cV l),(3,I (sumL l))],[],gh⟩)
 |0,i,hk=>by
  have hlt:¬(i:Int)<(l.length:Int):=by omega
  have e:l.take i=l:=List.take_of_length_le (by omega)
  rw[e]
  simp only[cV]
  generalize l.map (·.1)=L at *
  refine (jqy (s1:=?s1) (q71_ ?h1)).trans ?r1
  case h1=>simp[q71,hlt];rfl
  case r1=>simp[keep,stays]
 | k+1,i,hk=>by
  have hlt:i<l.length:=by omega
  have hltI:(i:Int)<(l.length:Int):=by omega
  have hx:(l.map (·.1))[i]?=some l[i].1:=by simp[hlt]
  have hE:=h l[i] (List.getElem_mem hlt)
  have hw:IntKind.i64.wrap ((i:Int)+1)=((i+1:Nat):Int):=jrj (by simp only[Sz] at hl ⊢;omega)
  have hsum:sumL (l.take (i+1))=sumL (l.take i)+l[i].2.length:=by
   rw[List.take_succ_eq_append_getElem hlt];simp only[sumL,List.map_append,List.map_cons,List.map_nil,List.sum_append,List.sum_cons,List.sum_nil,Nat.add_zero]
  have hle:sumL (l.take (i+1))≤sumL l:=by
   have:sumL l=sumL (l.take (i+1))+sumL (l.drop (i+1)):=by
    simp only[sumL];rw[←List.sum_append,←List.map_append,List.take_append_drop]
   omega
  have hw2:IntKind.i64.wrap ((sumL (l.take i):Int)+(l[i].2.length:Int))=((sumL (l.take (i+1)):Nat):Int):=by
   rw[hsum,jqv (by omega) (by simp only[Sz] at hs;omega)];omega
  have hnn:¬((sumL (l.take (i+1)):Nat):Int)<0:=by omega
  have ih:=cc_l1 h hs hl k (i+1) (by omega)
  simp only[cV] at ih ⊢
  generalize l[i]=p at *
  obtain⟨w,ys⟩:=p
  simp only at hx hE hw2
  generalize sumL (l.take i)=a at *
  generalize sumL (l.take (i+1))=c at *
  generalize sumL l=t at *
  generalize l.length=nl at *
  generalize l.map (·.1)=L at *
  obtain⟨u,hu⟩:∃u:Int,((i+1:Nat):Int)=u:=⟨_,rfl⟩
  rw[hu] at hw ih
  refine jqw (s1:=⟨[(0,.sl false 1 L),(3,I c),(9,.sl false 1 L),(10,I nl),(11,I u)],[],gh⟩) (q71_ ?h2) ih
  case h2=>simp[q71,hlt,hx,grab,hE.cells,hE.dg,hE.isC,hE.st,hE.len,hw2,hnn,hw]
theorem cc_l2 {l:List (PV×List Int)} (h:AllE gh l) (hs:sumL l*8≤maxBytes) (hl:Sz l.length):∀k i,i+k=l.length→
  runL pg q4d ⟨[(6,.sl true 1 (((l.take i).flatMap (·.2)).map I)),(25,cV l),(26,I l.length),(27,I i)],[],gh⟩=some (.normal,⟨[(6,.sl true 1 ((l.flatMap (·.2)).map I))],[],gh⟩)
 |0,i,hk=>by
  have hlt:¬(i:Int)<(l.length:Int):=by omega
  have e:l.take i=l:=List.take_of_length_le (by omega)
  rw[e]
  simp only[cV]
  generalize l.map (·.1)=L at *
  generalize (l.flatMap (·.2)).map I=Y at *
  refine (jqy (s1:=?s1) (q72_ ?h1)).trans ?r1
  case h1=>simp[q72,hlt];rfl
  case r1=>simp[keep,stays]
 | k+1,i,hk=>by
  have hlt:i<l.length:=by omega
  have hltI:(i:Int)<(l.length:Int):=by omega
  have hx:(l.map (·.1))[i]?=some l[i].1:=by simp[hlt]
  have hE:=h l[i] (List.getElem_mem hlt)
  have hw:IntKind.i64.wrap ((i:Int)+1)=((i+1:Nat):Int):=jrj (by simp only[Sz] at hl ⊢;omega)
  have hsum:((l.take (i+1)).flatMap (·.2)).map I=((l.take i).flatMap (·.2)).map I++l[i].2.map I:=by
   rw[List.take_succ_eq_append_getElem hlt];simp only[List.flatMap_append,List.flatMap_cons,List.flatMap_nil,List.append_nil,List.map_append]
  have hle:((((l.take i).flatMap (·.2)).map I).length+(l[i].2.map I).length)*8≤maxBytes:=by
   rw[←List.length_append,←hsum,List.length_map,List.length_flatMap]
   have:sumL l=sumL (l.take (i+1))+sumL (l.drop (i+1)):=by
    simp only[sumL];rw[←List.sum_append,←List.map_append,List.take_append_drop]
   simp only[sumL] at this hs ⊢
   omega
  have hfl:(l[i].2.map I).all isFlat=true:=by
   rw[List.all_eq_true];intro v hv;obtain⟨n,-,rfl⟩:=List.mem_map.1 hv;rfl
  have ih:=cc_l2 h hs hl k (i+1) (by omega)
  simp only[cV] at ih ⊢
  rw[hsum] at ih
  generalize l[i]=p at *
  obtain⟨w,ys⟩:=p
  simp only at hx hE hle hfl ih
  have hels:=hE.els
  generalize ys.map I=Y at *
  generalize ((l.take i).flatMap (·.2)).map I=A at *
  generalize l.length=nl at *
  generalize l.map (·.1)=L at *
  obtain⟨u,hu⟩:∃u:Int,((i+1:Nat):Int)=u:=⟨_,rfl⟩
  rw[hu] at hw ih
  refine jqw (s1:=⟨[(6,.sl true 1 (A++Y)),(25,.sl false 1 L),(26,I nl),(27,I u)],[],gh⟩) (q72_ ?h2) ih
  case h2=>simp[-List.all_eq_true,q72,hlt,hx,grab,hE.cells,hE.dg,hE.isC,hE.st,hels,hle,hfl,hw]
theorem Grow1_eq' {n:Nat} (h:n*8≤maxBytes):callL pg 119 [.nils,I n] gh=some (.sl true 1 [],gh):=by
 have:callL pg 119 [.nils,I n] gh=libGrow 1 8 [.nils,I n] gh:=rfl
 rw[this,libGrow,if_pos ⟨by omega,by simpa using h⟩]
theorem cc_eq {l:List (PV×List Int)} (h:AllE gh l) (hs:sumL l*8≤maxBytes) (hl:Sz l.length):callL pg 344 [cV l] gh=some (.sl false 1 ((l.flatMap (·.2)).map I),gh):=by
 have hm:maxBytes=140737488355328:=rfl
 have h1:=cc_l1 h (by simp only[Sz];omega) hl l.length 0 (by omega)
 have h2:=cc_l2 h hs hl l.length 0 (by omega)
 have hg:=Grow1_eq' (gh:=gh) hs
 simp only[List.take_zero,List.map_nil,List.sum_nil,List.flatMap_nil,sumL,cV,Int.natCast_zero] at h1 h2 hg ⊢
 have hn:(PV.sl false 1 ((l.flatMap (·.2)).map I)).noG=true:=j14s _
 have hL:l.length=(l.map (·.1)).length:=(List.length_map _).symm
 rw[hL] at h1 h2
 generalize (l.flatMap (·.2)).map I=Y at *
 generalize (l.map fun p=>p.2.length).sum=t at *
 generalize l.map (·.1)=L at *
 have k2:=qc1_ (pg:=pg) (gh:=gh) (v6:= .sl true 1 Y) (e:= .ret) (s:=⟨[(2,.sl false 1 Y)],[],gh⟩) (by simp[qc1])
 have k1:=qc2_ (pg:=pg) (gh:=gh) (v0:= .sl false 1 L) (x3:=t) (e:= .ret) (s:=⟨[(2,.sl false 1 Y)],[],gh⟩) (by simp[qc2,hg,h2,k2])
 refine jqs (fn:=q4g) (s:=⟨[(2,.sl false 1 Y)],[],gh⟩) rfl rfl (qc3_ ?h1) ?r1
 case h1=>simp[qc3,h1,k1]
 case r1=>simp[finish,results,q4g,resOfs,resOf,resOk,hn,get]
end
end Go.Lw
end

/-! Clauses: what the program makes and checks. -/
section
namespace Go.Lw
open Go
def clV (vars:Int) (cls:List (List Int)):PV:= .agg [I vars,.sl false 1 (cls.map fun l=>LI l)]
theorem j150 (l:List Int):noGs (l.map I)=true:=by
 induction l with
 |nil=>rfl
 |cons x l ih=>simp[ih]
theorem jrq (l:List (List Int)):noGs (l.map fun l=>LI l)=true:=by
 induction l with
 |nil=>rfl
 |cons x l ih=>simp[ih,j150]
def numE (x more:Int):Int:=
 if Int.tmod x 2=1 then IntKind.i64.wrap (-IntKind.i64.wrap (IntKind.i64.wrap (Int.tdiv x 2)+more)) else IntKind.i64.wrap (IntKind.i64.wrap (Int.tdiv x 2)+more)
theorem jta (x more:Int) (gh:List GObj):callL pg 90 [I x,I more] gh=some (I (numE x more),gh):=by
 by_cases h:Int.tmod x 2=1
 ·refine jqs (fn:=q17) (s:=?s1) rfl rfl (q77_ ?h1) ?r1
  case h1=>simp[q77,h];rfl
  case r1=>simp[finish,results,q17,resOfs,resOf,resOk,numE,h]
 ·refine jqs (fn:=q17) (s:=?s2) rfl rfl (q77_ ?h2) ?r2
  case h2=>simp[q77,h];rfl
  case r2=>simp[finish,results,q17,resOfs,resOf,resOk,numE,h]
section
variable {gh:List GObj} {x y:GObj}
end
def nOf (ins more:Int) (i:Nat):Int:=IntKind.i64.wrap (IntKind.i64.wrap (IntKind.i64.wrap (1+ins)+(i:Int))+more)
def negI (x:Int):Int:=IntKind.i64.wrap (-x)
def andC (ins more:Int) (i:Nat) (x:Int×Int):List (List Int):=
 [[negI (nOf ins more i),numE x.1 more],[negI (nOf ins more i),numE x.2 more],[nOf ins more i,negI (numE x.1 more),negI (numE x.2 more)]]
def andsC (ins more:Int):Nat→List (Int×Int)→List (List Int)
 |_,[]=>[]
 |i,x::l=>andC ins more i x++andsC ins more (i+1) l
theorem jsk (ins more:Int):∀(i:Nat) (l:List (Int×Int)),(andsC ins more i l).length=3*l.length
 |_,[]=>rfl
 |i,x::l=>by
  rw[andsC,List.length_append,jsk ins more (i+1) l]
  simp[andC];omega
section
variable {ins:Int} {ands:List (Int×Int)} {gh:List GObj}
def mustC (r more:Int):List (List Int):=if r=1 then [] else if r=0 then [[]] else [[numE r more]]
theorem jvd (r more:Int):(mustC r more).length≤1:=by
 unfold mustC;split
 ·simp
 ·split<;>simp
def badN (vars n:Int):Bool:=decide (n=0∨vars<n∨n<IntKind.i64.wrap (-vars))
theorem j151 {n vars:Int} {b:Nat} (hb:gh[b]?=some (.cells [I vars])):callL pg 113 [I n,.ptr true b 0] gh=some (B (badN vars n),gh):=by
 by_cases h0:n=0
 ·refine jqs (fn:=ql) (s:=?s1) rfl rfl (q3g_ ?h1) ?r1
  case h1=>simp[q3g,h0];rfl
  case r1=>simp[finish,results,ql,resOfs,resOf,resOk,badN,h0]
 by_cases h1:vars<n
 ·refine jqs (fn:=ql) (s:=?s2) rfl rfl (q3g_ ?h2) ?r2
  case h2=>simp[q3g,h0,hb,h1];rfl
  case r2=>simp[finish,results,ql,resOfs,resOf,resOk,badN,h1]
 ·refine jqs (fn:=ql) (s:=?s3) rfl rfl (q3g_ ?h3) ?r3
  case h3=>simp[q3g,h0,hb,h1];rfl
  case r3=>simp[finish,results,ql,resOfs,resOf,resOk,badN,h0,h1]
def oneE (vars:Int) (l:List Int):Int:=if 200<l.length then 2 else if l.any (badN vars) then 5 else 0
theorem one_eq {vars:Int} {l:List Int} (hs:Sz l.length):callL pg 94 [I vars,LI l] gh=some (I (oneE vars l),gh):=by
 by_cases h:200<l.length
 ·have hI:(200:Int)<(l.length:Int):=by omega
  refine jqs (fn:=qk) (s:=?s1) rfl rfl (q3f_ ?h1) ?r1
  case h1=>simp[q3f,hI];rfl
  case r1=>simp[finish,results,qk,resOfs,resOf,resOk,oneE,h]
 ·have hI:¬(200:Int)<(l.length:Int):=by omega
  have hc:∀x∈l,callL pg 113 (I x::[.ptr true gh.length 0]) (gh++[.cells [I vars]])=some (B (badN vars x),gh++[.cells [I vars]]):=fun x _=>j151 (by simp)
  have:=jxv (caps:=[.ptr true gh.length 0]) hc (by simp) hs
  cases hb:l.any (badN vars) with
  |true=>
   rw[hb] at this
   refine jqs (fn:=qk) (s:=?s2) rfl rfl (q3f_ ?h2) ?r2
   case h2=>simp[q3f,hI,this];rfl
   case r2=>simp[finish,results,qk,resOfs,resOf,resOk,oneE,h,hb]
  |false=>
   rw[hb] at this
   refine jqs (fn:=qk) (s:=?s3) rfl rfl (q3f_ ?h3) ?r3
   case h3=>simp[q3f,hI,this];rfl
   case r3=>simp[finish,results,qk,resOfs,resOf,resOk,oneE,h,hb]
def firstE (vars:Int):List (List Int)→Int
 |[]=>0
 |l::r=>if oneE vars l=0 then firstE vars r else oneE vars l
def clsE (vars:Int) (cls:List (List Int)):Int:=if vars<0∨200000<vars then 3 else if 800000<cls.length then 2 else firstE vars cls
def SL (cls:List (List Int)):Prop:=∀l∈cls,Sz l.length
theorem jyh {vars:Int} {cls:List (List Int)} (hs:SL cls) (hl:cls.length≤800000):∀k i,i+k=cls.length→
  runL pg q3z ⟨[(1,.ptr false 0 0),(19,.sl false 1 (cls.map fun l=>LI l)),(20,I cls.length),(21,I (i:Int))],[[I vars,.sl false 1 (cls.map fun l=>LI l)]],gh⟩=
   if firstE vars (cls.drop i)=0 then some (.normal,⟨[],[],gh⟩) else some (.ret,⟨[(2,I (firstE vars (cls.drop i)))],[],gh⟩)
 |0,i,h=>by
  rw[List.drop_eq_nil_of_le (by omega),firstE,if_pos rfl]
  have hlt:¬(i:Int)<(cls.length:Int):=by omega
  refine (jqy (s1:=?s1) (q3h_ ?h1)).trans ?r1
  case h1=>simp only[q3h,decide_eq_false hlt,jr9];rfl
  case r1=>simp[keep]
 | k+1,i,h=>by
  have hlt:i<cls.length:=by omega
  have hltI:(i:Int)<(cls.length:Int):=by omega
  have e2:IntKind.i64.wrap ((i:Int)+1)=((i+1:Nat):Int):=by rw[jqv (by omega) (by omega)];omega
  have hx:(cls.map fun l=>LI l)[i]?=some (LI cls[i]):=by simp[List.getElem?_eq_getElem hlt]
  have h1:=one_eq (gh:=gh) (vars:=vars) (hs _ (List.getElem_mem hlt))
  rw[List.drop_eq_getElem_cons hlt,firstE]
  by_cases he:oneE vars cls[i]=0
  ·rw[if_pos he]
   rw[he] at h1
   refine jqw (s1:=⟨[(1,.ptr false 0 0),(19,.sl false 1 (cls.map fun l=>LI l)),(20,I cls.length),(21,I ((i+1:Nat):Int))],[[I vars,.sl false 1 (cls.map fun l=>LI l)]],gh⟩) (q3h_ ?h2) (jyh hs hl k (i+1) (by omega))
   case h2=>simp[q3h,hltI,hx,h1,e2,-List.getElem?_map]
  ·rw[if_neg he,if_neg he]
   refine lp_ret (q3h_ ?h3)
   case h3=>simp[q3h,hltI,hx,h1,he,-List.getElem?_map]
theorem j152 {vars:Int} {cls:List (List Int)} (hs:SL cls):callL pg 59 [clV vars cls] gh=some (I (clsE vars cls),gh):=by
 by_cases h1:vars<0
 ·refine jqs (fn:=qb) (s:=?s1) rfl rfl (q13_ ?h1) ?r1
  case h1=>simp[q13,h1];rfl
  case r1=>simp[finish,results,qb,resOfs,resOf,resOk,clsE,h1]
 by_cases h2:200000<vars
 ·refine jqs (fn:=qb) (s:=?s2) rfl rfl (q13_ ?h2) ?r2
  case h2=>simp[q13,h1,h2];rfl
  case r2=>simp[finish,results,qb,resOfs,resOf,resOk,clsE,h2]
 have h12:¬(vars<0∨200000<vars):=by omega
 by_cases h3:800000<cls.length
 ·have hI:(800000:Int)<(cls.length:Int):=by omega
  refine jqs (fn:=qb) (s:=?s3) rfl rfl (q13_ ?h3) ?r3
  case h3=>simp[q13,h1,h2,hI];rfl
  case r3=>simp[finish,results,qb,resOfs,resOf,resOk,clsE,h12,h3]
 have hI:¬(800000:Int)<(cls.length:Int):=by omega
 have hl:=jyh (gh:=gh) (vars:=vars) hs (by omega) cls.length 0 (by omega)
 rw[List.drop_zero] at hl
 simp only[Int.natCast_zero] at hl
 generalize hL:(cls.map fun l=>LI l)=L at *
 have hLl:L.length=cls.length:=by rw[←hL];simp
 by_cases he:firstE vars cls=0
 ·rw[if_pos he] at hl
  have hk:=qq8_ (pg:=pg) (gh:=gh) (e:= .ret) (s:=⟨[(2,I 0)],[],gh⟩) rfl
  refine jqs (fn:=qb) (s:=?s4) rfl rfl (q13_ ?h4) ?r4
  case h4=>simp[q13,h1,h2,hLl,hI,hl,hk,hL];rfl
  case r4=>simp[finish,results,qb,resOfs,resOf,resOk,clsE,h12,h3,he]
 ·rw[if_neg he] at hl
  refine jqs (fn:=qb) (s:=?s5) rfl rfl (q13_ ?h5) ?r5
  case h5=>simp[q13,h1,h2,hLl,hI,hl,hL];rfl
  case r5=>simp[finish,results,qb,resOfs,resOf,resOk,clsE,h12,h3]
def doneE (vars:Int) (cls:List (List Int)):PV:=if clsE vars cls=0 then .tup [clV vars cls,I 0] else .tup [clV 0 [],I (clsE vars cls)]
theorem j153 {vars:Int} {cls:List (List Int)} (hs:SL cls):callL pg 55 [clV vars cls] gh=some (doneE vars cls,gh):=by
 have h:=j152 (gh:=gh) (vars:=vars) hs
 have hn:=jrq cls
 unfold clV at h
 unfold doneE clV
 generalize (cls.map fun l=>LI l)=L at *
 by_cases he:clsE vars cls=0
 ·rw[he] at h
  refine jqs (fn:=q16) (s:=?s1) rfl rfl (q79_ ?h1) ?r1
  case h1=>simp[q79,h];rfl
  case r1=>simp[finish,results,q16,resOfs,resOf,St.cellsAt,resOk,he,hn]
 ·refine jqs (fn:=q16) (s:=?s2) rfl rfl (q79_ ?h2) ?r2
  case h2=>simp[q79,h,he];rfl
  case r2=>simp[finish,results,q16,resOfs,resOf,St.cellsAt,resOk,he]
def rootsC (more:Int):List Int→List (List Int)
 |[]=>[]
 |r::l=>mustC r more++rootsC more l
theorem jsl (more:Int):∀l:List Int,(rootsC more l).length≤l.length
 |[]=>Nat.le_refl _
 |r::l=>by
  have:=jvd r more
  have:=jsl more l
  rw[rootsC,List.length_append,List.length_cons];omega
theorem jyi (ins more:Int):∀(i:Nat) (l:List (Int×Int)),SL (andsC ins more i l)
 |_,[]=>fun l h=>by cases h
 | i,x::r=>fun l h=>by
  rw[andsC] at h
  rcases List.mem_append.1 h with h|h
  ·simp only[andC,List.mem_cons,List.not_mem_nil,or_false] at h
   rcases h with rfl|rfl|rfl<;>simp
  ·exact jyi ins more (i+1) r l h
theorem jyj (more:Int):∀l:List Int,SL (rootsC more l)
 |[]=>fun l h=>by cases h
 | r::t=>fun l h=>by
  rw[rootsC] at h
  rcases List.mem_append.1 h with h|h
  ·unfold mustC at h
   split at h
   ·cases h
   ·split at h<;>simp at h<;>subst h<;>simp
  ·exact jyj more t l h
theorem jrr {a b:List (List Int)} (ha:SL a) (hb:SL b):SL (a++b):=fun l h=>by
 rcases List.mem_append.1 h with h|h
 ·exact ha l h
 ·exact hb l h
theorem jyk {vars:Int} {cls:List (List Int)}:∃(n:Int) (c:List (List Int)) (e:Int),doneE vars cls= .tup [clV n c,I e]:=by
 unfold doneE;split
 ·exact⟨_,_,_,rfl⟩
 ·exact⟨_,_,_,rfl⟩
end
end Go.Lw
end

/-! The checker of proofs: what it holds, and a number put in. -/
section
namespace Go.Lw
open Go
def mapP (l:List (Int×PV)):List (PV×PV):=l.map fun a=>(I a.1,a.2)
def findP:List (Int×PV)→Int→Option PV
 |[],_=>none
 |(a,v)::l,k=>if k=a then some v else findP l k
inductive Role where
 |no
 |of (n:Int)
 |cl (i:Nat)
 deriving DecidableEq
def OfN (R:Nat→Role) (gh:List GObj) (n:Int) (l:List Nat):Option PV→Prop
 |none=>l=[]
 |some h=>∃b gen,h= .stk b gen l.length∧R b= .of n∧gh[b]?=some (.stk gen (l.map fun (i:Nat)=>I i))
def ClN (R:Nat→Role) (gh:List GObj) (i:Nat) (k:List Int) (h:PV):Prop:=
 (k=[]∧h= .sl false 1 [])∨∃b gen,h= .stk b gen k.length∧R b= .cl i∧gh[b]?=some (.stk gen (k.map I))
structure Stat (R:Nat→Role) (gh:List GObj) (a:Nat) (F:List (Int×PV)) (H:List PV) (K:List (List Int)) (X:Int→List Nat):Prop where
 lt:∀b,R b≠ .no→b<gh.length
 ra:R a= .no
 hl:H.length=K.length
 cl:∀(i:Nat) (h:PV) (k:List Int),H[i]?=some h→K[i]?=some k→ClN R gh i k h
 map:gh[a]?=some (.map (mapP F))
 of:∀n,OfN R gh n (X n) (findP F n)
theorem Stat.keep {R:Nat→Role} {gh gh':List GObj} {a:Nat} {F:List (Int×PV)} {H:List PV} {K:List (List Int)} {X:Int→List Nat} (h:Stat R gh a F H K X) (hl:gh.length≤gh'.length)
  (hk:∀b,b<gh.length→R b≠ .no∨b=a→gh'[b]?=gh[b]?):Stat R gh' a F H K X where
 lt:=fun b hb=>Nat.lt_of_lt_of_le (h.lt b hb) hl
 ra:=h.ra
 hl:=h.hl
 cl:=fun i v k h1 h2=>by
  rcases h.cl i v k h1 h2 with h3|⟨b,gen,h3,h4,h5⟩
  ·exact .inl h3
  ·exact .inr ⟨b,gen,h3,h4,by rw[hk b (List.getElem?_eq_some_iff.1 h5).1 (.inl (by rw[h4];simp))];exact h5⟩
 map:=by rw[hk a (List.getElem?_eq_some_iff.1 h.map).1 (.inr rfl)];exact h.map
 of:=fun n=>by
  have:=h.of n
  unfold OfN at *
  split at this
  ·exact this
  ·obtain⟨b,gen,h3,h4,h5⟩:=this
   exact⟨b,gen,h3,h4,by rw[hk b (List.getElem?_eq_some_iff.1 h5).1 (.inl (by rw[h4];simp))];exact h5⟩
section
variable {R:Nat→Role} {gh:List GObj} {g a s:Nat} {F:List (Int×PV)} {H:List PV} {K:List (List Int)} {X:Int→List Nat} {T D:List Int} {n:Int}
end
end Go.Lw
end

/-! The checker of proofs: does a clause follow? The first two rounds. -/
section
namespace Go.Lw
open Go
def Small (n:Int):Prop:=n≠0∧ -1000000000≤n∧n≤1000000000
theorem Small.neg {n:Int} (h:Small n):Small (-n):=⟨by have:=h.1;omega,by have:=h.2.2;omega,by have:=h.2.1;omega⟩
section
variable {R:Nat→Role} {gh:List GObj} {g a s:Nat} {F:List (Int×PV)} {H:List PV} {K:List (List Int)} {X:Int→List Nat} {T D:List Int} {n:Int}
end
end Go.Lw
end

/-! The checker of proofs: clauses of one number are asked. -/
section
namespace Go.Lw
open Go
structure KeptAll (L K:List (List Int)):Prop where
 a:∀k∈K,∃c,Kept L k c
 b:∀c∈L,∃k∈K,∀x,x∈k↔x∈c
 small:∀c∈L,∀n∈c,Small n
 sz:∀k∈K,Sz k.length
section
variable {R:Nat→Role} {gh:List GObj} {g a s:Nat} {F:List (Int×PV)} {H:List PV} {K L:List (List Int)} {X:Int→List Nat} {T D S:List Int} {n:Int}
theorem KeptAll.nz (h:KeptAll L K):∀c∈L,∀n∈c,n≠0:=fun c hc n hn=>(h.small c hc n hn).1
end
end Go.Lw
end

/-! Clauses: what the document makes and checks. -/
section
namespace Go.Lw
open Go
abbrev LLI (cls:List (List Int)):List PV:=cls.map fun l=>LI l
theorem Num_eq (x more:Int) (gh:List GObj):callL pg 92 [I x,I more] gh=some (I (numE x more),gh):=by
 by_cases h:Int.tmod x 2=1
 ·refine jqs (fn:=q1j) (s:=?s1) rfl rfl (q7r_ ?h1) ?r1
  case h1=>simp[q7r,h];rfl
  case r1=>simp[finish,results,q1j,resOfs,resOf,resOk,numE,h]
 ·refine jqs (fn:=q1j) (s:=?s2) rfl rfl (q7r_ ?h2) ?r2
  case h2=>simp[q7r,h];rfl
  case r2=>simp[finish,results,q1j,resOfs,resOf,resOk,numE,h]
section
variable {ins:Int} {ands:List (Int×Int)} {gh:List GObj}
def acSt (gh:List GObj) (ins:Int) (ands:List (Int×Int)) (more:Int) (cls:List (List Int)) (i:Nat):St:=
 ⟨[(1,I more),(2,.ptr false 0 0),(5,.sl true 1 (LLI cls)),(6,I (i:Int))],[[I ins,.sl false 2 (ands.map andV)]],gh⟩
theorem j15k {more:Int} {cls:List (List Int)} {i:Nat} (hlt:i<ands.length) (hl:ands.length≤1000000) (hs:cls.length≤4000000) :
  q3k pg more (.sl true 1 (LLI cls)) i ins (.sl false 2 (ands.map andV)) gh=some (.normal,acSt gh ins ands more (cls++andC ins more i ands[i]) (i+1)):=by
 have e2:IntKind.i64.wrap ((i:Int)+1)=((i+1:Nat):Int):=by rw[jqv (by omega) (by omega)];omega
 have hx:(ands.map andV)[i]?=some (.agg [I ands[i].1,I ands[i].2]):=by simp[List.getElem?_eq_getElem hlt,andV]
 generalize hy:ands[i]=x at *
 obtain⟨a,b⟩:=x
 have hmx:(cls.length+3)*24≤maxBytes:=by
  have:maxBytes=140737488355328:=rfl
  omega
 have hn1:=Num_eq a more gh
 have hn2:=Num_eq b more gh
 have e3:LLI (cls++andC ins more i (a,b))=LLI cls++LLI (andC ins more i (a,b)):=by simp[LLI]
 have hlen:(LLI cls).length=cls.length:=by simp[LLI]
 simp only at hx
 unfold acSt
 rw[e3]
 simp only[andC,LLI,LI,List.map_cons,List.map_nil,negI]
 generalize hN:nOf ins more i=N at *
 unfold nOf at hN
 generalize hC:(cls.map fun l=>PV.sl false 1 (l.map I))=C at *
 have hCl:C.length=cls.length:=by rw[←hC];simp
 simp[q3k,hlt,hx,hy,jrx,hn1,hn2,hN,hCl,hmx,e2,-List.getElem?_map]
theorem jz5 {more:Int} (hl:ands.length≤1000000):∀k i (cls:List (List Int)),i+k=ands.length→cls.length+3*k≤4000000→
  runL pg q54 (acSt gh ins ands more cls i)=some (.normal,⟨[(5,.sl true 1 (LLI (cls++andsC ins more i (ands.drop i))))],[],gh⟩)
 |0,i,cls,h,_=>by
  rw[List.drop_eq_nil_of_le (by omega)]
  have hlt:¬i<ands.length:=by omega
  refine (jqy (s1:=?s1) (q3k_ ?h1)).trans ?r1
  case h1=>simp[q3k,hlt];rfl
  case r1=>simp[keep,andsC,stays]
 |k+1,i,cls,h,hs=>by
  have hlt:i<ands.length:=by omega
  refine jqw (q3k_ (j15k hlt hl (by omega))) ?_
  rw[List.drop_eq_getElem_cons hlt,andsC,←List.append_assoc]
  exact jz5 hl k (i+1) _ (by omega) (by simp[andC];omega)
theorem j15l {more:Int} (hl:ands.length≤1000000):callL pg 56 [graphV ins ands,I more] gh=some (.sl true 1 (LLI (andsC ins more 0 ands)),gh):=by
 have h:=jz5 (gh:=gh) (ins:=ins) (more:=more) hl ands.length 0 [] (by omega) (by simp;omega)
 rw[List.drop_zero,List.nil_append] at h
 unfold acSt at h
 simp only[Int.natCast_zero] at h
 have hn:=jrq (andsC ins more 0 ands)
 have hk:=qcq_ (pg:=pg) (gh:=gh) (v5:= .sl true 1 (LLI (andsC ins more 0 ands))) (e:= .ret) (s:=⟨[(4,.sl true 1 (LLI (andsC ins more 0 ands)))],[],gh⟩) (by simp[qcq])
 unfold LLI at *
 generalize (andsC ins more 0 ands).map (fun l=>LI l)=L at *
 refine jqs (fn:=q56) (s:=⟨[(4,.sl true 1 L)],[],gh⟩) rfl rfl (qcr_ ?h1) ?r1
 case h1=>
  simp only[List.map_nil] at h
  simp[qcr,graphV,h,hk]
 case r1=>simp[finish,results,q56,resOk,hn]
theorem j15m {r more:Int}:callL pg 57 [I r,I more] gh=some (.sl false 1 (LLI (mustC r more)),gh):=by
 by_cases h1:r=1
 ·refine jqs (fn:=qo) (s:=?s1) rfl rfl (q3l_ ?h1) ?r1
  case h1=>simp[q3l,h1];rfl
  case r1=>simp[finish,results,qo,resOfs,resOf,resOk,mustC,h1]
 by_cases h0:r=0
 ·refine jqs (fn:=qo) (s:=?s2) rfl rfl (q3l_ ?h2) ?r2
  case h2=>simp[q3l,h0];rfl
  case r2=>simp[finish,results,qo,resOfs,resOf,resOk,mustC,h0]
 ·have hn:=Num_eq r more gh
  refine jqs (fn:=qo) (s:=?s3) rfl rfl (q3l_ ?h3) ?r3
  case h3=>simp[q3l,h1,h0,hn];rfl
  case r3=>simp[finish,results,qo,resOfs,resOf,resOk,mustC,h1,h0]
theorem jz6 {vars:Int} {l:List Int} (hl:l.length≤200):∀k i,i+k=l.length→
  runL pg q5d ⟨[(0,I vars),(1,LI l),(5,I (i:Int))],[],gh⟩=
   if (l.drop i).any (badN vars)=true then some (.ret,⟨[(4,I 5)],[],gh⟩) else some (.normal,⟨[],[],gh⟩)
 |0,i,h=>by
  rw[List.drop_eq_nil_of_le (by omega),List.any_nil,if_neg (by simp)]
  have hlt:¬i<l.length:=by omega
  refine (jqy (s1:=?s1) (q15_ ?h1)).trans ?r1
  case h1=>simp[q15,hlt];rfl
  case r1=>simp[keep]
 | k+1,i,h=>by
  have hlt:i<l.length:=by omega
  have e2:IntKind.i64.wrap ((i:Int)+1)=((i+1:Nat):Int):=by rw[jqv (by omega) (by omega)];omega
  have hx:(l.map I)[i]?=some (I l[i]):=by simp[List.getElem?_eq_getElem hlt]
  rw[List.drop_eq_getElem_cons hlt,List.any_cons]
  by_cases h0:l[i]=0
  ·rw[if_pos (by simp[badN,h0])]
   refine lp_ret (q15_ ?_)
   simp[q15,hlt,h0,-List.getElem?_map]
  by_cases h1:vars<l[i]
  ·rw[if_pos (by simp[badN,h1])]
   refine lp_ret (q15_ ?_)
   simp[q15,hlt,h0,h1,-List.getElem?_map]
  by_cases h2:l[i]<IntKind.i64.wrap (-vars)
  ·rw[if_pos (by simp[badN,h2])]
   refine lp_ret (q15_ ?_)
   simp[q15,hlt,h0,h1,h2,-List.getElem?_map]
  ·have e:badN vars l[i]=false:=by simp[badN,h0,h1,h2]
   rw[e,Bool.false_or]
   refine jqw (s1:=⟨[(0,I vars),(1,LI l),(5,I ((i+1:Nat):Int))],[],gh⟩) (q15_ ?_) (jz6 hl k (i+1) (by omega))
   simp[q15,hlt,h0,h1,h2,e2,-List.getElem?_map]
theorem j15n {vars:Int} {l:List Int}:callL pg 112 [I vars,LI l] gh=some (I (oneE vars l),gh):=by
 by_cases h:200<l.length
 ·have hI:(200:Int)<(l.length:Int):=by omega
  refine jqs (fn:=qp) (s:=?s1) rfl rfl (q3m_ ?h1) ?r1
  case h1=>simp[q3m,hI];rfl
  case r1=>simp[finish,results,qp,resOfs,resOf,resOk,oneE,h]
 ·have hI:¬(200:Int)<(l.length:Int):=by omega
  have hl:=jz6 (gh:=gh) (vars:=vars) (l:=l) (by omega) l.length 0 (by omega)
  rw[List.drop_zero] at hl
  simp only[Int.natCast_zero] at hl
  cases hb:l.any (badN vars) with
  |true=>
   rw[if_pos hb] at hl
   refine jqs (fn:=qp) (s:=?s2) rfl rfl (q3m_ ?h2) ?r2
   case h2=>simp[q3m,hI,hl];rfl
   case r2=>simp[finish,results,qp,resOfs,resOf,resOk,oneE,h,hb]
  |false=>
   rw[if_neg (by rw[hb];simp)] at hl
   have hk:=qqg_ (pg:=pg) (gh:=gh) (e:= .ret) (s:=⟨[(4,I 0)],[],gh⟩) rfl
   refine jqs (fn:=qp) (s:=?s3) rfl rfl (q3m_ ?h3) ?r3
   case h3=>simp[q3m,hI,hl,hk];rfl
   case r3=>simp[finish,results,qp,resOfs,resOf,resOk,oneE,h,hb]
theorem jz7 {vars:Int} {cls:List (List Int)} (hl:cls.length≤800000):∀k i,i+k=cls.length→
  runL pg q58 ⟨[(1,.ptr false 0 0),(3,I (i:Int))],[[I vars,.sl false 1 (LLI cls)]],gh⟩=
   if firstE vars (cls.drop i)=0 then some (.normal,⟨[],[],gh⟩) else some (.ret,⟨[(2,I (firstE vars (cls.drop i)))],[],gh⟩)
 |0,i,h=>by
  rw[List.drop_eq_nil_of_le (by omega),firstE,if_pos rfl]
  have hlt:¬i<cls.length:=by omega
  refine (jqy (s1:=?s1) (q3n_ ?h1)).trans ?r1
  case h1=>simp[q3n,hlt];rfl
  case r1=>simp[keep]
 | k+1,i,h=>by
  have hlt:i<cls.length:=by omega
  have e2:IntKind.i64.wrap ((i:Int)+1)=((i+1:Nat):Int):=by rw[jqv (by omega) (by omega)];omega
  have hx:(cls.map fun l=>LI l)[i]?=some (LI cls[i]):=by simp[List.getElem?_eq_getElem hlt]
  have h1:=j15n (gh:=gh) (vars:=vars) (l:=cls[i])
  rw[List.drop_eq_getElem_cons hlt,firstE]
  by_cases he:oneE vars cls[i]=0
  ·rw[if_pos he]
   rw[he] at h1
   refine jqw (s1:=⟨[(1,.ptr false 0 0),(3,I ((i+1:Nat):Int))],[[I vars,.sl false 1 (LLI cls)]],gh⟩) (q3n_ ?h2) (jz7 hl k (i+1) (by omega))
   case h2=>simp[q3n,hlt,hx,h1,e2,-List.getElem?_map]
  ·rw[if_neg he,if_neg he]
   refine lp_ret (q3n_ ?h3)
   case h3=>simp[q3n,hlt,hx,h1,he,-List.getElem?_map]
theorem j15o {vars:Int} {cls:List (List Int)}:callL pg 93 [clV vars cls] gh=some (I (clsE vars cls),gh):=by
 have hb:=jrz (gh:=gh) vars 0 200000
 by_cases h12:vars<0∨200000<vars
 ·have e:(decide (0≤vars∧vars≤200000))=false:=by
   rw[Bool.eq_false_iff];simp;omega
  rw[e] at hb
  refine jqs (fn:=qd) (s:=?s1) rfl rfl (q24_ ?h1) ?r1
  case h1=>simp[q24,hb];rfl
  case r1=>simp[finish,results,qd,resOfs,resOf,resOk,clsE,h12]
 have e:(decide (0≤vars∧vars≤200000))=true:=by simp;omega
 rw[e] at hb
 by_cases h3:800000<cls.length
 ·have hI:(800000:Int)<(cls.length:Int):=by omega
  refine jqs (fn:=qd) (s:=?s3) rfl rfl (q24_ ?h3) ?r3
  case h3=>simp[q24,hb,hI];rfl
  case r3=>simp[finish,results,qd,resOfs,resOf,resOk,clsE,h12,h3]
 have hI:¬(800000:Int)<(cls.length:Int):=by omega
 have hl:=jz7 (gh:=gh) (vars:=vars) (cls:=cls) (by omega) cls.length 0 (by omega)
 rw[List.drop_zero] at hl
 simp only[Int.natCast_zero,LLI] at hl
 generalize hL:(cls.map fun l=>LI l)=L at *
 have hLl:L.length=cls.length:=by rw[←hL];simp
 by_cases he:firstE vars cls=0
 ·rw[if_pos he] at hl
  have hk:=qqh_ (pg:=pg) (gh:=gh) (e:= .ret) (s:=⟨[(2,I 0)],[],gh⟩) rfl
  refine jqs (fn:=qd) (s:=?s4) rfl rfl (q24_ ?h4) ?r4
  case h4=>simp[q24,hb,hLl,hI,hl,hk,hL];rfl
  case r4=>simp[finish,results,qd,resOfs,resOf,resOk,clsE,h12,h3,he]
 ·rw[if_neg he] at hl
  refine jqs (fn:=qd) (s:=?s5) rfl rfl (q24_ ?h5) ?r5
  case h5=>simp[q24,hb,hLl,hI,hl,hL];rfl
  case r5=>simp[finish,results,qd,resOfs,resOf,resOk,clsE,h12,h3]
theorem j15p {vars:Int} {cls:List (List Int)}:callL pg 58 [clV vars cls] gh=some (doneE vars cls,gh):=by
 have h:=j15o (gh:=gh) (vars:=vars) (cls:=cls)
 have hn:=jrq cls
 unfold clV at h
 unfold doneE clV
 generalize (cls.map fun l=>LI l)=L at *
 by_cases he:clsE vars cls=0
 ·rw[he] at h
  refine jqs (fn:=q1i) (s:=?s1) rfl rfl (q7v_ ?h1) ?r1
  case h1=>simp[q7v,h];rfl
  case r1=>simp[finish,results,q1i,resOfs,resOf,St.cellsAt,resOk,he,hn]
 ·refine jqs (fn:=q1i) (s:=?s2) rfl rfl (q7v_ ?h2) ?r2
  case h2=>simp[q7v,h,he];rfl
  case r2=>simp[finish,results,q1i,resOfs,resOf,St.cellsAt,resOk,he]
theorem jz8 {v:List Int} (hs:Sz v.length):∀k i,i+k=v.length→
  runL pg q4z ⟨[(0,LI v),(1,LI v),(5,I (i:Int))],[],gh⟩=some (.normal,⟨[],[],gh⟩)
 |0,i,h=>by
  have hlt:¬i<v.length:=by omega
  refine (jqy (s1:=?s1) (q7x_ ?h1)).trans ?r1
  case h1=>simp[q7x,hlt];rfl
  case r1=>simp[keep]
 |k+1,i,h=>by
  have hlt:i<v.length:=by omega
  have e3:IntKind.i64.wrap ((i:Int)+1)=((i+1:Nat):Int):=jrj (by simp only[Sz] at hs ⊢;omega)
  refine jqw (s1:=⟨[(0,LI v),(1,LI v),(5,I ((i+1:Nat):Int))],[],gh⟩) (q7x_ ?h2) (jz8 hs k (i+1) (by omega))
  case h2=>simp[q7x,hlt,e3]
theorem j15q {v:List Int} (hs:Sz v.length):callL pg 46 [LI v,LI v] gh=some (B true,gh):=by
 have h:=jz8 (gh:=gh) hs v.length 0 (by omega)
 simp only[Int.natCast_zero] at h
 have hk:=qqj_ (pg:=pg) (gh:=gh) (e:= .ret) (s:=⟨[(4,B true)],[],gh⟩) rfl
 refine jqs (fn:=q51) (s:=?s1) rfl rfl (qcs_ ?h1) ?r1
 case h1=>simp[qcs,h,hk];rfl
 case r1=>simp[finish,results,q51,resOfs,resOf,resOk]
theorem jz9 {cls:List (List Int)} (hs:SL cls) (hz:Sz cls.length):∀k i,i+k=cls.length→
  runL pg q5a ⟨[(0,.sl false 1 (LLI cls)),(1,.sl false 1 (LLI cls)),(5,I (i:Int))],[],gh⟩=some (.normal,⟨[],[],gh⟩)
 |0,i,h=>by
  have hlt:¬i<cls.length:=by omega
  refine (jqy (s1:=?s1) (q7z_ ?h1)).trans ?r1
  case h1=>simp[q7z,hlt];rfl
  case r1=>simp[keep]
 |k+1,i,h=>by
  have hlt:i<cls.length:=by omega
  have e3:IntKind.i64.wrap ((i:Int)+1)=((i+1:Nat):Int):=jrj (by simp only[Sz] at hz ⊢;omega)
  have hx:(cls.map fun l=>LI l)[i]?=some (LI cls[i]):=by simp[List.getElem?_eq_getElem hlt]
  have h1:=j15q (gh:=gh) (hs _ (List.getElem_mem hlt))
  refine jqw (s1:=⟨[(0,.sl false 1 (LLI cls)),(1,.sl false 1 (LLI cls)),(5,I ((i+1:Nat):Int))],[],gh⟩) (q7z_ ?h2) (jz9 hs hz k (i+1) (by omega))
  case h2=>simp[q7z,hlt,hx,h1,e3,-List.getElem?_map]
theorem j15r {cls:List (List Int)} (hs:SL cls) (hz:Sz cls.length):callL pg 95 [.sl false 1 (LLI cls),.sl false 1 (LLI cls)] gh=some (B true,gh):=by
 have h:=jz9 (gh:=gh) hs hz cls.length 0 (by omega)
 simp only[Int.natCast_zero] at h
 have hk:=qqk_ (pg:=pg) (gh:=gh) (e:= .ret) (s:=⟨[(4,B true)],[],gh⟩) rfl
 generalize LLI cls=L at *
 refine jqs (fn:=q5c) (s:=?s1) rfl rfl (qct_ ?h1) ?r1
 case h1=>simp[qct,h,hk];rfl
 case r1=>simp[finish,results,q5c,resOfs,resOf,resOk]
theorem jza {vars:Int} {cls:List (List Int)} (hs:SL cls) (hz:Sz cls.length):callL pg 60 [clV vars cls,clV vars cls] gh=some (B true,gh):=by
 have h:=j15r (gh:=gh) hs hz
 unfold clV
 refine jqs (fn:=q57) (s:=?s1) rfl rfl (qcu_ ?h1) ?r1
 case h1=>simp[qcu,h];rfl
 case r1=>simp[finish,results,q57,resOfs,resOf,resOk]
theorem j15s {vars:Int} {cls:List (List Int)} (hs:SL cls) (hz:Sz cls.length):callL pg 19 [clV vars cls,I 0,I 0,clV vars cls] gh=some (B true,gh):=by
 have h:=jza (gh:=gh) (vars:=vars) hs hz
 unfold clV at *
 have hk:=q80_ (pg:=pg) (gh:=gh) (x1:=0) (x2:=0) (xc0_0:=vars) (vc0_1:= .sl false 1 (cls.map fun l=>LI l)) (xc1_0:=vars) (vc1_1:= .sl false 1 (cls.map fun l=>LI l)) (e:= .ret) (s:=⟨[(8,B true)],[],gh⟩) (by simp[q80,h])
 refine jqs (fn:=q19) (s:=?s1) rfl rfl (q81_ ?h1) ?r1
 case h1=>simp[q81,hk];rfl
 case r1=>simp[finish,results,q19,resOfs,resOf,resOk]
theorem jvi {e v:Int} {L:List PV} (he:e≠0):callL pg 19 [clV 0 [],I e,I e,.agg [I v,.sl false 1 L]] gh=some (B true,gh):=by
 have h:=jza (gh:=gh) (vars:=0) (cls:=[]) (fun l h=>by cases h) (by simp)
 unfold clV at *
 simp only[List.map_nil] at *
 have hk:=q80_ (pg:=pg) (gh:=gh) (x1:=e) (x2:=e) (xc0_0:=0) (vc0_1:= .sl false 1 []) (xc1_0:=0) (vc1_1:= .sl true 1 []) (e:= .ret) (s:=⟨[(8,B true)],[],gh⟩) (by simp[q80,h])
 refine jqs (fn:=q19) (s:=?s1) rfl rfl (q81_ ?h1) ?r1
 case h1=>simp[q81,he,hk];rfl
 case r1=>simp[finish,results,q19,resOfs,resOf,resOk]
end
end Go.Lw
end

/-! What must be of the proving by steps in any case: reckoned. -/
section
namespace Go.Lw
open Go
set_option maxRecDepth 100000 in
theorem j163:callL pg 335 [] []=some (.bool true,[]):=j14x (n:=2000) (by kernel_rfl)
end Go.Lw
end
