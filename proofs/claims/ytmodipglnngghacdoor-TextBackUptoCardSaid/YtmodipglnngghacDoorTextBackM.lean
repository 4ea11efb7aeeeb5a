/-
  The texts that the proof stands on, part 13.
-/
import Derived.Test.YtmodipglnngghacDoorTextBackL
import Derived.Tactics
import Derived.KernelRfl
set_option linter.unusedVariables false
set_option linter.unusedSimpArgs false
set_option linter.unnecessarySimpa false

/-! Every operation of the machine, calls too, does what its Go operation does. -/
section
namespace Go.Lw
open Go Go.RowKit
section
variable {fi:FI} {M M':Mem} {w w':World} {P:Program} {s s':St} {a:Act} {cf:CallF}
def CallOk (P:Program) (fi:FI) (F:Nat) (vs:List PV) (gh:List GObj) (r:PV) (gh':List GObj):Prop:=
  ∀ (M:Mem) (w:World) (args:List Value),GI fi M w gh→M.lb=[]→(∀b l,M.own b=some l→∃i j,l= .gh i j)→args.length=vs.length→
    (∀(i:Nat) (p:PV) (v:Value),vs[i]?=some p→args[i]?=some v→RepP fi M w p v)→
    Calls P F args.toArray w fun e w'=>∃v M',e= .returned v∧GI fi M' w' gh'∧M'.lb=[]∧resOk r=true∧RepAt fi M' w' Loc.res r v∧Kp M w M' w'
def CfOk (P:Program) (fi:FI) (cf:CallF):Prop:=
  ∀ f vs gh r gh' F,cf f vs gh=some (r,gh')→(∀p∈vs,argOk p=true)→fi f=some F→
    (∃ fn c, P.funcs[F]? = some fn ∧ (fn.name == "runtime.NumGoroutine") = false ∧ fn.body = some c) ∧ CallOk P fi F vs gh r gh'
def mOpC (P:Program) (fi:FI) (i:IOp) (op:Op):Bool:=
  match i,op with
  | .call _ _ f xs,.call {callee:= .value (.func F),args,.. }| .callP _ f xs _,.call {callee:= .value (.func F),args,.. }| .callR _ f xs _ _,.call {callee:= .value (.func F),args,.. }| .callF _ f xs,.call {callee:= .value (.func F),args,.. }=>fi f==some F&&mXs fi xs args.toList
  | .callv _ _ fv xs,.call {callee:= .value y,args,.. }| .callE _ fv xs,.call {callee:= .value y,args,.. }=>mX fi fv y&&mXs fi xs args.toList
  | .loadN d agg k x _,op=>mOp P fi (.load d agg k x) op
  | .loadL d x,op=>mOp P fi (.loadT d x) op
  | .appendE d bytes y x,op=>mOp P fi (.append d 1 bytes y x) op
  | .loadKB d x _,op=>mOp P fi (.load d false 1 x) op
  | .loadTB d x _ _,op=>mOp P fi (.loadT d x) op
  | .loadB d agg k x _,op=>mOp P fi (.load d agg k x) op
  | .loadJ d agg k x,op=>mOp P fi (.load d agg k x) op
  | .appendP d bytes y x _,op=>mOp P fi (.append d 1 bytes y x) op
  | .mkarr d z bytes zero l,op=>mOp P fi (.mksl d true z bytes zero l) op
  | .buildA d z ps,op=>mOp P fi (.buildT d z ps) op
  | .appendK d bytes y x,op=>mOp P fi (.append d 1 bytes y x) op
  | .appendN d bytes y x,op=>mOp P fi (.append d 1 bytes y x) op
  | .buildSlK d els,op=>mOp P fi (.buildSl d 1 els) op
  | .boxSl d z els,op=>mOp P fi (.buildSl d z els) op
  | .loadK d x,op=>mOp P fi (.load d false 1 x) op
  | .loadH d x,op=>mOp P fi (.load d false 1 x) op
  | .storeK y x,op=>mOp P fi (.store false 1 y x) op
  |i,op=>mOp P fi i op
theorem jdv {F : Nat} {fn : Func} {c : Code} (hf : P.funcs[F]? = some fn) (hn : (fn.name == "runtime.NumGoroutine") = false) (hb : fn.body = some c) (args : Array Value) (w : World) :
    (callFunc F args).run P w= .ok (.enter F args) w:=by
  have h1 : fn.name ≠ "runtime.NumGoroutine" := by simpa using hn
  simp[callFunc,hf,h1,hb]
theorem RepE.fnInv {f:Nat} {cs:List PV} {v:Value} (h:RepE fi M w (.fn f cs) v):∃F vs,fi f=some F∧v= .func (.func F) #[] (vs:List Value).toArray∧vs.length=cs.length∧cs.all argOk=true∧
    ∀(i:Nat) (c:PV) (u:Value),cs[i]?=some c→vs[i]?=some u→RepP fi M w c u:=by
  cases (show RepP fi M w (.fn f cs) v from h) with
  |fn _ F _ vs hf hl h1 h2=>exact⟨F,vs,hf,rfl,hl,h1,h2⟩
theorem RepE.bfnInv {f:Nat} {cs:List PV} {v:Value} (h:RepE fi M w (.bfn f cs) v):∃F vs,fi f=some F∧v= .func (.func F) (vs:List Value).toArray #[]∧vs.length=cs.length∧cs.all argOk=true∧
    ∀(i:Nat) (c:PV) (u:Value),cs[i]?=some c→vs[i]?=some u→RepP fi M w c u:=by
  cases (show RepP fi M w (.bfn f cs) v from h) with
  |bfn _ F _ vs hf hl h1 h2=>exact⟨F,vs,hf,rfl,hl,h1,h2⟩
theorem jkx {g:Bool} {p:PV} {v:Value} (h:RepP fi M w p v) (hg:g=false→p.noG=true):RepP fi (M.callee g) w p v:=by
  cases hgb:g with
  |true=>subst hgb;exact h.mono (show Ext M w (M.callee true) w from⟨fun _ _ h=>h,fun _ _ h=>h,fun _ _ _=>rfl,fun _ _=>⟨Nat.le_refl _,fun _=>rfl⟩⟩)
  | false=>
    subst hgb
    exact (h.noG [] M.st (hg rfl)).mono (show Ext {M with gb:=[],st:=M.st } w (M.callee false) w from⟨fun _ _ h=>h,fun _ _ h=>h,fun _ _ _=>rfl,fun _ _=>⟨Nat.le_refl _,fun _=>rfl⟩⟩)
def dstL:Option Nat→Nat→Loc
  |some d=>Loc.env d
  |none=>Loc.lim
theorem jdw (hI:Inv fi M w s a) {o:Oper} {F:Nat} {args:List Value} {vs:List PV} {g:Bool} {r:PV} {gh':List GObj} (hrun:(execOp a.eval o).run P w= .ok (.enter F args.toArray) w)
    (hok:CallOk P fi F vs (if g then s.gh else []) r gh') (hl:args.length=vs.length) (hr:∀(i:Nat) (p:PV) (v:Value),vs[i]?=some p→args[i]?=some v→RepP fi M w p v) (hg:g=false→noGs vs=true∧r.noG=true)
    (hlt:∀d,o.dst=some d→d<a.tmps.size) {next:Act→World→Prop} {Q:Exit→Act→World→Prop}
    (hn:∀a' M' w',Inv fi M' w' ⟨putO s.env o.dst r,s.lh,if g then gh' else s.gh⟩ a'→Kp M w M' w'→a'.tmps.size=a.tmps.size→next a' w'):o.wp P a w next Q:=by
  unfold Oper.wp
  rw[hrun,Oper.upon_enter]
  obtain⟨c1,c2,c3⟩:=hI.callee g
  refine Calls.mono (hok (M.callee g) w args c1 c2 c3 hl (fun i p v hp hv=>jkx (hr i p v hp hv) (fun e=>jb1 (hg e).1 hp))) ?_
  rintro e w2 ⟨v,M2,rfl,hG,hlb,hrok,hrep,hk⟩
  obtain⟨b1,b2,b3⟩:=hI.back g (dstL o.dst) (fun i=>by cases o.dst<;>rfl) hG hlb hk hrep (fun e=>(hg e).2) hrok
  simp only
  cases hd:o.dst with
  | none=>
    rw[hd] at b1 b2 b3 hn
    exact hn _ _ _ b1 b2 rfl
  | some d=>
    rw[hd] at b1 b2 b3 hn
    exact hn _ _ _ (b1.put (hlt d hd) b3) b2 (by simp[Act.put])
theorem Sim.wp {o:Oper} (h:Sim P fi o M w s' a) {next:Act→World→Prop} {Q:Exit→Act→World→Prop}
    (hn:∀a' M' w',Inv fi M' w' s' a'→Kp M w M' w'→a'.tmps.size=a.tmps.size→next a' w'):o.wp P a w next Q:=by
  obtain⟨n,v,M',w',h1,h2,h3,h4⟩:=h
  unfold Oper.wp
  rw[h1]
  have hs:(a.put o.dst v).tmps.size=a.tmps.size:=by cases o.dst<;>simp[Act.put]
  rcases h2 with rfl|⟨rfl,rfl⟩
  · exact hn _ _ _ h3 h4 hs
  · exact hn _ _ _ h3 h4 hs
def Mem.reads (M:Mem):Mem:={lb:=[],gb:=[],imm:=fun b k=>M.imm b k∨b∈M.gb,own:=fun _=>none,st:=M.st }
theorem Inv.reads (hI:Inv fi M w s a):GI fi M.reads w []:=
  ⟨fun t v h=>by simp[get] at h,rfl,rfl,rfl,by simp[Mem.reads],fun i cs blk h=>by simp at h,fun i o blk h1 h2=>by simp at h1,
    fun x hx=>⟨.inl (hI.gl x hx).1,(hI.gl x hx).2⟩,fun b k h=>h.elim (hI.immlt b k) (hI.gblt b),fun b l h=>by simp[Mem.reads] at h,fun b hb=>by simp[Mem.reads] at hb⟩
set_option maxHeartbeats 1600000 in
theorem op_wp (hcf:CfOk P fi cf) (hI:Inv fi M w s a) {o:Oper} {i:IOp} (hm:mOpC P fi i o.op=true) (hd:o.dst=opDst i) (hlt:∀d,opDst i=some d→d<a.tmps.size) (h:opStep cf s i=some s')
    {next:Act→World→Prop} {Q:Exit→Act→World→Prop} (hn:∀a' M' w',Inv fi M' w' s' a'→Kp M w M' w'→a'.tmps.size=a.tmps.size→next a' w'):o.wp P a w next Q:=by
  have hlt':∀d,o.dst=some d→d<a.tmps.size:=fun d h=>hlt d (by rw[←hd];exact h)
  cases i with
  | call d q f xs=>
    obtain⟨dst,op,ty,pos,aft,gd⟩:=o
    cases op<;>simp[mOpC,mOp] at hm
    rename_i c
    obtain⟨callee,args,ats⟩:=c
    cases callee with
    | value y =>
      cases y<;>simp at hm
      rename_i F
      obtain⟨hf,hxs⟩:=hm
      simp only[opStep,Option.bind_eq_some_iff] at h
      obtain⟨vs,hvs,h⟩:=h
      unfold doCall at h
      split at h
      · rename_i hall
        simp only[List.all_eq_true] at hall
        obtain⟨e1,e2⟩:=jbm hI hxs hvs
        cases hc:cf f vs s.gh with
        |none=>simp[hc] at h
        | some rg=>
          obtain⟨r,gh'⟩:=rg
          simp only[hc] at h
          obtain⟨⟨fn,cd,hfn,hnm,hbd⟩,hok⟩:=hcf f vs s.gh r gh' F hc hall hf
          have hs':s'=⟨putO s.env d r,s.lh,gh'⟩:=by
            split at h
            · split at h
              · rename_i he;cases h;rw[he]
              · cases h
            · cases h;rfl
          subst hs'
          refine jdw (g:=true) (args:=args.toList.map a.eval) (vs:=vs) (F:=F) (r:=r) (gh':=gh') hI ?_ hok (by simpa using e1) (fun i p v hp hv=>?_) (by simp) hlt' ?_
          · have hcap:args.map a.eval=(List.map a.eval args.toList).toArray:=by apply Array.ext';simp
            have hev:a.eval (.func F)= .func (.func F) #[] #[]:=rfl
            simp[execOp,resolve,Deferred.ofValue,invoke,hev,hcap,jdv hfn hnm hbd]
          · simp only[List.getElem?_map,Option.map_eq_some_iff] at hv
            obtain⟨y,hy,rfl⟩:=hv
            refine (e2 i p y hp hy).repP ?_
            exact hall p (List.mem_of_getElem? hp)
          · rw[show dst=d from hd];exact hn
      · cases h
    |_=>simp at hm
  | callv d q fv xs=>
    obtain⟨dst,op,ty,pos,aft,gd⟩:=o
    cases op<;>simp[mOpC,mOp] at hm
    rename_i c
    obtain⟨callee,args,ats⟩:=c
    cases callee with
    | value y =>
      simp at hm
      obtain⟨hfv,hxs⟩:=hm
      simp only[opStep] at h
      split at h
      · rename_i f caps hcl
        simp only[Option.bind_eq_some_iff] at h
        obtain⟨vs,hvs,h⟩:=h
        obtain⟨F,us,hf,hv,hul,hcok,hur⟩:=(jag hI hfv hcl).fnInv
        unfold doCall at h
        split at h
        · rename_i hall
          simp only[List.all_eq_true] at hall
          obtain⟨e1,e2⟩:=jbm hI hxs hvs
          cases hc:cf f (vs++caps) s.gh with
          |none=>simp[hc] at h
          | some rg=>
            obtain⟨r,gh'⟩:=rg
            simp only[hc] at h
            obtain⟨⟨fn,cd,hfn,hnm,hbd⟩,hok⟩:=hcf f (vs++caps) s.gh r gh' F hc hall hf
            have hs':s'=⟨putO s.env d r,s.lh,gh'⟩:=by
              split at h
              · split at h
                · rename_i he;cases h;rw[he]
                · cases h
              · cases h;rfl
            subst hs'
            have hvl:(args.toList.map a.eval).length=vs.length:=by simpa using e1
            refine jdw (g:=true) (args:=args.toList.map a.eval++us) (vs:=vs++caps) (F:=F) (r:=r) (gh':=gh') hI ?_ hok (by simp only[List.length_append];omega) (fun i p v hp hv=>?_) (by simp) hlt' ?_
            · have hcap:args.map a.eval=(List.map a.eval args.toList).toArray:=by apply Array.ext';simp
              simp[execOp,resolve,Deferred.ofValue,invoke,hv,hcap,jdv hfn hnm hbd]
            · by_cases hi:i<vs.length
              · rw[List.getElem?_append_left hi] at hp
                rw[List.getElem?_append_left (by omega)] at hv
                simp only[List.getElem?_map,Option.map_eq_some_iff] at hv
                obtain⟨y,hy,rfl⟩:=hv
                exact (e2 i p y hp hy).repP (hall p (List.mem_append_left _ (List.mem_of_getElem? hp)))
              · rw[List.getElem?_append_right (by omega)] at hp
                rw[List.getElem?_append_right (by omega),hvl] at hv
                exact hur _ p v hp hv
            · rw[show dst=d from hd];exact hn
        · cases h
      · rename_i f caps hcl
        simp only[Option.bind_eq_some_iff] at h
        obtain⟨vs,hvs,h⟩:=h
        obtain⟨F,us,hf,hv,hul,hcok,hur⟩:=(jag hI hfv hcl).bfnInv
        unfold doCall at h
        split at h
        · rename_i hall
          simp only[List.all_eq_true] at hall
          obtain⟨e1,e2⟩:=jbm hI hxs hvs
          cases hc:cf f (caps++vs) s.gh with
          |none=>simp[hc] at h
          | some rg=>
            obtain⟨r,gh'⟩:=rg
            simp only[hc] at h
            obtain⟨⟨fn,cd,hfn,hnm,hbd⟩,hok⟩:=hcf f (caps++vs) s.gh r gh' F hc hall hf
            have hs':s'=⟨putO s.env d r,s.lh,gh'⟩:=by
              split at h
              · split at h
                · rename_i he;cases h;rw[he]
                · cases h
              · cases h;rfl
            subst hs'
            have hvl:(args.toList.map a.eval).length=vs.length:=by simpa using e1
            refine jdw (g:=true) (args:=us++args.toList.map a.eval) (vs:=caps++vs) (F:=F) (r:=r) (gh':=gh') hI ?_ hok (by simp only[List.length_append];omega) (fun i p v hp hv=>?_) (by simp) hlt' ?_
            · have hcap:args.map a.eval=(List.map a.eval args.toList).toArray:=by apply Array.ext';simp
              simp[execOp,resolve,Deferred.ofValue,invoke,hv,hcap,jdv hfn hnm hbd]
            · by_cases hi:i<caps.length
              · rw[List.getElem?_append_left hi] at hp
                rw[List.getElem?_append_left (by omega)] at hv
                exact hur _ p v hp hv
              · rw[List.getElem?_append_right (by omega)] at hp
                rw[List.getElem?_append_right (by omega),hul] at hv
                simp only[List.getElem?_map,Option.map_eq_some_iff] at hv
                obtain⟨y,hy,rfl⟩:=hv
                exact (e2 _ p y hp hy).repP (hall p (List.mem_append_right _ (List.mem_of_getElem? hp)))
            · rw[show dst=d from hd];exact hn
        · cases h
      · cases h
    |_=>simp at hm
  |callE=>simp[opStep] at h
  |callF=>simp[opStep] at h
  |callP=>simp[opStep] at h
  |callR=>simp[opStep] at h
  |appendE=>simp[opStep] at h
  |loadKB=>simp[opStep] at h
  |loadTB=>simp[opStep] at h
  |loadB=>simp[opStep] at h
  |loadJ=>simp[opStep] at h
  |appendP=>simp[opStep] at h
  |mkarr=>simp[opStep] at h
  |buildA=>simp[opStep] at h
  |boxSl=>simp[opStep] at h
  |loadN=>simp[opStep] at h
  |loadL=>simp[opStep] at h
  |mv=>exact (sim_mv ⟨hI,by simpa [mOpC] using hm,hd,hlt⟩ h).wp hn
  |tk=>exact (sim_tk ⟨hI,by simpa [mOpC] using hm,hd,hlt⟩ h).wp hn
  |pick=>exact (jk1 ⟨hI,by simpa [mOpC] using hm,hd,hlt⟩ h).wp hn
  |box=>exact (jk2 ⟨hI,by simpa [mOpC] using hm,hd,hlt⟩ h).wp hn
  |alloc=>exact (jk3 ⟨hI,by simpa [mOpC] using hm,hd,hlt⟩ h).wp hn
  |build=>exact (jkr ⟨hI,by simpa [mOpC] using hm,hd,hlt⟩ h).wp hn
  |buildT=>exact (jkt ⟨hI,by simpa [mOpC] using hm,hd,hlt⟩ h).wp hn
  |buildSl=>exact (jku ⟨hI,by simpa [mOpC] using hm,hd,hlt⟩ h).wp hn
  |load=>exact (jk4 ⟨hI,by simpa [mOpC] using hm,hd,hlt⟩ h).wp hn
  |loadT=>exact (jk6 ⟨hI,by simpa [mOpC] using hm,hd,hlt⟩ h).wp hn
  |store=>exact (jk7 ⟨hI,by simpa [mOpC] using hm,hd,hlt⟩ h).wp hn
  |nilc=>exact (jk8 ⟨hI,by simpa [mOpC] using hm,hd,hlt⟩ h).wp hn
  |bin=>exact (jk9 ⟨hI,by simpa [mOpC] using hm,hd,hlt⟩ h).wp hn
  |eqa=>exact (jka ⟨hI,by simpa [mOpC] using hm,hd,hlt⟩ h).wp hn
  |eqb=>simp[opStep] at h
  |eqn=>exact (jkb ⟨hI,by simpa [mOpC] using hm,hd,hlt⟩ h).wp hn
  |un=>exact (sim_un ⟨hI,by simpa [mOpC] using hm,hd,hlt⟩ h).wp hn
  |conv=>simp[opStep] at h
  |mkfn=>exact (jkc ⟨hI,by simpa [mOpC] using hm,hd,hlt⟩ h).wp hn
  |mkbf=>simp[opStep] at h
  |storeK=>simp[opStep] at h
  |clearK=>simp[opStep] at h
  |loadG=>exact (jk5 ⟨hI,by simpa [mOpC] using hm,hd,hlt⟩ h).wp hn
  |boxB=>exact (jke ⟨hI,by simpa [mOpC] using hm,hd,hlt⟩ h).wp hn
  |mkbld=>simp[opStep] at h
  |mkmap=>exact (jkd ⟨hI,by simpa [mOpC] using hm,hd,hlt⟩ h).wp hn
  |mksl=>simp[opStep] at h
  |slice=>exact (jkf ⟨hI,by simpa [mOpC] using hm,hd,hlt⟩ h).wp hn
  |sliceS=>simp[opStep] at h
  |faddr=>exact (jkg ⟨hI,by simpa [mOpC] using hm,hd,hlt⟩ h).wp hn
  |field=>simp[opStep] at h
  |iaddr=>exact (jkh ⟨hI,by simpa [mOpC] using hm,hd,hlt⟩ h).wp hn
  |index=>exact (jki ⟨hI,by simpa [mOpC] using hm,hd,hlt⟩ h).wp hn
  |indexS=>simp[opStep] at h
  |lookup=>exact (jkj ⟨hI,by simpa [mOpC] using hm,hd,hlt⟩ h).wp hn
  |mupd=>exact (jkk ⟨hI,by simpa [mOpC] using hm,hd,hlt⟩ h).wp hn
  |len=>exact (jkl ⟨hI,by simpa [mOpC] using hm,hd,hlt⟩ h).wp hn
  |append=>exact (jkm ⟨hI,by simpa [mOpC] using hm,hd,hlt⟩ h).wp hn
  |appendK=>simp[opStep] at h
  |appendN=>simp[opStep] at h
  |loadH=>simp[opStep] at h
  |loadK=>simp[opStep] at h
  |buildSlK=>simp[opStep] at h
  |maxi=>simp[opStep] at h
  |extract=>exact (jkn ⟨hI,by simpa [mOpC] using hm,hd,hlt⟩ h).wp hn
end
end Go.Lw
end

/-! Regions that are run as they stand. -/
section
namespace Go.Lw
open Go Go.RowKit
section
variable {fi:FI} {M M':Mem} {w w':World} {P:Program} {s s':St} {a:Act} {cf:CallF}
def mGuard (ops:Array Oper):Option (Nat×Bool)→Option (Nat×Bool)→Bool
 |none,none=>true
 |some (t,want),some (g,want')=>((ops[g]?).bind (·.dst)==some t)&&(want==want')
 |_,_=>false
def mOpG (P:Program) (fi:FI) (N:Nat) (ops:Array Oper) (i:IOpG) (o:Oper):Bool:=
 mOpC P fi i.op o.op&&(o.dst==opDst i.op)&&(match opDst i.op with|some d=>decide (d<N)|none=>true)&&mGuard ops i.guard o.guard
def mOps (P:Program) (fi:FI) (N:Nat) (ops:Array Oper):List IOpG→List Oper→Bool
 |[],[]=>true
 |i::is,o::os=>mOpG P fi N ops i o&&mOps P fi N ops is os
 |_,_=>false
theorem jky {N:Nat} {ops:Array Oper} {i:IOpG} {o:Oper} (h:mOpG P fi N ops i o=true) :
  mOpC P fi i.op o.op=true∧o.dst=opDst i.op∧(∀d,opDst i.op=some d→d<N)∧mGuard ops i.guard o.guard=true:=by
 simp only[mOpG,Bool.and_eq_true,beq_iff_eq] at h
 obtain⟨⟨⟨h1,h2⟩,h3⟩,h4⟩:=h
 refine⟨h1,h2,fun d hd=>?_,h4⟩
 rw[hd] at h3
 simpa using h3
noncomputable def opG (cf:CallF) (i:IOpG) (s:St):Option St:=
 match i.guard with
 |none=>opStep cf s i.op
 |some (g,want)=>match get s.env g with
  |some (.bool b)=>if b=want then opStep cf s i.op else some (skipped s i.op)
  |some .und=>some (skipped s i.op)
  |_=>none
theorem jbq (i:IOpG) (l:List IOpG) (s:St):opsRun cf (i::l) s=(opG cf i s).bind (opsRun cf l):=by
 obtain⟨op,gd⟩:=i
 cases gd with
 |none=>rfl
 | some q=>
  obtain⟨g,want⟩:=q
  simp only[opsRun,opG]
  cases hg:get s.env g with
  |none=>rfl
  |some v=>
   cases v<;>simp only[Option.bind_none,Option.bind_some]
   split<;>simp
theorem jkz (hI:Inv fi M w s a) {i:IOp} (hlt:∀d,opDst i=some d→d<a.tmps.size):Inv fi M w (skipped s i) (a.put (opDst i) undef):=by
 unfold skipped
 cases hd:opDst i with
 |none=>exact hI
 |some d=>exact hI.put (hlt d hd) (RepP.repE .und).repAt
theorem opG_wp (hcf:CfOk P fi cf) (hI:Inv fi M w s a) {N:Nat} {ops:Array Oper} {i:IOpG} {o:Oper} (hm:mOpG P fi N ops i o=true) (hN:N≤a.tmps.size) (h:opG cf i s=some s')
  {next:Act→World→Prop} {Q:Exit→Act→World→Prop} (hn:∀a' M' w',Inv fi M' w' s' a'→Kp M w M' w'→a'.tmps.size=a.tmps.size→next a' w') :
  if Region.wanted o (yielded ops a.tmps) then o.wp P a w next Q else next (a.put o.dst undef) w:=by
 obtain⟨h1,h2,h3,h4⟩:=jky hm
 have hlt:∀d,opDst i.op=some d→d<a.tmps.size:=fun d hd=>Nat.lt_of_lt_of_le (h3 d hd) hN
 have hskip:next (a.put o.dst undef) w∨s'≠skipped s i.op:=by
  by_cases hs:s'=skipped s i.op
  ·left
   subst hs
   rw[h2]
   exact hn _ M w (jkz hI hlt) (Kp.refl M w) (by cases opDst i.op<;>simp[Act.put])
  ·exact .inr hs
 unfold opG at h
 unfold Region.wanted
 cases hg:i.guard with
 |none=>
  rw[hg] at h h4
  cases hog:o.guard with
  |none=>simp only[if_true];exact op_wp hcf hI h1 h2 hlt h hn
  |some q=>rw[hog] at h4;simp[mGuard] at h4
 | some q=>
  obtain⟨g,want⟩:=q
  rw[hg] at h h4
  cases hog:o.guard with
  |none=>rw[hog] at h4;simp[mGuard] at h4
  | some q'=>
   obtain⟨j,want'⟩:=q'
   rw[hog] at h4
   simp only[mGuard,Bool.and_eq_true,beq_iff_eq] at h4
   obtain⟨hdj,rfl⟩:=h4
   simp only at h
   have hy:∀v,get s.env g=some v→yielded ops a.tmps j=(match a.tmps.getD g undef with| .bool b=>some b|_=>none):=by
    intro v hv
    have hlt:=(hI.env g v hv).1
    simp only[yielded,hdj,Option.bind_some]
    simp only[Array.getD_eq_getD_getElem?,Array.getElem?_eq_getElem hlt,Option.getD_some]
    split<;>split<;>simp_all
   split at h
   ·rename_i b hb
    have hv:a.tmps.getD g undef= .bool b:=RepE.bool (hI.env g _ hb).2
    simp only[hy _ hb,hv]
    split at h
    ·rename_i hbw
     subst hbw
     simp only[beq_self_eq_true,if_true]
     exact op_wp hcf hI h1 h2 hlt h hn
    ·rename_i hbw
     cases h
     rw[if_neg (by simpa using hbw)]
     exact hskip.resolve_right (by simp)
   ·rename_i hb
    cases h
    have hv:a.tmps.getD g undef=undef:=by
     have:=(hI.env g _ hb).2
     generalize a.tmps.getD g undef=u at this
     cases (show RepP fi M w .und u from this);rfl
    simp only[hy _ hb,hv]
    rw[if_neg (by simp[undef])]
    exact hskip.resolve_right (by simp)
   ·cases h
theorem ops_wp (hcf:CfOk P fi cf) {N:Nat} {ops:Array Oper} {Q:Exit→Act→World→Prop}:∀{is:List IOpG} {os:List Oper} {M:Mem} {w:World} {s:St} {a:Act},mOps P fi N ops is os=true→Inv fi M w s a→N≤a.tmps.size→opsRun cf is s=some s'→
  (∀a' M' w',Inv fi M' w' s' a'→Kp M w M' w'→a'.tmps.size=a.tmps.size→Q .normal a' w')→wpList P ops Q os a w
 |[],[],M,w,s,a,_,hI,_,h,hn=>by
  simp[opsRun] at h;subst h
  exact hn a M w hI (Kp.refl M w) rfl
 |[],_::_,_,_,_,_,hm,_,_,_,_=>by simp[mOps] at hm
 |_::_,[],_,_,_,_,hm,_,_,_,_=>by simp[mOps] at hm
 | i::is,o::os,M,w,s,a,hm,hI,hN,h,hn=>by
  simp only[mOps,Bool.and_eq_true] at hm
  rw[jbq,Option.bind_eq_some_iff] at h
  obtain⟨s1,h1,h2⟩:=h
  have:=opG_wp (Q:=Q) (next:=wpList P ops Q os) hcf hI hm.1 hN h1 (fun a' M' w' hI' hk hs=>
   ops_wp hcf hm.2 hI' (by omega) h2 (fun a2 M2 w2 hI2 hk2 hs2=>hn a2 M2 w2 hI2 (hk.trans hk2) (hs2.trans hs)))
  unfold wpList
  split
  ·rename_i hw;rw[if_pos hw] at this;exact .inl this
  ·rename_i hw;rw[if_neg hw] at this;exact this
end
end Go.Lw
end

/-! What an operation looks at and what it changes: two that do not meet may change places. -/
section
namespace Go.Lw
open Go Go.RowKit
def rdX:IX→List Nat
 | .t n=>[n]
 |_=>[]
def rdXs (xs:List IX):List Nat:=xs.flatMap rdX
def rdO:Option IX→List Nat
 |some x=>rdX x
 |none=>[]
def rdPs (ps:List (Nat×Nat×IX)):List Nat:=ps.flatMap fun p=>rdX p.2.2
def rd:IOp→List Nat
 | .mv _ x| .clearK x| .box _ _ _ x| .load _ _ _ x| .loadK _ x| .loadH _ x| .loadT _ x| .loadL _ x| .nilc _ x| .eqn _ _ x| .un _ _ x| .conv _ _ x| .faddr _ x _| .field _ _ _ _ x| .len _ _ x| .extract _ x _| .mksl _ _ _ _ _ x| .mkarr _ _ _ _ x| .loadJ _ _ _ x| .boxB _ x=>rdX x
 | .tk _ n=>[n]
 | .pick _ c x y=>rdX c++(rdX x++rdX y)
 | .alloc _ _ _| .mkmap _| .mkbld _| .loadG _ _=>[]
 | .build _ _ ps| .buildT _ _ ps| .buildA _ _ ps=>rdPs ps
 | .buildSl _ _ xs| .boxSl _ _ xs| .buildSlK _ xs| .mkfn _ _ xs| .mkbf _ _ xs| .maxi _ xs| .call _ _ _ xs| .callF _ _ xs=>rdXs xs
 | .store _ _ x y| .bin _ _ x y| .eqa _ _ _ x y| .eqb _ _ x y| .iaddr _ _ _ x y| .index _ _ _ _ x y| .indexS _ x y| .lookup _ _ x y _ _| .append _ _ _ x y| .appendN _ _ x y| .appendK _ _ x y| .appendE _ _ x y| .storeK x y=>rdX x++rdX y
 | .slice _ _ x lo hi| .sliceS _ x lo hi=>rdX x++(rdO lo++rdO hi)
 | .mupd _ m k x=>rdX m++(rdX k++rdX x)
 | .callv _ _ f xs| .callE _ f xs=>rdX f++rdXs xs
 | .loadN _ _ _ x n| .loadB _ _ _ x n| .loadKB _ x n| .loadTB _ x n _=>n::rdX x
 | .callP _ _ xs ns=>ns++rdXs xs
 | .callR _ _ xs n _=>n::rdXs xs
 | .appendP _ _ x y ns=>ns++(rdX x++rdX y)
def wr (i:IOp):List Nat:=
 (opDst i).toList++match i with
  | .tk _ n=>[n]
  | .box _ _ true x| .store true _ _ x| .append _ _ _ x _| .appendE _ _ x _=>rdX x
  | .buildT _ _ ps| .buildA _ _ ps=>rdPs ps
  |_=>[]
def cls:IOp→Nat
 | .box _ false _ _| .alloc _ false _=>3
 | .box _ true _ _| .alloc _ true _| .mksl _ true _ _ _ _=>5
 | .mkmap _| .mkbld _| .boxB _ _| .buildSlK _ _=>4
 | .load _ _ _ _| .loadN _ _ _ _ _| .loadB _ _ _ _ _| .loadJ _ _ _ _| .lookup _ _ _ _ _ _| .callE _ _ _=>2
 | .len _ kd _=>if kd=2 then 2 else 0
 | .loadK _ _| .loadKB _ _ _| .appendE _ _ _ _=>1
 | .callP _ _ _ _| .callR _ _ _ _ _| .buildA _ _ _| .boxSl _ _ _=>5
 | .call _ q _ _| .callv _ q _ _=>if q then 1 else 5
 | .loadL _ _=>6
 | .loadH _ _=>8
 | .loadT _ _| .loadTB _ _ _ _| .appendK _ _ _ _=>7
 | .appendN _ _ _ _| .appendP _ _ _ _ _=>9
 | .store _ _ _ _| .mupd _ _ _ _| .storeK _ _| .clearK _=>5
 |_=>0
def GObj.deg:GObj→GObj
 | .cells cs=> .cells (cs.map degr1)
 | .map es=> .map es
 | .stk _ _=> .stk 0 []
 | .bld s=> .bld s
def HOk (c:Nat) (s s2:St):Prop:=
 match c with
 |0=>True
 |1=>s2.gh=s.gh
 |2=>(∀(b:Nat) (cs:List PV),s.lh[b]?=some cs→∃cs2,s2.lh[b]?=some cs2∧cs2.map degr1=cs.map degr1)∧∀(b:Nat) (o:GObj),s.gh[b]?=some o→∃o2,s2.gh[b]?=some o2∧o2.deg=o.deg
 |8=>s2.lh=s.lh
 |_=>s2.lh=s.lh∧s2.gh=s.gh
def HRes (c:Nat) (s s' s2 s2':St):Prop:=
 match c with
 |0|1|2|8=>s'.lh=s.lh∧s'.gh=s.gh∧s2'.lh=s2.lh∧s2'.gh=s2.gh
 |3=>(∃cs,s'.lh=s.lh++[cs])∧s'.gh=s.gh∧s2'.lh=s'.lh∧s2'.gh=s'.gh
 |4=>s'.lh=s.lh∧(∃o,s'.gh=s.gh++[o])∧s2'.lh=s'.lh∧s2'.gh=s'.gh
 |6=>s'.lh.map (List.map degr1)=s.lh.map (List.map degr1)∧s'.gh=s.gh∧s2'.lh=s'.lh∧s2'.gh=s'.gh
 |7=>s'.lh.map (List.map degr1)=s.lh.map (List.map degr1)∧s'.gh.map GObj.deg=s.gh.map GObj.deg∧s2'.lh=s'.lh∧s2'.gh=s'.gh
 |9=>s'.lh=s.lh∧(∀(b:Nat) (o:GObj),s.gh[b]?=some o→∃o2,s'.gh[b]?=some o2∧o2.deg=o.deg)∧s2'.lh=s'.lh∧s2'.gh=s'.gh
 |_=>s2'.lh=s'.lh∧s2'.gh=s'.gh
section
variable {s s' s2:St} {cf:CallF}
theorem jan {e e2:List (Nat×PV)} {x:IX} (h:∀t∈rdX x,get e2 t=get e t):evalX e2 x=evalX e x:=by
 cases x<;>simp[evalX]
 rw[h _ (by simp[rdX])]
theorem jl0 {e e2:List (Nat×PV)} {x:IX} (h:∀t∈rdX x,get e2 t=get e t):evalK e2 x=evalK e x:=by
 cases x<;>simp[evalK]
 rw[h _ (by simp[rdX])]
theorem jc2 {e e2:List (Nat×PV)}:∀{xs:List IX},(∀t∈rdXs xs,get e2 t=get e t)→evalXs e2 xs=evalXs e xs
 |[],_=>rfl
 |x::l,h=>by
  simp only[rdXs,List.flatMap_cons,List.mem_append] at h
  simp only[evalXs]
  rw[jan (fun t ht=>h t (.inl ht)),jc2 (xs:=l) (fun t ht=>h t (.inr ht))]
theorem jfx {e e2:List (Nat×PV)}:∀{ps:List (Nat×Nat×IX)},(∀t∈rdPs ps,get e2 t=get e t)→evalPs e2 ps=evalPs e ps
 |[],_=>rfl
 |(o,k,x)::l,h=>by
  simp only[rdPs,List.flatMap_cons,List.mem_append] at h
  simp only[evalPs]
  rw[jan (fun t ht=>h t (.inl ht)),jfx (ps:=l) (fun t ht=>h t (.inr ht))]
theorem jfy {e e2:List (Nat×PV)} {d:Nat} {x:Option IX} (h:∀t∈rdO x,get e2 t=get e t):sliceBd e2 d x=sliceBd e d x:=by
 cases x with
 |none=>rfl
 |some x=>simp only[sliceBd];rw[jan h]
def EnvR (W:List Nat) (e' e2 e2':List (Nat×PV)):Prop:=∀t,get e2' t=if t∈W then get e' t else get e2 t
theorem EnvR.put {e e2:List (Nat×PV)} {d:Nat} {v:PV} {W:List Nat} (h:∀t,t∈W↔t=d):EnvR W (put e d v) e2 (put e2 d v):=by
 intro t
 rw[jb7,jb7]
 by_cases hd:d=t
 ·subst hd;simp[(h d).2 rfl]
 ·have:t∉W:=fun hw=>hd ((h t).1 hw).symm
  simp[hd,this]
theorem EnvR.refl {e' e2:List (Nat×PV)} {W:List Nat} (h:∀t,t∉W):EnvR W e' e2 e2:=fun t=>by simp[h t]
theorem jc3 {e e2 e':List (Nat×PV)} {x:IX} {v:PV} (h:∀t∈rdX x,get e2 t=get e t) (ht:takeX e x=some (v,e')) :
  ∃e2',takeX e2 x=some (v,e2')∧EnvR (rdX x) e' e2 e2':=by
 cases x with
 |t n=>
  simp only[takeX,Option.map_eq_some_iff,Prod.mk.injEq] at ht ⊢
  obtain⟨v',hv,rfl,rfl⟩:=ht
  rw[h n (by simp[rdX])]
  exact⟨_,⟨v',hv,rfl,rfl⟩,EnvR.put (by simp[rdX])⟩
 |c p=>
  simp only[takeX,Option.some.injEq,Prod.mk.injEq] at ht ⊢
  obtain⟨rfl,rfl⟩:=ht
  exact⟨_,⟨rfl,rfl⟩,EnvR.refl (by simp[rdX])⟩
 |f id=>
  simp only[takeX,Option.some.injEq,Prod.mk.injEq] at ht ⊢
  obtain⟨rfl,rfl⟩:=ht
  exact⟨_,⟨rfl,rfl⟩,EnvR.refl (by simp[rdX])⟩
theorem EnvR.trans {W W2:List Nat} {e' e2 e2' e'' e2'':List (Nat×PV)} (h:EnvR W e' e2 e2') (h2:EnvR W2 e'' e2' e2'') (hf:∀t,t∉W2→get e'' t=get e' t):EnvR (W++W2) e'' e2 e2'':=by
 intro t
 rw[h2 t,h t]
 simp only[List.mem_append]
 by_cases hw2:t∈W2
 ·simp[hw2]
 ·by_cases hw:t∈W
  ·simp[hw,hw2,hf t hw2]
  ·simp[hw,hw2]
theorem jfz:∀{ps:List (Nat×Nat×IX)} {e e2 e':List (Nat×PV)} {vs:List (Nat×Nat×PV)},(∀t∈rdPs ps,get e2 t=get e t)→takePs e ps=some (vs,e')→
  ∃e2',takePs e2 ps=some (vs,e2')∧EnvR (rdPs ps) e' e2 e2'∧∀t,t∉rdPs ps→get e' t=get e t
 |[],e,e2,e',vs,_,ht=>by
  simp only[takePs,Option.some.injEq,Prod.mk.injEq] at ht ⊢
  obtain⟨rfl,rfl⟩:=ht
  exact⟨_,⟨rfl,rfl⟩,EnvR.refl (by simp[rdPs]),fun _ _=>rfl⟩
 | (o,k,x)::l,e,e2,e',vs,h,ht=>by
  simp only[rdPs,List.flatMap_cons,List.mem_append] at h
  simp only[takePs,Option.bind_eq_some_iff,Option.map_eq_some_iff,Prod.exists,Prod.mk.injEq] at ht ⊢
  obtain⟨v,e1,h1,vs',e'',h2,rfl,rfl⟩:=ht
  obtain⟨e3,t1,t2⟩:=jc3 (e2:=e2) (fun t ht=>h t (.inl ht)) h1
  obtain⟨e5,u1,u2⟩:=jc3 (e2:=e) (fun t ht=>rfl) h1
  rw[h1] at u1
  simp only[Option.some.injEq,Prod.mk.injEq,true_and] at u1
  subst u1
  obtain⟨e4,t3,t4,t5⟩:=jfz (ps:=l) (e2:=e3) (fun t ht=>by
   rw[t2 t]
   split
   ·rfl
   ·rename_i hx
    rw[u2 t,if_neg hx]
    exact h t (.inr ht)) h2
  refine⟨e4,⟨v,e3,t1,vs',e4,t3,rfl,rfl⟩,?_,fun t ht=>?_⟩
  ·simp only[rdPs,List.flatMap_cons]
   exact t2.trans t4 t5
  ·simp only[rdPs,List.flatMap_cons,List.mem_append,not_or] at ht
   rw[t5 t ht.2,u2 t,if_neg ht.1]
end
end Go.Lw
end

/-! An operation that looks at no box: what it does elsewhere. Written by program. -/
section
namespace Go.Lw
open Go Go.RowKit
section
variable {s s' s2:St} {cf:CallF}
def Fills (cf:CallF) (i:IOp) (d:Nat):Prop:=
 ∀s s2:St,(∀t∈rd i,get s2.env t=get s.env t)→∀s',opStep cf s i=some s'→∃v,s'=s.put d v∧opStep cf s2 i=some (s2.put d v)
theorem fills_mv {d x}:Fills cf (.mv d x) d:=by
 intro s s2 ha s' h
 have h1:evalK s2.env x=evalK s.env x:=jl0 (fun t ht=>ha t (by simp[rd,ht]))
 simp only[opStep,h1] at h ⊢
 simp only[Option.map_eq_some_iff] at h ⊢
 obtain⟨v,hv,rfl⟩:=h
 exact⟨v,rfl,v,hv,rfl⟩
theorem fills_loadG {d ss}:Fills cf (.loadG d ss) d:=by
 intro s s2 ha s' h
 simp only[opStep,Option.some.injEq] at h ⊢
 exact⟨_,h.symm,rfl⟩
theorem fills_pick {d c x y}:Fills cf (.pick d c x y) d:=by
 intro s s2 ha s' h
 have h1:evalX s2.env c=evalX s.env c:=jan (fun t ht=>ha t (by simp[rd,ht]))
 have h2:evalX s2.env x=evalX s.env x:=jan (fun t ht=>ha t (by simp[rd,ht]))
 have h3:evalX s2.env y=evalX s.env y:=jan (fun t ht=>ha t (by simp[rd,ht]))
 simp only[opStep,h1,h2,h3] at h ⊢
 repeat' split at h
 all_goals first
  |(cases h;done)
  |(cases h;exact⟨_,rfl,by simp[*]⟩)
  |(simp only[Option.map_eq_some_iff] at h;obtain⟨v,hv,rfl⟩:=h;exact⟨_,rfl,by simp[*]⟩)
  | (simp only[Option.bind_eq_some_iff] at h;obtain⟨p,hp,q,hq,h⟩:=h;split at h
     ·rename_i hc;cases h;exact⟨_,rfl,by simp[*]⟩
     ·cases h)
theorem fills_build {d z ps}:Fills cf (.build d z ps) d:=by
 intro s s2 ha s' h
 have h1:evalPs s2.env ps=evalPs s.env ps:=jfx (fun t ht=>ha t (by simp[rd,ht]))
 simp only[opStep,h1] at h ⊢
 simp only[Option.bind_eq_some_iff] at h ⊢
 obtain⟨p,hp,h⟩:=h
 split at h
 ·rename_i hc
  simp only[Option.map_eq_some_iff] at h
  obtain⟨v,hv,rfl⟩:=h
  exact⟨_,rfl,p,hp,by rw[if_pos hc,hv];rfl⟩
 ·cases h
theorem fills_buildSl {d z els}:Fills cf (.buildSl d z els) d:=by
 intro s s2 ha s' h
 have h1:evalXs s2.env els=evalXs s.env els:=jc2 (fun t ht=>ha t (by simp[rd,ht]))
 simp only[opStep,h1] at h ⊢
 simp only[Option.bind_eq_some_iff] at h ⊢
 obtain⟨p,hp,h⟩:=h
 split at h
 ·rename_i hc;cases h;exact⟨_,rfl,p,hp,by rw[if_pos hc]⟩
 ·cases h
theorem fills_nilc {d x}:Fills cf (.nilc d x) d:=by
 intro s s2 ha s' h
 have h1:evalX s2.env x=evalX s.env x:=jan (fun t ht=>ha t (by simp[rd,ht]))
 simp only[opStep,h1] at h ⊢
 repeat' split at h
 all_goals first
  |(cases h;done)
  |(cases h;exact⟨_,rfl,by simp[*]⟩)
  |(simp only[Option.map_eq_some_iff] at h;obtain⟨v,hv,rfl⟩:=h;exact⟨_,rfl,by simp[*]⟩)
  | (simp only[Option.bind_eq_some_iff] at h;obtain⟨p,hp,q,hq,h⟩:=h;split at h
     ·rename_i hc;cases h;exact⟨_,rfl,by simp[*]⟩
     ·cases h)
theorem fills_bin {d op x y}:Fills cf (.bin d op x y) d:=by
 intro s s2 ha s' h
 have h1:evalX s2.env x=evalX s.env x:=jan (fun t ht=>ha t (by simp[rd,ht]))
 have h2:evalX s2.env y=evalX s.env y:=jan (fun t ht=>ha t (by simp[rd,ht]))
 simp only[opStep,h1,h2] at h ⊢
 simp only[Option.bind_eq_some_iff,Option.map_eq_some_iff] at h ⊢
 obtain⟨p,hp,q,hq,v,hv,rfl⟩:=h
 exact⟨v,rfl,p,hp,q,hq,v,hv,rfl⟩
theorem fills_eqa {d neg ks x y}:Fills cf (.eqa d neg ks x y) d:=by
 intro s s2 ha s' h
 have h1:evalX s2.env x=evalX s.env x:=jan (fun t ht=>ha t (by simp[rd,ht]))
 have h2:evalX s2.env y=evalX s.env y:=jan (fun t ht=>ha t (by simp[rd,ht]))
 simp only[opStep,h1,h2] at h ⊢
 repeat' split at h
 all_goals first
  |(cases h;done)
  |(cases h;exact⟨_,rfl,by simp[*]⟩)
  |(simp only[Option.map_eq_some_iff] at h;obtain⟨v,hv,rfl⟩:=h;exact⟨_,rfl,by simp[*]⟩)
  | (simp only[Option.bind_eq_some_iff] at h;obtain⟨p,hp,q,hq,h⟩:=h;split at h
     ·rename_i hc;cases h;exact⟨_,rfl,by simp[*]⟩
     ·cases h)
theorem fills_eqn {d neg x}:Fills cf (.eqn d neg x) d:=by
 intro s s2 ha s' h
 have h1:evalX s2.env x=evalX s.env x:=jan (fun t ht=>ha t (by simp[rd,ht]))
 simp only[opStep,h1] at h ⊢
 repeat' split at h
 all_goals first
  |(cases h;done)
  |(cases h;exact⟨_,rfl,by simp[*]⟩)
  |(simp only[Option.map_eq_some_iff] at h;obtain⟨v,hv,rfl⟩:=h;exact⟨_,rfl,by simp[*]⟩)
  | (simp only[Option.bind_eq_some_iff] at h;obtain⟨p,hp,q,hq,h⟩:=h;split at h
     ·rename_i hc;cases h;exact⟨_,rfl,by simp[*]⟩
     ·cases h)
theorem fills_un {d op x}:Fills cf (.un d op x) d:=by
 intro s s2 ha s' h
 have h1:evalX s2.env x=evalX s.env x:=jan (fun t ht=>ha t (by simp[rd,ht]))
 simp only[opStep,h1] at h ⊢
 simp only[Option.bind_eq_some_iff,Option.map_eq_some_iff] at h ⊢
 obtain⟨p,hp,v,hv,rfl⟩:=h
 exact⟨v,rfl,p,hp,v,hv,rfl⟩
theorem fills_mkfn {d f caps}:Fills cf (.mkfn d f caps) d:=by
 intro s s2 ha s' h
 have h1:evalXs s2.env caps=evalXs s.env caps:=jc2 (fun t ht=>ha t (by simp[rd,ht]))
 simp only[opStep,h1] at h ⊢
 simp only[Option.bind_eq_some_iff] at h ⊢
 obtain⟨p,hp,h⟩:=h
 split at h
 ·rename_i hc;cases h;exact⟨_,rfl,p,hp,by rw[if_pos hc]⟩
 ·cases h
theorem fills_slice {d z x lo hi}:Fills cf (.slice d z x lo hi) d:=by
 intro s s2 ha s' h
 have h1:evalX s2.env x=evalX s.env x:=jan (fun t ht=>ha t (by simp[rd,ht]))
 have h2:∀n,sliceBd s2.env n lo=sliceBd s.env n lo:=fun n=>jfy (fun t ht=>ha t (by simp[rd,ht]))
 have h3:∀n,sliceBd s2.env n hi=sliceBd s.env n hi:=fun n=>jfy (fun t ht=>ha t (by simp[rd,ht]))
 simp only[opStep,h1,h2,h3] at h ⊢
 repeat' split at h
 all_goals first
  |(cases h;done)
  |(cases h;exact⟨_,rfl,by simp[*]⟩)
  |(simp only[Option.map_eq_some_iff] at h;obtain⟨v,hv,rfl⟩:=h;exact⟨_,rfl,by simp[*]⟩)
  | (simp only[Option.bind_eq_some_iff] at h;obtain⟨p,hp,q,hq,h⟩:=h;split at h
     ·rename_i hc;cases h;exact⟨_,rfl,by simp[*]⟩
     ·cases h)
  | (simp only[Option.bind_eq_some_iff] at h;obtain⟨p,hp,h⟩:=h;split at h
     ·rename_i hc;cases h;exact⟨_,rfl,by simp[*]⟩
     ·cases h)
theorem fills_faddr {d x off}:Fills cf (.faddr d x off) d:=by
 intro s s2 ha s' h
 have h1:evalX s2.env x=evalX s.env x:=jan (fun t ht=>ha t (by simp[rd,ht]))
 simp only[opStep,h1] at h ⊢
 repeat' split at h
 all_goals first
  |(cases h;done)
  |(cases h;exact⟨_,rfl,by simp[*]⟩)
  |(simp only[Option.map_eq_some_iff] at h;obtain⟨v,hv,rfl⟩:=h;exact⟨_,rfl,by simp[*]⟩)
  | (simp only[Option.bind_eq_some_iff] at h;obtain⟨p,hp,q,hq,h⟩:=h;split at h
     ·rename_i hc;cases h;exact⟨_,rfl,by simp[*]⟩
     ·cases h)
theorem fills_iaddr {d z arr x i}:Fills cf (.iaddr d z arr x i) d:=by
 intro s s2 ha s' h
 have h1:evalX s2.env x=evalX s.env x:=jan (fun t ht=>ha t (by simp[rd,ht]))
 have h2:evalX s2.env i=evalX s.env i:=jan (fun t ht=>ha t (by simp[rd,ht]))
 simp only[opStep,h1,h2] at h ⊢
 repeat' split at h
 all_goals first
  |(cases h;done)
  |(cases h;exact⟨_,rfl,by simp[*]⟩)
  |(simp only[Option.map_eq_some_iff] at h;obtain⟨v,hv,rfl⟩:=h;exact⟨_,rfl,by simp[*]⟩)
  | (simp only[Option.bind_eq_some_iff] at h;obtain⟨p,hp,q,hq,h⟩:=h;split at h
     ·rename_i hc;cases h;exact⟨_,rfl,by simp[*]⟩
     ·cases h)
theorem fills_index {d z arr agg x i}:Fills cf (.index d z arr agg x i) d:=by
 intro s s2 ha s' h
 have h1:evalX s2.env x=evalX s.env x:=jan (fun t ht=>ha t (by simp[rd,ht]))
 have h2:evalX s2.env i=evalX s.env i:=jan (fun t ht=>ha t (by simp[rd,ht]))
 simp only[opStep,h1,h2] at h ⊢
 repeat' split at h
 all_goals first
  |(cases h;done)
  |(cases h;exact⟨_,rfl,by simp[*]⟩)
  |(simp only[Option.map_eq_some_iff] at h;obtain⟨v,hv,rfl⟩:=h;exact⟨_,rfl,by simp[*]⟩)
  | (simp only[Option.bind_eq_some_iff] at h;obtain⟨p,hp,q,hq,h⟩:=h;split at h
     ·rename_i hc;cases h;exact⟨_,rfl,by simp[*]⟩
     ·cases h)
theorem fills_extract {d x i}:Fills cf (.extract d x i) d:=by
 intro s s2 ha s' h
 have h1:evalX s2.env x=evalX s.env x:=jan (fun t ht=>ha t (by simp[rd,ht]))
 simp only[opStep,h1] at h ⊢
 repeat' split at h
 all_goals first
  |(cases h;done)
  |(cases h;exact⟨_,rfl,by simp[*]⟩)
  |(simp only[Option.map_eq_some_iff] at h;obtain⟨v,hv,rfl⟩:=h;exact⟨_,rfl,by simp[*]⟩)
  | (simp only[Option.bind_eq_some_iff] at h;obtain⟨p,hp,q,hq,h⟩:=h;split at h
     ·rename_i hc;cases h;exact⟨_,rfl,by simp[*]⟩
     ·cases h)
end
end Go.Lw
end

/-! What any operation does elsewhere, where what it looks at is the same. -/
section
namespace Go.Lw
open Go Go.RowKit
section
variable {s s' s2:St} {cf:CallF}
def Local (cf:CallF) (i:IOp):Prop:=
 ∀s s2:St,(∀t∈rd i,get s2.env t=get s.env t)→HOk (cls i) s s2→∀s',opStep cf s i=some s'→
  ∃s2',opStep cf s2 i=some s2'∧EnvR (wr i) s'.env s2.env s2'.env∧HRes (cls i) s s' s2 s2'
theorem EnvR.congr {W W2:List Nat} {e' e2 e2':List (Nat×PV)} (h:EnvR W e' e2 e2') (hw:∀t,t∈W↔t∈W2):EnvR W2 e' e2 e2':=fun t=>by
 rw[h t]
 by_cases ht:t∈W
 ·simp[ht,(hw t).1 ht]
 ·have:t∉W2:=fun h2=>ht ((hw t).2 h2)
  simp[ht,this]
theorem EnvR.put1 {e e2:List (Nat×PV)} (d:Nat) (v:PV):EnvR [d] (Lw.put e d v) e2 (Lw.put e2 d v):=EnvR.put (by simp)
theorem EnvR.thenPut {W:List Nat} {e' e2 e2':List (Nat×PV)} (h:EnvR W e' e2 e2') (d:Nat) (v:PV):EnvR (W++[d]) (Lw.put e' d v) e2 (Lw.put e2' d v):=
 h.trans (EnvR.put1 d v) (fun t ht=>by rw[jb7];simp at ht;simp[Ne.symm ht])
theorem Fills.local {i:IOp} {d:Nat} (h:Fills cf i d) (hc:cls i=0) (hw:wr i=[d]):Local cf i:=by
 intro s s2 ha _ s' hs
 obtain⟨v,rfl,h2⟩:=h s s2 ha s' hs
 refine⟨_,h2,by rw[hw];exact EnvR.put1 d v,?_⟩
 rw[hc];exact⟨rfl,rfl,rfl,rfl⟩
theorem jl1 {d n:Nat}:Local cf (.tk d n):=by
 intro s s2 ha _ s' h
 simp only[opStep,Option.map_eq_some_iff] at h ⊢
 obtain⟨v,hv,rfl⟩:=h
 refine⟨_,⟨v,by rw[ha n (by simp[rd])];exact hv,rfl⟩,?_,rfl,rfl,rfl,rfl⟩
 exact ((EnvR.put1 (e:=s.env) (e2:=s2.env) n (degr v)).thenPut d v).congr (fun t=>by simp[wr,opDst];exact or_comm)
theorem jl2 {d:Nat} {g tk:Bool} {x:IX}:Local cf (.box d g tk x):=by
 intro s s2 ha hh s' h
 obtain⟨e2,l2,g2⟩:=s2
 have hh':l2=s.lh∧g2=s.gh:=by cases g<;>exact hh
 obtain⟨rfl,rfl⟩:=hh'
 simp only[opStep] at h ⊢
 split at h
 ·rename_i htk
  subst htk
  simp only[Option.bind_eq_some_iff,Prod.exists] at h
  obtain⟨v,e1,hv,h⟩:=h
  split at h
  ·rename_i hok
   cases h
   obtain⟨e3,t1,t2⟩:=jc3 (e2:=e2) (fun t ht=>ha t (by simp[rd,ht])) hv
   refine⟨putNew ⟨e3,s.lh,s.gh⟩ d g v.cells,by simp[t1,hok],?_,?_⟩
   ·cases g
    ·exact (t2.thenPut d _).congr (fun t=>by simp[wr,opDst];exact or_comm)
    ·exact (t2.thenPut d _).congr (fun t=>by simp[wr,opDst];exact or_comm)
   ·cases g
    ·exact⟨⟨v.cells,rfl⟩,rfl,rfl,rfl⟩
    ·exact⟨rfl,rfl⟩
  ·cases h
 ·rename_i htk
  simp only[Bool.not_eq_true] at htk
  subst htk
  simp only[Option.bind_eq_some_iff] at h
  obtain⟨v,hv,h⟩:=h
  split at h
  ·rename_i hok
   cases h
   have h1:evalX e2 x=some v:=by rw[←hv];exact jan (fun t ht=>ha t (by simp[rd,ht]))
   refine⟨putNew ⟨e2,s.lh,s.gh⟩ d g v.cells,by simp[h1,hok],?_,?_⟩
   ·cases g
    ·exact (EnvR.put1 d _).congr (fun t=>by simp[wr,opDst])
    ·exact (EnvR.put1 d _).congr (fun t=>by simp[wr,opDst])
   ·cases g
    ·exact⟨⟨v.cells,rfl⟩,rfl,rfl,rfl⟩
    ·exact⟨rfl,rfl⟩
  ·cases h
theorem jl3 {d:Nat} {g:Bool} {z:PV}:Local cf (.alloc d g z):=by
 intro s s2 ha hh s' h
 obtain⟨e2,l2,g2⟩:=s2
 have hh':l2=s.lh∧g2=s.gh:=by cases g<;>exact hh
 obtain⟨rfl,rfl⟩:=hh'
 simp only[opStep] at h ⊢
 split at h
 ·rename_i hok
  cases h
  refine⟨putNew ⟨e2,s.lh,s.gh⟩ d g z.cells,by rw[if_pos hok],?_,?_⟩
  ·cases g
   ·exact (EnvR.put1 d _).congr (fun t=>by simp[wr,opDst])
   ·exact (EnvR.put1 d _).congr (fun t=>by simp[wr,opDst])
  ·cases g
   ·exact⟨⟨z.cells,rfl⟩,rfl,rfl,rfl⟩
   ·exact⟨rfl,rfl⟩
 ·cases h
theorem jl4 {d:Nat} {z:List PV} {ps:List (Nat×Nat×IX)}:Local cf (.buildT d z ps):=by
 intro s s2 ha _ s' h
 simp only[opStep,Option.bind_eq_some_iff,Prod.exists] at h
 obtain⟨vs,e1,hv,h⟩:=h
 split at h
 ·rename_i hc
  simp only[Option.map_eq_some_iff] at h
  obtain⟨cs,hcs,rfl⟩:=h
  obtain⟨e3,t1,t2,_⟩:=jfz (e2:=s2.env) (fun t ht=>ha t (by simp[rd,ht])) hv
  refine⟨⟨Lw.put e3 d (.agg cs),s2.lh,s2.gh⟩,?_,?_,rfl,rfl,rfl,rfl⟩
  ·simp only[opStep,t1,Option.bind_some]
   rw[if_pos hc,hcs];rfl
  ·exact (t2.thenPut d _).congr (fun t=>by simp[wr,opDst];exact or_comm)
 ·cases h
theorem jl5 {g:Bool} {b:Nat} {cs:List PV} (hh:HOk 2 s s2) (h:s.cellsAt g b=some cs):∃cs2,s2.cellsAt g b=some cs2∧cs2.map degr1=cs.map degr1:=by
 unfold St.cellsAt at *
 split at h
 ·rename_i hg
  simp only[hg,if_true]
  split at h
  ·rename_i cs' hc
   cases h
   obtain⟨o2,h1,h2⟩:=hh.2 b _ hc
   cases o2 with
   |cells cs2=>
    simp only[GObj.deg,GObj.cells.injEq] at h2
    exact⟨cs2,by rw[h1],h2⟩
   |map es=>simp[GObj.deg] at h2
   |stk g xs=>simp[GObj.deg] at h2
   |bld t=>simp[GObj.deg] at h2
  ·cases h
 ·rename_i hg
  simp only[hg,Bool.false_eq_true,if_false]
  exact hh.1 b cs h
theorem jg0 {b:Nat} {es:List (PV×PV)} (hh:HOk 2 s s2) (h:s.gh[b]?=some (.map es)):s2.gh[b]?=some (.map es):=by
 obtain⟨o2,h1,h2⟩:=hh.2 b _ h
 cases o2 with
 |cells cs=>simp[GObj.deg] at h2
 |map es2=>simp only[GObj.deg,GObj.map.injEq] at h2;rw[h1,h2]
 |stk g xs=>simp[GObj.deg] at h2
 |bld t=>simp[GObj.deg] at h2
theorem jg1 (v:PV):degr (degr1 v)=degr v:=by cases v<;>rfl
theorem jl6 {agg:Bool} {k off:Nat} {cs cs2:List PV} {v:PV} (he:cs2.map degr1=cs.map degr1) (h:grab agg k off cs=some v):∃v2,grab agg k off cs2=some v2∧degr v2=degr v:=by
 have hl:cs2.length=cs.length:=by rw[←List.length_map (f:=degr1) (as:=cs2),he,List.length_map]
 unfold grab at h ⊢
 cases agg with
 | true=>
  simp only[if_true] at h ⊢
  split at h
  ·rename_i hk
   cases h
   rw[hl,if_pos hk]
   refine⟨_,rfl,?_⟩
   simp only[degr,PV.agg.injEq]
   rw[List.map_take,List.map_drop,he,List.map_take,List.map_drop]
  ·cases h
 |false=>
  simp only[Bool.false_eq_true,if_false] at h ⊢
  have h1:(cs2.map degr1)[off]?=(cs.map degr1)[off]?:=by rw[he]
  rw[List.getElem?_map,List.getElem?_map,h] at h1
  simp only[Option.map_some,Option.map_eq_some_iff] at h1
  obtain⟨v2,h2,h3⟩:=h1
  exact⟨v2,h2,by rw[←jg1 v2,h3,jg1]⟩
theorem jl7 {d:Nat} {agg:Bool} {k:Nat} {x:IX}:Local cf (.load d agg k x):=by
 intro s s2 ha hh s' h
 have h1:evalX s2.env x=evalX s.env x:=jan (fun t ht=>ha t (by simp[rd,ht]))
 simp only[opStep,h1] at h ⊢
 have fin:∀v,s'=s.put d v→∀o,o=some (s2.put d v)→∃s2',o=some s2'∧EnvR (wr (.load d agg k x)) s'.env s2.env s2'.env∧HRes 2 s s' s2 s2':=by
  rintro v rfl o rfl
  exact⟨_,rfl,(EnvR.put1 d v).congr (fun t=>by simp[wr,opDst]),rfl,rfl,rfl,rfl⟩
 split at h
 ·rename_i g b off hp
  simp only[Option.bind_eq_some_iff,Option.map_eq_some_iff] at h
  obtain⟨cs,hc,v,hv,rfl⟩:=h
  obtain⟨cs2,hc2,he⟩:=jl5 hh hc
  obtain⟨v2,hv2,he2⟩:=jl6 he hv
  exact fin _ rfl _ (by simp[hc2,hv2,he2])
 ·rename_i e off hp
  simp only[Option.map_eq_some_iff] at h
  obtain⟨v,hv,rfl⟩:=h
  exact fin _ rfl _ (by simp[hv])
 ·cases h
theorem jl8 {d kn:Nat} {m k:IX} {ok:Bool} {zero:PV}:Local cf (.lookup d kn m k ok zero):=by
 intro s s2 ha hh s' h
 have h1:evalX s2.env m=evalX s.env m:=jan (fun t ht=>ha t (by simp[rd,ht]))
 have h2:evalX s2.env k=evalX s.env k:=jan (fun t ht=>ha t (by simp[rd,ht]))
 simp only[opStep,h1,h2] at h ⊢
 have fin:∀v,s'=s.put d v→∀o,o=some (s2.put d v)→∃s2',o=some s2'∧EnvR (wr (.lookup d kn m k ok zero)) s'.env s2.env s2'.env∧HRes 2 s s' s2 s2':=by
  rintro v rfl o rfl
  exact⟨_,rfl,(EnvR.put1 d v).congr (fun t=>by simp[wr,opDst]),rfl,rfl,rfl,rfl⟩
 split at h
 ·rename_i b kv hp hkv
  split at h
  ·rename_i es hes
   have hes2:=jg0 hh hes
   split at h
   ·cases h
   ·rename_i hki
    split at h
    ·rename_i v hf
     cases h
     exact fin _ rfl _ (by simp[hes2,hki,hf])
    ·rename_i hf
     cases h
     exact fin _ rfl _ (by simp[hes2,hki,hf])
    ·cases h
  ·cases h
 ·cases h
theorem jl9 {d kd:Nat} {x:IX}:Local cf (.len d kd x):=by
 intro s s2 ha hh s' h
 have h1:evalX s2.env x=evalX s.env x:=jan (fun t ht=>ha t (by simp[rd,ht]))
 simp only[opStep,h1] at h ⊢
 have fin:∀v,s'=s.put d v→∀o,o=some (s2.put d v)→∃s2',o=some s2'∧EnvR (wr (.len d kd x)) s'.env s2.env s2'.env∧HRes (if kd=2 then 2 else 0) s s' s2 s2':=by
  rintro v rfl o rfl
  refine⟨_,rfl,(EnvR.put1 d v).congr (fun t=>by simp[wr,opDst]),?_⟩
  split<;>exact⟨rfl,rfl,rfl,rfl⟩
 split at h
 ·rename_i hp;cases h;exact fin _ rfl _ (by simp)
 ·rename_i hp;cases h;exact fin _ rfl _ (by simp)
 ·rename_i hp;cases h;exact fin _ rfl _ (by simp)
 ·rename_i hp;cases h;exact fin _ rfl _ (by simp)
 ·rename_i hp;cases h;exact fin _ rfl _ (by simp)
 ·rename_i hp;cases h;exact fin _ rfl _ (by simp)
 ·rename_i b hp
  split at h
  ·rename_i es hes
   cases h
   exact fin _ rfl _ (by simp[jg0 (show HOk 2 s s2 from hh) hes])
  ·cases h
 ·cases h
theorem jla {d:Nat}:Local cf (.mkmap d):=by
 intro s s2 ha hh s' h
 obtain⟨e2,l2,g2⟩:=s2
 obtain⟨rfl,rfl⟩:=hh
 simp only[opStep,Option.some.injEq] at h
 subst h
 exact⟨_,rfl,(EnvR.put1 d _).congr (fun t=>by simp[wr,opDst]),rfl,⟨_,rfl⟩,rfl,rfl⟩
theorem jlb {d:Nat} {x:IX}:Local cf (.boxB d x):=by
 intro s s2 ha hh s' h
 obtain⟨e2,l2,g2⟩:=s2
 obtain⟨rfl,rfl⟩:=hh
 have h1:evalX e2 x=evalX s.env x:=jan (fun t ht=>ha t (by simp[rd,ht]))
 simp only[opStep,h1] at h ⊢
 split at h
 ·rename_i hv
  simp only[Option.some.injEq] at h
  subst h
  exact⟨_,rfl,(EnvR.put1 d _).congr (fun t=>by simp[wr,opDst]),rfl,⟨_,rfl⟩,rfl,rfl⟩
 ·cases h
theorem jdx (s:St) (g:Bool) (b:Nat) (cs:List PV):(s.setCells g b cs).env=s.env:=by cases g<;>rfl
theorem jg2 {cs:List PV} {off:Nat} {v:PV} (h:cs[off]?=some v):(spliceAt cs off [degr1 v]).map degr1=cs.map degr1:=by
 have hlt:=(List.getElem?_eq_some_iff.1 h).1
 apply List.ext_getElem?
 intro i
 rw[List.getElem?_map,List.getElem?_map,spliceAt,jb8 _ _ _ _ (by simp;omega)]
 by_cases h1:i<off
 ·rw[if_pos h1]
 ·rw[if_neg h1]
  by_cases h2:i=off
  ·subst h2
   have hd:degr1 (degr1 v)=degr1 v:=by cases v<;>rfl
   simp[h,hd]
  ·rw[if_neg (by simp;omega)]
theorem jg3 {α β:Type} (f:α→β) {l:List α} {b:Nat} {x y:α} (h:l[b]?=some x) (he:f y=f x):(l.set b y).map f=l.map f:=by
 apply List.ext_getElem?
 intro k
 rw[List.getElem?_map,List.getElem?_map,List.getElem?_set]
 by_cases hk:b=k
 ·subst hk
  obtain⟨this,rfl⟩:=List.getElem?_eq_some_iff.1 h
  simp[this,he]
 ·simp[hk]
theorem jlc {d:Nat} {x:IX}:Local cf (.loadT d x):=by
 intro s s2 ha hh s' h
 obtain⟨e2,l2,g2⟩:=s2
 obtain⟨rfl,rfl⟩:=hh
 have h1:evalX e2 x=evalX s.env x:=jan (fun t ht=>ha t (by simp[rd,ht]))
 simp only[opStep,h1] at h ⊢
 split at h
 ·rename_i g b off hp
  simp only[Option.bind_eq_some_iff,Option.map_eq_some_iff] at h
  obtain⟨cs,hc,v,hv,rfl⟩:=h
  have hc2:St.cellsAt ⟨e2,s.lh,s.gh⟩ g b=some cs:=hc
  refine⟨(St.setCells ⟨e2,s.lh,s.gh⟩ g b (spliceAt cs off [degr1 v])).put d v,by simp[hc2,hv],?_,?_⟩
  ·simp only[St.put,jdx]
   exact (EnvR.put1 d v).congr (fun t=>by simp[wr,opDst])
  ·cases g with
   |false=>exact⟨jg3 (List.map degr1) (show s.lh[b]?=some cs from hc) (jg2 hv),rfl,rfl,rfl⟩
   | true=>
    have hg:s.gh[b]?=some (.cells cs):=by
     simp only[St.cellsAt,if_true] at hc
     split at hc
     ·rename_i hx;cases hc;exact hx
     ·cases hc
    exact⟨rfl,jg3 GObj.deg hg (by simp[GObj.deg,jg2 hv]),rfl,rfl⟩
 ·cases h
theorem jld {tk:Bool} {k:Nat} {x y:IX}:Local cf (.store tk k x y):=by
 intro s s2 ha hh s' h
 obtain⟨e2,l2,g2⟩:=s2
 obtain⟨rfl,rfl⟩:=hh
 have h1:evalX e2 x=evalX s.env x:=jan (fun t ht=>ha t (by simp[rd,ht]))
 have h2:evalX e2 y=evalX s.env y:=jan (fun t ht=>ha t (by simp[rd,ht]))
 simp only[opStep,h1,h2] at h ⊢
 split at h
 ·rename_i g b off hp
  split at h
  ·rename_i htk
   subst htk
   simp only[Option.bind_eq_some_iff,Prod.exists] at h
   obtain⟨v,e1,hv,cs,hc,h⟩:=h
   split at h
   ·rename_i hk
    cases h
    obtain⟨e3,t1,t2⟩:=jc3 (e2:=e2) (fun t ht=>ha t (by simp[rd,ht])) hv
    have hc2:St.cellsAt ⟨e3,s.lh,s.gh⟩ g b=some cs:=hc
    refine⟨St.setCells ⟨e3,s.lh,s.gh⟩ g b (spliceAt cs off v.cells),by simp[t1,hc2,hk],?_,?_⟩
    ·simp only[jdx]
     exact t2.congr (fun t=>by simp[wr,opDst])
    ·cases g<;>exact⟨rfl,rfl⟩
   ·cases h
  ·rename_i htk
   simp only[Bool.not_eq_true] at htk
   subst htk
   simp only[Option.bind_eq_some_iff] at h
   obtain⟨v,hv,cs,hc,h⟩:=h
   split at h
   ·rename_i hk
    cases h
    have hc2:St.cellsAt ⟨e2,s.lh,s.gh⟩ g b=some cs:=hc
    refine⟨St.setCells ⟨e2,s.lh,s.gh⟩ g b (spliceAt cs off v.cells),by simp[hv,hc2,hk],?_,?_⟩
    ·simp only[jdx]
     exact EnvR.refl (fun t=>by simp[wr,opDst])
    ·cases g<;>exact⟨rfl,rfl⟩
   ·cases h
 ·cases h
theorem jle {kn:Nat} {m k x:IX}:Local cf (.mupd kn m k x):=by
 intro s s2 ha hh s' h
 obtain⟨e2,l2,g2⟩:=s2
 obtain⟨rfl,rfl⟩:=hh
 have h1:evalX e2 m=evalX s.env m:=jan (fun t ht=>ha t (by simp[rd,ht]))
 have h2:evalX e2 k=evalX s.env k:=jan (fun t ht=>ha t (by simp[rd,ht]))
 have h3:evalX e2 x=evalX s.env x:=jan (fun t ht=>ha t (by simp[rd,ht]))
 simp only[opStep,h1,h2,h3] at h ⊢
 split at h
 ·rename_i b kv v hp hkv hv
  split at h
  ·rename_i es hes
   split at h
   ·rename_i hc
    simp only[Option.map_eq_some_iff] at h
    obtain⟨es',hs,rfl⟩:=h
    refine⟨⟨e2,s.lh,s.gh.set b (.map es')⟩,?_,EnvR.refl (fun t=>by simp[wr,opDst]),rfl,rfl⟩
    rw[if_pos hc,hs];rfl
   ·cases h
  ·cases h
 ·cases h
theorem jg4 {e e2:List (Nat×PV)} (d:Option Nat) (v:PV):EnvR d.toList (putO e d v) e2 (putO e2 d v):=by
 cases d with
 |none=>exact EnvR.refl (by simp)
 |some d=>exact EnvR.put (by simp)
theorem jdy {d:Option Nat} {q:Bool} {f:Nat} {vs:List PV} (hh:HOk (if q then 1 else 5) s s2) (h:doCall cf s d q f vs=some s') :
  ∃s2',doCall cf s2 d q f vs=some s2'∧EnvR d.toList s'.env s2.env s2'.env∧HRes (if q then 1 else 5) s s' s2 s2':=by
 have hgh:s2.gh=s.gh:=by
  cases q
  ·exact hh.2
  ·exact hh
 unfold doCall at h ⊢
 split at h
 ·rename_i hok
  rw[if_pos hok,hgh]
  split at h
  ·rename_i r gh' hc
   split at h
   ·rename_i hq
    subst hq
    split at h
    ·rename_i he
     cases h
     refine⟨⟨putO s2.env d r,s2.lh,s2.gh⟩,by simp[he,hgh],jg4 d r,rfl,rfl,rfl,rfl⟩
    ·cases h
   ·rename_i hq
    simp only[Bool.not_eq_true] at hq
    subst hq
    cases h
    exact⟨⟨putO s2.env d r,s2.lh,gh'⟩,by simp,jg4 d r,hh.1,rfl⟩
  ·cases h
 ·cases h
theorem jlf {d:Option Nat} {q:Bool} {f:Nat} {xs:List IX}:Local cf (.call d q f xs):=by
 intro s s2 ha hh s' h
 have h1:evalXs s2.env xs=evalXs s.env xs:=jc2 (fun t ht=>ha t (by simp[rd,ht]))
 simp only[opStep,h1,Option.bind_eq_some_iff] at h ⊢
 obtain⟨vs,hv,h⟩:=h
 obtain⟨s2',c1,c2,c3⟩:=jdy (s2:=s2) hh h
 exact⟨s2',⟨vs,hv,c1⟩,by simpa [wr,opDst] using c2,c3⟩
theorem jlg {d:Option Nat} {q:Bool} {f:IX} {xs:List IX}:Local cf (.callv d q f xs):=by
 intro s s2 ha hh s' h
 have h0:evalX s2.env f=evalX s.env f:=jan (fun t ht=>ha t (by simp[rd,ht]))
 have h1:evalXs s2.env xs=evalXs s.env xs:=jc2 (fun t ht=>ha t (by simp[rd,ht]))
 simp only[opStep,h0,h1] at h ⊢
 split at h
 ·rename_i f caps hp
  simp only[Option.bind_eq_some_iff] at h
  obtain⟨vs,hv,h⟩:=h
  obtain⟨s2',c1,c2,c3⟩:=jdy (s2:=s2) hh h
  exact⟨s2',by simp[hv,c1],by simpa [wr,opDst] using c2,c3⟩
 ·rename_i f caps hp
  simp only[Option.bind_eq_some_iff] at h
  obtain⟨vs,hv,h⟩:=h
  obtain⟨s2',c1,c2,c3⟩:=jdy (s2:=s2) hh h
  exact⟨s2',by simp[hv,c1],by simpa [wr,opDst] using c2,c3⟩
 ·cases h
theorem jlh {d z bytes:Nat} {sx x:IX}:Local cf (.append d z bytes sx x):=by
 intro s s2 ha hh s' h
 have h1:evalX s2.env x=evalX s.env x:=jan (fun t ht=>ha t (by simp[rd,ht]))
 simp only[opStep,h1,Option.bind_eq_some_iff] at h ⊢
 obtain⟨xv,hxv,h⟩:=h
 cases xv with
 | sl o2 z2 ys=>
  simp only[Option.bind_eq_some_iff,Prod.exists] at h
  obtain⟨v,e1,hv,h⟩:=h
  cases v with
  | sl o z1 xs=>
   simp only at h
   split at h
   ·rename_i hc
    cases h
    obtain⟨e3,t1,t2⟩:=jc3 (e2:=s2.env) (fun t ht=>ha t (by simp[rd,ht])) hv
    refine⟨⟨Lw.put e3 d (.sl true z (xs++ys)),s2.lh,s2.gh⟩,⟨_,hxv,by simp only[t1,Option.bind_some];rw[if_pos hc]⟩,?_,rfl,rfl,rfl,rfl⟩
    exact (t2.thenPut d _).congr (fun t=>by simp[wr,opDst];exact or_comm)
   ·cases h
  |_=>cases h
 |_=>cases h
theorem jli (i:IOp):Local cf i:=by
 cases i with
 |callP=>exact fun _ _ _ _ _ h=>by simp[opStep] at h
 |callR=>exact fun _ _ _ _ _ h=>by simp[opStep] at h
 |loadB=>exact fun _ _ _ _ _ h=>by simp[opStep] at h
 |appendE=>exact fun _ _ _ _ _ h=>by simp[opStep] at h
 |loadKB=>exact fun _ _ _ _ _ h=>by simp[opStep] at h
 |loadTB=>exact fun _ _ _ _ _ h=>by simp[opStep] at h
 |loadJ=>exact fun _ _ _ _ _ h=>by simp[opStep] at h
 |appendP=>exact fun _ _ _ _ _ h=>by simp[opStep] at h
 |mkarr=>exact fun _ _ _ _ _ h=>by simp[opStep] at h
 |buildA=>exact fun _ _ _ _ _ h=>by simp[opStep] at h
 |boxSl=>exact fun _ _ _ _ _ h=>by simp[opStep] at h
 |tk=>exact jl1
 |box=>exact jl2
 |alloc=>exact jl3
 |buildT=>exact jl4
 |load=>exact jl7
 |loadN=>exact fun _ _ _ _ _ h=>by simp[opStep] at h
 |lookup=>exact jl8
 |len=>exact jl9
 |mkmap=>exact jla
 |mkbld=>exact fun _ _ _ _ _ h=>by simp[opStep] at h
 |boxB=>exact jlb
 |mksl=>exact fun _ _ _ _ _ h=>by simp[opStep] at h
 |loadT=>exact jlc
 |loadL=>exact fun _ _ _ _ _ h=>by simp[opStep] at h
 |store=>exact jld
 |mupd=>exact jle
 |call=>exact jlf
 |callv=>exact jlg
 |callF=>exact fun _ _ _ _ _ h=>by simp[opStep] at h
 |callE=>exact fun _ _ _ _ _ h=>by simp[opStep] at h
 |append=>exact jlh
 |appendK=>exact fun _ _ _ _ _ h=>by simp[opStep] at h
 |appendN=>exact fun _ _ _ _ _ h=>by simp[opStep] at h
 |buildSlK=>exact fun _ _ _ _ _ h=>by simp[opStep] at h
 |loadK=>exact fun _ _ _ _ _ h=>by simp[opStep] at h
 |loadH=>exact fun _ _ _ _ _ h=>by simp[opStep] at h
 |mv=>exact fills_mv.local rfl rfl
 |loadG=>exact fills_loadG.local rfl rfl
 |pick=>exact fills_pick.local rfl rfl
 |build=>exact fills_build.local rfl rfl
 |buildSl=>exact fills_buildSl.local rfl rfl
 |nilc=>exact fills_nilc.local rfl rfl
 |bin=>exact fills_bin.local rfl rfl
 |eqa=>exact fills_eqa.local rfl rfl
 |eqb=>exact fun _ _ _ _ _ h=>by simp[opStep] at h
 |eqn=>exact fills_eqn.local rfl rfl
 |un=>exact fills_un.local rfl rfl
 |conv=>exact fun _ _ _ _ _ h=>by simp[opStep] at h
 |mkfn=>exact fills_mkfn.local rfl rfl
 |mkbf=>exact fun _ _ _ _ _ h=>by simp[opStep] at h
 |storeK=>exact fun _ _ _ _ _ h=>by simp[opStep] at h
 |clearK=>exact fun _ _ _ _ _ h=>by simp[opStep] at h
 |slice=>exact fills_slice.local rfl rfl
 |sliceS=>exact fun _ _ _ _ _ h=>by simp[opStep] at h
 |faddr=>exact fills_faddr.local rfl rfl
 |field=>exact fun _ _ _ _ _ h=>by simp[opStep] at h
 |iaddr=>exact fills_iaddr.local rfl rfl
 |index=>exact fills_index.local rfl rfl
 |indexS=>exact fun _ _ _ _ _ h=>by simp[opStep] at h
 |maxi=>exact fun _ _ _ _ _ h=>by simp[opStep] at h
 |extract=>exact fills_extract.local rfl rfl
end
end Go.Lw
end

/-! Two operations that do not meet change places; one that meets none of those ahead of it goes to the front. -/
section
namespace Go.Lw
open Go Go.RowKit
section
variable {s s' s1 s2 t1 t2:St} {cf:CallF}
def HRes2 (c:Nat) (s s' s2 s2':St):Prop:=
 match c with
 |0|1|2|8=>s'.lh=s.lh∧s'.gh=s.gh∧s2'.lh=s2.lh∧s2'.gh=s2.gh
 |3=>(∀(b:Nat) (cs:List PV),s.lh[b]?=some cs→s'.lh[b]?=some cs)∧s'.gh=s.gh∧s2'.lh=s'.lh∧s2'.gh=s'.gh
 |4=>s'.lh=s.lh∧(∀(b:Nat) (o:GObj),s.gh[b]?=some o→s'.gh[b]?=some o)∧s2'.lh=s'.lh∧s2'.gh=s'.gh
 |6=>s'.lh.map (List.map degr1)=s.lh.map (List.map degr1)∧s'.gh=s.gh∧s2'.lh=s'.lh∧s2'.gh=s'.gh
 |7=>s'.lh.map (List.map degr1)=s.lh.map (List.map degr1)∧s'.gh.map GObj.deg=s.gh.map GObj.deg∧s2'.lh=s'.lh∧s2'.gh=s'.gh
 |9=>s'.lh=s.lh∧(∀(b:Nat) (o:GObj),s.gh[b]?=some o→∃o2,s'.gh[b]?=some o2∧o2.deg=o.deg)∧s2'.lh=s'.lh∧s2'.gh=s'.gh
 |_=>s2'.lh=s'.lh∧s2'.gh=s'.gh
theorem HRes.two {c:Nat} (h:HRes c s s' s2 s1):HRes2 c s s' s2 s1:=by
 match c,h with
 |0,h=>exact h
 |1,h=>exact h
 |2,h=>exact h
 |3,⟨⟨cs,h1⟩,h2⟩=>exact⟨fun b cs' hb=>by rw[h1,List.getElem?_append_left (List.getElem?_eq_some_iff.1 hb).1];exact hb,h2⟩
 |4,⟨h0,⟨o,h1⟩,h2⟩=>exact⟨h0,fun b o' hb=>by rw[h1,List.getElem?_append_left (List.getElem?_eq_some_iff.1 hb).1];exact hb,h2⟩
 |5,h=>exact h
 |6,h=>exact h
 |7,h=>exact h
 |8,h=>exact h
 |9,h=>exact h
 |n+10,h=>exact h
def rdG (i:IOpG):List Nat:=(match i.guard with|some (g,_)=>[g]|none=>[])++rd i.op
theorem wr_rd {i:IOp} {t:Nat} (h:t∈wr i):opDst i=some t∨t∈rd i:=by
 simp only[wr,List.mem_append,Option.mem_toList] at h
 rcases h with h|h
 ·exact .inl h
 ·right
  split at h<;>first|(simp at h;done)|(simpa [rd] using h)|(simp[rd];first|exact .inl h|exact .inr h|exact h)
theorem jc4 (i:IOpG) (ha:∀t∈rdG i,get s2.env t=get s.env t) (hh:HOk (cls i.op) s s2) (h:opG cf i s=some s') :
  ∃s2',opG cf i s2=some s2'∧EnvR (wr i.op) s'.env s2.env s2'.env∧HRes2 (cls i.op) s s' s2 s2':=by
 have hstep:∀s',opStep cf s i.op=some s'→∃s2',opStep cf s2 i.op=some s2'∧EnvR (wr i.op) s'.env s2.env s2'.env∧HRes2 (cls i.op) s s' s2 s2':=fun s' hs=>by
  obtain⟨s2',h1,h2,h3⟩:=jli i.op s s2 (fun t ht=>ha t (by simp[rdG,ht])) hh s' hs
  exact⟨s2',h1,h2,h3.two⟩
 have hskip:EnvR (wr i.op) (skipped s i.op).env s2.env (skipped s2 i.op).env∧HRes2 (cls i.op) s (skipped s i.op) s2 (skipped s2 i.op):=by
  refine⟨fun t=>?_,?_⟩
  ·by_cases ht:t∈wr i.op
   ·rw[if_pos ht]
    unfold skipped
    cases hd:opDst i.op with
    |none=>
     have:=(wr_rd ht).resolve_left (by simp[hd])
     exact ha t (by simp[rdG,this])
    | some d=>
     simp only[St.put,jb7]
     by_cases hdt:d=t
     ·simp[hdt]
     ·have:=(wr_rd ht).resolve_left (by simp[hd,hdt])
      simp only[hdt,if_false]
      exact ha t (by simp[rdG,this])
   ·rw[if_neg ht]
    unfold skipped
    cases hd:opDst i.op with
    |none=>rfl
    |some d=>
     have:d≠t:=fun e=>ht (by subst e;simp[wr,hd])
     simp[St.put,jb7,this]
  ·have e1:(skipped s i.op).lh=s.lh∧(skipped s i.op).gh=s.gh:=by unfold skipped;cases opDst i.op<;>exact⟨rfl,rfl⟩
   have e2:(skipped s2 i.op).lh=s2.lh∧(skipped s2 i.op).gh=s2.gh:=by unfold skipped;cases opDst i.op<;>exact⟨rfl,rfl⟩
   generalize cls i.op=c at hh
   match c,hh with
   |0,_=>exact⟨e1.1,e1.2,e2.1,e2.2⟩
   |1,_=>exact⟨e1.1,e1.2,e2.1,e2.2⟩
   |2,_=>exact⟨e1.1,e1.2,e2.1,e2.2⟩
   |3,⟨h1,h2⟩=>exact⟨fun b cs hb=>by rw[e1.1];exact hb,e1.2,by rw[e1.1,e2.1,h1],by rw[e1.2,e2.2,h2]⟩
   |4,⟨h1,h2⟩=>exact⟨e1.1,fun b cs hb=>by rw[e1.2];exact hb,by rw[e1.1,e2.1,h1],by rw[e1.2,e2.2,h2]⟩
   |5,⟨h1,h2⟩=>exact⟨by rw[e1.1,e2.1,h1],by rw[e1.2,e2.2,h2]⟩
   |6,⟨h1,h2⟩=>exact⟨by rw[e1.1],e1.2,by rw[e1.1,e2.1,h1],by rw[e1.2,e2.2,h2]⟩
   |7,⟨h1,h2⟩=>exact⟨by rw[e1.1],by rw[e1.2],by rw[e1.1,e2.1,h1],by rw[e1.2,e2.2,h2]⟩
   |8,_=>exact⟨e1.1,e1.2,e2.1,e2.2⟩
   |9,⟨h1,h2⟩=>exact⟨e1.1,fun b o hb=>⟨o,by rw[e1.2];exact hb,rfl⟩,by rw[e1.1,e2.1,h1],by rw[e1.2,e2.2,h2]⟩
   |n+10,⟨h1,h2⟩=>exact⟨by rw[e1.1,e2.1,h1],by rw[e1.2,e2.2,h2]⟩
 unfold opG at h ⊢
 cases hg:i.guard with
 |none=>rw[hg] at h;exact hstep s' h
 | some q=>
  obtain⟨g,want⟩:=q
  rw[hg] at h
  have hgg:get s2.env g=get s.env g:=ha g (by simp[rdG,hg])
  simp only at h ⊢
  rw[hgg]
  split at h
  ·split at h
   ·rename_i hw
    simp only[hw,if_true]
    exact hstep s' h
   ·rename_i hw
    cases h
    simp only[if_neg hw]
    exact⟨_,rfl,hskip⟩
  ·cases h
   exact⟨_,rfl,hskip⟩
  ·cases h
theorem jdz (i:IOpG) (h:opG cf i s=some s') {t:Nat} (ht:t∉wr i.op):get s'.env t=get s.env t:=by
 have hh:HOk (cls i.op) s s:=by
  generalize cls i.op=c
  match c with
  |0=>trivial
  |1=>rfl
  |2=>exact⟨fun _ cs h=>⟨cs,h,rfl⟩,fun _ o h=>⟨o,h,rfl⟩⟩
  |3|4|5|6|7=>exact⟨rfl,rfl⟩
  |8=>exact (rfl:s.lh=s.lh)
  |9=>exact⟨rfl,rfl⟩
  |n+10=>exact⟨rfl,rfl⟩
 obtain⟨s2',h1,h2,_⟩:=jc4 (s2:=s) i (fun _ _=>rfl) hh h
 rw[h] at h1;cases h1
 have:=h2 t
 rwa [if_neg ht] at this
theorem jlj (i:IOpG) (h:opG cf i s=some s'):HRes2 (cls i.op) s s' s s':=by
 have hh:HOk (cls i.op) s s:=by
  generalize cls i.op=c
  match c with
  |0=>trivial
  |1=>rfl
  |2=>exact⟨fun _ cs h=>⟨cs,h,rfl⟩,fun _ o h=>⟨o,h,rfl⟩⟩
  |3|4|5|6|7=>exact⟨rfl,rfl⟩
  |8=>exact (rfl:s.lh=s.lh)
  |9=>exact⟨rfl,rfl⟩
  |n+10=>exact⟨rfl,rfl⟩
 obtain⟨s2',h1,_,h3⟩:=jc4 (s2:=s) i (fun _ _=>rfl) hh h
 rw[h] at h1;cases h1
 exact h3
def clsOk (p x:Nat):Bool:=p==0||(x==0||((decide (p≤2)&&decide (x≤2))||((p==1&&x==3)||((p==2&&x==3)||((p==2&&x==4)||((p==3&&x==1)||((p==1&&x==6)||((p==6&&x==1)||((p==2&&x==6)||((p==2&&x==7)||((p==6&&x==2)||((p==7&&x==2)||((p==4&&x==8)||((p==8&&x==8)||(p==2&&x==9)))))))))))))))
def apartS (p x:IOpG):Bool:=(wr p.op).all (fun t=> !(rdG x).contains t&& !(wr x.op).contains t)&&(wr x.op).all (fun t=> !(rdG p).contains t)
def Eqv (s s2:St):Prop:=(∀t,get s2.env t=get s.env t)∧s2.lh=s.lh∧s2.gh=s.gh
theorem ok_le {p x:Nat} (h:clsOk p x=true):(p=0)∨(x=0)∨(p≤2∧x≤2)∨(p=1∧x=3)∨(p=2∧x=3)∨(p=2∧x=4)∨(p=3∧x=1)∨(p=1∧x=6)∨(p=6∧x=1)∨(p=2∧x=6)∨(p=2∧x=7)∨(p=6∧x=2)∨(p=7∧x=2)∨(p=4∧x=8)∨(p=8∧x=8)∨(p=2∧x=9):=by
 simpa only[clsOk,Bool.or_eq_true,Bool.and_eq_true,beq_iff_eq,decide_eq_true_eq] using h
theorem jah {c:Nat} (hc:c≤2) (h:HRes2 c s s' s2 s1):s'.lh=s.lh∧s'.gh=s.gh∧s1.lh=s2.lh∧s1.gh=s2.gh:=by
 match c,hc,h with
 |0,_,h=>exact h
 |1,_,h=>exact h
 |2,_,h=>exact h
theorem res_eq {c:Nat} (h:HRes2 c s s' s2 s1) (e1:s2.lh=s.lh) (e2:s2.gh=s.gh):s1.lh=s'.lh∧s1.gh=s'.gh:=by
 match c,h with
 |0,h=>exact⟨by rw[h.2.2.1,e1,h.1],by rw[h.2.2.2,e2,h.2.1]⟩
 |1,h=>exact⟨by rw[h.2.2.1,e1,h.1],by rw[h.2.2.2,e2,h.2.1]⟩
 |2,h=>exact⟨by rw[h.2.2.1,e1,h.1],by rw[h.2.2.2,e2,h.2.1]⟩
 |3,h=>exact h.2.2
 |4,h=>exact h.2.2
 |5,h=>exact h
 |6,h=>exact h.2.2
 |7,h=>exact h.2.2
 |8,h=>exact⟨by rw[h.2.2.1,e1,h.1],by rw[h.2.2.2,e2,h.2.1]⟩
 |9,h=>exact h.2.2
 |n+10,h=>exact h
theorem hok_eq {c:Nat} (e1:s2.lh=s.lh) (e2:s2.gh=s.gh):HOk c s s2:=by
 match c with
 |0=>trivial
 |1=>exact e2
 |2=>exact⟨fun b cs h=>⟨cs,by rw[e1];exact h,rfl⟩,fun b o h=>⟨o,by rw[e2];exact h,rfl⟩⟩
 |3|4|5|6|7=>exact⟨e1,e2⟩
 |8=>exact e1
 |9=>exact⟨e1,e2⟩
 |n+10=>exact⟨e1,e2⟩
theorem jbr {α β:Type} (f:α→β) {l l':List α} (h:l'.map f=l.map f) {b:Nat} {x:α} (hx:l[b]?=some x):∃y,l'[b]?=some y∧f y=f x:=by
 have h1:(l'.map f)[b]?=(l.map f)[b]?:=by rw[h]
 rw[List.getElem?_map,List.getElem?_map,hx] at h1
 simpa using h1
theorem swap {p x:IOpG} (ha:apartS p x=true) (hc:clsOk (cls p.op) (cls x.op)=true) (h1:opG cf p s=some s1) (h2:opG cf x s1=some s2) :
  ∃t1 t2,opG cf x s=some t1∧opG cf p t1=some t2∧Eqv s2 t2:=by
 simp only[apartS,Bool.and_eq_true,List.all_eq_true,Bool.not_eq_true',List.contains_eq_mem,decide_eq_false_iff_not] at ha
 obtain⟨a1,a2⟩:=ha
 have r1:=jlj p h1
 have f1:=fun t ht=>jdz (t:=t) p h1 ht
 have f2:=fun t ht=>jdz (t:=t) x h2 ht
 have hx:HOk (cls x.op) s1 s:=by
  rcases ok_le hc with e|e|⟨e,_⟩|⟨e,_⟩|⟨e,_⟩|⟨e,_⟩|⟨e,e'⟩|⟨e,_⟩|⟨e,e'⟩|⟨e,_⟩|⟨e,_⟩|⟨e,e'⟩|⟨e,e'⟩|⟨e,e'⟩|⟨e,e'⟩|⟨e,e'⟩
  ·have:=jah (by omega) r1;exact hok_eq this.1.symm this.2.1.symm
  ·rw[e];trivial
  ·have:=jah (by omega) r1;exact hok_eq this.1.symm this.2.1.symm
  ·have:=jah (by omega) r1;exact hok_eq this.1.symm this.2.1.symm
  ·have:=jah (by omega) r1;exact hok_eq this.1.symm this.2.1.symm
  ·have:=jah (by omega) r1;exact hok_eq this.1.symm this.2.1.symm
  ·rw[e] at r1;rw[e'];exact r1.2.1.symm
  ·have:=jah (by omega) r1;exact hok_eq this.1.symm this.2.1.symm
  ·rw[e] at r1;rw[e'];exact r1.2.1.symm
  ·have:=jah (by omega) r1;exact hok_eq this.1.symm this.2.1.symm
  ·have:=jah (by omega) r1;exact hok_eq this.1.symm this.2.1.symm
  ·rw[e] at r1;rw[e'];exact⟨fun b cs=>jbr _ r1.1.symm,fun b o hb=>⟨o,by rw[←r1.2.1];exact hb,rfl⟩⟩
  ·rw[e] at r1;rw[e'];exact⟨fun b cs=>jbr _ r1.1.symm,fun b o=>jbr _ r1.2.1.symm⟩
  ·rw[e] at r1;rw[e'];exact r1.1.symm
  ·rw[e] at r1;rw[e'];exact r1.1.symm
  ·have:=jah (by omega) r1;exact hok_eq this.1.symm this.2.1.symm
 obtain⟨t1,g1,g2,g3⟩:=jc4 (s2:=s) x (fun t ht=>(f1 t (fun hw=>(a1 t hw).1 ht)).symm) hx h2
 have hp:HOk (cls p.op) s t1:=by
  rcases ok_le hc with e|e|⟨e,e'⟩|⟨e,e'⟩|⟨e,e'⟩|⟨e,e'⟩|⟨e,e'⟩|⟨e,e'⟩|⟨e,e'⟩|⟨e,e'⟩|⟨e,e'⟩|⟨e,e'⟩|⟨e,e'⟩|⟨e,e'⟩|⟨e,e'⟩|⟨e,e'⟩
  ·rw[e];trivial
  ·have:=jah (by omega) g3;exact hok_eq this.2.2.1 this.2.2.2
  ·have:=jah (by omega) g3;exact hok_eq this.2.2.1 this.2.2.2
  ·rw[e'] at g3
   have:=jah (by omega) r1
   rw[e];exact g3.2.2.2.trans (g3.2.1.trans this.2.1)
  ·rw[e'] at g3
   have:=jah (by omega) r1
   rw[e]
   exact⟨fun b cs hb=>⟨cs,by rw[g3.2.2.1];exact g3.1 b cs (by rw[this.1];exact hb),rfl⟩,fun b o hb=>⟨o,by rw[g3.2.2.2,g3.2.1,this.2.1];exact hb,rfl⟩⟩
  ·rw[e'] at g3
   have:=jah (by omega) r1
   rw[e]
   exact⟨fun b cs hb=>⟨cs,by rw[g3.2.2.1,g3.1,this.1];exact hb,rfl⟩,fun b o hb=>⟨o,by rw[g3.2.2.2];exact g3.2.1 b o (by rw[this.2.1];exact hb),rfl⟩⟩
  ·have:=jah (by omega) g3;exact hok_eq this.2.2.1 this.2.2.2
  ·rw[e'] at g3
   have:=jah (by omega) r1
   rw[e];exact g3.2.2.2.trans (g3.2.1.trans this.2.1)
  ·have:=jah (by omega) g3;exact hok_eq this.2.2.1 this.2.2.2
  ·rw[e'] at g3
   have:=jah (by omega) r1
   rw[e]
   refine⟨fun b cs hb=>?_,fun b o hb=>⟨o,by rw[g3.2.2.2,g3.2.1,this.2.1];exact hb,rfl⟩⟩
   rw[g3.2.2.1];exact jbr _ g3.1 (by rw[this.1];exact hb)
  ·rw[e'] at g3
   have:=jah (by omega) r1
   rw[e]
   refine⟨fun b cs hb=>?_,fun b o hb=>?_⟩
   ·rw[g3.2.2.1];exact jbr _ g3.1 (by rw[this.1];exact hb)
   ·rw[g3.2.2.2];exact jbr _ g3.2.1 (by rw[this.2.1];exact hb)
  ·have:=jah (by omega) g3;exact hok_eq this.2.2.1 this.2.2.2
  ·have:=jah (by omega) g3;exact hok_eq this.2.2.1 this.2.2.2
  ·rw[e'] at g3;exact hok_eq g3.2.2.1 g3.2.2.2
  ·rw[e'] at g3;exact hok_eq g3.2.2.1 g3.2.2.2
  ·rw[e'] at g3
   have:=jah (by omega) r1
   rw[e]
   exact⟨fun b cs hb=>⟨cs,by rw[g3.2.2.1,g3.1,this.1];exact hb,rfl⟩,fun b o hb=>by rw[g3.2.2.2];exact g3.2.1 b o (by rw[this.2.1];exact hb)⟩
 obtain⟨t2,k1,k2,k3⟩:=jc4 (s2:=t1) p (fun t ht=>by rw[g2 t,if_neg (fun hw=>a2 t hw ht)]) hp h1
 refine⟨t1,t2,g1,k1,fun t=>?_,?_⟩
 ·rw[k2 t]
  by_cases hw:t∈wr p.op
  ·rw[if_pos hw,f2 t (a1 t hw).2]
  ·rw[if_neg hw,g2 t]
   by_cases hw2:t∈wr x.op
   ·rw[if_pos hw2]
   ·rw[if_neg hw2,f2 t hw2,f1 t hw]
 · -- the boxes
  rcases ok_le hc with e|e|⟨e,e'⟩|⟨e,e'⟩|⟨e,e'⟩|⟨e,e'⟩|⟨e,e'⟩|⟨e,e'⟩|⟨e,e'⟩|⟨e,e'⟩|⟨e,e'⟩|⟨e,e'⟩|⟨e,e'⟩|⟨e,e'⟩|⟨e,e'⟩|⟨e,e'⟩
  ·have q1:=jah (by omega) r1
   have q2:=jah (by omega) k3
   have q3:=res_eq g3 q1.1.symm q1.2.1.symm
   exact⟨q2.2.2.1.trans q3.1,q2.2.2.2.trans q3.2⟩
  ·have q2:=jah (by omega) g3
   have q3:=res_eq k3 q2.2.2.1 q2.2.2.2
   exact⟨q3.1.trans q2.1.symm,q3.2.trans q2.2.1.symm⟩
  ·have q2:=jah (by omega) g3
   have q3:=res_eq k3 q2.2.2.1 q2.2.2.2
   exact⟨q3.1.trans q2.1.symm,q3.2.trans q2.2.1.symm⟩
  ·have q1:=jah (by omega) r1
   have q2:=jah (by omega) k3
   have q3:=res_eq g3 q1.1.symm q1.2.1.symm
   exact⟨q2.2.2.1.trans q3.1,q2.2.2.2.trans q3.2⟩
  ·have q1:=jah (by omega) r1
   have q2:=jah (by omega) k3
   have q3:=res_eq g3 q1.1.symm q1.2.1.symm
   exact⟨q2.2.2.1.trans q3.1,q2.2.2.2.trans q3.2⟩
  ·have q1:=jah (by omega) r1
   have q2:=jah (by omega) k3
   have q3:=res_eq g3 q1.1.symm q1.2.1.symm
   exact⟨q2.2.2.1.trans q3.1,q2.2.2.2.trans q3.2⟩
  ·have q2:=jah (by omega) g3
   have q3:=res_eq k3 q2.2.2.1 q2.2.2.2
   exact⟨q3.1.trans q2.1.symm,q3.2.trans q2.2.1.symm⟩
  ·have q1:=jah (by omega) r1
   have q2:=jah (by omega) k3
   have q3:=res_eq g3 q1.1.symm q1.2.1.symm
   exact⟨q2.2.2.1.trans q3.1,q2.2.2.2.trans q3.2⟩
  ·have q2:=jah (by omega) g3
   have q3:=res_eq k3 q2.2.2.1 q2.2.2.2
   exact⟨q3.1.trans q2.1.symm,q3.2.trans q2.2.1.symm⟩
  ·have q1:=jah (by omega) r1
   have q2:=jah (by omega) k3
   have q3:=res_eq g3 q1.1.symm q1.2.1.symm
   exact⟨q2.2.2.1.trans q3.1,q2.2.2.2.trans q3.2⟩
  ·have q1:=jah (by omega) r1
   have q2:=jah (by omega) k3
   have q3:=res_eq g3 q1.1.symm q1.2.1.symm
   exact⟨q2.2.2.1.trans q3.1,q2.2.2.2.trans q3.2⟩
  ·have q2:=jah (by omega) g3
   have q3:=res_eq k3 q2.2.2.1 q2.2.2.2
   exact⟨q3.1.trans q2.1.symm,q3.2.trans q2.2.1.symm⟩
  ·have q2:=jah (by omega) g3
   have q3:=res_eq k3 q2.2.2.1 q2.2.2.2
   exact⟨q3.1.trans q2.1.symm,q3.2.trans q2.2.1.symm⟩
  ·have q2:=g3
   rw[e'] at q2
   have q3:=res_eq k3 q2.2.2.1 q2.2.2.2
   exact⟨q3.1.trans q2.1.symm,q3.2.trans q2.2.1.symm⟩
  ·have q2:=g3
   rw[e'] at q2
   have q3:=res_eq k3 q2.2.2.1 q2.2.2.2
   exact⟨q3.1.trans q2.1.symm,q3.2.trans q2.2.1.symm⟩
  ·have q1:=jah (by omega) r1
   have q2:=jah (by omega) k3
   have q3:=res_eq g3 q1.1.symm q1.2.1.symm
   exact⟨q2.2.2.1.trans q3.1,q2.2.2.2.trans q3.2⟩
end
end Go.Lw
end

/-! Traces as texts: one line (the program's and the document's).. -/
section
namespace Go.Lw
open Go
theorem bA_app (a b:List UInt8):bA a++bA b=bA (a++b):=by
 apply ByteArray.ext;simp
def lineB (word:List UInt8) (l:List Int):List UInt8:=word++l.flatMap (fun n=>32::itoaK n)++[10]
theorem jeg:∀(k u:Nat),(digK k u).length≤k
 |0,_=>Nat.le_refl _
 | k+1,u=>by
  rw[digK]
  split
  ·simp
  ·have:=jeg k (u/10)
   simp;omega
theorem jd1 (n:Int):(itoaK n).length≤21:=by
 unfold itoaK
 split
 ·have:=jeg 20 n.natAbs
  simp;omega
 ·have:=jeg 20 n.toNat
  omega
section
variable {gh:List GObj}
theorem strAdd {a b:List UInt8} (h:a.length+b.length≤9223372036854775807):binPV .add (.str (bA a)) (.str (bA b))=some (.str (bA (a++b))):=by
 have z1:(bA a).size=a.length:=by simp[ByteArray.size]
 have z2:(bA b).size=b.length:=by simp[ByteArray.size]
 have hm:IntKind.max .i64=9223372036854775807:=rfl
 simp only[binPV,z1,z2,hm,bA_app]
 rw[if_neg (by omega)]
theorem jeh {n:Int} (h0: -9223372036854775808≤n) (h1:n≤9223372036854775807):callL pg 260 [I n] gh=some (.str (bA (itoaK n)),gh):=by
 have:callL pg 260 [I n] gh=libItoa [I n] gh:=rfl
 rw[this,libItoa,if_pos ⟨h0,h1⟩]
abbrev I64s (l:List Int):Prop:=∀n∈l,-9223372036854775808≤n∧n≤9223372036854775807
theorem jmq (l:List Int):(l.flatMap fun n=>32::itoaK n).length≤22*l.length:=by
 induction l with
 |nil=>simp
 |cons a l ih=>
  have:=jd1 a
  simp only[List.flatMap_cons,List.length_append,List.length_cons];omega
end
end Go.Lw
end

/-! What the functions of package word come to. -/
section
namespace Go.Lw
open Go
def shapesZ:List (Int×Int):=[(4,1),(5,1),(6,2),(7,2),(8,2),(9,2),(10,2),(11,2),(12,2),(13,2),(14,2),(15,2),(16,3),(17,3),(18,3),(19,4),(20,5),(21,6),(22,7),(23,7)]
theorem jb4 (gh:List GObj):callL pg 61 [] gh=some (.mp gh.length,gh++[.map (mapI shapesZ)]):=by
 refine jaf (fn:=q4t) (s:=⟨[(0,.mp gh.length)],[],gh++[.map (mapI shapesZ)]⟩) rfl rfl (q8k_ ?h) ?r
 case h=>
  rw[q8k,show ([.map []]:List GObj)=[.map (mapI [])] from rfl]
  repeat rw[jmp]
  rfl
 case r=>simp[finish,results,q4t,resOfs,resOf,resOk]
def shapeOf (k:Int):Option Int:=
 if k<4 then none else if k<6 then some 1 else if k<16 then some 2 else if k<19 then some 3 else if k=19 then some 4 else if k=20 then some 5
 else if k=21 then some 6 else if k<24 then some 7 else none
theorem jh2 (k:Int):findI shapesZ k=shapeOf k:=by
 by_cases h:4≤k∧k<24
 ·obtain⟨n,rfl⟩:∃n:Fin 20,k=4+(n.val:Int):=⟨⟨(k-4).toNat,by omega⟩,by simp;omega⟩
  revert n;decide
 ·have:∀l:List (Int×Int),(∀x∈l,4≤x.1∧x.1<24)→findI l k=none:=by
   intro l
   induction l with
   |nil=>intro;rfl
   |cons x l ih=>
    intro hx
    have h1:=hx x (by simp)
    have h2:=ih fun y hy=>hx y (by simp[hy])
    obtain⟨a,u⟩:=x
    rw[findI,if_neg,h2]
    rintro rfl;exact h h1
  rw[this _ (by decide),shapeOf]
  split
  ·rfl
  ·repeat rw[if_neg (by omega)]
def takesOf (k:Int):Int:=
 if k<4 then 0 else if k<6 then 1 else if k<19 then 2 else if k=19 then 3 else if k=20 then 2 else if k<24 then 1 else 0
theorem jb0 (k:Int) (gh:List GObj):callL pg 63 [I k] gh=some (I (takesOf k),gh):=by
 have hk:callL pg 63 [I k] gh=some (I (let n:=(shapeOf k).getD 0;if n=0 then 0 else if n=1∨n=6∨n=7 then 1 else if n=4 then 3 else 2),gh):=by
  have hf:=jh2 k
  cases hs:shapeOf k with
  |none=>
   rw[hs] at hf
   refine jaf (fn:=qh) (s:=?s0) rfl rfl (q1a_ ?h0) ?r0
   case h0=>simp[q1a,jb4,hf];rfl
   case r0=>simp[finish,results,qh,resOfs,resOf,resOk]
  | some n=>
   rw[hs] at hf
   by_cases h0:n=0
   ·refine jaf (fn:=qh) (s:=?s1) rfl rfl (q1a_ ?h1) ?r1
    case h1=>simp[q1a,jb4,hf,h0];rfl
    case r1=>simp[finish,results,qh,resOfs,resOf,resOk,h0]
   by_cases h1:n=1∨n=6∨n=7
   ·refine jaf (fn:=qh) (s:=⟨[(2,I 1)],[],gh++[.map (mapI shapesZ)]⟩) rfl rfl (q1a_ ?h2) ?r2
    case h2=>
     have:=q8j_ (pg:=pg) (gh:=gh++[.map (mapI shapesZ)]) (x5:=n) (b8:=true) (e:= .ret) (s:=⟨[(2,I 1)],[],gh++[.map (mapI shapesZ)]⟩) rfl
     rcases h1 with rfl|rfl|rfl<;>simp[q1a,jb4,hf,this]
    case r2=>simp[finish,results,qh,resOfs,resOf,resOk,h0,h1]
   ·by_cases h4:n=4
    ·refine jaf (fn:=qh) (s:=⟨[(2,I 3)],[],gh++[.map (mapI shapesZ)]⟩) rfl rfl (q1a_ ?h3) ?r3
     case h3=>
      subst h4
      have:=q8j_ (pg:=pg) (gh:=gh++[.map (mapI shapesZ)]) (x5:=4) (b8:=false) (e:= .ret) (s:=⟨[(2,I 3)],[],gh++[.map (mapI shapesZ)]⟩) rfl
      simp[q1a,jb4,hf,this]
     case r3=>simp[finish,results,qh,resOfs,resOf,resOk,h0,h4]
    ·simp only[not_or] at h1
     refine jaf (fn:=qh) (s:=⟨[(2,I 2)],[],gh++[.map (mapI shapesZ)]⟩) rfl rfl (q1a_ ?h5) ?r5
     case h5=>
      have:=q8j_ (pg:=pg) (gh:=gh++[.map (mapI shapesZ)]) (x5:=n) (b8:=false) (e:= .normal) (s:=⟨[(12,B false)],[],gh++[.map (mapI shapesZ)]⟩) (by simp[q8j,h4])
      have h2:=q9n_ (pg:=pg) (gh:=gh++[.map (mapI shapesZ)]) (b12:=false) (e:= .ret) (s:=⟨[(2,I 2)],[],gh++[.map (mapI shapesZ)]⟩) rfl
      simp[q1a,jb4,hf,h0,h1,this,h2]
     case r5=>simp[finish,results,qh,resOfs,resOf,resOk,h0,h1,h4]
 rw[hk]
 congr 3
 simp only[shapeOf,takesOf]
 repeat' split
 all_goals first|rfl|omega|simp_all
theorem jbe (w:Int) (gh:List GObj):callL pg 62 [I w] gh=some (B (decide (1≤w∧w≤8)),gh):=by
 by_cases h:1≤w
 ·refine jaf (fn:=q1s) (s:=?s1) rfl rfl (q51_ ?h1) ?r1
  case h1=>simp[q51,h];rfl
  case r1=>simp[finish,results,q1s,resOfs,resOf,resOk,h]
 ·refine jaf (fn:=q1s) (s:=?s2) rfl rfl (q51_ ?h2) ?r2
  case h2=>simp[q51,h];rfl
  case r2=>simp[finish,results,q1s,resOfs,resOf,resOk,h]
def fitsOf (s width n w0 w1 w2:Int):Bool:=
 if n≠0∧s≠6 then false
 else if s=1 then w0=width
 else if s=2 then w0=width∧w1=width
 else if s=3 then w0=w1∧width=1
 else if s=4 then w0=1∧w1=width∧w2=width
 else if s=5 then IntKind.i64.wrap (w0+w1)=width
 else if s=6 then 0≤n∧n≤IntKind.i64.wrap (w0-width)
 else w0≤width
theorem jh3 (s width n w0 w1 w2:Int) (gh:List GObj):callL pg 64 [I s,I width,I n,.agg [I w0,I w1,I w2]] gh=some (B (fitsOf s width n w0 w1 w2),gh):=by
 have h:qi pg s width n w0 w1 w2 gh=some (.ret,⟨[(8,B (fitsOf s width n w0 w1 w2))],[],gh⟩):=by
  by_cases hn:n=0
  ·by_cases h1:s=1
   ·simp[qi,fitsOf,hn,h1]
   by_cases h2:s=2
   ·by_cases h:w0=width<;>simp[qi,fitsOf,hn,h2,h]
   by_cases h3:s=3
   ·by_cases h:w0=w1<;>simp[qi,fitsOf,hn,h3,h]
   by_cases h4:s=4
   ·by_cases h:w0=1<;>by_cases h':w1=width<;>simp[qi,fitsOf,hn,h4,h,h']
   by_cases h5:s=5
   ·simp[qi,fitsOf,hn,h5]
   by_cases h6:s=6
   ·simp[qi,fitsOf,hn,h6]
   simp[qi,fitsOf,hn,h1,h2,h3,h4,h5,h6]
  ·by_cases h6:s=6
   ·by_cases h:0≤n<;>simp[qi,fitsOf,hn,h6,h]
   ·simp[qi,fitsOf,hn,h6]
 refine jaf (fn:=q4u) rfl rfl (qi_ h) ?r
 simp[finish,results,q4u,resOfs,resOf,resOk]
def wOk (k i w:Int):Prop:=if i<takesOf k then 1≤w∧w≤8 else w=0
instance (k i w:Int):Decidable (wOk k i w):=inferInstanceAs (Decidable (if i<takesOf k then 1≤w∧w≤8 else w=0))
theorem Fit_b1 (k width n s w0 w1 w2 i w:Int) (gh:List GObj) (hi:(i=0∧w=w0)∨(i=1∧w=w1)∨(i=2∧w=w2)) :
  qo pg k width n s w0 w1 w2 i w0 w1 w2 gh=if wOk k i w then some (.normal,⟨[(0,I k),(1,I width),(2,I n),(7,.ptr false 0 0),(9,I s),(24,.agg [I w0,I w1,I w2]),(25,I (i+1))],[[I w0,I w1,I w2]],gh⟩)
   else some (.ret,⟨[(8,I 3)],[],gh⟩):=by
 have hw:(IntKind.i64.wrap (i+1))=i+1:=jas (by omega) (by omega)
 by_cases hk:i<takesOf k
 ·have hk':=Int.not_le.2 hk
  by_cases h1:1≤w
  ·by_cases h2:w≤8
   ·rcases hi with ⟨rfl,rfl⟩|⟨rfl,rfl⟩|⟨rfl,rfl⟩<;>simp[qo,jb0,jbe,hk,hk',wOk,h1,h2]<;>exact hw
   ·rcases hi with ⟨rfl,rfl⟩|⟨rfl,rfl⟩|⟨rfl,rfl⟩<;>simp[qo,jb0,jbe,hk,wOk,h1,h2]
  ·rcases hi with ⟨rfl,rfl⟩|⟨rfl,rfl⟩|⟨rfl,rfl⟩<;>simp[qo,jb0,jbe,hk,wOk,h1]
 ·have hk':=Int.not_lt.1 hk
  by_cases h2:w=0
  ·rcases hi with ⟨rfl,rfl⟩|⟨rfl,rfl⟩|⟨rfl,rfl⟩<;>simp[qo,jb0,hk,hk',wOk,h2]<;>exact hw
  ·rcases hi with ⟨rfl,rfl⟩|⟨rfl,rfl⟩|⟨rfl,rfl⟩<;>simp[qo,jb0,hk,hk',wOk,h2]
theorem jmv (k width n s w0 w1 w2:Int) (gh:List GObj) :
  runL pg q4r ⟨[(0,I k),(1,I width),(2,I n),(7,.ptr false 0 0),(9,I s),(24,.agg [I w0,I w1,I w2]),(25,I 0)],[[I w0,I w1,I w2]],gh⟩=
   if wOk k 0 w0∧wOk k 1 w1∧wOk k 2 w2 then some (.normal,⟨[(1,I width),(2,I n),(7,.ptr false 0 0),(9,I s)],[[I w0,I w1,I w2]],gh⟩) else some (.ret,⟨[(8,I 3)],[],gh⟩):=by
 have b0:=Fit_b1 k width n s w0 w1 w2 0 w0 gh (by simp)
 have b1:=Fit_b1 k width n s w0 w1 w2 1 w1 gh (by simp)
 have b2:=Fit_b1 k width n s w0 w1 w2 2 w2 gh (by simp)
 by_cases h0:wOk k 0 w0
 ·rw[if_pos h0] at b0
  refine jai (qo_ b0) ?_
  by_cases h1:wOk k 1 w1
  ·rw[if_pos h1] at b1
   refine jai (qo_ b1) ?_
   by_cases h2:wOk k 2 w2
   ·rw[if_pos h2] at b2
    refine jai (qo_ b2) ?_
    rw[if_pos ⟨h0,h1,h2⟩]
    refine (jat (s1:=?s1) (qo_ ?h1)).trans ?r1
    case h1=>simp[qo];rfl
    case r1=>simp[keep]
   ·rw[if_neg h2] at b2
    rw[if_neg (fun h=>h2 h.2.2)]
    exact lp_ret (qo_ b2)
  ·rw[if_neg h1] at b1
   rw[if_neg (fun h=>h1 h.2.1)]
   exact lp_ret (qo_ b1)
 ·rw[if_neg h0] at b0
  rw[if_neg (fun h=>h0 h.1)]
  exact lp_ret (qo_ b0)
def fitE (k width n w0 w1 w2:Int):Int:=
 match shapeOf k with
 |none=>7
 |some s=>if ¬(1≤width∧width≤8) then 3 else if ¬(wOk k 0 w0∧wOk k 1 w1∧wOk k 2 w2) then 3 else if fitsOf s width n w0 w1 w2 then 0 else 1
theorem Fit_eq (k width n w0 w1 w2:Int) (gh:List GObj):callL pg 22 [I k,I width,I n,.agg [I w0,I w1,I w2]] gh=some (I (fitE k width n w0 w1 w2),gh):=by
 have hf:=jh2 k
 simp only[fitE]
 cases hs:shapeOf k with
 |none=>
  rw[hs] at hf
  refine jaf (fn:=qg) (s:=?s0) rfl rfl (q19_ ?h0) ?r0
  case h0=>simp[q19,jb4,hf];rfl
  case r0=>simp[finish,results,qg,resOfs,resOf,resOk]
 | some s=>
  rw[hs] at hf
  by_cases hw:1≤width∧width≤8
  ·have hl:=jmv k width n s w0 w1 w2 (gh++[.map (mapI shapesZ)])
   simp only[hw,not_true,if_false,and_self]
   by_cases ho:wOk k 0 w0∧wOk k 1 w1∧wOk k 2 w2
   ·rw[if_pos ho] at hl
    simp only[ho,not_true,if_false,and_self]
    have hk:∀e s1,q2p pg width n s w0 w1 w2 (gh++[.map (mapI shapesZ)])=some (e,s1)→_:=fun e s1 h=>q2p_ h
    by_cases hb:fitsOf s width n w0 w1 w2
    ·have:=hk .ret ⟨[(8,I 0)],[],gh++[.map (mapI shapesZ)]⟩ (by simp[q2p,jh3,hb])
     refine jaf (fn:=qg) (s:=?s1) rfl rfl (q19_ ?h1) ?r1
     case h1=>simp[q19,jb4,hf,jbe,hw,hl,this];rfl
     case r1=>simp[finish,results,qg,resOfs,resOf,resOk,hb]
    ·have:=hk .ret ⟨[(8,I 1)],[],gh++[.map (mapI shapesZ)]⟩ (by simp[q2p,jh3,hb])
     refine jaf (fn:=qg) (s:=?s2) rfl rfl (q19_ ?h2) ?r2
     case h2=>simp[q19,jb4,hf,jbe,hw,hl,this];rfl
     case r2=>simp[finish,results,qg,resOfs,resOf,resOk,hb]
   ·rw[if_neg ho] at hl
    refine jaf (fn:=qg) (s:=?s3) rfl rfl (q19_ ?h3) ?r3
    case h3=>simp[q19,jb4,hf,jbe,hw,hl];rfl
    case r3=>simp[finish,results,qg,resOfs,resOf,resOk,ho]
  ·refine jaf (fn:=qg) (s:=?s4) rfl rfl (q19_ ?h4) ?r4
   case h4=>simp[q19,jb4,hf,jbe,hw];rfl
   case r4=>simp[finish,results,qg,resOfs,resOf,resOk,hw]
end Go.Lw
end

/-! A builder of strings: what the machine's library does with it. -/
section
namespace Go.Lw
open Go
def BW (gh:List GObj) (X:List UInt8):List GObj:=gh++[.bld (bA X)]
section
variable {gh:List GObj} {X Y:List UInt8}
theorem jbd (l:List UInt8):(bA l).size=l.length:=by simp[ByteArray.size]
theorem BW_get:(BW gh X)[gh.length]?=some (.bld (bA X)):=by simp[BW]
theorem ws_eq (h:Y≠[]) (hl:X.length+Y.length≤140737488355328):callL pg 357 [.ptr true gh.length 0,.str (bA Y)] (BW gh X)=some (.tup [I (Y.length:Int),.nilI],BW gh (X++Y)):=by
 have:callL pg 357 [.ptr true gh.length 0,.str (bA Y)] (BW gh X)=libWS [.ptr true gh.length 0,.str (bA Y)] (BW gh X):=rfl
 rw[this]
 have h0:Y.length≠0:=fun e=>h (List.eq_nil_of_length_eq_zero e)
 simp only[libWS,BW_get,jbd]
 rw[if_pos ⟨h0,hl⟩,bA_app]
 simp[BW]
theorem bs_eq:callL pg 359 [.ptr true gh.length 0] (BW gh X)=some (.str (bA X),gh++[.cells [if X.length=0 then .nilp else .ptr true gh.length 0,.sl false 1 (X.map fun c=> .int .u8 c.toNat)]]):=by
 have:callL pg 359 [.ptr true gh.length 0] (BW gh X)=libBS [.ptr true gh.length 0] (BW gh X):=rfl
 rw[this]
 simp only[libBS,BW_get,jbd]
 simp[BW]
end
end Go.Lw
end

/-! What Apply of package word comes to. -/
section
namespace Go.Lw
open Go
theorem jmy (n w:Int) (hw:0≤w) (gh:List GObj):callL pg 65 [I n,I w] gh=some (B (decide (0≤n∧n<iShl .i64 1 w)),gh):=by
 by_cases h:0≤n
 ·refine jaf (fn:=q1v) (s:=?s1) rfl rfl (q52_ ?h1) ?r1
  case h1=>simp[q52,hw,h];rfl
  case r1=>simp[finish,results,q1v,resOfs,resOf,resOk,h]
 ·refine jaf (fn:=q1v) (s:=?s2) rfl rfl (q52_ ?h2) ?r2
  case h2=>simp[q52,h];rfl
  case r2=>simp[finish,results,q1v,resOfs,resOf,resOk,h]
def inOk (k i x w:Int):Prop:=if i<takesOf k then 0≤x∧x<iShl .i64 1 w else x=0
instance (k i x w:Int):Decidable (inOk k i x w):=inferInstanceAs (Decidable (if i<takesOf k then 0≤x∧x<iShl .i64 1 w else x=0))
end Go.Lw
end

/-! What the functions of package gates come to. -/
section
namespace Go.Lw
open Go
theorem jhc {xs:List Int} {c:Nat} {caps:List PV} {gh:List GObj} {p:Int→Bool} (hc:∀x∈xs,callL pg c (I x::caps) gh=some (B (p x),gh)) (hcap:caps.all argOk=true) (hs:Sz xs.length) :
  ∀k i,i+k=xs.length→runL pg q3g ⟨[(0,LI xs),(1,.fn c caps),(7,I xs.length),(8,I i)],[],gh⟩=
   match (xs.drop i).findIdx? p with
   |some j=>some (.ret,⟨[(4,I ((i+j:Nat)))],[],gh⟩)
   |none=>some (.normal,⟨[],[],gh⟩)
 |0,i,h=>by
  rw[List.drop_eq_nil_of_le (by omega)]
  refine (jat (s1:=?s1) (q2q_ ?h1)).trans ?r1
  case h1=>simp[q2q,show i=xs.length by omega];rfl
  case r1=>simp[keep]
 | k+1,i,h=>by
  have hlt:i<xs.length:=by omega
  have hx:xs[i]?=some xs[i]:=List.getElem?_eq_getElem hlt
  rw[List.drop_eq_getElem_cons hlt,List.findIdx?_cons]
  cases hp:p xs[i] with
  |true=>
   refine (lp_ret (s1:=?s2) (q2q_ ?h2)).trans ?r2
   case h2=>simp[q2q,hlt,hx,jgz hcap,hc xs[i] (List.getElem_mem hlt),hp];rfl
   case r2=>simp
  | false=>
   refine jai (s1:=?s3) (q2q_ ?h3) ?r3
   case h3=>simp[q2q,hlt,hx,jgz hcap,hc xs[i] (List.getElem_mem hlt),hp];rfl
   case r3=>
    rw[jd0 (by omega)]
    refine (jhc hc hcap hs k (i+1) (by omega)).trans ?_
    cases (xs.drop (i+1)).findIdx? p<;>simp
    omega
theorem jmz {xs:List Int} {c:Nat} {caps:List PV} {gh:List GObj} {p:Int→Bool} (hc:∀x∈xs,callL pg c (I x::caps) gh=some (B (p x),gh)) (hcap:caps.all argOk=true) (hs:Sz xs.length) :
  callL pg 111 [LI xs,.fn c caps] gh=some (I (match xs.findIdx? p with|some j=>(j:Int)|none=> -1),gh):=by
 have hl:=jhc hc hcap hs xs.length 0 (by omega)
 simp only[List.drop_zero,Nat.zero_add,Int.natCast_zero] at hl
 cases hf:xs.findIdx? p with
 |some j=>
  rw[hf] at hl
  refine jaf (fn:=q1e) (s:=?s4) rfl rfl (q54_ ?h4) ?r4
  case h4=>simp[q54,hl];rfl
  case r4=>simp[finish,results,q1e,resOfs,resOf,resOk,argOk,PV.one,PV.noG]
 |none=>
  rw[hf] at hl
  refine jaf (fn:=q1e) (s:=?s5) rfl rfl (q54_ ?h5) ?r5
  case h5=>simp[q54,hl,q9t_ (s:=⟨[(4,I (-1))],[],gh⟩) (e:= .ret) rfl];rfl
  case r5=>simp[finish,results,q1e,resOfs,resOf,resOk,argOk,PV.one,PV.noG]
theorem jhd {xs:List Int} {c:Nat} {caps:List PV} {gh:List GObj} {p:Int→Bool} (hc:∀x∈xs,callL pg c (I x::caps) gh=some (B (p x),gh)) (hcap:caps.all argOk=true) (hs:Sz xs.length) :
  callL pg 86 [LI xs,.fn c caps] gh=some (B (xs.any p),gh):=by
 refine jaf (fn:=q3a) (s:=?s6) rfl rfl (q8l_ ?h6) ?r6
 case h6=>simp[q8l,jmz hc hcap hs];rfl
 case r6=>
  have:(decide (0≤(match xs.findIdx? p with|some j=>(j:Int)|none=> -1)))=xs.any p:=by
   cases hf:xs.findIdx? p with
   |some j=>
    have:=List.findIdx?_eq_some_iff_getElem.1 hf
    obtain⟨hj,hpj,_⟩:=this
    simp only[Int.natCast_nonneg,decide_true]
    exact (List.any_eq_true.2 ⟨_,List.getElem_mem hj,hpj⟩).symm
   |none=>
    have:=List.findIdx?_eq_none_iff.1 hf
    simp only[show decide ((0:Int)≤ -1)=false by decide]
    exact (List.any_eq_false.2 fun x hx=>by simp[this x hx]).symm
  simp[finish,results,q3a,resOfs,resOf,resOk,argOk,PV.one,PV.noG,this]
end Go.Lw
end

/-! Graphs: maps whose keys are Ands, and the check of a graph. -/
section
namespace Go.Lw
open Go
theorem jd5 (x:Int×Int):andV x= .agg [I x.1,I x.2]:=rfl
def badA (ins:Int) (i:Nat) (x:Int×Int):Prop:=x.2≤x.1∨x.1<2∨2*(1+ins+i)≤x.2∨x.1/2=x.2/2
instance (ins:Int) (i:Nat) (x:Int×Int):Decidable (badA ins i x):=inferInstanceAs (Decidable (_∨_))
section
variable {ins:Int} {ands:List (Int×Int)} {gh:List GObj}
def RA (ands:List (Int×Int)):Prop:=∀x∈ands,(-9223372036854775808≤x.1∧x.1≤9223372036854775807)∧(-9223372036854775808≤x.2∧x.2≤9223372036854775807)
end
end Go.Lw
end

/-! Clauses: what the program makes and checks. -/
section
namespace Go.Lw
open Go
theorem jek (l:List Int):noGs (l.map I)=true:=by
 induction l with
 |nil=>rfl
 |cons x l ih=>simp[ih]
section
variable {gh:List GObj} {x y:GObj}
end
section
variable {ins:Int} {ands:List (Int×Int)} {gh:List GObj}
end
end Go.Lw
end

/-! Nodes of models: what the program and the document say of one. -/
section
namespace Go.Lw
open Go
structure Nd where
 k:Int
 w:Int
 a:Int
 b:Int
 c:Int
 n:Int
 deriving Inhabited
def nodeV (x:Nd):PV:= .agg [I x.k,I x.w,I x.a,I x.b,I x.c,I x.n]
theorem jb2 (x:Nd):nodeV x= .agg [I x.k,I x.w,I x.a,I x.b,I x.c,I x.n]:=rfl
abbrev LN (l:List Nd):PV:= .sl false 6 (l.map nodeV)
theorem jb5 (k:Int):takesOf k=0∨takesOf k=1∨takesOf k=2∨takesOf k=3:=by
 unfold takesOf
 repeat' split
 all_goals simp
theorem jhe {k:Int} (h:1≤k∧k≤3):takesOf k=0:=by
 unfold takesOf;rw[if_pos (by omega)]
def argsL (x:Nd):List Int:=[x.a,x.b,x.c].take (takesOf x.k).toNat
theorem jel (x:Nd) (gh:List GObj):callL pg 81 [nodeV x] gh=some (LI (argsL x),gh):=by
 unfold nodeV argsL
 have ht:=jb0 x.k gh
 rcases jb5 x.k with h|h|h|h<;>rw[h] at ht ⊢
 ·refine jaf (fn:=ql) (s:=?s0) rfl rfl (q1w_ ?h0) ?r0
  case h0=>simp[q1w,ht];rfl
  case r0=>simp[finish,results,ql,resOk,get]
 ·refine jaf (fn:=ql) (s:=?s1) rfl rfl (q1w_ ?h1) ?r1
  case h1=>simp[q1w,ht];rfl
  case r1=>simp[finish,results,ql,resOk,get]
 ·refine jaf (fn:=ql) (s:=?s2) rfl rfl (q1w_ ?h2) ?r2
  case h2=>simp[q1w,ht];rfl
  case r2=>simp[finish,results,ql,resOk,get]
 ·refine jaf (fn:=ql) (s:=?s3) rfl rfl (q1w_ ?h3) ?r3
  case h3=>simp[q1w,ht];rfl
  case r3=>simp[finish,results,ql,resOk,get]
theorem jn0 (k:Int) (gh:List GObj):callL pg 103 [I k] gh=some (B (decide (1≤k∧k≤3)),gh):=by
 by_cases h:1≤k
 ·refine jaf (fn:=q1j) (s:=?s1) rfl rfl (q55_ ?h1) ?r1
  case h1=>simp[q55,h];rfl
  case r1=>simp[finish,results,q1j,resOfs,resOf,resOk,h]
 ·refine jaf (fn:=q1j) (s:=?s2) rfl rfl (q55_ ?h2) ?r2
  case h2=>simp[q55,h];rfl
  case r2=>simp[finish,results,q1j,resOfs,resOf,resOk,h]
def wAt (l:List Nd) (a:Int):Int:=(l.getD a.toNat default).w
def isNo (l:List Nd) (a:Int):Prop:=0≤a∧a.toNat<l.length
instance (l:List Nd) (a:Int):Decidable (isNo l a):=inferInstanceAs (Decidable (_∧_))
theorem jcc {l:List Nd} {a:Int} (h:isNo l a):(l.map nodeV)[a.toNat]?=some (nodeV (l.getD a.toNat default)):=by
 rw[List.getElem?_map,List.getElem?_eq_getElem h.2]
 simp[List.getD_eq_getElem?_getD,List.getElem?_eq_getElem h.2]
def wdSt (l:List Nd) (x:Nd) (w0 w1 w2:Int) (xs:List Int) (i:Int) (gh:List GObj):St:=
 ⟨[(0,LN l),(4,.ptr false 1 0),(5,.ptr false 2 0),(9,LI xs),(10,I xs.length),(11,I i)],[[I x.k,I x.w,I x.a,I x.b,I x.c,I x.n],[I 0,I 0,I 0],[I w0,I w1,I w2]],gh⟩
theorem jbw {l:List Nd} {x:Nd} {w0 w1 w2 a i:Int} {xs:List Int} {gh:List GObj} (hi:i=0∨i=1∨i=2) (hx:xs[i.toNat]?=some a) (ha:isNo l a) :
  q1b pg (LN l) (LI xs) xs.length i x.k x.w x.a x.b x.c x.n 0 0 0 w0 w1 w2 gh=
   some (.normal,wdSt l x (if i=0 then wAt l a else w0) (if i=1 then wAt l a else w1) (if i=2 then wAt l a else w2) xs (i+1) gh):=by
 have hlt:=(List.getElem?_eq_some_iff.1 hx).1
 have hltI:i<(xs.length:Int):=by omega
 have hm:(xs.map I)[i.toNat]?=some (I a):=by rw[List.getElem?_map,hx];rfl
 have hn:=jcc ha
 have h0:=ha.1
 have hw:IntKind.i64.wrap (i+1)=i+1:=jas (by omega) (by omega)
 generalize hd:l.getD a.toNat default=d at hn
 have hwa:wAt l a=d.w:=by unfold wAt;rw[hd]
 rw[hwa]
 rw[jb2 d] at hn
 unfold wdSt
 have h5:0<xs.length:=by omega
 rcases hi with rfl|rfl|rfl
 ·have e0:xs[0]=a:=(List.getElem?_eq_some_iff.1 hx).2
  rw[Int.zero_add] at hw
  simp[q1b,h5,e0,hn,h0,hw,spliceAt,-List.getElem?_map]
 ·have hm0:(xs.map I)[1]?=some (I a):=hm
  simp[q1b,hltI,hm0,hn,h0,spliceAt,-List.getElem?_map]
  exact hw
 ·have hm0:(xs.map I)[2]?=some (I a):=hm
  simp[q1b,hltI,hm0,hn,h0,spliceAt,-List.getElem?_map]
  exact hw
def wdJ (l:List Nd) (k j a:Int):Int:=if j<takesOf k then wAt l a else 0
structure ArgsIn (l:List Nd) (x:Nd):Prop where
 a:0<takesOf x.k→isNo l x.a
 b:1<takesOf x.k→isNo l x.b
 c:2<takesOf x.k→isNo l x.c
def widthsV (l:List Nd) (x:Nd):PV:= .agg [I (wdJ l x.k 0 x.a),I (wdJ l x.k 1 x.b),I (wdJ l x.k 2 x.c)]
theorem jd6 {l:List Nd} {x:Nd} {w0 w1 w2:Int} {xs:List Int} {gh:List GObj}:runL pg q2b (wdSt l x w0 w1 w2 xs xs.length gh)=
  some (.normal,⟨[(4,.ptr false 1 0),(5,.ptr false 2 0)],[[I x.k,I x.w,I x.a,I x.b,I x.c,I x.n],[I 0,I 0,I 0],[I w0,I w1,I w2]],gh⟩):=by
 refine (jat (s1:=?s1) (q1b_ ?h1)).trans ?r1
 case h1=>simp[q1b];rfl
 case r1=>simp[keep,stays]
theorem jn1 {l:List Nd} {x:Nd} {gh:List GObj} (h:ArgsIn l x):runL pg q2b (wdSt l x 0 0 0 (argsL x) 0 gh)=
  some (.normal,⟨[(4,.ptr false 1 0),(5,.ptr false 2 0)],[[I x.k,I x.w,I x.a,I x.b,I x.c,I x.n],[I 0,I 0,I 0],[I (wdJ l x.k 0 x.a),I (wdJ l x.k 1 x.b),I (wdJ l x.k 2 x.c)]],gh⟩):=by
 unfold argsL wdJ
 rcases jb5 x.k with ht|ht|ht|ht<;>rw[ht]
 ·exact jd6 (xs:=[])
 ·refine jai (q1b_ (jbw (a:=x.a) (.inl rfl) rfl (h.a (by omega)))) ?_
  exact jd6 (xs:=[x.a])
 ·refine jai (q1b_ (jbw (a:=x.a) (.inl rfl) rfl (h.a (by omega)))) ?_
  refine jai (q1b_ (jbw (a:=x.b) (.inr (.inl rfl)) rfl (h.b (by omega)))) ?_
  exact jd6 (xs:=[x.a,x.b])
 ·refine jai (q1b_ (jbw (a:=x.a) (.inl rfl) rfl (h.a (by omega)))) ?_
  refine jai (q1b_ (jbw (a:=x.b) (.inr (.inl rfl)) rfl (h.b (by omega)))) ?_
  refine jai (q1b_ (jbw (a:=x.c) (.inr (.inr rfl)) rfl (h.c (by omega)))) ?_
  exact jd6 (xs:=[x.a,x.b,x.c])
theorem jn2 {l:List Nd} {x:Nd} {gh:List GObj} (h:ArgsIn l x):callL pg 104 [LN l,nodeV x] gh=some (widthsV l x,gh):=by
 have hA:=jel x gh
 have hl:=jn1 (gh:=gh) h
 unfold wdSt at hl
 have hk:=q9w_ (pg:=pg) (gh:=gh) (xc0_0:=x.k) (xc0_1:=x.w) (xc0_2:=x.a) (xc0_3:=x.b) (xc0_4:=x.c) (xc0_5:=x.n) (xc1_0:=0) (xc1_1:=0) (xc1_2:=0) (xc2_0:=wdJ l x.k 0 x.a) (xc2_1:=wdJ l x.k 1 x.b) (xc2_2:=wdJ l x.k 2 x.c) rfl
 unfold nodeV at hA
 have hlen:((argsL x).map I).length=(argsL x).length:=by simp
 refine jaf (fn:=q40) (s:=?s1) rfl rfl (q8m_ ?h1) ?r1
 case h1=>simp[q8m,hA,hl,hk];rfl
 case r1=>simp[finish,results,q40,resOfs,resOf,St.cellsAt,resOk,widthsV]
end Go.Lw
end

/-! What is wrong with a node: the program's answer and the document's. -/
section
namespace Go.Lw
open Go
def badJ (idx k j a:Int):Prop:=if j<takesOf k then a<0∨idx≤a else a≠0
instance (idx k j a:Int):Decidable (badJ idx k j a):=inferInstanceAs (Decidable (if j<takesOf k then a<0∨idx≤a else a≠0))
def badArgs (idx:Int) (x:Nd):Prop:=badJ idx x.k 0 x.a∨badJ idx x.k 1 x.b∨badJ idx x.k 2 x.c
instance (idx:Int) (x:Nd):Decidable (badArgs idx x):=inferInstanceAs (Decidable (_∨_))
def nodeE (l:List Nd) (idx:Int) (x:Nd):Int:=
 if x.k<1∨24≤x.k then 7 else if ¬(1≤x.w∧x.w≤8) then 3
 else if x.k≤3 then (if x.k=1∧¬(0≤x.n∧x.n<((2^x.w.toNat:Nat):Int)) then 3 else if (x.k≠1∧x.n≠0)∨x.a≠0∨x.b≠0∨x.c≠0 then 1 else 0)
 else if badArgs idx x then 4 else fitE x.k x.w x.n (wdJ l x.k 0 x.a) (wdJ l x.k 1 x.b) (wdJ l x.k 2 x.c)
theorem jn3 {l:List Nd} {idx:Nat} {x:Nd} (hi:idx≤l.length) (h:¬badArgs idx x):ArgsIn l x:=by
 unfold badArgs badJ at h
 simp only[not_or] at h
 obtain⟨h0,h1,h2⟩:=h
 refine⟨fun q=>?_,fun q=>?_,fun q=>?_⟩
 ·rw[if_pos q] at h0
  exact⟨by omega,by omega⟩
 ·rw[if_pos q] at h1
  exact⟨by omega,by omega⟩
 ·rw[if_pos q] at h2
  exact⟨by omega,by omega⟩
section
variable {l:List Nd} {x:Nd} {gh:List GObj}
def nlSt (l:List Nd) (idx:Int) (x:Nd) (j:Int) (gh:List GObj):St:=
 ⟨[(0,LN l),(1,I idx),(5,.ptr false 0 0),(67,.sl true 1 [I x.a,I x.b,I x.c]),(68,I 3),(69,I j)],[[I x.k,I x.w,I x.a,I x.b,I x.c,I x.n]],gh⟩
theorem jem {idx j a:Int} (hj:(j=0∧a=x.a)∨(j=1∧a=x.b)∨(j=2∧a=x.c)) :
  qp pg (LN l) idx (.sl true 1 [I x.a,I x.b,I x.c]) 3 j x.k x.w x.a x.b x.c x.n gh=if badJ idx x.k j a then some (.ret,⟨[(4,I 4)],[],gh⟩) else some (.normal,nlSt l idx x (j+1) gh):=by
 have hw:(IntKind.i64.wrap (j+1))=j+1:=jas (by omega) (by omega)
 by_cases hk:j<takesOf x.k
 ·have hk':=Int.not_le.2 hk
  by_cases h1:a<0
  ·rw[if_pos (by unfold badJ;rw[if_pos hk];exact .inl h1)]
   rcases hj with ⟨rfl,rfl⟩|⟨rfl,rfl⟩|⟨rfl,rfl⟩<;>simp[qp,jb0,hk,h1]
  ·by_cases h2:idx≤a
   ·rw[if_pos (by unfold badJ;rw[if_pos hk];exact .inr h2)]
    rcases hj with ⟨rfl,rfl⟩|⟨rfl,rfl⟩|⟨rfl,rfl⟩<;>simp[qp,jb0,hk,h1,h2]
   ·rw[if_neg (by unfold badJ;rw[if_pos hk];rintro (h|h)<;>contradiction)]
    unfold nlSt
    rcases hj with ⟨rfl,rfl⟩|⟨rfl,rfl⟩|⟨rfl,rfl⟩<;>simp[qp,jb0,hk,hk',h1,h2]<;>exact hw
 ·have hk':=Int.not_lt.1 hk
  by_cases h2:a=0
  ·rw[if_neg (by unfold badJ;rw[if_neg hk];exact fun h=>h h2)]
   unfold nlSt
   rcases hj with ⟨rfl,rfl⟩|⟨rfl,rfl⟩|⟨rfl,rfl⟩<;>simp[qp,jb0,hk,hk',h2]<;>exact hw
  ·rw[if_pos (by unfold badJ;rw[if_neg hk];exact h2)]
   rcases hj with ⟨rfl,rfl⟩|⟨rfl,rfl⟩|⟨rfl,rfl⟩<;>simp[qp,jb0,hk,hk',h2]
theorem jn4 {idx:Int}:runL pg q3k (nlSt l idx x 0 gh)=
  if badArgs idx x then some (.ret,⟨[(4,I 4)],[],gh⟩) else some (.normal,⟨[(0,LN l),(5,.ptr false 0 0)],[[I x.k,I x.w,I x.a,I x.b,I x.c,I x.n]],gh⟩):=by
 have b0:=jem (l:=l) (x:=x) (gh:=gh) (idx:=idx) (j:=0) (a:=x.a) (by simp)
 have b1:=jem (l:=l) (x:=x) (gh:=gh) (idx:=idx) (j:=1) (a:=x.b) (by simp)
 have b2:=jem (l:=l) (x:=x) (gh:=gh) (idx:=idx) (j:=2) (a:=x.c) (by simp)
 by_cases h0:badJ idx x.k 0 x.a
 ·rw[if_pos h0] at b0
  rw[if_pos (.inl h0)]
  exact lp_ret (qp_ b0)
 rw[if_neg h0] at b0
 refine jai (qp_ b0) ?_
 by_cases h1:badJ idx x.k 1 x.b
 ·rw[if_pos h1] at b1
  rw[if_pos (.inr (.inl h1))]
  exact lp_ret (qp_ b1)
 rw[if_neg h1] at b1
 refine jai (qp_ b1) ?_
 by_cases h2:badJ idx x.k 2 x.c
 ·rw[if_pos h2] at b2
  rw[if_pos (.inr (.inr h2))]
  exact lp_ret (qp_ b2)
 rw[if_neg h2] at b2
 refine jai (qp_ b2) ?_
 rw[if_neg (by rintro (h|h|h)<;>contradiction)]
 refine (jat (s1:=?s1) (qp_ ?h1)).trans ?r1
 case h1=>simp[qp];rfl
 case r1=>simp[keep,stays]
theorem jn5 {idx:Nat} (hi:idx≤l.length) (b:Bool):runL pg qa ⟨[(0,LN l),(1,I idx),(5,.ptr false 0 0),(26,B b)],[[I x.k,I x.w,I x.a,I x.b,I x.c,I x.n]],gh⟩=
  some (.ret,⟨[(4,I (if badArgs idx x then 4 else fitE x.k x.w x.n (wdJ l x.k 0 x.a) (wdJ l x.k 1 x.b) (wdJ l x.k 2 x.c)))],[],gh⟩):=by
 refine q57_ ?_
 have hl:=jn4 (l:=l) (x:=x) (gh:=gh) (idx:=idx)
 unfold nlSt at hl
 by_cases hb:badArgs idx x
 ·rw[if_pos hb] at hl
  simp[q57,hl,hb]
 ·rw[if_neg hb] at hl
  have hW:=jn2 (gh:=gh) (jn3 hi hb)
  have hF:=Fit_eq x.k x.w x.n (wdJ l x.k 0 x.a) (wdJ l x.k 1 x.b) (wdJ l x.k 2 x.c) gh
  unfold widthsV at hW
  rw[jb2 x] at hW
  have hk:=q8n_ (pg:=pg) (gh:=gh) (v0:=LN l) (xc0_0:=x.k) (xc0_1:=x.w) (xc0_2:=x.a) (xc0_3:=x.b) (xc0_4:=x.c) (xc0_5:=x.n) (e:= .ret)
   (s:=⟨[(4,I (fitE x.k x.w x.n (wdJ l x.k 0 x.a) (wdJ l x.k 1 x.b) (wdJ l x.k 2 x.c)))],[],gh⟩) (by
   simp[q8n,hW,hF])
  simp[q57,hl,hb,hk]
theorem shl1 {w:Int} (h:1≤w∧w≤8):iShl .i64 1 w=((2^w.toNat:Nat):Int):=by
 obtain⟨h1,h2⟩:=h
 have:w=1∨w=2∨w=3∨w=4∨w=5∨w=6∨w=7∨w=8:=by omega
 rcases this with rfl|rfl|rfl|rfl|rfl|rfl|rfl|rfl<;>decide +kernel
theorem jn6 {idx:Nat} (hx:l[idx]?=some x):callL pg 76 [LN l,I idx] gh=some (I (nodeE l idx x),gh):=by
 have hlt:=(List.getElem?_eq_some_iff.1 hx).1
 have hg:(l.map nodeV)[idx]?=some (nodeV x):=by rw[List.getElem?_map,hx];rfl
 rw[jb2 x] at hg
 have k3:=jn5 (l:=l) (x:=x) (gh:=gh) (idx:=idx) (by omega)
 have hw:=jbe x.w gh
 have hlf:=jn0 x.k gh
 have k1t:runL pg qb ⟨[(39,B true)],[],gh⟩=some (.ret,⟨[(4,I 1)],[],gh⟩):=q9x_ rfl
 have k1f:runL pg qb ⟨[(39,B false)],[],gh⟩=some (.normal,⟨[(39,B false)],[],gh⟩):=q9x_ rfl
 have k2:runL pg qc ⟨[(39,B false)],[],gh⟩=some (.ret,⟨[(4,I 0)],[],gh⟩):=q9y_ rfl
 unfold nodeE
 refine jaf (fn:=q3m) (s:=⟨[(4,I (nodeE l idx x))],[],gh⟩) rfl rfl (qd_ ?h1) ?r1
 case r1=>simp[finish,results,q3m,resOfs,resOf,resOk,nodeE]
 case h1=>
  unfold nodeE
  by_cases h1:x.k<1
  ·simp[qd,hg,h1,-List.getElem?_map]
  by_cases h2:24≤x.k
  ·simp[qd,hg,h1,h2,-List.getElem?_map]
  by_cases h3:1≤x.w∧x.w≤8
  ·rw [decide_eq_true h3] at hw
   by_cases h4:x.k≤3
   ·rw [decide_eq_true ⟨by omega,h4⟩] at hlf
    by_cases h5:x.k=1
    ·have hI:=jmy x.n x.w (by omega) gh
     rw[shl1 h3] at hI
     generalize ((2^x.w.toNat:Nat):Int)=T at *
     by_cases h6:0≤x.n∧x.n<T
     ·rw[decide_eq_true h6] at hI
      rw[h5] at hg hlf
      by_cases ha:x.a=0
      ·by_cases hb:x.b=0
       ·by_cases hc:x.c=0
        ·simp[qd,hg,h3,hw,hlf,h5,hI,h6,ha,hb,hc,k1f,k2,-List.getElem?_map]
        ·simp[qd,hg,h3,hw,hlf,h5,hI,h6,ha,hb,hc,k1t,-List.getElem?_map]
       ·simp[qd,hg,h3,hw,hlf,h5,hI,h6,ha,hb,k1t,-List.getElem?_map]
      ·simp[qd,hg,h3,hw,hlf,h5,hI,h6,ha,k1t,-List.getElem?_map]
     ·rw[decide_eq_false h6] at hI
      rw[h5] at hg hlf
      simp[qd,hg,h3,hw,hlf,h5,hI,h6,-List.getElem?_map]
    ·by_cases hn:x.n=0
     ·by_cases ha:x.a=0
      ·by_cases hb:x.b=0
       ·by_cases hc:x.c=0
        ·simp[qd,hg,h1,h2,h3,hw,h4,hlf,h5,hn,ha,hb,hc,k1f,k2,-List.getElem?_map]
        ·simp[qd,hg,h1,h2,h3,hw,h4,hlf,h5,hn,ha,hb,hc,k1t,-List.getElem?_map]
       ·simp[qd,hg,h1,h2,h3,hw,h4,hlf,h5,hn,ha,hb,k1t,-List.getElem?_map]
      ·simp[qd,hg,h1,h2,h3,hw,h4,hlf,h5,hn,ha,k1t,-List.getElem?_map]
     ·simp[qd,hg,h1,h2,h3,hw,h4,hlf,h5,hn,k1t,-List.getElem?_map]
   ·rw[decide_eq_false (fun h=>h4 h.2)] at hlf
    have k3':=k3 false
    simp[qd,hg,h1,h2,h3,hw,h4,hlf,k3',-List.getElem?_map]
  ·rw[decide_eq_false h3] at hw
   simp[qd,hg,h1,h2,h3,hw,-List.getElem?_map]
end
end Go.Lw
end

/-! What the nodes of a graph are: what the program makes. -/
section
namespace Go.Lw
open Go
@[simp] theorem noG_ep (e : PV) (o : Nat) : PV.noG (.ep e o) = e.noG := rfl
section
variable {gh:List GObj}
end
end Go.Lw
end

/-! Models: nodes of a kind, bits, and what hangs on an input (the program). -/
section
namespace Go.Lw
open Go
structure Md where
 nodes:List Nd
 inits:List (Int×Int)
 nexts:List (Int×Int)
 bads:List Int
 holds:List Int
abbrev LP (l:List (Int×Int)):PV:= .sl false 2 (l.map andV)
def modelV (m:Md):PV:= .agg [LN m.nodes,LP m.inits,LP m.nexts,LI m.bads,LI m.holds]
theorem jav (m:Md):modelV m= .agg [LN m.nodes,LP m.inits,LP m.nexts,LI m.bads,LI m.holds]:=rfl
def kindF (kind:Int):Nat→List Nd→List Int
 |_,[]=>[]
 |i,x::l=>if x.k=kind then (i:Int)::kindF kind (i+1) l else kindF kind (i+1) l
def kindL (l:List Nd) (kind:Int):List Int:=kindF kind 0 l
theorem jhf (kind:Int):∀(i:Nat) (l:List Nd),(kindF kind i l).length≤l.length
 |_,[]=>Nat.le_refl _
 |i,x::l=>by
  have:=jhf kind (i+1) l
  rw[kindF];split<;>simp<;>omega
theorem kindF_mem {kind:Int}:∀{i:Nat} {l:List Nd} {a:Int},a∈kindF kind i l↔∃j,j<l.length∧a=((i+j:Nat):Int)∧(l[j]?.map (·.k))=some kind
 |i,[],a=>by simp[kindF]
 | i,x::l,a=>by
  have ih:=kindF_mem (kind:=kind) (i:=i+1) (l:=l) (a:=a)
  rw[kindF]
  constructor
  ·intro h
   split at h
   ·rename_i hk
    rcases List.mem_cons.1 h with h|h
    ·exact⟨0,by simp,by simpa using h,by simp[hk]⟩
    ·obtain⟨j,h1,h2,h3⟩:=ih.1 h
     exact⟨j+1,by simp;omega,by rw[h2];omega,by simpa using h3⟩
   ·obtain⟨j,h1,h2,h3⟩:=ih.1 h
    exact⟨j+1,by simp;omega,by rw[h2];omega,by simpa using h3⟩
  ·rintro⟨j,h1,h2,h3⟩
   cases j with
   |zero=>
    simp at h3
    rw[if_pos h3]
    exact List.mem_cons.2 (.inl (by simpa using h2))
   |succ j=>
    have:=ih.2 ⟨j,by simpa using h1,by rw[h2];omega,by simpa using h3⟩
    split
    ·exact List.mem_cons_of_mem _ this
    ·exact this
section
variable {m:Md} {gh:List GObj}
def ofkSt (l:List Nd) (kind:Int) (acc:List Int) (i:Nat) (gh:List GObj):St:=
 ⟨[(1,I kind),(5,.sl true 1 (acc.map I)),(9,LN l),(10,I l.length),(11,I (i:Int))],[],gh⟩
theorem ofk_k1 {l:List Nd} {kind:Int} {acc:List Int} {i:Nat} (hi:i≤100000):runL pg q1i ⟨[(1,I kind),(5,.sl true 1 (acc.map I)),(9,LN l),(10,I l.length),(11,I (i:Int))],[],gh⟩=some (.normal,ofkSt l kind acc (i+1) gh):=by
 have e2:IntKind.i64.wrap ((i:Int)+1)=((i+1:Nat):Int):=by rw[jas (by omega) (by omega)];omega
 refine q8o_ ?_
 simp[q8o,e2,ofkSt]
theorem jen {l:List Nd} {kind:Int} (hl:l.length≤1000):∀k i (acc:List Int),i+k=l.length→acc.length≤i→
  runL pg q3w (ofkSt l kind acc i gh)=some (.normal,⟨[(5,.sl true 1 ((acc++kindF kind i (l.drop i)).map I))],[],gh⟩)
 |0,i,acc,h,_=>by
  rw[List.drop_eq_nil_of_le (by omega)]
  have hlt:¬(i:Int)<(l.length:Int):=by omega
  refine (jat (s1:=?s1) (q2s_ ?h1)).trans ?r1
  case h1=>simp only[q2s,decide_eq_false hlt,jaw];rfl
  case r1=>simp[keep,kindF,stays]
 | k+1,i,acc,h,ha=>by
  have hlt:i<l.length:=by omega
  have hltI:(i:Int)<(l.length:Int):=by omega
  have hx:(l.map nodeV)[i]?=some (nodeV l[i]):=by simp[List.getElem?_eq_getElem hlt]
  rw[jb2 l[i]] at hx
  have hmx:(acc.length+1)*8≤maxBytes:=by
   have:maxBytes=140737488355328:=rfl
   omega
  rw[List.drop_eq_getElem_cons hlt,kindF]
  generalize l[i]=x at *
  by_cases hk:x.k=kind
  ·rw[if_pos hk]
   have hk1:=ofk_k1 (gh:=gh) (l:=l) (kind:=kind) (acc:=acc++[(i:Int)]) (i:=i) (by omega)
   have e:acc++(i:Int)::kindF kind (i+1) (l.drop (i+1))=(acc++[(i:Int)])++kindF kind (i+1) (l.drop (i+1)):=by simp
   rw[e]
   refine jai (s1:=ofkSt l kind (acc++[(i:Int)]) (i+1) gh) (q2s_ ?_) (jen hl k (i+1) _ (by omega) (by simp;omega))
   have hal:(acc.map I).length=acc.length:=by simp
   unfold ofkSt at *
   simp only[List.map_append,List.map_cons,List.map_nil] at hk1 ⊢
   generalize acc.map I=A at *
   simp[q2s,hltI,hx,hk,hal,hmx,hk1,-List.getElem?_map]
  ·rw[if_neg hk]
   have hk1:=ofk_k1 (gh:=gh) (l:=l) (kind:=kind) (acc:=acc) (i:=i) (by omega)
   refine jai (s1:=ofkSt l kind acc (i+1) gh) (q2s_ ?_) (jen hl k (i+1) _ (by omega) (by omega))
   unfold ofkSt at *
   generalize acc.map I=A at *
   simp[q2s,hltI,hx,hk,hk1,-List.getElem?_map]
theorem Ofk_eq {kind:Int} (hl:m.nodes.length≤1000):callL pg 101 [modelV m,I kind] gh=some (LI (kindL m.nodes kind),gh):=by
 have h:=jen (gh:=gh) (l:=m.nodes) (kind:=kind) hl m.nodes.length 0 [] (by omega) (by simp)
 rw[List.drop_zero,List.nil_append] at h
 unfold ofkSt at h
 simp only[List.map_nil,Int.natCast_zero] at h
 have hn:=jek (kindF kind 0 m.nodes)
 have hln:(m.nodes.map nodeV).length=m.nodes.length:=by simp
 have hk:=q8p_ (pg:=pg) (gh:=gh) (v5:= .sl true 1 ((kindF kind 0 m.nodes).map I)) (e:= .ret) (s:=⟨[(4,.sl false 1 ((kindF kind 0 m.nodes).map I))],[],gh⟩) (by simp[q8p])
 unfold kindL
 simp only[LI]
 generalize (kindF kind 0 m.nodes).map I=K at *
 rw[jav]
 refine jaf (fn:=q3y) (s:=⟨[(4,.sl false 1 K)],[],gh⟩) rfl rfl (q8q_ ?h1) ?r1
 case h1=>simp[q8q,h,hk]
 case r1=>simp[finish,results,q3y,resOfs,resOf,resOk,hn]
def addW (s:Int) (x:Nd):Int:=IntKind.i64.wrap (s+x.w)
def bitsK (l:List Nd) (kind:Int):Int:=(l.filter fun x=>decide (x.k=kind)).foldl addW 0
theorem jeo (L:List Nd) (kind:Int):∀(i:Nat) (l:List Nd) (s:Int),l=L.drop i→(kindF kind i l).foldl (fun s a=>IntKind.i64.wrap (s+wAt L a)) s=(l.filter fun x=>decide (x.k=kind)).foldl addW s
 |_,[],_,_=>rfl
 | i,x::l,s,h=>by
  have hi:L[i]?=some x:=by
   have:=congrArg (·[0]?) h
   simpa using this.symm
  have hd:l=L.drop (i+1):=by
   have:=congrArg List.tail h
   rw[List.tail_drop] at this
   exact this
  have hw:wAt L (i:Int)=x.w:=by unfold wAt;simp[List.getD_eq_getElem?_getD,hi]
  rw[kindF,List.filter_cons]
  by_cases hk:x.k=kind
  ·rw[if_pos hk,if_pos (by simpa using hk),List.foldl_cons,List.foldl_cons,hw]
   exact jeo L kind (i+1) l _ hd
  ·rw[if_neg hk,if_neg (by simpa using hk)]
   exact jeo L kind (i+1) l s hd
def biSt (m:Md) (xs:List Int) (s:Int) (i:Nat) (gh:List GObj):St:=
 ⟨[(2,.ptr false 0 0),(5,I s),(8,LI xs),(9,I xs.length),(10,I (i:Int))],[[LN m.nodes,LP m.inits,LP m.nexts,LI m.bads,LI m.holds]],gh⟩
theorem jhg {xs:List Int} (hx:∀a∈xs,isNo m.nodes a) (hl:xs.length≤1000):∀k i s,i+k=xs.length→
  runL pg q41 (biSt m xs s i gh)=some (.normal,⟨[(5,I ((xs.drop i).foldl (fun s a=>IntKind.i64.wrap (s+wAt m.nodes a)) s))],[],gh⟩)
 |0,i,s,h=>by
  rw[List.drop_eq_nil_of_le (by omega)]
  have hlt:¬(i:Int)<(xs.length:Int):=by omega
  refine (jat (s1:=?s1) (q59_ ?h1)).trans ?r1
  case h1=>simp only[q59,decide_eq_false hlt,jaw];rfl
  case r1=>simp[keep,stays]
 |k+1,i,s,h=>by
  have hlt:i<xs.length:=by omega
  have hltI:(i:Int)<(xs.length:Int):=by omega
  have e2:IntKind.i64.wrap ((i:Int)+1)=((i+1:Nat):Int):=by rw[jas (by omega) (by omega)];omega
  have hg:(xs.map I)[i]?=some (I xs[i]):=by simp[List.getElem?_eq_getElem hlt]
  have hno:=hx _ (List.getElem_mem hlt)
  have hn:=jcc hno
  have h0:=hno.1
  rw[List.drop_eq_getElem_cons hlt,List.foldl_cons]
  generalize xs[i]=a at *
  refine jai (s1:=biSt m xs (IntKind.i64.wrap (s+wAt m.nodes a)) (i+1) gh) (q59_ ?_) (jhg hx hl k (i+1) _ (by omega))
  unfold biSt wAt
  generalize m.nodes.getD a.toNat default=d at *
  rw[jb2 d] at hn
  simp[q59,hltI,hg,h0,hn,e2,-List.getElem?_map]
theorem jn7 {xs:List Int} (hx:∀a∈xs,isNo m.nodes a) (hl:xs.length≤1000):callL pg 105 [modelV m,LI xs] gh=some (I (xs.foldl (fun s a=>IntKind.i64.wrap (s+wAt m.nodes a)) 0),gh):=by
 have h:=jhg (gh:=gh) hx hl xs.length 0 0 (by omega)
 rw[List.drop_zero] at h
 unfold biSt at h
 simp only[Int.natCast_zero] at h
 generalize xs.foldl (fun s a=>IntKind.i64.wrap (s+wAt m.nodes a)) 0=r at *
 have hk:=qa0_ (pg:=pg) (gh:=gh) (x5:=r) rfl
 rw[jav]
 refine jaf (fn:=q43) (s:=⟨[(4,I r)],[],gh⟩) rfl rfl (q8s_ ?h1) ?r1
 case h1=>simp[q8s,h,hk]
 case r1=>simp[finish,results,q43,resOfs,resOf,resOk]
theorem jn8 {l:List Nd} {kind a:Int} (h:a∈kindL l kind):isNo l a:=by
 obtain⟨j,h1,h2,-⟩:=kindF_mem.1 h
 exact⟨by omega,by omega⟩
theorem jn9 (hl:m.nodes.length≤1000):callL pg 77 [modelV m] gh=some (.tup [I (bitsK m.nodes 2),I (bitsK m.nodes 3)],gh):=by
 have b:∀kind,callL pg 105 [modelV m,LI (kindL m.nodes kind)] gh=some (I (bitsK m.nodes kind),gh):=fun kind=>by
  have h:=jn7 (m:=m) (gh:=gh) (xs:=kindL m.nodes kind) (fun a ha=>jn8 ha) (Nat.le_trans (jhf kind 0 m.nodes) hl)
  have e:=jeo m.nodes kind 0 m.nodes 0 rfl
  unfold kindL at h ⊢
  rw[e] at h
  exact h
 have o2:=Ofk_eq (m:=m) (gh:=gh) (kind:=2) hl
 have o3:=Ofk_eq (m:=m) (gh:=gh) (kind:=3) hl
 have b2:=b 2
 have b3:=b 3
 rw[jav] at *
 refine jaf (fn:=q3n) (s:=⟨[(2,I (bitsK m.nodes 2)),(3,I (bitsK m.nodes 3))],[],gh⟩) rfl rfl (q8r_ ?h1) ?r1
 case h1=>simp[q8r,o2,o3,b2,b3]
 case r1=>simp[finish,results,q3n,resOfs,resOf,resOk]
def hangB (f:List Bool) (x:Nd):Bool:=decide (x.k=2∨x.k=3)||(argsL x).any fun a=>f.getD a.toNat false
def hangF:List Bool→List Nd→List Bool
 |f,[]=>f
 |f,x::l=>hangF (f++[hangB f x]) l
theorem jhh:∀(f:List Bool) (l:List Nd),(hangF f l).length=f.length+l.length
 |f,[]=>rfl
 |f,x::l=>by rw[hangF,jhh];simp;omega
def Ahead (l:List Nd):Prop:=∀(i:Nat) (x:Nd),l[i]?=some x→∀a∈argsL x,0≤a∧a<i
def ckG (gh:List GObj) (m:Md) (f:List Bool):List GObj:=gh++[.cells [LN m.nodes,LP m.inits,LP m.nexts,LI m.bads,LI m.holds,.sl true 1 (f.map B)]]
theorem fr_idx {f:List Bool} {a:Int} (h:a.toNat<f.length):(f.map B)[a.toNat]?=some (B (f.getD a.toNat false)):=by
 rw[List.getElem?_map,List.getElem?_eq_getElem h]
 simp[List.getD_eq_getElem?_getD,List.getElem?_eq_getElem h]
def le2St (m:Md) (f:List Bool) (xs:List Int) (b:Bool) (i j:Nat) (gh:List GObj):St:=
 ⟨[(0,.ptr true gh.length 0),(4,B b),(11,LN m.nodes),(12,I m.nodes.length),(13,I (i:Int)),(26,LI xs),(27,I xs.length),(28,I (j:Int))],[],ckG gh m f⟩
theorem jhi {f:List Bool} {xs:List Int} {i:Nat} (hx:∀a∈xs,0≤a∧a.toNat<f.length) (hl:xs.length≤1000):∀k j b,j+k=xs.length→
  runL pg q1g (le2St m f xs b i j gh)=some (.normal,⟨[(0,.ptr true gh.length 0),(4,B (b||(xs.drop j).any fun a=>f.getD a.toNat false)),(11,LN m.nodes),(12,I m.nodes.length),(13,I (i:Int))],[],ckG gh m f⟩)
 |0,j,b,h=>by
  rw[List.drop_eq_nil_of_le (by omega)]
  have hlt:¬(j:Int)<(xs.length:Int):=by omega
  refine (jat (s1:=?s1) (q2t_ ?h1)).trans ?r1
  case h1=>simp only[q2t,decide_eq_false hlt,jaw];rfl
  case r1=>simp[keep,stays]
 |k+1,j,b,h=>by
  have hlt:j<xs.length:=by omega
  have hltI:(j:Int)<(xs.length:Int):=by omega
  have e2:IntKind.i64.wrap ((j:Int)+1)=((j+1:Nat):Int):=by rw[jas (by omega) (by omega)];omega
  have hg:(xs.map I)[j]?=some (I xs[j]):=by simp[List.getElem?_eq_getElem hlt]
  obtain⟨h0,h1⟩:=hx _ (List.getElem_mem hlt)
  rw[List.drop_eq_getElem_cons hlt,List.any_cons,←Bool.or_assoc]
  generalize xs[j]=a at *
  have hfr:=fr_idx h1
  generalize f.getD a.toNat false=c at *
  refine jai (s1:=le2St m f xs (b||c) i (j+1) gh) (q2t_ ?_) (jhi hx hl k (j+1) _ (by omega))
  unfold le2St ckG
  cases b with
  |true=>simp[q2t,hltI,hg,e2,-List.getElem?_map]
  |false=>simp[q2t,hltI,hg,h0,hfr,e2,-List.getElem?_map]
def le1St (m:Md) (f:List Bool) (i:Nat) (gh:List GObj):St:=
 ⟨[(0,.ptr true gh.length 0),(11,LN m.nodes),(12,I m.nodes.length),(13,I (i:Int))],[],ckG gh m f⟩
theorem jhj (hA:Ahead m.nodes) (hl:m.nodes.length≤1000):∀k i f,i+k=m.nodes.length→f.length=i→
  runL pg q3o (le1St m f i gh)=some (.normal,⟨[],[],ckG gh m (hangF f (m.nodes.drop i))⟩)
 |0,i,f,h,_=>by
  rw[List.drop_eq_nil_of_le (by omega)]
  have hlt:¬(i:Int)<(m.nodes.length:Int):=by omega
  refine (jat (s1:=?s1) (q2u_ ?h1)).trans ?r1
  case h1=>simp only[q2u,decide_eq_false hlt,jaw];rfl
  case r1=>simp[keep,hangF]
 | k+1,i,f,h,hf=>by
  have hlt:i<m.nodes.length:=by omega
  have hltI:(i:Int)<(m.nodes.length:Int):=by omega
  have e2:IntKind.i64.wrap ((i:Int)+1)=((i+1:Nat):Int):=by rw[jas (by omega) (by omega)];omega
  have hx:(m.nodes.map nodeV)[i]?=some (nodeV m.nodes[i]):=by simp[List.getElem?_eq_getElem hlt]
  have hah:=hA i _ (List.getElem?_eq_getElem hlt)
  rw[List.drop_eq_getElem_cons hlt,hangF]
  generalize m.nodes[i]=x at *
  rw[jb2 x] at hx
  have hArg:=jel x (ckG gh m f)
  rw[jb2 x] at hArg
  have hal:(argsL x).length≤3:=by unfold argsL;simp;omega
  have hl2:∀b,runL pg q1g (le2St m f (argsL x) b i 0 gh)=_:=fun b=>jhi (i:=i) (fun a ha=>⟨(hah a ha).1,by have:=hah a ha;omega⟩) (by omega) (argsL x).length 0 b (by omega)
  rw[List.drop_zero] at hl2
  generalize hany:((argsL x).any fun a=>f.getD a.toNat false)=c at *
  have hB:hangB f x=(decide (x.k=2∨x.k=3)||c):=by unfold hangB;rw[hany]
  rw[hB]
  have hmx:f.length+1≤maxBytes:=by
   have:maxBytes=140737488355328:=rfl
   omega
  refine jai (s1:=le1St m (f++[decide (x.k=2∨x.k=3)||c]) (i+1) gh) (q2u_ ?_) (jhj hA hl k (i+1) _ (by omega) (by simp;omega))
  have hk1:∀b,runL pg q1h ⟨[(0,.ptr true gh.length 0),(4,B b),(11,LN m.nodes),(12,I m.nodes.length),(13,I (i:Int))],[],ckG gh m f⟩=some (.normal,⟨[(0,.ptr true gh.length 0),(11,LN m.nodes),(12,I m.nodes.length),(13,I (i:Int))],[],ckG gh m (f++[b])⟩):=fun b=>by
   refine q8t_ ?_
   simp[q8t,ckG,spliceAt,hmx]
  have hk2:∀b,runL pg qu ⟨[(0,.ptr true gh.length 0),(11,LN m.nodes),(12,I m.nodes.length),(13,I (i:Int))],[],ckG gh m (f++[b])⟩=some (.normal,le1St m (f++[b]) (i+1) gh):=fun b=>by
   refine q8u_ ?_
   simp[q8u,e2,le1St]
  unfold le2St at hl2
  simp only[Int.natCast_zero] at hl2
  unfold le1St at *
  generalize ckG gh m f=g0 at *
  by_cases h2:x.k=2
  ·have hd:decide (x.k=2∨x.k=3)=true:=decide_eq_true (.inl h2)
   have d2:decide (x.k=2)=true:=decide_eq_true h2
   rw[hd]
   have:=hl2 true
   have k1':=hk1 (true||c)
   have k2':=hk2 (true||c)
   generalize ckG gh m (f++[true||c])=g1 at *
   simp only[Bool.true_or] at this k1' k2'
   simp[q2u,hltI,hx,d2,hArg,this,k1',k2',-List.getElem?_map]
  ·have d2:decide (x.k=2)=false:=decide_eq_false h2
   have hd:decide (x.k=2∨x.k=3)=decide (x.k=3):=by simp[h2]
   rw[hd]
   have:=hl2 (decide (x.k=3))
   have k1':=hk1 (decide (x.k=3)||c)
   have k2':=hk2 (decide (x.k=3)||c)
   generalize ckG gh m (f++[decide (x.k=3)||c])=g1 at *
   simp[q2u,hltI,hx,d2,hArg,this,k1',k2',-List.getElem?_map]
theorem jna (hA:Ahead m.nodes) (hl:m.nodes.length≤1000):callL pg 78 [.ptr true gh.length 0] (ckG gh m [])=some (.tup [],ckG gh m (hangF [] m.nodes)):=by
 have h:=jhj (gh:=gh) hA hl m.nodes.length 0 [] (by omega) rfl
 rw[List.drop_zero] at h
 unfold le1St at h
 simp only[Int.natCast_zero] at h
 generalize ckG gh m (hangF [] m.nodes)=g1 at *
 have h1:=q8v_ (pg:=pg) (g0:=gh.length) (o0:=0) (gh:=ckG gh m []) (e:= .normal) (s:=⟨[],[],g1⟩) (by
  unfold ckG at h ⊢
  simp[q8v] at h ⊢
  simp[h])
 rw[jef (fn:=q3p) rfl rfl h1]
 simp[finish,results,q3p,resOfs,resOk]
theorem is_eq {f:List Bool} {n:Int} {g:List GObj} {b:Nat} (hb:g[b]?=some (.cells [LN m.nodes,LP m.inits,LP m.nexts,LI m.bads,LI m.holds,.sl true 1 (f.map B)])):callL pg 118 [.ptr true b 0,I n] g=some (B (decide (isNo m.nodes n)),g):=by
 by_cases h:0≤n
 ·have e:decide (isNo m.nodes n)=decide (n<(m.nodes.length:Int)):=decide_eq_decide.2 ⟨fun h2=>by have:=h2.2;omega,fun h2=>⟨h,by omega⟩⟩
  rw[e]
  refine jaf (fn:=q1k) (s:=?s1) rfl rfl (q5a_ ?h1) ?r1
  case h1=>simp[q5a,h,hb];rfl
  case r1=>simp[finish,results,q1k,resOfs,resOf,resOk]
 ·have e:decide (isNo m.nodes n)=false:=decide_eq_false fun h2=>h h2.1
  rw[e]
  refine jaf (fn:=q1k) (s:=?s2) rfl rfl (q5a_ ?h2) ?r2
  case h2=>simp[q5a,h];rfl
  case r2=>simp[finish,results,q1k,resOfs,resOf,resOk]
def pairE (l:List Nd) (f:List Bool) (init:Bool) (p:Int×Int):Int:=
 if ¬isNo l p.1∨¬isNo l p.2∨(l.getD p.1.toNat default).k≠3 then 5 else if wAt l p.1≠wAt l p.2 then 1 else if init=true∧f.getD p.2.toNat false=true then 4 else 0
theorem jnb {f:List Bool} {init:Bool} {p:Int×Int} {g:List GObj} {b:Nat} (hf:f.length=m.nodes.length) (hb:g[b]?=some (.cells [LN m.nodes,LP m.inits,LP m.nexts,LI m.bads,LI m.holds,.sl true 1 (f.map B)])) :
  callL pg 106 [.ptr true b 0,andV p,B init] g=some (I (pairE m.nodes f init p),g):=by
 obtain⟨s,n⟩:=p
 have i1:=is_eq (n:=s) hb
 have i2:=is_eq (n:=n) hb
 rw[jd5]
 unfold pairE wAt
 simp only
 refine jaf (fn:=q44) (s:=⟨[(6,I (pairE m.nodes f init (s,n)))],[],g⟩) rfl rfl (qq_ ?h1) ?r1
 case r1=>simp[finish,results,q44,resOfs,resOf,resOk,pairE,wAt]
 case h1=>
  unfold pairE wAt
  simp only
  by_cases h1:isNo m.nodes s
  ·rw [decide_eq_true h1] at i1
   by_cases h2:isNo m.nodes n
   ·rw [decide_eq_true h2] at i2
    have n1:=jcc h1
    have n2:=jcc h2
    have z1:=h1.1
    have z2:=h2.1
    have hfr:=fr_idx (f:=f) (a:=n) (by rw[hf];exact h2.2)
    generalize m.nodes.getD s.toNat default=d1 at *
    generalize m.nodes.getD n.toNat default=d2 at *
    generalize f.getD n.toNat false=c at *
    rw[jb2 d1] at n1
    rw[jb2 d2] at n2
    by_cases h3:d1.k=3
    ·have d3:decide (d1.k=3)=true:=decide_eq_true h3
     by_cases h4:d1.w=d2.w
     ·rw[if_neg (by rintro (h|h|h)<;>contradiction),if_neg (fun h=>h h4)]
      cases init with
      |true=>cases c with
       |true=>simp[qq,i1,i2,hb,z1,z2,n1,n2,d3,h4,hfr,-List.getElem?_map]
       |false=>simp[qq,i1,i2,hb,z1,z2,n1,n2,d3,h4,hfr,-List.getElem?_map]
      |false=>simp[qq,i1,i2,hb,z1,z2,n1,n2,d3,h4,-List.getElem?_map]
     ·rw[if_neg (by rintro (h|h|h)<;>contradiction),if_pos h4]
      simp[qq,i1,i2,hb,z1,z2,n1,n2,d3,h4,-List.getElem?_map]
    ·rw[if_pos (.inr (.inr h3))]
     simp[qq,i1,i2,hb,z1,n1,h3,-List.getElem?_map]
   ·rw[decide_eq_false h2] at i2
    rw[if_pos (.inr (.inl h2))]
    simp[qq,i1,i2]
  ·rw[decide_eq_false h1] at i1
   rw[if_pos (.inl h1)]
   simp[qq,i1]
end
end Go.Lw
end

/-! Models: pairs, marks, and the whole check (the program). -/
section
namespace Go.Lw
open Go
section
variable {m:Md} {gh:List GObj}
theorem jnc {n:Nat} (h:n*8≤maxBytes):callL pg 119 [.nils,I n] gh=some (.sl true 1 [],gh):=by
 have:callL pg 119 [.nils,I n] gh=libGrow 1 8 [.nils,I n] gh:=rfl
 rw[this,libGrow,if_pos ⟨by omega,by simpa using h⟩]
theorem jnd {X Y:List PV} (hX:noGs X=true) (hY:noGs Y=true) (h:(X.length+Y.length)*8≤maxBytes):callL pg 107 [.sl false 1 [.sl false 1 X,.sl false 1 Y]] gh=some (.sl false 1 (X++Y),gh):=by
 have hm:maxBytes=140737488355328:=rfl
 have w1:IntKind.i64.wrap (X.length:Int)=X.length:=jas (by omega) (by omega)
 have w2:IntKind.i64.wrap ((X.length:Int)+(Y.length:Int))=((X.length+Y.length:Nat):Int):=by rw[jas (by omega) (by omega)];omega
 have w3:IntKind.i64.wrap (0+1)=1:=by decide
 have w5:IntKind.i64.wrap 2=2:=by decide
 have n1:¬((X.length:Int)<0):=by omega
 have hl1:runL pg q3b ⟨[(0,.sl false 1 [.sl false 1 X,.sl false 1 Y]),(3,I 0),(9,.sl false 1 [.sl false 1 X,.sl false 1 Y]),(10,I 2),(11,I 0)],[],gh⟩=
   some (.normal,⟨[(0,.sl false 1 [.sl false 1 X,.sl false 1 Y]),(3,I ((X.length+Y.length:Nat):Int))],[],gh⟩):=by
  refine jai (s1:=⟨[(0,.sl false 1 [.sl false 1 X,.sl false 1 Y]),(3,I X.length),(9,.sl false 1 [.sl false 1 X,.sl false 1 Y]),(10,I 2),(11,I 1)],[],gh⟩) (q2z_ ?_) ?_
  ·simp[q2z,w1,n1];exact w3
  refine jai (s1:=⟨[(0,.sl false 1 [.sl false 1 X,.sl false 1 Y]),(3,I ((X.length+Y.length:Nat):Int)),(9,.sl false 1 [.sl false 1 X,.sl false 1 Y]),(10,I 2),(11,I 2)],[],gh⟩) (q2z_ ?_) ?_
  ·simp only[q2z]
   have n2':decide ((X.length:Int)+(Y.length:Int)<0)=false:=decide_eq_false (by omega)
   simp[w2,n2']
   exact w5
  refine (jat (s1:=?s1) (q2z_ ?h1)).trans ?r1
  case h1=>simp[q2z];rfl
  case r1=>simp[keep,stays]
 have hl2:runL pg q3c ⟨[(6,.sl true 1 []),(25,.sl false 1 [.sl false 1 X,.sl false 1 Y]),(26,I 2),(27,I 0)],[],gh⟩=some (.normal,⟨[(6,.sl true 1 (X++Y))],[],gh⟩):=by
  refine jai (s1:=⟨[(6,.sl true 1 X),(25,.sl false 1 [.sl false 1 X,.sl false 1 Y]),(26,I 2),(27,I 1)],[],gh⟩) (q30_ ?_) ?_
  ·have:X.length*8≤maxBytes:=by omega
   simp[q30,this];exact w3
  refine jai (s1:=⟨[(6,.sl true 1 (X++Y)),(25,.sl false 1 [.sl false 1 X,.sl false 1 Y]),(26,I 2),(27,I 2)],[],gh⟩) (q30_ ?_) ?_
  ·simp[q30,h];exact w5
  refine (jat (s1:=?s2) (q30_ ?h2)).trans ?r2
  case h2=>simp[q30];rfl
  case r2=>simp[keep,stays]
 have hg:=jnc (gh:=gh) h
 have k2:=q91_ (pg:=pg) (gh:=gh) (v6:= .sl true 1 (X++Y)) (e:= .ret) (s:=⟨[(2,.sl false 1 (X++Y))],[],gh⟩) (by simp[q91])
 have k1:=q92_ (pg:=pg) (gh:=gh) (v0:= .sl false 1 [.sl false 1 X,.sl false 1 Y]) (x3:=((X.length+Y.length:Nat):Int)) (e:= .ret) (s:=⟨[(2,.sl false 1 (X++Y))],[],gh⟩) (by
  generalize X.length+Y.length=n at *
  simp[q92,hg,hl2,k2])
 have hn:noGs (X++Y)=true:=by
  have:∀(A B:List PV),noGs A=true→noGs B=true→noGs (A++B)=true:=by
   intro A B
   induction A with
   |nil=>intro _ h;exact h
   |cons a A ih=>
    intro h1 h2
    simp only[jmn,Bool.and_eq_true] at h1
    simp[h1.1,ih h1.2 h2]
  exact this X Y hX hY
 refine jaf (fn:=q3f) (s:=⟨[(2,.sl false 1 (X++Y))],[],gh⟩) rfl rfl (q93_ ?h1) ?r1
 case h1=>
  generalize X.length+Y.length=n at *
  simp[q93,hl1,k1]
 case r1=>simp[finish,results,q3f,resOk,hn,get]
def pairsE (l:List Nd) (f:List Bool) (init:Bool):List (Int×Int)→Int
 |[]=>0
 |p::r=>if pairE l f init p=0 then pairsE l f init r else pairE l f init p
theorem jep {f:List Bool}:(ckG gh m f)[gh.length]?=some (.cells [LN m.nodes,LP m.inits,LP m.nexts,LI m.bads,LI m.holds,.sl true 1 (f.map B)]):=by simp[ckG]
abbrev twoL (m:Md):PV:= .sl true 1 [LP m.inits,LP m.nexts]
def pr2St (m:Md) (f:List Bool) (ps:List (Int×Int)) (k j:Nat) (gh:List GObj):St:=
 ⟨[(0,.ptr true gh.length 0),(3,I (k:Int)),(23,twoL m),(24,I 2),(25,I (k:Int)),(30,LP ps),(31,I ps.length),(32,I (j:Int))],[],ckG gh m f⟩
theorem jeq {f:List Bool} {ps:List (Int×Int)} {k:Nat} (hf:f.length=m.nodes.length) (hs:Sz ps.length):∀n j,j+n=ps.length→
  runL pg q3q (pr2St m f ps k j gh)=if pairsE m.nodes f (decide (k=0)) (ps.drop j)=0 then some (.normal,⟨[(0,.ptr true gh.length 0),(23,twoL m),(24,I 2),(25,I (k:Int))],[],ckG gh m f⟩)
   else some (.ret,⟨[(2,I (pairsE m.nodes f (decide (k=0)) (ps.drop j)))],[],ckG gh m f⟩)
 |0,j,h=>by
  rw[List.drop_eq_nil_of_le (by omega),pairsE,if_pos rfl]
  have hlt:¬(j:Int)<(ps.length:Int):=by omega
  refine (jat (s1:=?s1) (q2v_ ?h1)).trans ?r1
  case h1=>simp only[q2v,decide_eq_false hlt,jaw];rfl
  case r1=>simp[keep,stays]
 | n+1,j,h=>by
  have hlt:j<ps.length:=by omega
  have hltI:(j:Int)<(ps.length:Int):=by omega
  have e2:IntKind.i64.wrap ((j:Int)+1)=((j+1:Nat):Int):=jd0 (by simp only[Sz] at hs ⊢;omega)
  have hx:(ps.map andV)[j]?=some (andV ps[j]):=by simp[List.getElem?_eq_getElem hlt]
  rw[jd5] at hx
  have hp:=jnb (m:=m) (f:=f) (init:=decide (k=0)) (p:=ps[j]) hf (jep (gh:=gh))
  rw[jd5] at hp
  rw[List.drop_eq_getElem_cons hlt,pairsE]
  generalize ps[j]=p at *
  obtain⟨a,b⟩:=p
  simp only at hx hp
  have hk0:((k:Int)==0)=decide (k=0):=by
   rw[beqI];exact decide_eq_decide.2 (by omega)
  obtain⟨ini,hini⟩:∃ini,decide (k=0)=ini:=⟨_,rfl⟩
  rw[hini] at hk0 hp ⊢
  by_cases he:pairE m.nodes f ini (a,b)=0
  ·rw[if_pos he]
   rw[he] at hp
   refine jai (s1:=pr2St m f ps k (j+1) gh) (q2v_ ?_) ?_
   ·unfold pr2St
    generalize ckG gh m f=g0 at *
    simp only[q2v,hk0]
    simp[hltI,hx,hp,e2,-List.getElem?_map]
   ·rw[←hini]
    exact jeq hf hs n (j+1) (by omega)
  ·rw[if_neg he,if_neg he]
   refine lp_ret (q2v_ ?_)
   generalize ckG gh m f=g0 at *
   simp only[q2v,hk0]
   simp[hltI,hx,hp,he,-List.getElem?_map]
end
end Go.Lw
end

/-! Models: pairs that name a state twice, and marks (the program). -/
section
namespace Go.Lw
open Go
def mapB (l:List Int):List (PV×PV):=l.map fun a=>(I a,B true)
def insL (l:List Int) (k:Int):List Int:=if k∈l then l else l++[k]
theorem jne (l:List Int) (k:Int):mset 0 (mapB l) (I k) (B true)=some (mapB (insL l k)):=by
 induction l with
 |nil=>rfl
 | cons a l ih=>
  by_cases h:k=a
  ·simp[mapB,insL,mset,sameKey,h]
  ·have ih':mset 0 (l.map fun a=>(I a,B true)) (I k) (B true)=some (mapB (insL l k)):=ih
   by_cases h2:k∈l
   ·simp[mapB,insL,mset,sameKey,beq_false_of_ne h,h,h2] at ih' ⊢
    exact ih'
   ·simp[mapB,insL,mset,sameKey,beq_false_of_ne h,h,h2] at ih' ⊢
    exact ih'
def insA (l:List Int) (xs:List Int):List Int:=xs.foldl insL l
theorem jnf (l:List Int) (k:Int):(insL l k).length=if k∈l then l.length else l.length+1:=by
 unfold insL;split<;>simp
theorem jng {l:List Int} {k a:Int}:a∈insL l k↔a∈l∨a=k:=by
 unfold insL;split
 ·rename_i h
  exact⟨.inl,fun h2=>h2.elim id fun e=>e▸h⟩
 ·simp
theorem jhk:∀(xs l:List Int),(insA l xs).length≤l.length+xs.length∧((insA l xs).length=l.length+xs.length↔(xs.Nodup∧∀a∈xs,a∉l))
 |[],l=>by simp[insA]
 | x::xs,l=>by
  have ih:=jhk xs (insL l x)
  have e:insA l (x::xs)=insA (insL l x) xs:=rfl
  rw[e]
  have hl:=jnf l x
  by_cases h:x∈l
  ·rw[if_pos h] at hl
   rw[hl] at ih
   refine⟨by simp;omega,⟨fun he=>by simp at he;omega,fun ⟨_,h2⟩=>absurd h (h2 x (by simp))⟩⟩
  ·rw[if_neg h] at hl
   rw[hl] at ih
   refine⟨by simp;omega,?_⟩
   have e2:(x::xs).length=xs.length+1:=rfl
   rw[e2,show l.length+(xs.length+1)=l.length+1+xs.length by omega,ih.2]
   simp only[List.nodup_cons,List.mem_cons,jng]
   constructor
   ·rintro⟨h1,h2⟩
    refine⟨⟨fun hx=>(h2 x hx) (.inr rfl),h1⟩,?_⟩
    rintro a (rfl|ha)
    ·exact h
    ·exact fun hal=>h2 a ha (.inl hal)
   ·rintro⟨⟨h1,h2⟩,h3⟩
    refine⟨h2,fun a ha=>?_⟩
    rintro (h4|rfl)
    ·exact h3 a (.inr ha) h4
    ·exact h1 ha
def twice (ps:List (Int×Int)):Prop:=¬(ps.map (·.1)).Nodup
instance (ps:List (Int×Int)):Decidable (twice ps):=by unfold twice;exact inferInstance
theorem jhl (ps:List (Int×Int)):((insA [] (ps.map (·.1))).length<ps.length)↔twice ps:=by
 have:=jhk (ps.map (·.1)) []
 simp at this
 unfold twice
 rw[←this.2]
 omega
section
variable {m:Md} {gh:List GObj}
theorem jhm {ps:List (Int×Int)} {k:Nat} (hs:Sz ps.length):∀n j (acc:List Int),j+n=ps.length→
  runL pg q3s ⟨[(9,LP ps),(10,.mp gh.length),(56,twoL m),(57,I 2),(58,I (k:Int)),(63,LP ps),(64,I ps.length),(65,I (j:Int))],[],gh++[.map (mapB acc)]⟩=
   some (.normal,⟨[(9,LP ps),(10,.mp gh.length),(56,twoL m),(57,I 2),(58,I (k:Int))],[],gh++[.map (mapB (insA acc ((ps.drop j).map (·.1))))]⟩)
 |0,j,acc,h=>by
  rw[List.drop_eq_nil_of_le (by omega)]
  have hlt:¬(j:Int)<(ps.length:Int):=by omega
  refine (jat (s1:=?s1) (q5b_ ?h1)).trans ?r1
  case h1=>simp only[q5b,decide_eq_false hlt,jaw];rfl
  case r1=>simp[keep,stays,insA]
 |n+1,j,acc,h=>by
  have hlt:j<ps.length:=by omega
  have hltI:(j:Int)<(ps.length:Int):=by omega
  have e2:IntKind.i64.wrap ((j:Int)+1)=((j+1:Nat):Int):=jd0 (by simp only[Sz] at hs ⊢;omega)
  have hx:(ps.map andV)[j]?=some (andV ps[j]):=by simp[List.getElem?_eq_getElem hlt]
  rw[jd5] at hx
  rw[List.drop_eq_getElem_cons hlt]
  generalize ps[j]=p at *
  obtain⟨a,b⟩:=p
  simp only[List.map_cons] at hx ⊢
  have hin:insA acc (a::(ps.drop (j+1)).map (·.1))=insA (insL acc a) ((ps.drop (j+1)).map (·.1)):=rfl
  rw[hin]
  have hm:=jne acc a
  refine jai (s1:=⟨[(9,LP ps),(10,.mp gh.length),(56,twoL m),(57,I 2),(58,I (k:Int)),(63,LP ps),(64,I ps.length),(65,I ((j+1:Nat):Int))],[],gh++[GObj.map (mapB (insL acc a))]⟩) (q5b_ ?_) (jhm (k:=k) hs n (j+1) (insL acc a) (by omega))
  simp[q5b,hltI,hx,e2,hm,-List.getElem?_map]
theorem jhn {ps:List (Int×Int)} {k:Nat} (hk:(k=0∧ps=m.inits)∨(k=1∧ps=m.nexts)) (hs:Sz ps.length) :
  runL pg q3u ⟨[(56,twoL m),(57,I 2),(58,I (k:Int))],[],gh⟩=
   if twice ps then some (.ret,⟨[(2,I 6)],[],gh++[.map (mapB (insA [] (ps.map (·.1))))]⟩)
   else some (.normal,⟨[(56,twoL m),(57,I 2),(58,I ((k+1:Nat):Int))],[],gh++[.map (mapB (insA [] (ps.map (·.1))))]⟩):=by
 have h4:=jhm (m:=m) (gh:=gh) (k:=k) hs ps.length 0 [] (by omega)
 rw[List.drop_zero] at h4
 simp only[Int.natCast_zero] at h4
 have hml:∀l,(mapB l).length=l.length:=fun l=>by simp[mapB]
 have hlt:decide (((insA [] (ps.map (·.1))).length:Int)<(ps.length:Int))=decide (twice ps):=by
  have:=jhl ps
  exact decide_eq_decide.2 (by rw[←this];omega)
 have hltN:decide ((insA [] (ps.map (·.1))).length<ps.length)=decide (twice ps):=decide_eq_decide.2 (jhl ps)
 have hmb:mapB []=[]:=rfl
 rw[hmb] at h4
 have e2:IntKind.i64.wrap ((k:Int)+1)=((k+1:Nat):Int):=by rcases hk with ⟨rfl,_⟩|⟨rfl,_⟩<;>decide
 have hix:([LP m.inits,LP m.nexts]:List PV)[k]?=some (LP ps):=by rcases hk with ⟨rfl,rfl⟩|⟨rfl,rfl⟩<;>rfl
 have hk2:(k:Int)<2:=by omega
 generalize hA:insA [] (ps.map (·.1))=A at *
 have k3:=q8x_ (pg:=pg) (gh:=gh++[.map (mapB A)]) (v9:=LP ps) (v10:= .mp gh.length) (v56:=twoL m) (x57:=2) (x58:=k)
  (e:=if twice ps then .ret else .normal) (s:=if twice ps then ⟨[(2,I 6)],[],gh++[.map (mapB A)]⟩ else ⟨[(56,twoL m),(57,I 2),(58,I (k:Int)),(77,B false)],[],gh++[.map (mapB A)]⟩)
  (by
   simp[q8x,hml,hltN]
   by_cases ht:twice ps<;>simp[ht])
 have k4:=q8y_ (pg:=pg) (gh:=gh++[.map (mapB A)]) (v56:=twoL m) (x57:=2) (x58:=k) (b77:=false) (e:= .normal) (s:=⟨[(56,twoL m),(57,I 2),(58,I ((k+1:Nat):Int))],[],gh++[.map (mapB A)]⟩) (by simp[q8y,e2])
 by_cases ht:twice ps
 ·rw[if_pos ht] at k3 ⊢
  rw[if_pos ht] at k3
  refine q2w_ ?_
  simp[q2w,hk2,hix,h4,k3]
 ·rw[if_neg ht] at k3 ⊢
  rw[if_neg ht] at k3
  refine q2w_ ?_
  simp[q2w,hk2,hix,h4,k3,k4]
end
end Go.Lw
end

/-! Models: all pairs, marks, and the whole check (the program). -/
section
namespace Go.Lw
open Go
def pairsAll (m:Md) (f:List Bool):Int:=
 if pairsE m.nodes f true m.inits≠0 then pairsE m.nodes f true m.inits else if pairsE m.nodes f false m.nexts≠0 then pairsE m.nodes f false m.nexts
 else if twice m.inits∨twice m.nexts then 6 else 0
section
variable {m:Md} {gh:List GObj}
theorem jnh {f:List Bool} (hf:f.length=m.nodes.length) (h1:Sz m.inits.length) (h2:Sz m.nexts.length) :
  runL pg q3r ⟨[(0,.ptr true gh.length 0),(23,twoL m),(24,I 2),(25,I 0)],[],ckG gh m f⟩=
   if pairsE m.nodes f true m.inits≠0 then some (.ret,⟨[(2,I (pairsE m.nodes f true m.inits))],[],ckG gh m f⟩)
   else if pairsE m.nodes f false m.nexts≠0 then some (.ret,⟨[(2,I (pairsE m.nodes f false m.nexts))],[],ckG gh m f⟩)
   else some (.normal,⟨[(0,.ptr true gh.length 0)],[],ckG gh m f⟩):=by
 have l1:=jeq (gh:=gh) (m:=m) (ps:=m.inits) (k:=0) hf h1 m.inits.length 0 (by omega)
 have l2:=jeq (gh:=gh) (m:=m) (ps:=m.nexts) (k:=1) hf h2 m.nexts.length 0 (by omega)
 rw[List.drop_zero] at l1 l2
 unfold pr2St at l1 l2
 simp only[Int.natCast_zero,decide_true] at l1 l2
 rw[show decide (1=0)=false from rfl] at l2
 simp only[Int.natCast_one] at l1 l2
 have w1:IntKind.i64.wrap (0+1)=1:=by decide
 have w2:IntKind.i64.wrap (1+1)=2:=by decide
 have k1:∀x,runL pg q27 ⟨[(0,.ptr true gh.length 0),(23,twoL m),(24,I 2),(25,I x)],[],ckG gh m f⟩=some (.normal,⟨[(0,.ptr true gh.length 0),(23,twoL m),(24,I 2),(25,I (IntKind.i64.wrap (x+1)))],[],ckG gh m f⟩):=fun x=>by
  refine q8w_ ?_
  simp[q8w]
 generalize ckG gh m f=g0 at *
 by_cases e1:pairsE m.nodes f true m.inits=0
 ·rw[if_pos e1] at l1
  rw[if_neg (fun h=>h e1)]
  have k10:=k1 0
  rw[w1] at k10
  refine jai (s1:=⟨[(0,.ptr true gh.length 0),(23,twoL m),(24,I 2),(25,I 1)],[],g0⟩) (q1d_ (by simp[q1d,l1,k10])) ?_
  by_cases e2:pairsE m.nodes f false m.nexts=0
  ·rw[if_pos e2] at l2
   rw[if_neg (fun h=>h e2)]
   have k11:=k1 1
   rw[w2] at k11
   refine jai (s1:=⟨[(0,.ptr true gh.length 0),(23,twoL m),(24,I 2),(25,I 2)],[],g0⟩) (q1d_ (by simp[q1d,l2,k11])) ?_
   refine (jat (s1:=?s1) (q1d_ ?h1)).trans ?r1
   case h1=>simp[q1d];rfl
   case r1=>simp[keep,stays]
  ·rw[if_neg e2] at l2
   rw[if_pos e2]
   refine lp_ret (q1d_ ?_)
   simp[q1d,l2]
 ·rw[if_neg e1] at l1
  rw[if_pos e1]
  refine lp_ret (q1d_ ?_)
  simp[q1d,l1]
theorem jni (h1:Sz m.inits.length) (h2:Sz m.nexts.length):∃g2,
  runL pg q3v ⟨[(56,twoL m),(57,I 2),(58,I 0)],[],gh⟩=
   if twice m.inits∨twice m.nexts then some (.ret,⟨[(2,I 6)],[],gh++g2⟩) else some (.normal,⟨[],[],gh++g2⟩):=by
 have b1:=jhn (gh:=gh) (m:=m) (ps:=m.inits) (k:=0) (.inl ⟨rfl,rfl⟩) h1
 have b2:=fun g=>jhn (gh:=g) (m:=m) (ps:=m.nexts) (k:=1) (.inr ⟨rfl,rfl⟩) h2
 simp only[Int.natCast_zero,Int.natCast_one,Nat.zero_add,show ((1+1:Nat):Int)=2 from rfl] at b1 b2
 generalize insA [] (m.inits.map (·.1))=A at *
 generalize insA [] (m.nexts.map (·.1))=B at *
 by_cases t1:twice m.inits
 ·rw[if_pos t1] at b1
  exact⟨_,by rw[if_pos (.inl t1)];exact lp_ret b1⟩
 ·rw[if_neg t1] at b1
  have b2:=b2 (gh++[.map (mapB A)])
  by_cases t2:twice m.nexts
  ·rw[if_pos t2] at b2
   refine⟨[.map (mapB A)]++[.map (mapB B)],?_⟩
   rw[if_pos (.inr t2),←List.append_assoc]
   exact jai b1 (lp_ret b2)
  ·rw[if_neg t2] at b2
   refine⟨[.map (mapB A)]++[.map (mapB B)],?_⟩
   rw[if_neg (by rintro (h|h)<;>contradiction),←List.append_assoc]
   refine jai b1 (jai b2 ((jat (s1:=?s1) (q2w_ ?h1)).trans ?r1))
   case h1=>simp[q2w];rfl
   case r1=>simp[keep]
theorem jnj {f:List Bool} (hf:f.length=m.nodes.length) (h1:Sz m.inits.length) (h2:Sz m.nexts.length) :
  callL pg 79 [.ptr true gh.length 0] (ckG gh m f)=some (I (pairsAll m f),ckG gh m f):=by
 have l1:=jnh (gh:=gh) hf h1 h2
 obtain⟨g2,l3⟩:=jni (m:=m) (gh:=ckG gh m f) h1 h2
 have hg:=jep (gh:=gh) (m:=m) (f:=f)
 unfold pairsAll
 have k5:∀g,runL pg q29 ⟨[],[],g⟩=some (.ret,⟨[(2,I 0)],[],g⟩):=fun g=>qa3_ rfl
 have k2:runL pg q2a ⟨[(0,.ptr true gh.length 0)],[],ckG gh m f⟩=some (.ret,⟨[(2,I (if twice m.inits∨twice m.nexts then 6 else 0))],[],ckG gh m f++g2⟩):=by
  refine q5c_ ?_
  generalize ckG gh m f=g0 at *
  have k5:=k5 (g0++g2)
  by_cases t:twice m.inits∨twice m.nexts
  ·rw[if_pos t] at l3
   simp[q5c,hg,l3,t]
  ·rw[if_neg t] at l3
   simp[q5c,hg,l3,t,k5]
 generalize (if twice m.inits∨twice m.nexts then (6:Int) else 0)=r at *
 generalize ckG gh m f=g0 at *
 by_cases e1:pairsE m.nodes f true m.inits=0
 ·rw[if_neg (fun h=>h e1)] at l1 ⊢
  by_cases e2:pairsE m.nodes f false m.nexts=0
  ·rw[if_neg (fun h=>h e2)] at l1 ⊢
   refine jaf (fn:=qv) (s:=?s1) rfl rfl (q2x_ ?h1) ?r1
   case h1=>simp[q2x,hg,l1,k2];rfl
   case r1=>simp[finish,results,qv,resOfs,resOf,resOk]
  ·rw[if_pos e2] at l1 ⊢
   refine jaf (fn:=qv) (s:=?s2) rfl rfl (q2x_ ?h2) ?r2
   case h2=>simp[q2x,hg,l1];rfl
   case r2=>simp[finish,results,qv,resOfs,resOf,resOk]
 ·rw[if_pos e1] at l1 ⊢
  refine jaf (fn:=qv) (s:=?s3) rfl rfl (q2x_ ?h3) ?r3
  case h3=>simp[q2x,hg,l1];rfl
  case r3=>simp[finish,results,qv,resOfs,resOf,resOk]
def marksE (m:Md):Int:=
 if m.nexts.length<(kindL m.nodes 3).length then 5 else if (m.bads++m.holds).any (fun a=> !decide (isNo m.nodes a)) then 5
 else if (m.bads++m.holds).any (fun a=> !decide (wAt m.nodes a=1)) then 1 else 0
theorem jnk {f:List Bool} {n:Int} {g:List GObj} {b c:Nat} (hb:g[b]?=some (.cells [LN m.nodes,LP m.inits,LP m.nexts,LI m.bads,LI m.holds,.sl true 1 (f.map B)])) (hc:g[c]?=some (.cells [.ptr true b 0])) :
  callL pg 108 [I n,.ptr true c 0] g=some (B (!decide (isNo m.nodes n)),g):=by
 have i1:=is_eq (n:=n) hb
 generalize decide (isNo m.nodes n)=d at *
 refine jaf (fn:=q45) (s:=?s1) rfl rfl (q8z_ ?h1) ?r1
 case h1=>simp[q8z,hc,i1];rfl
 case r1=>simp[finish,results,q45,resOfs,resOf,resOk]
theorem jnl {f:List Bool} {n:Int} {g:List GObj} {b c:Nat} (hb:g[b]?=some (.cells [LN m.nodes,LP m.inits,LP m.nexts,LI m.bads,LI m.holds,.sl true 1 (f.map B)])) (hc:g[c]?=some (.cells [.ptr true b 0])) (hn:isNo m.nodes n) :
  callL pg 109 [I n,.ptr true c 0] g=some (B (!decide (wAt m.nodes n=1)),g):=by
 have n1:=jcc hn
 have h0:=hn.1
 unfold wAt
 generalize m.nodes.getD n.toNat default=d1 at *
 rw[jb2 d1] at n1
 refine jaf (fn:=q46) (s:=?s1) rfl rfl (q90_ ?h1) ?r1
 case h1=>simp[q90,hb,hc,h0,n1,-List.getElem?_map];rfl
 case r1=>simp[finish,results,q46,resOfs,resOf,resOk]
theorem jnm {f:List Bool} (hl:m.nodes.length≤1000) (h1:m.bads.length≤100) (h2:m.holds.length≤100) :
  callL pg 80 [.ptr true gh.length 0] (ckG gh m f)=some (I (marksE m),ckG gh m f):=by
 have hg:=jep (gh:=gh) (m:=m) (f:=f)
 have hlen:(ckG gh m f).length=gh.length+1:=by simp[ckG]
 generalize ckG gh m f=g0 at *
 obtain⟨g1,hg1⟩:∃g1,g1=g0++[GObj.cells [.ptr true gh.length 0]]:=⟨_,rfl⟩
 have htk:g1.take g0.length=g0:=by rw[hg1];simp
 have hb:g1[gh.length]?=some (.cells [LN m.nodes,LP m.inits,LP m.nexts,LI m.bads,LI m.holds,.sl true 1 (f.map B)]):=by
  rw[hg1,List.getElem?_append_left (by omega)];exact hg
 have hc:g1[g0.length]?=some (.cells [.ptr true gh.length 0]):=by rw[hg1];simp
 have ho:=Ofk_eq (m:=m) (gh:=g1) (kind:=3) hl
 rw[jav] at ho
 have hmx:((m.bads.map I).length+(m.holds.map I).length)*8≤maxBytes:=by
  have:maxBytes=140737488355328:=rfl
  simp;omega
 have hsz:Sz (m.bads++m.holds).length:=by simp only[Sz,List.length_append];omega
 have hcc:=jnd (gh:=g1) (X:=m.bads.map I) (Y:=m.holds.map I) (jek _) (jek _) hmx
 rw[←List.map_append] at hcc
 have c1:=jhd (xs:=m.bads++m.holds) (c:=108) (caps:=[.ptr true g0.length 0]) (gh:=g1) (fun x _=>jnk (n:=x) hb hc) rfl hsz
 have c2:(∀a∈m.bads++m.holds,isNo m.nodes a)→_:=fun hn=>jhd (xs:=m.bads++m.holds) (c:=109) (caps:=[.ptr true g0.length 0]) (gh:=g1) (fun x hx=>jnl hb hc (hn x hx)) rfl hsz
 have hnb:(m.bads++m.holds).any (fun a=> !decide (isNo m.nodes a))=false→∀a∈m.bads++m.holds,isNo m.nodes a:=fun h a ha=>by
  have:=List.any_eq_false.1 h a ha
  simpa using this
 unfold marksE
 generalize (m.bads++m.holds).any (fun a=> !decide (isNo m.nodes a))=p1 at *
 generalize (m.bads++m.holds).any (fun a=> !decide (wAt m.nodes a=1))=p2 at *
 generalize hK:kindL m.nodes 3=K at *
 have hKl:(K.map I).length=K.length:=by simp
 have hXl:(m.nexts.map andV).length=m.nexts.length:=by simp
 simp only[LI] at *
 generalize (m.bads++m.holds).map I=M at *
 generalize m.bads.map I=M1 at *
 generalize m.holds.map I=M2 at *
 generalize K.map I=K' at *
 generalize m.nexts.map andV=X' at *
 by_cases e1:m.nexts.length<K.length
 ·rw[if_pos e1]
  refine jaf (fn:=qk) (s:=⟨[(2,I 5)],[],g1⟩) rfl rfl (q1y_ ?h1) ?r1
  case h1=>simp only[q1y];rw[←hg1];simp[hb,hc,ho,hKl,e1]
  case r1=>simp[finish,results,qk,resOfs,resOf,resOk,htk]
 ·rw[if_neg e1]
  cases p1 with
  |true=>
   rw[if_pos rfl]
   refine jaf (fn:=qk) (s:=⟨[(2,I 5)],[],g1⟩) rfl rfl (q1y_ ?h2) ?r2
   case h2=>simp only[q1y];rw[←hg1];simp[hb,hc,ho,hKl,e1,hcc,c1]
   case r2=>simp[finish,results,qk,resOfs,resOf,resOk,htk]
  | false=>
   rw[if_neg (by simp)]
   have c2:=c2 (hnb rfl)
   cases p2 with
   |true=>
    rw[if_pos rfl]
    refine jaf (fn:=qk) (s:=⟨[(2,I 1)],[],g1⟩) rfl rfl (q1y_ ?h3) ?r3
    case h3=>simp only[q1y];rw[←hg1];simp[hb,hc,ho,hKl,e1,hcc,c1,c2]
    case r3=>simp[finish,results,qk,resOfs,resOf,resOk,htk]
   |false=>
    rw[if_neg (by simp)]
    refine jaf (fn:=qk) (s:=⟨[(2,I 0)],[],g1⟩) rfl rfl (q1y_ ?h4) ?r4
    case h4=>simp only[q1y];rw[←hg1];simp[hb,hc,ho,hKl,e1,hcc,c1,c2]
    case r4=>simp[finish,results,qk,resOfs,resOf,resOk,htk]
def nodesE (L:List Nd):Nat→List Nd→Int
 |_,[]=>0
 |i,x::l=>if nodeE L i x=0 then nodesE L (i+1) l else nodeE L i x
def checkE (m:Md):Int:=
 if m.nodes.length>80∨m.bads.length>8∨m.holds.length>8 then 2
 else if nodesE m.nodes 0 m.nodes≠0 then nodesE m.nodes 0 m.nodes
 else if bitsK m.nodes 2>6∨bitsK m.nodes 3>10 then 2
 else if pairsAll m (hangF [] m.nodes)≠0 then pairsAll m (hangF [] m.nodes) else marksE m
theorem jcd {L:List Nd}:∀{i:Nat} {l:List Nd},nodesE L i l=0→∀j x,l[j]?=some x→nodeE L ((i+j:Nat):Int) x=0
 |i,y::l,h,0,x,hx=>by
  rw[nodesE] at h
  simp at hx
  subst hx
  split at h
  ·assumption
  ·contradiction
 | i,y::l,h,j+1,x,hx=>by
  rw[nodesE] at h
  split at h
  ·have:=jcd h j x (by simpa using hx)
   rw[show i+(j+1)=i+1+j by omega];exact this
  ·contradiction
theorem jnn {L:List Nd} (h:nodesE L 0 L=0):Ahead L:=by
 intro i x hx a ha
 have h0:=jcd h i x hx
 rw[Nat.zero_add] at h0
 unfold nodeE at h0
 split at h0
 ·omega
 rename_i hk
 split at h0
 ·omega
 split at h0
 ·rename_i hk3
  unfold argsL at ha
  rw[jhe ⟨by omega,hk3⟩] at ha
  simp at ha
 split at h0
 ·omega
 rename_i hb
 unfold badArgs badJ at hb
 simp only[not_or] at hb
 obtain⟨b0,b1,b2⟩:=hb
 unfold argsL at ha
 rcases jb5 x.k with ht|ht|ht|ht<;>rw[ht] at ha b0 b1 b2<;>simp at ha b0 b1 b2
 ·subst ha;exact⟨by omega,by omega⟩
 ·rcases ha with rfl|rfl<;>exact⟨by omega,by omega⟩
 ·rcases ha with rfl|rfl|rfl<;>exact⟨by omega,by omega⟩
theorem jho (hl:m.nodes.length≤1000):∀k i,i+k=m.nodes.length→
  runL pg q3j ⟨[(1,.ptr false 0 0),(27,I m.nodes.length),(28,I (i:Int))],[[LN m.nodes,LP m.inits,LP m.nexts,LI m.bads,LI m.holds]],gh⟩=
   if nodesE m.nodes i (m.nodes.drop i)=0 then some (.normal,⟨[(1,.ptr false 0 0)],[[LN m.nodes,LP m.inits,LP m.nexts,LI m.bads,LI m.holds]],gh⟩)
   else some (.ret,⟨[(2,I (nodesE m.nodes i (m.nodes.drop i)))],[],gh⟩)
 |0,i,h=>by
  rw[List.drop_eq_nil_of_le (by omega),nodesE,if_pos rfl]
  have hlt:¬(i:Int)<(m.nodes.length:Int):=by omega
  refine (jat (s1:=?s1) (q2y_ ?h1)).trans ?r1
  case h1=>simp only[q2y,decide_eq_false hlt,jaw];rfl
  case r1=>simp[keep,stays]
 | k+1,i,h=>by
  have hlt:i<m.nodes.length:=by omega
  have hltI:(i:Int)<(m.nodes.length:Int):=by omega
  have e2:IntKind.i64.wrap ((i:Int)+1)=((i+1:Nat):Int):=by rw[jas (by omega) (by omega)];omega
  have hn:=jn6 (l:=m.nodes) (gh:=gh) (idx:=i) (List.getElem?_eq_getElem hlt)
  rw[List.drop_eq_getElem_cons hlt,nodesE]
  generalize nodeE m.nodes (i:Int) m.nodes[i]=r at *
  by_cases he:r=0
  ·rw[if_pos he]
   refine jai (s1:=⟨[(1,.ptr false 0 0),(27,I m.nodes.length),(28,I ((i+1:Nat):Int))],[[LN m.nodes,LP m.inits,LP m.nexts,LI m.bads,LI m.holds]],gh⟩) (q2y_ ?_) (jho hl k (i+1) (by omega))
   simp[q2y,hltI,hn,he,e2]
  ·rw[if_neg he,if_neg he]
   refine lp_ret (q2y_ ?_)
   simp[q2y,hltI,hn,he]
theorem jhp (h1:Sz m.inits.length) (h2:Sz m.nexts.length):callL pg 38 [modelV m] gh=some (I (checkE m),gh):=by
 unfold checkE
 have hNl:(m.nodes.map nodeV).length=m.nodes.length:=by simp
 have hBl:(m.bads.map I).length=m.bads.length:=by simp
 have hHl:(m.holds.map I).length=m.holds.length:=by simp
 rw[jav]
 by_cases c1:m.nodes.length>80∨m.bads.length>8∨m.holds.length>8
 ·rw [if_pos c1]
  refine jaf (fn:=qf) (s:=⟨[(2,I 2)],[],gh⟩) rfl rfl (qr_ ?h1) ?r1
  case r1=>simp[finish,results,qf,resOfs,resOf,resOk]
  case h1=>
   by_cases d1:(80:Int)<(m.nodes.length:Int)
   ·simp[qr,d1]
   ·by_cases d2:(8:Int)<(m.bads.length:Int)
    ·simp[qr,d1,d2]
    ·have d3:(8:Int)<(m.holds.length:Int):=by omega
     simp[qr,d1,d2,d3]
 ·rw [if_neg c1]
  have d1:¬(80:Int)<(m.nodes.length:Int):=by omega
  have d2:¬(8:Int)<(m.bads.length:Int):=by omega
  have d3:¬(8:Int)<(m.holds.length:Int):=by omega
  have hl:=jho (m:=m) (gh:=gh) (by omega) m.nodes.length 0 (by omega)
  rw[List.drop_zero] at hl
  simp only[Int.natCast_zero] at hl
  by_cases hn:nodesE m.nodes 0 m.nodes=0
  ·rw [if_neg (fun h=>h hn)]
   rw[if_pos hn] at hl
   have hb:=jn9 (m:=m) (gh:=gh) (by omega)
   rw[jav] at hb
   have hlen:=jna (m:=m) (gh:=gh) (jnn hn) (by omega)
   have hf:(hangF [] m.nodes).length=m.nodes.length:=by simpa using jhh [] m.nodes
   have hp:=jnj (gh:=gh) hf h1 h2
   have hm:=jnm (m:=m) (gh:=gh) (f:=hangF [] m.nodes) (by omega) (by omega) (by omega)
   have htk:(ckG gh m (hangF [] m.nodes)).take gh.length=gh:=by simp[ckG]
   have hck:ckG gh m []=gh++[GObj.cells [LN m.nodes,LP m.inits,LP m.nexts,LI m.bads,LI m.holds,.sl true 1 []]]:=rfl
   generalize ckG gh m (hangF [] m.nodes)=g1 at *
   generalize pairsAll m (hangF [] m.nodes)=r at *
   rw[hck] at hlen
   by_cases hbt:bitsK m.nodes 2>6∨bitsK m.nodes 3>10
   ·rw[if_pos hbt]
    have k1:runL pg qz ⟨[(1,.ptr false 0 0)],[[LN m.nodes,LP m.inits,LP m.nexts,LI m.bads,LI m.holds]],gh⟩=some (.ret,⟨[(2,I 2)],[],gh⟩):=by
     refine q1z_ ?_
     by_cases b1:6<bitsK m.nodes 2
     ·simp[q1z,hb,b1]
     ·have b2:10<bitsK m.nodes 3:=by omega
      simp[q1z,hb,b1,b2]
    refine jaf (fn:=qf) (s:=⟨[(2,I 2)],[],gh⟩) rfl rfl (qr_ ?h2) ?r2
    case r2=>simp[finish,results,qf,resOfs,resOf,resOk]
    case h2=>simp[qr,d1,d2,d3,hl,k1]
   ·rw[if_neg hbt]
    have b1:¬6<bitsK m.nodes 2:=by omega
    have b2:¬10<bitsK m.nodes 3:=by omega
    by_cases hr:r=0
    ·rw[if_neg (fun h=>h hr)]
     have k1:runL pg qz ⟨[(1,.ptr false 0 0)],[[LN m.nodes,LP m.inits,LP m.nexts,LI m.bads,LI m.holds]],gh⟩=some (.ret,⟨[(2,I (marksE m))],[],g1⟩):=by
      refine q1z_ ?_
      simp[q1z,hb,b1,b2,hlen,hp,hr,hm]
     refine jaf (fn:=qf) (s:=⟨[(2,I (marksE m))],[],g1⟩) rfl rfl (qr_ ?h3) ?r3
     case r3=>simp[finish,results,qf,resOfs,resOf,resOk,htk]
     case h3=>simp[qr,d1,d2,d3,hl,k1]
    ·rw[if_pos hr]
     have k1:runL pg qz ⟨[(1,.ptr false 0 0)],[[LN m.nodes,LP m.inits,LP m.nexts,LI m.bads,LI m.holds]],gh⟩=some (.ret,⟨[(2,I r)],[],g1⟩):=by
      refine q1z_ ?_
      simp[q1z,hb,b1,b2,hlen,hp,hr]
     refine jaf (fn:=qf) (s:=⟨[(2,I r)],[],g1⟩) rfl rfl (qr_ ?h4) ?r4
     case r4=>simp[finish,results,qf,resOfs,resOf,resOk,htk]
     case h4=>simp[qr,d1,d2,d3,hl,k1]
  ·rw[if_pos hn]
   rw[if_neg hn] at hl
   generalize nodesE m.nodes 0 m.nodes=r at *
   refine jaf (fn:=qf) (s:=⟨[(2,I r)],[],gh⟩) rfl rfl (qr_ ?h5) ?r5
   case r5=>simp[finish,results,qf,resOfs,resOf,resOk]
   case h5=>simp[qr,d1,d2,d3,hl]
end
end Go.Lw
end

/-! Models as texts: the program's lines. Written by program (genTextPrint.py). -/
section
namespace Go.Lw
open Go
def tailB (l:List Int):List UInt8:=l.flatMap fun n=>32::itoaK n
theorem jd7 (a:Int) (l:List Int):tailB (a::l)=(32::itoaK a)++tailB l:=by simp[tailB]
theorem jhq (l:List Int):(tailB l).length≤22*l.length:=jmq l
theorem jbk (w:List UInt8) (l:List Int):lineB w l=(w++tailB l)++[10]:=rfl
theorem jno {m:Md} (h:checkE m=0):m.nodes.length≤80∧∀x∈m.nodes,1≤x.k∧x.k<24:=by
 unfold checkE at h
 split at h
 ·cases h
 ·rename_i h1
  refine⟨by omega,fun x hx=>?_⟩
  split at h
  ·contradiction
  ·rename_i h2
   have h2:=Classical.not_not.1 h2
   obtain⟨i,hi⟩:=List.getElem?_of_mem hx
   have h3:=jcd h2 i x hi
   unfold nodeE at h3
   split at h3
   ·cases h3
   ·omega
section
variable {gh:List GObj}
theorem wb_eq {X:List UInt8} (hl:X.length+1≤140737488355328):callL pg 358 [.ptr true gh.length 0,.int .u8 10] (BW gh X)=some (.nilI,BW gh (X++[10])):=by
 have:callL pg 358 [.ptr true gh.length 0,.int .u8 10] (BW gh X)=libWB [.ptr true gh.length 0,.int .u8 10] (BW gh X):=rfl
 rw[this]
 simp only[libWB,BW_get,jbd]
 rw[if_pos ⟨by decide,by decide,hl⟩,bA_app]
 simp[BW]
theorem wl_l1 {l:List Int} (hn:I64s l) (hl:l.length≤1000):∀k i (X:List UInt8),i+k=l.length→X.length+22*k≤100000000000→
  runL pg q4m ⟨[(0,.ptr true gh.length 0),(13,LI l),(14,I l.length),(15,I (i:Int))],[],BW gh X⟩=
   some (.normal,⟨[(0,.ptr true gh.length 0)],[],BW gh (X++tailB (l.drop i))⟩)
 |0,i,X,h,_=>by
  have hlt:¬(i:Int)<(l.length:Int):=by omega
  rw[List.drop_eq_nil_of_le (by omega)]
  refine (jat (s1:=?s1) (q5f_ ?h1)).trans ?r1
  case h1=>simp only[q5f,decide_eq_false hlt,jaw];rfl
  case r1=>simp[keep,tailB]
 | k+1,i,X,h,hX=>by
  have hlt:i<l.length:=by omega
  have hltI:(i:Int)<(l.length:Int):=by omega
  have e2:IntKind.i64.wrap ((i:Int)+1)=((i+1:Nat):Int):=by rw[jas (by omega) (by omega)];omega
  have hx:(l.map I)[i]?=some (I l[i]):=by simp[List.getElem?_eq_getElem hlt]
  have hr:=hn _ (List.getElem_mem hlt)
  rw[List.drop_eq_getElem_cons hlt,jd7,←List.append_assoc]
  generalize l[i]=a at *
  have hi:=fun G=>jeh (gh:=G) hr.1 hr.2
  have hal:=jd1 a
  have hw:=ws_eq (gh:=gh) (X:=X) (Y:=32::itoaK a) (by simp) (by simp;omega)
  have hs:binPV .add (.str (bA [32])) (.str (bA (itoaK a)))=some (.str (bA (32::itoaK a))):=strAdd (a:=[32]) (by simp;omega)
  have hrec:=wl_l1 hn hl k (i+1) (X++(32::itoaK a)) (by omega) (by simp;omega)
  refine jai (q5f_ (s:=⟨[(0,.ptr true gh.length 0),(13,LI l),(14,I l.length),(15,I ((i+1:Nat):Int))],[],BW gh (X++(32::itoaK a))⟩) ?h2) hrec
  case h2=>
   generalize itoaK a=Y at *
   generalize BW gh (X++32::Y)=g1 at *
   generalize BW gh X=g0 at *
   have hD:=decide_eq_true hltI
   simp only[q5f,hD,jay]
   simp[hx,hi,hs,hw,e2,-List.getElem?_map]
theorem jce {word:List UInt8} {l:List Int} {X:List UInt8} (h0:word≠[]) (hw:word.length≤100) (hn:I64s l) (hl:l.length≤1000) (hX:X.length≤90000000000) :
  callL pg 356 [.ptr true gh.length 0,.str (bA word),LI l] (BW gh X)=some (.tup [],BW gh (X++lineB word l)):=by
 have w1:=ws_eq (gh:=gh) (X:=X) h0 (by omega)
 have h1:=wl_l1 (gh:=gh) hn hl l.length 0 (X++word) (by omega) (by simp;omega)
 have htl:=jhq l
 have w2:=wb_eq (gh:=gh) (X:=(X++word)++tailB l) (by simp;omega)
 rw[List.drop_zero] at h1
 have e:((X++word)++tailB l)++[10]=X++lineB word l:=by rw[jbk];simp
 rw[e] at w2
 simp only[Int.natCast_zero] at h1
 have k1:runL pg q2j ⟨[(0,.ptr true gh.length 0)],[],BW gh ((X++word)++tailB l)⟩=some (.normal,⟨[],[],BW gh (X++lineB word l)⟩):=by
  refine q94_ ?_
  generalize BW gh (X++lineB word l)=g1 at *
  generalize BW gh ((X++word)++tailB l)=g0 at *
  simp[q94,w2]
 generalize BW gh (X++lineB word l)=g3 at *
 generalize BW gh ((X++word)++tailB l)=g2 at *
 generalize BW gh (X++word)=g1 at *
 generalize BW gh X=g0 at *
 have hlL:(l.map I).length=l.length:=List.length_map _
 simp only[LI] at h1 ⊢
 rw[←hlL] at h1
 generalize l.map I=L at *
 refine (jef (fn:=q4n) (e:= .normal) (s:=⟨[],[],g3⟩) rfl rfl (q95_ ?h1)).trans ?r1
 case h1=>simp[q95,w1,h1,k1]
 case r1=>simp[finish,results,q4n,resOfs,resOk]
theorem has_eq (k:Int):callL pg 352 [I k] gh=some (B (decide (k=1∨k=21)),gh):=by
 by_cases h1:k=1
 ·subst h1
  refine jaf (fn:=q1p) (s:=?s1) rfl rfl (q5g_ ?h1) ?r1
  case h1=>simp[q5g];rfl
  case r1=>simp[finish,results,q1p,resOfs,resOf,resOk]
 ·refine jaf (fn:=q1p) (s:=?s2) rfl rfl (q5g_ ?h2) ?r2
  case h2=>simp[q5g,h1];rfl
  case r2=>simp[finish,results,q1p,resOfs,resOf,resOk,h1]
def wordB (k:Int):List UInt8:=wordsL.getD k.toNat []
def numsN (x:Nd):List Int:=x.w::argsL x++(if x.k=1∨x.k=21 then [x.n] else [])
def nodeB (i:Nat) (x:Nd):List UInt8:=lineB ((itoaK (i:Int)++[32])++wordB x.k) (numsN x)
def nodesB:Nat→List Nd→List UInt8
 |_,[]=>[]
 |i,x::l=>nodeB i x++nodesB (i+1) l
def pairB (w:List UInt8) (p:Int×Int):List UInt8:=lineB w [p.1,p.2]
def oneB (w:List UInt8) (n:Int):List UInt8:=lineB w [n]
def modelB (m:Md):List UInt8:=((((nodesB 0 m.nodes)++m.inits.flatMap (pairB [105,110,105,116]))++m.nexts.flatMap (pairB [110,101,120,116]))++m.bads.flatMap (oneB [98,97,100]))++m.holds.flatMap (oneB [104,111,108,100])
theorem jer (w:List UInt8) (l:List Int):(lineB w l).length≤w.length+22*l.length+1:=by
 have:=jhq l
 rw[jbk];simp;omega
theorem jd8 {w:List UInt8} (h:w.length≤4) (p:Int×Int):(pairB w p).length≤60:=by
 have:=jer w [p.1,p.2]
 unfold pairB;simp at this;omega
theorem jes {w:List UInt8} (h:w.length≤4) (n:Int):(oneB w n).length≤60:=by
 have:=jer w [n]
 unfold oneB;simp at this;omega
theorem jnp:∀w∈wordsL,w.length≤6:=by decide
theorem jhr (k:Int):(wordB k).length≤6:=by
 unfold wordB
 rw[List.getD_eq_getElem?_getD]
 cases h:wordsL[k.toNat]? with
 |none=>simp
 |some w=>exact jnp w (List.mem_of_getElem? h)
theorem jhs (x:Nd):(argsL x).length≤3:=by unfold argsL;simp;omega
theorem jht (x:Nd):(numsN x).length≤5:=by
 have:=jhs x
 unfold numsN;split<;>simp<;>omega
theorem jhu (i:Nat) (x:Nd):(nodeB i x).length≤150:=by
 have h1:=jer ((itoaK (i:Int)++[32])++wordB x.k) (numsN x)
 have h2:=jhr x.k
 have h3:=jd1 (i:Int)
 have h4:=jht x
 unfold nodeB;simp at h1 ⊢;omega
structure MdI (m:Md):Prop where
 nodes:∀x∈m.nodes,I64s [x.k,x.w,x.a,x.b,x.c,x.n]
 inits:∀p∈m.inits,I64s [p.1,p.2]
 nexts:∀p∈m.nexts,I64s [p.1,p.2]
 bads:I64s m.bads
 holds:I64s m.holds
 szi:m.inits.length≤1048576
 szn:m.nexts.length≤1048576
 szb:m.bads.length≤1048576
 szh:m.holds.length≤1048576
theorem jnq {x:Nd} (h:I64s [x.k,x.w,x.a,x.b,x.c,x.n]):I64s (numsN x):=by
 intro n hn
 apply h
 unfold numsN argsL at hn
 simp only[List.cons_append,List.mem_cons,List.mem_append] at hn
 rcases hn with rfl|hn|hn
 ·simp
 ·have:=List.mem_of_mem_take hn
  simp at this ⊢
  rcases this with h|h|h<;>simp[h]
 ·split at hn
  ·simp at hn;simp[hn]
  ·simp at hn
abbrev mC (m:Md):List PV:=[LN m.nodes,LP m.inits,LP m.nexts,LI m.bads,LI m.holds]
variable {m:Md}
theorem jnr {k:Int} (h:1≤k∧k<24):(List.map PV.str textWords)[k.toNat]?=some (.str (bA (wordB k))):=by
 have hl:k.toNat<wordsL.length:=by show k.toNat<24;omega
 unfold textWords wordB
 simp only[List.map_map,List.getElem?_map,List.getElem?_eq_getElem hl,List.getD_eq_getElem?_getD,Option.getD_some,Option.map_some]
 rfl
theorem jns {i:Nat} {x:Nd} {N:Nat} {X:List UInt8} (hx:I64s [x.k,x.w,x.a,x.b,x.c,x.n]) (hk:1≤x.k∧x.k<24) (hi:i≤1000) (hX:X.length≤80000000000) :
  runL pg q1l ⟨[(1,.ptr false 0 0),(5,.ptr true gh.length 0),(6,I (i:Int)),(7,.ptr false 1 0),(8,.sl true 1 ((numsN x).map I)),(25,LN m.nodes),(26,I (N:Int)),(27,I (i:Int))],[mC m,[I x.k,I x.w,I x.a,I x.b,I x.c,I x.n]],BW gh X⟩=
   some (.normal,⟨[(1,.ptr false 0 0),(5,.ptr true gh.length 0),(25,LN m.nodes),(26,I (N:Int)),(27,I (i:Int))],[mC m],BW gh (X++nodeB i x)⟩):=by
 have hI:=fun G=>jeh (gh:=G) (n:=(i:Int)) (by omega) (by omega)
 have hil:=jd1 (i:Int)
 have hwl:=jhr x.k
 have s1:binPV .add (.str (bA (itoaK (i:Int)))) (.str (bA [32]))=some (.str (bA (itoaK (i:Int)++[32]))):=strAdd (by simp;omega)
 have s2:binPV .add (.str (bA (itoaK (i:Int)++[32]))) (.str (bA (wordB x.k)))=some (.str (bA ((itoaK (i:Int)++[32])++wordB x.k))):=strAdd (by simp;omega)
 have hg:=jnr hk
 have hnl:=jht x
 have hw:=jce (gh:=gh) (word:=(itoaK (i:Int)++[32])++wordB x.k) (l:=numsN x) (X:=X) (by simp) (by simp;omega) (jnq hx) (by omega) (by omega)
 rw[show lineB ((itoaK (i:Int)++[32])++wordB x.k) (numsN x)=nodeB i x from rfl] at hw
 refine q96_ ?_
 generalize BW gh (X++nodeB i x)=g1 at *
 generalize BW gh X=g0 at *
 generalize itoaK (i:Int)++[32]=Z at *
 generalize wordB x.k=W at *
 generalize Z++W=ZW at *
 generalize itoaK (i:Int)=Y at *
 simp only[LI] at hw
 have hall:((numsN x).map I).all PV.one=true:=by simp[PV.one]
 generalize (numsN x).map I=NL at *
 have hd:decide (0≤x.k)=true:=decide_eq_true (by omega)
 simp only[q96]
 generalize List.map PV.str textWords=TW at *
 simp[hI,s1,s2,hg,hw,show (0:Int)≤x.k by omega,-List.getElem?_map]
theorem tp_l1 (hm:MdI m) (hk:∀x∈m.nodes,1≤x.k∧x.k<24) (hl:m.nodes.length≤80):∀k i (X:List UInt8),i+k=m.nodes.length→X.length+150*k≤70000000000→
  runL pg q4e ⟨[(1,.ptr false 0 0),(5,.ptr true gh.length 0),(25,LN m.nodes),(26,I m.nodes.length),(27,I (i:Int))],[mC m],BW gh X⟩=
   some (.normal,⟨[(1,.ptr false 0 0),(5,.ptr true gh.length 0)],[mC m],BW gh (X++nodesB i (m.nodes.drop i))⟩)
 |0,i,X,h,_=>by
  have hlt:¬(i:Int)<(m.nodes.length:Int):=by omega
  rw[List.drop_eq_nil_of_le (by omega)]
  refine (jat (s1:=?s1) (q31_ ?h1)).trans ?r1
  case h1=>simp only[q31,decide_eq_false hlt,jaw];rfl
  case r1=>simp[keep,nodesB,stays]
 | k+1,i,X,h,hX=>by
  have hlt:i<m.nodes.length:=by omega
  have hltI:(i:Int)<(m.nodes.length:Int):=by omega
  have e2:IntKind.i64.wrap ((i:Int)+1)=((i+1:Nat):Int):=by rw[jas (by omega) (by omega)];omega
  have hx:(m.nodes.map nodeV)[i]?=some (nodeV m.nodes[i]):=by simp[List.getElem?_eq_getElem hlt]
  have hr:=hm.nodes _ (List.getElem_mem hlt)
  have hkk:=hk _ (List.getElem_mem hlt)
  rw[List.drop_eq_getElem_cons hlt,nodesB,←List.append_assoc]
  generalize m.nodes[i]=x at *
  have hA:=fun G=>jel x G
  have hh:=fun G=>has_eq (gh:=G) x.k
  have hbl:=jhu i x
  have hal:=jhs x
  have hrec:=tp_l1 hm hk hl k (i+1) (X++nodeB i x) (by omega) (by simp;omega)
  have h1:=jns (gh:=gh) (m:=m) (i:=i) (N:=m.nodes.length) (X:=X) hr hkk (by omega) (by omega)
  have h2:runL pg q1m ⟨[(1,.ptr false 0 0),(5,.ptr true gh.length 0),(25,LN m.nodes),(26,I (m.nodes.length:Int)),(27,I (i:Int))],[mC m],BW gh (X++nodeB i x)⟩=some (.normal,⟨[(1,.ptr false 0 0),(5,.ptr true gh.length 0),(25,LN m.nodes),(26,I (m.nodes.length:Int)),(27,I ((i+1:Nat):Int))],[mC m],BW gh (X++nodeB i x)⟩):=by
   refine q97_ ?_
   simp only[q97,e2]
   simp
  refine jai (q31_ (s:=⟨[(1,.ptr false 0 0),(5,.ptr true gh.length 0),(25,LN m.nodes),(26,I m.nodes.length),(27,I ((i+1:Nat):Int))],[mC m],BW gh (X++nodeB i x)⟩) ?h2) hrec
  case h2=>
   have hD:=decide_eq_true hltI
   have hfit:∀a b:List PV,a.length≤10→b.length≤10→(a.length+b.length)*8≤maxBytes:=fun a b ha hb=>by
    have:(a.length+b.length)*8≤160:=by omega
    exact Nat.le_trans this (by decide)
   generalize BW gh (X++nodeB i x)=g1 at *
   generalize BW gh X=g0 at *
   unfold mC at *
   generalize ((i+1:Nat):Int)=T at *
   by_cases hc:x.k=1∨x.k=21
   ·have hcd:=decide_eq_true hc
    have en:(numsN x).map I=(I x.w::(argsL x).map I)++[I x.n]:=by unfold numsN;rw[if_pos hc];simp
    rw[en,List.cons_append] at h1
    have f1:=hfit [I x.w] ((argsL x).map I) (by simp) (by simp;omega)
    have f2:(1+((argsL x).map I).length+1)*8≤maxBytes:=Nat.le_trans (by rw[List.length_map];omega) (show 160≤maxBytes by decide)
    simp only[LI] at hA
    generalize (argsL x).map I=AL at *
    generalize decide (x.k=1∨x.k=21)=bb at *
    subst hcd
    simp only[nodeV] at hx hA
    simp only[LN] at *
    generalize m.nodes.map nodeV=NL at *
    generalize (m.nodes.length:Int)=N at *
    simp only[List.length_cons,List.length_nil] at f1
    simp only[q31,hD,jay]
    simp[hx,hA,hh,apX,f1,f2,h1,h2,show Nat.ble 1 1=true from rfl,-List.getElem?_map]
   ·have hcd:=decide_eq_false hc
    have en:(numsN x).map I=I x.w::(argsL x).map I:=by unfold numsN;rw[if_neg hc];simp
    rw[en] at h1
    have f1:=hfit [I x.w] ((argsL x).map I) (by simp) (by simp;omega)
    simp only[LI] at hA
    generalize (argsL x).map I=AL at *
    generalize decide (x.k=1∨x.k=21)=bb at *
    subst hcd
    simp only[nodeV] at hx hA
    simp only[LN] at *
    generalize m.nodes.map nodeV=NL at *
    generalize (m.nodes.length:Int)=N at *
    simp only[List.length_cons,List.length_nil] at f1
    simp only[q31,hD,jay]
    simp[hx,hA,hh,apX,f1,h1,h2,show Nat.ble 1 1=true from rfl,-List.getElem?_map]
theorem tp_l2 (hm:MdI m):∀k i (X:List UInt8),i+k=m.inits.length→X.length+60*k≤70000000000→
  runL pg q4f ⟨[(1,.ptr false 0 0),(5,.ptr true gh.length 0),(60,LP m.inits),(61,I m.inits.length),(62,I (i:Int))],[mC m],BW gh X⟩=
   some (.normal,⟨[(1,.ptr false 0 0),(5,.ptr true gh.length 0)],[mC m],BW gh (X++(m.inits.drop i).flatMap (pairB [105,110,105,116]))⟩)
 |0,i,X,h,_=>by
  have hlt:¬(i:Int)<(m.inits.length:Int):=by omega
  rw[List.drop_eq_nil_of_le (by omega)]
  refine (jat (s1:=?s1) (q5h_ ?h1)).trans ?r1
  case h1=>simp only[q5h,decide_eq_false hlt,jaw];rfl
  case r1=>simp[keep,stays]
 | k+1,i,X,h,hX=>by
  have hlt:i<m.inits.length:=by omega
  have hltI:(i:Int)<(m.inits.length:Int):=by omega
  have hsz:=hm.szi
  have e2:IntKind.i64.wrap ((i:Int)+1)=((i+1:Nat):Int):=by rw[jas (by omega) (by omega)];omega
  have hx:(m.inits.map andV)[i]?=some (andV m.inits[i]):=by simp[List.getElem?_eq_getElem hlt]
  have hr:=hm.inits _ (List.getElem_mem hlt)
  rw[List.drop_eq_getElem_cons hlt,List.flatMap_cons,←List.append_assoc]
  generalize m.inits[i]=p at *
  have hbl:=jd8 (w:=[105,110,105,116]) (by decide) p
  have hrec:=tp_l2 hm k (i+1) (X++pairB [105,110,105,116] p) (by omega) (by simp;omega)
  have hw:=jce (gh:=gh) (word:=[105,110,105,116]) (l:=[p.1,p.2]) (X:=X) (by decide) (by decide) hr (by simp) (by omega)
  rw[show lineB [105,110,105,116] [p.1,p.2]=pairB [105,110,105,116] p from rfl] at hw
  refine jai (q5h_ (s:=⟨[(1,.ptr false 0 0),(5,.ptr true gh.length 0),(60,LP m.inits),(61,I m.inits.length),(62,I ((i+1:Nat):Int))],[mC m],BW gh (X++pairB [105,110,105,116] p)⟩) ?h2) hrec
  case h2=>
   have hD:=decide_eq_true hltI
   generalize BW gh (X++pairB [105,110,105,116] p)=g1 at *
   generalize BW gh X=g0 at *
   simp only[LI,List.map_cons,List.map_nil] at hw
   generalize ((i+1:Nat):Int)=T at *
   generalize (m.inits.length:Int)=N at *
   try unfold mC at *
   simp only[andV,LP] at *
   generalize m.inits.map andV=PL at *
   simp only[q5h,hD,jay]
   simp[hx,hw,e2,show Nat.ble 1 1=true from rfl,-List.getElem?_map]
theorem tp_l3 (hm:MdI m):∀k i (X:List UInt8),i+k=m.nexts.length→X.length+60*k≤70000000000→
  runL pg q4g ⟨[(1,.ptr false 0 0),(5,.ptr true gh.length 0),(75,LP m.nexts),(76,I m.nexts.length),(77,I (i:Int))],[mC m],BW gh X⟩=
   some (.normal,⟨[(1,.ptr false 0 0),(5,.ptr true gh.length 0)],[mC m],BW gh (X++(m.nexts.drop i).flatMap (pairB [110,101,120,116]))⟩)
 |0,i,X,h,_=>by
  have hlt:¬(i:Int)<(m.nexts.length:Int):=by omega
  rw[List.drop_eq_nil_of_le (by omega)]
  refine (jat (s1:=?s1) (q5i_ ?h1)).trans ?r1
  case h1=>simp only[q5i,decide_eq_false hlt,jaw];rfl
  case r1=>simp[keep,stays]
 | k+1,i,X,h,hX=>by
  have hlt:i<m.nexts.length:=by omega
  have hltI:(i:Int)<(m.nexts.length:Int):=by omega
  have hsz:=hm.szn
  have e2:IntKind.i64.wrap ((i:Int)+1)=((i+1:Nat):Int):=by rw[jas (by omega) (by omega)];omega
  have hx:(m.nexts.map andV)[i]?=some (andV m.nexts[i]):=by simp[List.getElem?_eq_getElem hlt]
  have hr:=hm.nexts _ (List.getElem_mem hlt)
  rw[List.drop_eq_getElem_cons hlt,List.flatMap_cons,←List.append_assoc]
  generalize m.nexts[i]=p at *
  have hbl:=jd8 (w:=[110,101,120,116]) (by decide) p
  have hrec:=tp_l3 hm k (i+1) (X++pairB [110,101,120,116] p) (by omega) (by simp;omega)
  have hw:=jce (gh:=gh) (word:=[110,101,120,116]) (l:=[p.1,p.2]) (X:=X) (by decide) (by decide) hr (by simp) (by omega)
  rw[show lineB [110,101,120,116] [p.1,p.2]=pairB [110,101,120,116] p from rfl] at hw
  refine jai (q5i_ (s:=⟨[(1,.ptr false 0 0),(5,.ptr true gh.length 0),(75,LP m.nexts),(76,I m.nexts.length),(77,I ((i+1:Nat):Int))],[mC m],BW gh (X++pairB [110,101,120,116] p)⟩) ?h2) hrec
  case h2=>
   have hD:=decide_eq_true hltI
   generalize BW gh (X++pairB [110,101,120,116] p)=g1 at *
   generalize BW gh X=g0 at *
   simp only[LI,List.map_cons,List.map_nil] at hw
   generalize ((i+1:Nat):Int)=T at *
   generalize (m.nexts.length:Int)=N at *
   try unfold mC at *
   simp only[andV,LP] at *
   generalize m.nexts.map andV=PL at *
   simp only[q5i,hD,jay]
   simp[hx,hw,e2,show Nat.ble 1 1=true from rfl,-List.getElem?_map]
theorem tp_l4 (hm:MdI m):∀k i (X:List UInt8),i+k=m.bads.length→X.length+60*k≤70000000000→
  runL pg q4h ⟨[(1,.ptr false 0 0),(5,.ptr true gh.length 0),(90,LI m.bads),(91,I m.bads.length),(92,I (i:Int))],[mC m],BW gh X⟩=
   some (.normal,⟨[(1,.ptr false 0 0),(5,.ptr true gh.length 0)],[mC m],BW gh (X++(m.bads.drop i).flatMap (oneB [98,97,100]))⟩)
 |0,i,X,h,_=>by
  have hlt:¬(i:Int)<(m.bads.length:Int):=by omega
  rw[List.drop_eq_nil_of_le (by omega)]
  refine (jat (s1:=?s1) (q5j_ ?h1)).trans ?r1
  case h1=>simp only[q5j,decide_eq_false hlt,jaw];rfl
  case r1=>simp[keep,stays]
 | k+1,i,X,h,hX=>by
  have hlt:i<m.bads.length:=by omega
  have hltI:(i:Int)<(m.bads.length:Int):=by omega
  have hsz:=hm.szb
  have e2:IntKind.i64.wrap ((i:Int)+1)=((i+1:Nat):Int):=by rw[jas (by omega) (by omega)];omega
  have hx:(m.bads.map I)[i]?=some (I m.bads[i]):=by simp[List.getElem?_eq_getElem hlt]
  have hr:=hm.bads _ (List.getElem_mem hlt)
  rw[List.drop_eq_getElem_cons hlt,List.flatMap_cons,←List.append_assoc]
  generalize m.bads[i]=p at *
  have hbl:=jes (w:=[98,97,100]) (by decide) p
  have hrec:=tp_l4 hm k (i+1) (X++oneB [98,97,100] p) (by omega) (by simp;omega)
  have hw:=jce (gh:=gh) (word:=[98,97,100]) (l:=[p]) (X:=X) (by decide) (by decide) (fun n hn=>by rw[List.mem_singleton] at hn;subst hn;exact hr) (by simp) (by omega)
  rw[show lineB [98,97,100] [p]=oneB [98,97,100] p from rfl] at hw
  refine jai (q5j_ (s:=⟨[(1,.ptr false 0 0),(5,.ptr true gh.length 0),(90,LI m.bads),(91,I m.bads.length),(92,I ((i+1:Nat):Int))],[mC m],BW gh (X++oneB [98,97,100] p)⟩) ?h2) hrec
  case h2=>
   have hD:=decide_eq_true hltI
   generalize BW gh (X++oneB [98,97,100] p)=g1 at *
   generalize BW gh X=g0 at *
   simp only[LI,List.map_cons,List.map_nil] at hw
   generalize ((i+1:Nat):Int)=T at *
   generalize (m.bads.length:Int)=N at *
   try unfold mC at *
   simp only[LI] at *
   generalize m.bads.map I=PL at *
   simp only[q5j,hD,jay]
   simp[hx,hw,e2,show Nat.ble 1 1=true from rfl,-List.getElem?_map]
theorem tp_l5 (hm:MdI m):∀k i (X:List UInt8),i+k=m.holds.length→X.length+60*k≤70000000000→
  runL pg q4i ⟨[(5,.ptr true gh.length 0),(102,LI m.holds),(103,I m.holds.length),(104,I (i:Int))],[],BW gh X⟩=
   some (.normal,⟨[(5,.ptr true gh.length 0)],[],BW gh (X++(m.holds.drop i).flatMap (oneB [104,111,108,100]))⟩)
 |0,i,X,h,_=>by
  have hlt:¬(i:Int)<(m.holds.length:Int):=by omega
  rw[List.drop_eq_nil_of_le (by omega)]
  refine (jat (s1:=?s1) (q5k_ ?h1)).trans ?r1
  case h1=>simp only[q5k,decide_eq_false hlt,jaw];rfl
  case r1=>simp[keep,stays]
 | k+1,i,X,h,hX=>by
  have hlt:i<m.holds.length:=by omega
  have hltI:(i:Int)<(m.holds.length:Int):=by omega
  have hsz:=hm.szh
  have e2:IntKind.i64.wrap ((i:Int)+1)=((i+1:Nat):Int):=by rw[jas (by omega) (by omega)];omega
  have hx:(m.holds.map I)[i]?=some (I m.holds[i]):=by simp[List.getElem?_eq_getElem hlt]
  have hr:=hm.holds _ (List.getElem_mem hlt)
  rw[List.drop_eq_getElem_cons hlt,List.flatMap_cons,←List.append_assoc]
  generalize m.holds[i]=p at *
  have hbl:=jes (w:=[104,111,108,100]) (by decide) p
  have hrec:=tp_l5 hm k (i+1) (X++oneB [104,111,108,100] p) (by omega) (by simp;omega)
  have hw:=jce (gh:=gh) (word:=[104,111,108,100]) (l:=[p]) (X:=X) (by decide) (by decide) (fun n hn=>by rw[List.mem_singleton] at hn;subst hn;exact hr) (by simp) (by omega)
  rw[show lineB [104,111,108,100] [p]=oneB [104,111,108,100] p from rfl] at hw
  refine jai (q5k_ (s:=⟨[(5,.ptr true gh.length 0),(102,LI m.holds),(103,I m.holds.length),(104,I ((i+1:Nat):Int))],[],BW gh (X++oneB [104,111,108,100] p)⟩) ?h2) hrec
  case h2=>
   have hD:=decide_eq_true hltI
   generalize BW gh (X++oneB [104,111,108,100] p)=g1 at *
   generalize BW gh X=g0 at *
   simp only[LI,List.map_cons,List.map_nil] at hw
   generalize ((i+1:Nat):Int)=T at *
   generalize (m.holds.length:Int)=N at *
   try unfold mC at *
   simp only[LI] at *
   generalize m.holds.map I=PL at *
   simp only[q5k,hD,jay]
   simp[hx,hw,e2,show Nat.ble 1 1=true from rfl,-List.getElem?_map]
theorem jd9 {α:Type} {f:α→List UInt8} {b:Nat} (hf:∀x,(f x).length≤b):∀l:List α,(l.flatMap f).length≤b*l.length
 |[]=>by simp
 |x::l=>by
  have:=jd9 hf l
  have:=hf x
  rw[List.flatMap_cons,List.length_append,List.length_cons,Nat.mul_succ];omega
theorem jhv:∀(l:List Nd) (i:Nat),(nodesB i l).length≤150*l.length
 |[],_=>by simp[nodesB]
 |x::l,i=>by
  have:=jhv l (i+1)
  have:=jhu i x
  rw[nodesB,List.length_append,List.length_cons,Nat.mul_succ];omega
theorem jhw (hm:MdI m):callL pg 347 [modelV m] gh=some (.tup [.str (bA (if checkE m=0 then modelB m else [])),I (checkE m)],gh):=by
 have h1:=hm.szi
 have h2:=hm.szn
 have h3:=hm.szb
 have h4:=hm.szh
 have hC:=jhp (m:=m) (gh:=gh) (by simp only[Sz];omega) (by simp only[Sz];omega)
 by_cases h0:checkE m=0
 ·rw[if_pos h0,h0]
  rw[h0] at hC
  obtain⟨hl,hkk⟩:=jno h0
  have n0:=jhv m.nodes 0
  have n1:=jd9 (jd8 (w:=[105,110,105,116]) (by decide)) m.inits
  have n2:=jd9 (jd8 (w:=[110,101,120,116]) (by decide)) m.nexts
  have n3:=jd9 (jes (w:=[98,97,100]) (by decide)) m.bads
  have l1:=tp_l1 (gh:=gh) hm hkk hl m.nodes.length 0 [] (by omega) (by simp;omega)
  rw[List.drop_zero,List.nil_append] at l1
  have l2:=tp_l2 (gh:=gh) hm m.inits.length 0 (nodesB 0 m.nodes) (by omega) (by omega)
  rw[List.drop_zero] at l2
  have l3:=tp_l3 (gh:=gh) hm m.nexts.length 0 (nodesB 0 m.nodes++m.inits.flatMap (pairB [105,110,105,116])) (by omega) (by simp only[List.length_append];omega)
  rw[List.drop_zero] at l3
  have l4:=tp_l4 (gh:=gh) hm m.bads.length 0 ((nodesB 0 m.nodes++m.inits.flatMap (pairB [105,110,105,116]))++m.nexts.flatMap (pairB [110,101,120,116])) (by omega) (by simp only[List.length_append];omega)
  rw[List.drop_zero] at l4
  have l5:=tp_l5 (gh:=gh) hm m.holds.length 0 (((nodesB 0 m.nodes++m.inits.flatMap (pairB [105,110,105,116]))++m.nexts.flatMap (pairB [110,101,120,116]))++m.bads.flatMap (oneB [98,97,100])) (by omega) (by simp only[List.length_append];omega)
  rw[List.drop_zero] at l5
  rw[show (((nodesB 0 m.nodes++m.inits.flatMap (pairB [105,110,105,116]))++m.nexts.flatMap (pairB [110,101,120,116]))++m.bads.flatMap (oneB [98,97,100]))++m.holds.flatMap (oneB [104,111,108,100])=modelB m from rfl] at l5
  have hb:=bs_eq (gh:=gh) (X:=modelB m)
  generalize modelB m=Z at *
  generalize (((nodesB 0 m.nodes++m.inits.flatMap (pairB [105,110,105,116]))++m.nexts.flatMap (pairB [110,101,120,116]))++m.bads.flatMap (oneB [98,97,100]))=Z4 at *
  generalize ((nodesB 0 m.nodes++m.inits.flatMap (pairB [105,110,105,116]))++m.nexts.flatMap (pairB [110,101,120,116]))=Z3 at *
  generalize (nodesB 0 m.nodes++m.inits.flatMap (pairB [105,110,105,116]))=Z2 at *
  generalize nodesB 0 m.nodes=Z1 at *
  have hg0:gh++[GObj.bld ByteArray.empty]=BW gh []:=rfl
  generalize hg6:gh++[GObj.cells [if Z.length=0 then PV.nilp else .ptr true gh.length 0,.sl false 1 (Z.map fun c=> .int .u8 c.toNat)]]=g6 at *
  have ht:g6.take gh.length=gh:=by rw[←hg6];simp
  generalize BW gh Z=g5 at *
  generalize BW gh Z4=g4 at *
  generalize BW gh Z3=g3 at *
  generalize BW gh Z2=g2 at *
  generalize BW gh Z1=g1 at *
  generalize BW gh []=g0 at *
  rw[jav]
  unfold mC at *
  simp only[Int.natCast_zero,LN,LP,LI] at *
  have e0:(m.nodes.map nodeV).length=m.nodes.length:=List.length_map _
  have e1:(m.inits.map andV).length=m.inits.length:=List.length_map _
  have e2:(m.nexts.map andV).length=m.nexts.length:=List.length_map _
  have e3:(m.bads.map I).length=m.bads.length:=List.length_map _
  have e4:(m.holds.map I).length=m.holds.length:=List.length_map _
  rw[←e0] at l1
  rw[←e1] at l2
  rw[←e2] at l3
  rw[←e3] at l4
  rw[←e4] at l5
  rw[jav] at hC
  simp only[LN,LP,LI] at hC
  generalize m.nodes.map nodeV=L0 at *
  generalize m.inits.map andV=L1 at *
  generalize m.nexts.map andV=L2 at *
  generalize m.bads.map I=L3 at *
  generalize m.holds.map I=L4 at *
  have k7:runL pg q2e ⟨[(5,.ptr true gh.length 0)],[],g5⟩=some (.ret,⟨[(2,.str (bA Z)),(3,I 0)],[],g6⟩):=by
   refine q98_ ?_
   simp[q98,hb]
  have k6:runL pg q2f ⟨[(1,.ptr false 0 0),(5,.ptr true gh.length 0)],[[.sl false 6 L0,.sl false 2 L1,.sl false 2 L2,.sl false 1 L3,.sl false 1 L4]],g4⟩=some (.ret,⟨[(2,.str (bA Z)),(3,I 0)],[],g6⟩):=by
   refine q99_ ?_
   simp[q99,l5,k7]
  have k5:runL pg q2g ⟨[(1,.ptr false 0 0),(5,.ptr true gh.length 0)],[[.sl false 6 L0,.sl false 2 L1,.sl false 2 L2,.sl false 1 L3,.sl false 1 L4]],g3⟩=some (.ret,⟨[(2,.str (bA Z)),(3,I 0)],[],g6⟩):=by
   refine q9a_ ?_
   simp[q9a,l4,k6]
  have k4:runL pg q2h ⟨[(1,.ptr false 0 0),(5,.ptr true gh.length 0)],[[.sl false 6 L0,.sl false 2 L1,.sl false 2 L2,.sl false 1 L3,.sl false 1 L4]],g2⟩=some (.ret,⟨[(2,.str (bA Z)),(3,I 0)],[],g6⟩):=by
   refine q9b_ ?_
   simp[q9b,l3,k5]
  have k3:runL pg q2i ⟨[(1,.ptr false 0 0),(5,.ptr true gh.length 0)],[[.sl false 6 L0,.sl false 2 L1,.sl false 2 L2,.sl false 1 L3,.sl false 1 L4]],g1⟩=some (.ret,⟨[(2,.str (bA Z)),(3,I 0)],[],g6⟩):=by
   refine q9c_ ?_
   simp[q9c,l2,k4]
  refine jaf (fn:=q1n) (s:=⟨[(2,.str (bA Z)),(3,I 0)],[],g6⟩) rfl rfl (q5l_ ?h1) ?r1
  case h1=>simp[q5l,hC,hg0,l1,k3]
  case r1=>simp[finish,results,q1n,resOfs,resOf,resOk,ht]
 ·rw[if_neg h0]
  rw[jav] at hC ⊢
  generalize checkE m=e at *
  simp only[LN,LP,LI] at hC ⊢
  refine jaf (fn:=q1n) (s:=⟨[(2,.str (bA [])),(3,I e)],[],gh⟩) rfl rfl (q5l_ ?h2) ?r2
  case h2=>
   simp only[q5l]
   simp[hC,h0]
   rfl
  case r2=>simp[finish,results,q1n,resOfs,resOf,resOk]
end
end Go.Lw
end

/-! Models as texts: the document's. Written by program (genTextPrint.py). -/
section
namespace Go.Lw
open Go
section
variable {gh:List GObj} {m:Md}
abbrev nC (x:Nd):List PV:=[I x.k,I x.w,I x.a,I x.b,I x.c,I x.n]
end
end Go.Lw
end

/-! Models: inputs and states (the program), and the document's nodes of a kind, bits, and what hangs. -/
section
namespace Go.Lw
open Go
@[simp] theorem ble11 : Nat.ble 1 1 = true := rfl
section
variable {m:Md} {gh:List GObj}
end
end Go.Lw
end

/-! What must be of texts in any case: reckoned. -/
section
namespace Go.Lw
open Go
set_option maxRecDepth 100000 in
theorem joa:callL pg 346 [] []=some (.bool true,[]):=jo9 (n:=2000) (by kernel_rfl)
end Go.Lw
end

/-! Clauses: what the document makes and checks. -/
section
namespace Go.Lw
open Go
section
variable {ins:Int} {ands:List (Int×Int)} {gh:List GObj}
theorem jii {v:List Int} (hs:Sz v.length):∀k i,i+k=v.length→
  runL pg q47 ⟨[(0,LI v),(1,LI v),(5,I (i:Int))],[],gh⟩=some (.normal,⟨[],[],gh⟩)
 |0,i,h=>by
  have hlt:¬i<v.length:=by omega
  refine (jat (s1:=?s1) (q5w_ ?h1)).trans ?r1
  case h1=>simp[q5w,hlt];rfl
  case r1=>simp[keep]
 |k+1,i,h=>by
  have hlt:i<v.length:=by omega
  have e3:IntKind.i64.wrap ((i:Int)+1)=((i+1:Nat):Int):=jd0 (by simp only[Sz] at hs ⊢;omega)
  refine jai (s1:=⟨[(0,LI v),(1,LI v),(5,I ((i+1:Nat):Int))],[],gh⟩) (q5w_ ?h2) (jii hs k (i+1) (by omega))
  case h2=>simp[q5w,hlt,e3]
theorem jij {v:List Int} (hs:Sz v.length):callL pg 46 [LI v,LI v] gh=some (B true,gh):=by
 have h:=jii (gh:=gh) hs v.length 0 (by omega)
 simp only[Int.natCast_zero] at h
 have hk:=qab_ (pg:=pg) (gh:=gh) (e:= .ret) (s:=⟨[(4,B true)],[],gh⟩) rfl
 refine jaf (fn:=q49) (s:=?s1) rfl rfl (q9f_ ?h1) ?r1
 case h1=>simp[q9f,h,hk];rfl
 case r1=>simp[finish,results,q49,resOfs,resOf,resOk]
end
end Go.Lw
end
