/-
  The texts that the proof stands on, part 13.
-/
import Derived.Test.YtmodipglnngghabDoorCnfHoldsL
import Derived.Tactics
set_option linter.unusedVariables false
set_option linter.unusedSimpArgs false
set_option linter.unnecessarySimpa false

/-! Every operation of the machine, calls too, does what its Go operation does. -/
section
namespace Go.Lw
open Go Go.RowKit
section
variable {fi:FI} {M M':Mem} {w w':World} {P:Program} {s s':St} {a:Act} {cf:CallF}
def CallOk (P:Program) (fi:FI) (F:Nat) (vs:List PV) (gh:List GObj) (r:PV) (gh':List GObj):Prop:=
  ∀ (M:Mem) (w:World) (args:List Value),GI fi M w gh→M.lb=[]→(∀b l,M.own b=some l→∃i j,l= .gh i j)→args.length=vs.length→
    (∀(i:Nat) (p:PV) (v:Value),vs[i]?=some p→args[i]?=some v→RepP fi M w p v)→
    Calls P F args.toArray w fun e w'=>∃v M',e= .returned v∧GI fi M' w' gh'∧M'.lb=[]∧resOk r=true∧RepAt fi M' w' Loc.res r v∧Kp M w M' w'
def CfOk (P:Program) (fi:FI) (cf:CallF):Prop:=
  ∀ f vs gh r gh' F,cf f vs gh=some (r,gh')→(∀p∈vs,argOk p=true)→fi f=some F→
    (∃ fn c, P.funcs[F]? = some fn ∧ (fn.name == "runtime.NumGoroutine") = false ∧ fn.body = some c) ∧ CallOk P fi F vs gh r gh'
def mOpC (P:Program) (fi:FI) (i:IOp) (op:Op):Bool:=
  match i,op with
  | .call _ _ f xs,.call {callee:= .value (.func F),args,.. }| .callP _ f xs _,.call {callee:= .value (.func F),args,.. }| .callR _ f xs _ _,.call {callee:= .value (.func F),args,.. }| .callF _ f xs,.call {callee:= .value (.func F),args,.. }=>fi f==some F&&mXs fi xs args.toList
  | .callv _ _ fv xs,.call {callee:= .value y,args,.. }| .callE _ fv xs,.call {callee:= .value y,args,.. }=>mX fi fv y&&mXs fi xs args.toList
  | .loadN d agg k x _,op=>mOp P fi (.load d agg k x) op
  | .loadL d x,op=>mOp P fi (.loadT d x) op
  | .appendE d bytes y x,op=>mOp P fi (.append d 1 bytes y x) op
  | .loadKB d x _,op=>mOp P fi (.load d false 1 x) op
  | .loadTB d x _ _,op=>mOp P fi (.loadT d x) op
  | .loadB d agg k x _,op=>mOp P fi (.load d agg k x) op
  | .loadJ d agg k x,op=>mOp P fi (.load d agg k x) op
  | .appendP d bytes y x _,op=>mOp P fi (.append d 1 bytes y x) op
  | .mkarr d z bytes zero l,op=>mOp P fi (.mksl d true z bytes zero l) op
  | .buildA d z ps,op=>mOp P fi (.buildT d z ps) op
  | .appendK d bytes y x,op=>mOp P fi (.append d 1 bytes y x) op
  | .appendN d bytes y x,op=>mOp P fi (.append d 1 bytes y x) op
  | .buildSlK d els,op=>mOp P fi (.buildSl d 1 els) op
  | .boxSl d z els,op=>mOp P fi (.buildSl d z els) op
  | .loadK d x,op=>mOp P fi (.load d false 1 x) op
  | .loadH d x,op=>mOp P fi (.load d false 1 x) op
  | .storeK y x,op=>mOp P fi (.store false 1 y x) op
  |i,op=>mOp P fi i op
theorem j93 {F : Nat} {fn : Func} {c : Code} (hf : P.funcs[F]? = some fn) (hn : (fn.name == "runtime.NumGoroutine") = false) (hb : fn.body = some c) (args : Array Value) (w : World) :
    (callFunc F args).run P w= .ok (.enter F args) w:=by
  have h1 : fn.name ≠ "runtime.NumGoroutine" := by simpa using hn
  simp[callFunc,hf,h1,hb]
theorem RepE.fnInv {f:Nat} {cs:List PV} {v:Value} (h:RepE fi M w (.fn f cs) v):∃F vs,fi f=some F∧v= .func (.func F) #[] (vs:List Value).toArray∧vs.length=cs.length∧cs.all argOk=true∧
    ∀(i:Nat) (c:PV) (u:Value),cs[i]?=some c→vs[i]?=some u→RepP fi M w c u:=by
  cases (show RepP fi M w (.fn f cs) v from h) with
  |fn _ F _ vs hf hl h1 h2=>exact⟨F,vs,hf,rfl,hl,h1,h2⟩
theorem RepE.bfnInv {f:Nat} {cs:List PV} {v:Value} (h:RepE fi M w (.bfn f cs) v):∃F vs,fi f=some F∧v= .func (.func F) (vs:List Value).toArray #[]∧vs.length=cs.length∧cs.all argOk=true∧
    ∀(i:Nat) (c:PV) (u:Value),cs[i]?=some c→vs[i]?=some u→RepP fi M w c u:=by
  cases (show RepP fi M w (.bfn f cs) v from h) with
  |bfn _ F _ vs hf hl h1 h2=>exact⟨F,vs,hf,rfl,hl,h1,h2⟩
theorem je8 {g:Bool} {p:PV} {v:Value} (h:RepP fi M w p v) (hg:g=false→p.noG=true):RepP fi (M.callee g) w p v:=by
  cases hgb:g with
  |true=>subst hgb;exact h.mono (show Ext M w (M.callee true) w from⟨fun _ _ h=>h,fun _ _ h=>h,fun _ _ _=>rfl,fun _ _=>⟨Nat.le_refl _,fun _=>rfl⟩⟩)
  | false=>
    subst hgb
    exact (h.noG [] M.st (hg rfl)).mono (show Ext {M with gb:=[],st:=M.st } w (M.callee false) w from⟨fun _ _ h=>h,fun _ _ h=>h,fun _ _ _=>rfl,fun _ _=>⟨Nat.le_refl _,fun _=>rfl⟩⟩)
def dstL:Option Nat→Nat→Loc
  |some d=>Loc.env d
  |none=>Loc.lim
theorem j94 (hI:Inv fi M w s a) {o:Oper} {F:Nat} {args:List Value} {vs:List PV} {g:Bool} {r:PV} {gh':List GObj} (hrun:(execOp a.eval o).run P w= .ok (.enter F args.toArray) w)
    (hok:CallOk P fi F vs (if g then s.gh else []) r gh') (hl:args.length=vs.length) (hr:∀(i:Nat) (p:PV) (v:Value),vs[i]?=some p→args[i]?=some v→RepP fi M w p v) (hg:g=false→noGs vs=true∧r.noG=true)
    (hlt:∀d,o.dst=some d→d<a.tmps.size) {next:Act→World→Prop} {Q:Exit→Act→World→Prop}
    (hn:∀a' M' w',Inv fi M' w' ⟨putO s.env o.dst r,s.lh,if g then gh' else s.gh⟩ a'→Kp M w M' w'→a'.tmps.size=a.tmps.size→next a' w'):o.wp P a w next Q:=by
  unfold Oper.wp
  rw[hrun,Oper.upon_enter]
  obtain⟨c1,c2,c3⟩:=hI.callee g
  refine Calls.mono (hok (M.callee g) w args c1 c2 c3 hl (fun i p v hp hv=>je8 (hr i p v hp hv) (fun e=>j7g (hg e).1 hp))) ?_
  rintro e w2 ⟨v,M2,rfl,hG,hlb,hrok,hrep,hk⟩
  obtain⟨b1,b2,b3⟩:=hI.back g (dstL o.dst) (fun i=>by cases o.dst<;>rfl) hG hlb hk hrep (fun e=>(hg e).2) hrok
  simp only
  cases hd:o.dst with
  | none=>
    rw[hd] at b1 b2 b3 hn
    exact hn _ _ _ b1 b2 rfl
  | some d=>
    rw[hd] at b1 b2 b3 hn
    exact hn _ _ _ (b1.put (hlt d hd) b3) b2 (by simp[Act.put])
theorem Sim.wp {o:Oper} (h:Sim P fi o M w s' a) {next:Act→World→Prop} {Q:Exit→Act→World→Prop}
    (hn:∀a' M' w',Inv fi M' w' s' a'→Kp M w M' w'→a'.tmps.size=a.tmps.size→next a' w'):o.wp P a w next Q:=by
  obtain⟨n,v,M',w',h1,h2,h3,h4⟩:=h
  unfold Oper.wp
  rw[h1]
  have hs:(a.put o.dst v).tmps.size=a.tmps.size:=by cases o.dst<;>simp[Act.put]
  rcases h2 with rfl|⟨rfl,rfl⟩
  · exact hn _ _ _ h3 h4 hs
  · exact hn _ _ _ h3 h4 hs
def Mem.reads (M:Mem):Mem:={lb:=[],gb:=[],imm:=fun b k=>M.imm b k∨b∈M.gb,own:=fun _=>none,st:=M.st }
theorem Inv.reads (hI:Inv fi M w s a):GI fi M.reads w []:=
  ⟨fun t v h=>by simp[get] at h,rfl,rfl,rfl,by simp[Mem.reads],fun i cs blk h=>by simp at h,fun i o blk h1 h2=>by simp at h1,
    fun x hx=>⟨.inl (hI.gl x hx).1,(hI.gl x hx).2⟩,fun b k h=>h.elim (hI.immlt b k) (hI.gblt b),fun b l h=>by simp[Mem.reads] at h,fun b hb=>by simp[Mem.reads] at hb⟩
set_option maxHeartbeats 1600000 in
theorem op_wp (hcf:CfOk P fi cf) (hI:Inv fi M w s a) {o:Oper} {i:IOp} (hm:mOpC P fi i o.op=true) (hd:o.dst=opDst i) (hlt:∀d,opDst i=some d→d<a.tmps.size) (h:opStep cf s i=some s')
    {next:Act→World→Prop} {Q:Exit→Act→World→Prop} (hn:∀a' M' w',Inv fi M' w' s' a'→Kp M w M' w'→a'.tmps.size=a.tmps.size→next a' w'):o.wp P a w next Q:=by
  have hlt':∀d,o.dst=some d→d<a.tmps.size:=fun d h=>hlt d (by rw[←hd];exact h)
  cases i with
  | call d q f xs=>
    obtain⟨dst,op,ty,pos,aft,gd⟩:=o
    cases op<;>simp[mOpC,mOp] at hm
    rename_i c
    obtain⟨callee,args,ats⟩:=c
    cases callee with
    | value y =>
      cases y<;>simp at hm
      rename_i F
      obtain⟨hf,hxs⟩:=hm
      simp only[opStep,Option.bind_eq_some_iff] at h
      obtain⟨vs,hvs,h⟩:=h
      unfold doCall at h
      split at h
      · rename_i hall
        simp only[List.all_eq_true] at hall
        obtain⟨e1,e2⟩:=j7o hI hxs hvs
        cases hc:cf f vs s.gh with
        |none=>simp[hc] at h
        | some rg=>
          obtain⟨r,gh'⟩:=rg
          simp only[hc] at h
          obtain⟨⟨fn,cd,hfn,hnm,hbd⟩,hok⟩:=hcf f vs s.gh r gh' F hc hall hf
          have hs':s'=⟨putO s.env d r,s.lh,gh'⟩:=by
            split at h
            · split at h
              · rename_i he;cases h;rw[he]
              · cases h
            · cases h;rfl
          subst hs'
          refine j94 (g:=true) (args:=args.toList.map a.eval) (vs:=vs) (F:=F) (r:=r) (gh':=gh') hI ?_ hok (by simpa using e1) (fun i p v hp hv=>?_) (by simp) hlt' ?_
          · have hcap:args.map a.eval=(List.map a.eval args.toList).toArray:=by apply Array.ext';simp
            have hev:a.eval (.func F)= .func (.func F) #[] #[]:=rfl
            simp[execOp,resolve,Deferred.ofValue,invoke,hev,hcap,j93 hfn hnm hbd]
          · simp only[List.getElem?_map,Option.map_eq_some_iff] at hv
            obtain⟨y,hy,rfl⟩:=hv
            refine (e2 i p y hp hy).repP ?_
            exact hall p (List.mem_of_getElem? hp)
          · rw[show dst=d from hd];exact hn
      · cases h
    |_=>simp at hm
  | callv d q fv xs=>
    obtain⟨dst,op,ty,pos,aft,gd⟩:=o
    cases op<;>simp[mOpC,mOp] at hm
    rename_i c
    obtain⟨callee,args,ats⟩:=c
    cases callee with
    | value y =>
      simp at hm
      obtain⟨hfv,hxs⟩:=hm
      simp only[opStep] at h
      split at h
      · rename_i f caps hcl
        simp only[Option.bind_eq_some_iff] at h
        obtain⟨vs,hvs,h⟩:=h
        obtain⟨F,us,hf,hv,hul,hcok,hur⟩:=(j6z hI hfv hcl).fnInv
        unfold doCall at h
        split at h
        · rename_i hall
          simp only[List.all_eq_true] at hall
          obtain⟨e1,e2⟩:=j7o hI hxs hvs
          cases hc:cf f (vs++caps) s.gh with
          |none=>simp[hc] at h
          | some rg=>
            obtain⟨r,gh'⟩:=rg
            simp only[hc] at h
            obtain⟨⟨fn,cd,hfn,hnm,hbd⟩,hok⟩:=hcf f (vs++caps) s.gh r gh' F hc hall hf
            have hs':s'=⟨putO s.env d r,s.lh,gh'⟩:=by
              split at h
              · split at h
                · rename_i he;cases h;rw[he]
                · cases h
              · cases h;rfl
            subst hs'
            have hvl:(args.toList.map a.eval).length=vs.length:=by simpa using e1
            refine j94 (g:=true) (args:=args.toList.map a.eval++us) (vs:=vs++caps) (F:=F) (r:=r) (gh':=gh') hI ?_ hok (by simp only[List.length_append];omega) (fun i p v hp hv=>?_) (by simp) hlt' ?_
            · have hcap:args.map a.eval=(List.map a.eval args.toList).toArray:=by apply Array.ext';simp
              simp[execOp,resolve,Deferred.ofValue,invoke,hv,hcap,j93 hfn hnm hbd]
            · by_cases hi:i<vs.length
              · rw[List.getElem?_append_left hi] at hp
                rw[List.getElem?_append_left (by omega)] at hv
                simp only[List.getElem?_map,Option.map_eq_some_iff] at hv
                obtain⟨y,hy,rfl⟩:=hv
                exact (e2 i p y hp hy).repP (hall p (List.mem_append_left _ (List.mem_of_getElem? hp)))
              · rw[List.getElem?_append_right (by omega)] at hp
                rw[List.getElem?_append_right (by omega),hvl] at hv
                exact hur _ p v hp hv
            · rw[show dst=d from hd];exact hn
        · cases h
      · rename_i f caps hcl
        simp only[Option.bind_eq_some_iff] at h
        obtain⟨vs,hvs,h⟩:=h
        obtain⟨F,us,hf,hv,hul,hcok,hur⟩:=(j6z hI hfv hcl).bfnInv
        unfold doCall at h
        split at h
        · rename_i hall
          simp only[List.all_eq_true] at hall
          obtain⟨e1,e2⟩:=j7o hI hxs hvs
          cases hc:cf f (caps++vs) s.gh with
          |none=>simp[hc] at h
          | some rg=>
            obtain⟨r,gh'⟩:=rg
            simp only[hc] at h
            obtain⟨⟨fn,cd,hfn,hnm,hbd⟩,hok⟩:=hcf f (caps++vs) s.gh r gh' F hc hall hf
            have hs':s'=⟨putO s.env d r,s.lh,gh'⟩:=by
              split at h
              · split at h
                · rename_i he;cases h;rw[he]
                · cases h
              · cases h;rfl
            subst hs'
            have hvl:(args.toList.map a.eval).length=vs.length:=by simpa using e1
            refine j94 (g:=true) (args:=us++args.toList.map a.eval) (vs:=caps++vs) (F:=F) (r:=r) (gh':=gh') hI ?_ hok (by simp only[List.length_append];omega) (fun i p v hp hv=>?_) (by simp) hlt' ?_
            · have hcap:args.map a.eval=(List.map a.eval args.toList).toArray:=by apply Array.ext';simp
              simp[execOp,resolve,Deferred.ofValue,invoke,hv,hcap,j93 hfn hnm hbd]
            · by_cases hi:i<caps.length
              · rw[List.getElem?_append_left hi] at hp
                rw[List.getElem?_append_left (by omega)] at hv
                exact hur _ p v hp hv
              · rw[List.getElem?_append_right (by omega)] at hp
                rw[List.getElem?_append_right (by omega),hul] at hv
                simp only[List.getElem?_map,Option.map_eq_some_iff] at hv
                obtain⟨y,hy,rfl⟩:=hv
                exact (e2 _ p y hp hy).repP (hall p (List.mem_append_right _ (List.mem_of_getElem? hp)))
            · rw[show dst=d from hd];exact hn
        · cases h
      · cases h
    |_=>simp at hm
  |callE=>simp[opStep] at h
  |callF=>simp[opStep] at h
  |callP=>simp[opStep] at h
  |callR=>simp[opStep] at h
  |appendE=>simp[opStep] at h
  |loadKB=>simp[opStep] at h
  |loadTB=>simp[opStep] at h
  |loadB=>simp[opStep] at h
  |loadJ=>simp[opStep] at h
  |appendP=>simp[opStep] at h
  |mkarr=>simp[opStep] at h
  |buildA=>simp[opStep] at h
  |boxSl=>simp[opStep] at h
  |loadN=>simp[opStep] at h
  |loadL=>simp[opStep] at h
  |mv=>exact (sim_mv ⟨hI,by simpa [mOpC] using hm,hd,hlt⟩ h).wp hn
  |tk=>exact (sim_tk ⟨hI,by simpa [mOpC] using hm,hd,hlt⟩ h).wp hn
  |pick=>exact (jdf ⟨hI,by simpa [mOpC] using hm,hd,hlt⟩ h).wp hn
  |box=>exact (jdg ⟨hI,by simpa [mOpC] using hm,hd,hlt⟩ h).wp hn
  |alloc=>exact (jdh ⟨hI,by simpa [mOpC] using hm,hd,hlt⟩ h).wp hn
  |build=>exact (je2 ⟨hI,by simpa [mOpC] using hm,hd,hlt⟩ h).wp hn
  |buildT=>exact (je4 ⟨hI,by simpa [mOpC] using hm,hd,hlt⟩ h).wp hn
  |buildSl=>exact (je5 ⟨hI,by simpa [mOpC] using hm,hd,hlt⟩ h).wp hn
  |load=>exact (jdi ⟨hI,by simpa [mOpC] using hm,hd,hlt⟩ h).wp hn
  |loadT=>exact (jdj ⟨hI,by simpa [mOpC] using hm,hd,hlt⟩ h).wp hn
  |store=>exact (jdk ⟨hI,by simpa [mOpC] using hm,hd,hlt⟩ h).wp hn
  |nilc=>exact (jdl ⟨hI,by simpa [mOpC] using hm,hd,hlt⟩ h).wp hn
  |bin=>exact (jdm ⟨hI,by simpa [mOpC] using hm,hd,hlt⟩ h).wp hn
  |eqa=>simp[opStep] at h
  |eqb=>exact (jdn ⟨hI,by simpa [mOpC] using hm,hd,hlt⟩ h).wp hn
  |eqn=>simp[opStep] at h
  |un=>exact (sim_un ⟨hI,by simpa [mOpC] using hm,hd,hlt⟩ h).wp hn
  |conv=>simp[opStep] at h
  |mkfn=>exact (jdo ⟨hI,by simpa [mOpC] using hm,hd,hlt⟩ h).wp hn
  |mkbf=>simp[opStep] at h
  |storeK=>simp[opStep] at h
  |clearK=>simp[opStep] at h
  |mkbld=>exact (jdq ⟨hI,by simpa [mOpC] using hm,hd,hlt⟩ h).wp hn
  |mkmap=>exact (jdp ⟨hI,by simpa [mOpC] using hm,hd,hlt⟩ h).wp hn
  |mksl=>simp[opStep] at h
  |slice=>exact (jdr ⟨hI,by simpa [mOpC] using hm,hd,hlt⟩ h).wp hn
  |sliceS=>simp[opStep] at h
  |faddr=>exact (jds ⟨hI,by simpa [mOpC] using hm,hd,hlt⟩ h).wp hn
  |field=>simp[opStep] at h
  |iaddr=>exact (jdt ⟨hI,by simpa [mOpC] using hm,hd,hlt⟩ h).wp hn
  |index=>simp[opStep] at h
  |indexS=>simp[opStep] at h
  |lookup=>simp[opStep] at h
  |mupd=>exact (jdu ⟨hI,by simpa [mOpC] using hm,hd,hlt⟩ h).wp hn
  |len=>exact (jdv ⟨hI,by simpa [mOpC] using hm,hd,hlt⟩ h).wp hn
  |append=>exact (jdw ⟨hI,by simpa [mOpC] using hm,hd,hlt⟩ h).wp hn
  |appendK=>simp[opStep] at h
  |appendN=>simp[opStep] at h
  |loadH=>simp[opStep] at h
  |loadK=>simp[opStep] at h
  |buildSlK=>simp[opStep] at h
  |maxi=>exact (jdy ⟨hI,by simpa [mOpC] using hm,hd,hlt⟩ h).wp hn
  |extract=>exact (jdx ⟨hI,by simpa [mOpC] using hm,hd,hlt⟩ h).wp hn
end
end Go.Lw
end

/-! Regions that are run as they stand. -/
section
namespace Go.Lw
open Go Go.RowKit
section
variable {fi:FI} {M M':Mem} {w w':World} {P:Program} {s s':St} {a:Act} {cf:CallF}
def mGuard (ops:Array Oper):Option (Nat×Bool)→Option (Nat×Bool)→Bool
 |none,none=>true
 |some (t,want),some (g,want')=>((ops[g]?).bind (·.dst)==some t)&&(want==want')
 |_,_=>false
def mOpG (P:Program) (fi:FI) (N:Nat) (ops:Array Oper) (i:IOpG) (o:Oper):Bool:=
 mOpC P fi i.op o.op&&(o.dst==opDst i.op)&&(match opDst i.op with|some d=>decide (d<N)|none=>true)&&mGuard ops i.guard o.guard
def mOps (P:Program) (fi:FI) (N:Nat) (ops:Array Oper):List IOpG→List Oper→Bool
 |[],[]=>true
 |i::is,o::os=>mOpG P fi N ops i o&&mOps P fi N ops is os
 |_,_=>false
theorem je9 {N:Nat} {ops:Array Oper} {i:IOpG} {o:Oper} (h:mOpG P fi N ops i o=true) :
  mOpC P fi i.op o.op=true∧o.dst=opDst i.op∧(∀d,opDst i.op=some d→d<N)∧mGuard ops i.guard o.guard=true:=by
 simp only[mOpG,Bool.and_eq_true,beq_iff_eq] at h
 obtain⟨⟨⟨h1,h2⟩,h3⟩,h4⟩:=h
 refine⟨h1,h2,fun d hd=>?_,h4⟩
 rw[hd] at h3
 simpa using h3
noncomputable def opG (cf:CallF) (i:IOpG) (s:St):Option St:=
 match i.guard with
 |none=>opStep cf s i.op
 |some (g,want)=>match get s.env g with
  |some (.bool b)=>if b=want then opStep cf s i.op else some (skipped s i.op)
  |some .und=>some (skipped s i.op)
  |_=>none
theorem j7u (i:IOpG) (l:List IOpG) (s:St):opsRun cf (i::l) s=(opG cf i s).bind (opsRun cf l):=by
 obtain⟨op,gd⟩:=i
 cases gd with
 |none=>rfl
 | some q=>
  obtain⟨g,want⟩:=q
  simp only[opsRun,opG]
  cases hg:get s.env g with
  |none=>rfl
  |some v=>
   cases v<;>simp only[Option.bind_none,Option.bind_some]
   split<;>simp
theorem jea (hI:Inv fi M w s a) {i:IOp} (hlt:∀d,opDst i=some d→d<a.tmps.size):Inv fi M w (skipped s i) (a.put (opDst i) undef):=by
 unfold skipped
 cases hd:opDst i with
 |none=>exact hI
 |some d=>exact hI.put (hlt d hd) (RepP.repE .und).repAt
theorem opG_wp (hcf:CfOk P fi cf) (hI:Inv fi M w s a) {N:Nat} {ops:Array Oper} {i:IOpG} {o:Oper} (hm:mOpG P fi N ops i o=true) (hN:N≤a.tmps.size) (h:opG cf i s=some s')
  {next:Act→World→Prop} {Q:Exit→Act→World→Prop} (hn:∀a' M' w',Inv fi M' w' s' a'→Kp M w M' w'→a'.tmps.size=a.tmps.size→next a' w') :
  if Region.wanted o (yielded ops a.tmps) then o.wp P a w next Q else next (a.put o.dst undef) w:=by
 obtain⟨h1,h2,h3,h4⟩:=je9 hm
 have hlt:∀d,opDst i.op=some d→d<a.tmps.size:=fun d hd=>Nat.lt_of_lt_of_le (h3 d hd) hN
 have hskip:next (a.put o.dst undef) w∨s'≠skipped s i.op:=by
  by_cases hs:s'=skipped s i.op
  ·left
   subst hs
   rw[h2]
   exact hn _ M w (jea hI hlt) (Kp.refl M w) (by cases opDst i.op<;>simp[Act.put])
  ·exact .inr hs
 unfold opG at h
 unfold Region.wanted
 cases hg:i.guard with
 |none=>
  rw[hg] at h h4
  cases hog:o.guard with
  |none=>simp only[if_true];exact op_wp hcf hI h1 h2 hlt h hn
  |some q=>rw[hog] at h4;simp[mGuard] at h4
 | some q=>
  obtain⟨g,want⟩:=q
  rw[hg] at h h4
  cases hog:o.guard with
  |none=>rw[hog] at h4;simp[mGuard] at h4
  | some q'=>
   obtain⟨j,want'⟩:=q'
   rw[hog] at h4
   simp only[mGuard,Bool.and_eq_true,beq_iff_eq] at h4
   obtain⟨hdj,rfl⟩:=h4
   simp only at h
   have hy:∀v,get s.env g=some v→yielded ops a.tmps j=(match a.tmps.getD g undef with| .bool b=>some b|_=>none):=by
    intro v hv
    have hlt:=(hI.env g v hv).1
    simp only[yielded,hdj,Option.bind_some]
    simp only[Array.getD_eq_getD_getElem?,Array.getElem?_eq_getElem hlt,Option.getD_some]
    split<;>split<;>simp_all
   split at h
   ·rename_i b hb
    have hv:a.tmps.getD g undef= .bool b:=RepE.bool (hI.env g _ hb).2
    simp only[hy _ hb,hv]
    split at h
    ·rename_i hbw
     subst hbw
     simp only[beq_self_eq_true,if_true]
     exact op_wp hcf hI h1 h2 hlt h hn
    ·rename_i hbw
     cases h
     rw[if_neg (by simpa using hbw)]
     exact hskip.resolve_right (by simp)
   ·rename_i hb
    cases h
    have hv:a.tmps.getD g undef=undef:=by
     have:=(hI.env g _ hb).2
     generalize a.tmps.getD g undef=u at this
     cases (show RepP fi M w .und u from this);rfl
    simp only[hy _ hb,hv]
    rw[if_neg (by simp[undef])]
    exact hskip.resolve_right (by simp)
   ·cases h
theorem ops_wp (hcf:CfOk P fi cf) {N:Nat} {ops:Array Oper} {Q:Exit→Act→World→Prop}:∀{is:List IOpG} {os:List Oper} {M:Mem} {w:World} {s:St} {a:Act},mOps P fi N ops is os=true→Inv fi M w s a→N≤a.tmps.size→opsRun cf is s=some s'→
  (∀a' M' w',Inv fi M' w' s' a'→Kp M w M' w'→a'.tmps.size=a.tmps.size→Q .normal a' w')→wpList P ops Q os a w
 |[],[],M,w,s,a,_,hI,_,h,hn=>by
  simp[opsRun] at h;subst h
  exact hn a M w hI (Kp.refl M w) rfl
 |[],_::_,_,_,_,_,hm,_,_,_,_=>by simp[mOps] at hm
 |_::_,[],_,_,_,_,hm,_,_,_,_=>by simp[mOps] at hm
 | i::is,o::os,M,w,s,a,hm,hI,hN,h,hn=>by
  simp only[mOps,Bool.and_eq_true] at hm
  rw[j7u,Option.bind_eq_some_iff] at h
  obtain⟨s1,h1,h2⟩:=h
  have:=opG_wp (Q:=Q) (next:=wpList P ops Q os) hcf hI hm.1 hN h1 (fun a' M' w' hI' hk hs=>
   ops_wp hcf hm.2 hI' (by omega) h2 (fun a2 M2 w2 hI2 hk2 hs2=>hn a2 M2 w2 hI2 (hk.trans hk2) (hs2.trans hs)))
  unfold wpList
  split
  ·rename_i hw;rw[if_pos hw] at this;exact .inl this
  ·rename_i hw;rw[if_neg hw] at this;exact this
end
end Go.Lw
end

/-! What an operation looks at and what it changes: two that do not meet may change places. -/
section
namespace Go.Lw
open Go Go.RowKit
def rdX:IX→List Nat
 | .t n=>[n]
 |_=>[]
def rdXs (xs:List IX):List Nat:=xs.flatMap rdX
def rdO:Option IX→List Nat
 |some x=>rdX x
 |none=>[]
def rdPs (ps:List (Nat×Nat×IX)):List Nat:=ps.flatMap fun p=>rdX p.2.2
def rd:IOp→List Nat
 | .mv _ x| .clearK x| .box _ _ _ x| .load _ _ _ x| .loadK _ x| .loadH _ x| .loadT _ x| .loadL _ x| .nilc _ x| .eqn _ _ x| .un _ _ x| .conv _ _ x| .faddr _ x _| .field _ _ _ _ x| .len _ _ x| .extract _ x _| .mksl _ _ _ _ _ x| .mkarr _ _ _ _ x| .loadJ _ _ _ x=>rdX x
 | .tk _ n=>[n]
 | .pick _ c x y=>rdX c++(rdX x++rdX y)
 | .alloc _ _ _| .mkmap _| .mkbld _=>[]
 | .build _ _ ps| .buildT _ _ ps| .buildA _ _ ps=>rdPs ps
 | .buildSl _ _ xs| .boxSl _ _ xs| .buildSlK _ xs| .mkfn _ _ xs| .mkbf _ _ xs| .maxi _ xs| .call _ _ _ xs| .callF _ _ xs=>rdXs xs
 | .store _ _ x y| .bin _ _ x y| .eqa _ _ _ x y| .eqb _ _ x y| .iaddr _ _ _ x y| .index _ _ _ _ x y| .indexS _ x y| .lookup _ _ x y _ _| .append _ _ _ x y| .appendN _ _ x y| .appendK _ _ x y| .appendE _ _ x y| .storeK x y=>rdX x++rdX y
 | .slice _ _ x lo hi| .sliceS _ x lo hi=>rdX x++(rdO lo++rdO hi)
 | .mupd _ m k x=>rdX m++(rdX k++rdX x)
 | .callv _ _ f xs| .callE _ f xs=>rdX f++rdXs xs
 | .loadN _ _ _ x n| .loadB _ _ _ x n| .loadKB _ x n| .loadTB _ x n _=>n::rdX x
 | .callP _ _ xs ns=>ns++rdXs xs
 | .callR _ _ xs n _=>n::rdXs xs
 | .appendP _ _ x y ns=>ns++(rdX x++rdX y)
def wr (i:IOp):List Nat:=
 (opDst i).toList++match i with
  | .tk _ n=>[n]
  | .box _ _ true x| .store true _ _ x| .append _ _ _ x _| .appendE _ _ x _=>rdX x
  | .buildT _ _ ps| .buildA _ _ ps=>rdPs ps
  |_=>[]
def cls:IOp→Nat
 | .box _ false _ _| .alloc _ false _=>3
 | .box _ true _ _| .alloc _ true _| .mksl _ true _ _ _ _=>5
 | .mkmap _| .mkbld _| .buildSlK _ _=>4
 | .load _ _ _ _| .loadN _ _ _ _ _| .loadB _ _ _ _ _| .loadJ _ _ _ _| .lookup _ _ _ _ _ _| .callE _ _ _=>2
 | .len _ kd _=>if kd=2 then 2 else 0
 | .loadK _ _| .loadKB _ _ _| .appendE _ _ _ _=>1
 | .callP _ _ _ _| .callR _ _ _ _ _| .buildA _ _ _| .boxSl _ _ _=>5
 | .call _ q _ _| .callv _ q _ _=>if q then 1 else 5
 | .loadL _ _=>6
 | .loadH _ _=>8
 | .loadT _ _| .loadTB _ _ _ _| .appendK _ _ _ _=>7
 | .appendN _ _ _ _| .appendP _ _ _ _ _=>9
 | .store _ _ _ _| .mupd _ _ _ _| .storeK _ _| .clearK _=>5
 |_=>0
def GObj.deg:GObj→GObj
 | .cells cs=> .cells (cs.map degr1)
 | .map es=> .map es
 | .stk _ _=> .stk 0 []
 | .bld s=> .bld s
def HOk (c:Nat) (s s2:St):Prop:=
 match c with
 |0=>True
 |1=>s2.gh=s.gh
 |2=>(∀(b:Nat) (cs:List PV),s.lh[b]?=some cs→∃cs2,s2.lh[b]?=some cs2∧cs2.map degr1=cs.map degr1)∧∀(b:Nat) (o:GObj),s.gh[b]?=some o→∃o2,s2.gh[b]?=some o2∧o2.deg=o.deg
 |8=>s2.lh=s.lh
 |_=>s2.lh=s.lh∧s2.gh=s.gh
def HRes (c:Nat) (s s' s2 s2':St):Prop:=
 match c with
 |0|1|2|8=>s'.lh=s.lh∧s'.gh=s.gh∧s2'.lh=s2.lh∧s2'.gh=s2.gh
 |3=>(∃cs,s'.lh=s.lh++[cs])∧s'.gh=s.gh∧s2'.lh=s'.lh∧s2'.gh=s'.gh
 |4=>s'.lh=s.lh∧(∃o,s'.gh=s.gh++[o])∧s2'.lh=s'.lh∧s2'.gh=s'.gh
 |6=>s'.lh.map (List.map degr1)=s.lh.map (List.map degr1)∧s'.gh=s.gh∧s2'.lh=s'.lh∧s2'.gh=s'.gh
 |7=>s'.lh.map (List.map degr1)=s.lh.map (List.map degr1)∧s'.gh.map GObj.deg=s.gh.map GObj.deg∧s2'.lh=s'.lh∧s2'.gh=s'.gh
 |9=>s'.lh=s.lh∧(∀(b:Nat) (o:GObj),s.gh[b]?=some o→∃o2,s'.gh[b]?=some o2∧o2.deg=o.deg)∧s2'.lh=s'.lh∧s2'.gh=s'.gh
 |_=>s2'.lh=s'.lh∧s2'.gh=s'.gh
section
variable {s s' s2:St} {cf:CallF}
theorem j7a {e e2:List (Nat×PV)} {x:IX} (h:∀t∈rdX x,get e2 t=get e t):evalX e2 x=evalX e x:=by
 cases x<;>simp[evalX]
 rw[h _ (by simp[rdX])]
theorem jeb {e e2:List (Nat×PV)} {x:IX} (h:∀t∈rdX x,get e2 t=get e t):evalK e2 x=evalK e x:=by
 cases x<;>simp[evalK]
 rw[h _ (by simp[rdX])]
theorem j7v {e e2:List (Nat×PV)}:∀{xs:List IX},(∀t∈rdXs xs,get e2 t=get e t)→evalXs e2 xs=evalXs e xs
 |[],_=>rfl
 |x::l,h=>by
  simp only[rdXs,List.flatMap_cons,List.mem_append] at h
  simp only[evalXs]
  rw[j7a (fun t ht=>h t (.inl ht)),j7v (xs:=l) (fun t ht=>h t (.inr ht))]
theorem jad {e e2:List (Nat×PV)}:∀{ps:List (Nat×Nat×IX)},(∀t∈rdPs ps,get e2 t=get e t)→evalPs e2 ps=evalPs e ps
 |[],_=>rfl
 |(o,k,x)::l,h=>by
  simp only[rdPs,List.flatMap_cons,List.mem_append] at h
  simp only[evalPs]
  rw[j7a (fun t ht=>h t (.inl ht)),jad (ps:=l) (fun t ht=>h t (.inr ht))]
theorem jae {e e2:List (Nat×PV)} {d:Nat} {x:Option IX} (h:∀t∈rdO x,get e2 t=get e t):sliceBd e2 d x=sliceBd e d x:=by
 cases x with
 |none=>rfl
 |some x=>simp only[sliceBd];rw[j7a h]
def EnvR (W:List Nat) (e' e2 e2':List (Nat×PV)):Prop:=∀t,get e2' t=if t∈W then get e' t else get e2 t
theorem EnvR.put {e e2:List (Nat×PV)} {d:Nat} {v:PV} {W:List Nat} (h:∀t,t∈W↔t=d):EnvR W (put e d v) e2 (put e2 d v):=by
 intro t
 rw[j7m,j7m]
 by_cases hd:d=t
 ·subst hd;simp[(h d).2 rfl]
 ·have:t∉W:=fun hw=>hd ((h t).1 hw).symm
  simp[hd,this]
theorem EnvR.refl {e' e2:List (Nat×PV)} {W:List Nat} (h:∀t,t∉W):EnvR W e' e2 e2:=fun t=>by simp[h t]
theorem j87 {e e2 e':List (Nat×PV)} {x:IX} {v:PV} (h:∀t∈rdX x,get e2 t=get e t) (ht:takeX e x=some (v,e')) :
  ∃e2',takeX e2 x=some (v,e2')∧EnvR (rdX x) e' e2 e2':=by
 cases x with
 |t n=>
  simp only[takeX,Option.map_eq_some_iff,Prod.mk.injEq] at ht ⊢
  obtain⟨v',hv,rfl,rfl⟩:=ht
  rw[h n (by simp[rdX])]
  exact⟨_,⟨v',hv,rfl,rfl⟩,EnvR.put (by simp[rdX])⟩
 |c p=>
  simp only[takeX,Option.some.injEq,Prod.mk.injEq] at ht ⊢
  obtain⟨rfl,rfl⟩:=ht
  exact⟨_,⟨rfl,rfl⟩,EnvR.refl (by simp[rdX])⟩
 |f id=>
  simp only[takeX,Option.some.injEq,Prod.mk.injEq] at ht ⊢
  obtain⟨rfl,rfl⟩:=ht
  exact⟨_,⟨rfl,rfl⟩,EnvR.refl (by simp[rdX])⟩
theorem EnvR.trans {W W2:List Nat} {e' e2 e2' e'' e2'':List (Nat×PV)} (h:EnvR W e' e2 e2') (h2:EnvR W2 e'' e2' e2'') (hf:∀t,t∉W2→get e'' t=get e' t):EnvR (W++W2) e'' e2 e2'':=by
 intro t
 rw[h2 t,h t]
 simp only[List.mem_append]
 by_cases hw2:t∈W2
 ·simp[hw2]
 ·by_cases hw:t∈W
  ·simp[hw,hw2,hf t hw2]
  ·simp[hw,hw2]
theorem jaf:∀{ps:List (Nat×Nat×IX)} {e e2 e':List (Nat×PV)} {vs:List (Nat×Nat×PV)},(∀t∈rdPs ps,get e2 t=get e t)→takePs e ps=some (vs,e')→
  ∃e2',takePs e2 ps=some (vs,e2')∧EnvR (rdPs ps) e' e2 e2'∧∀t,t∉rdPs ps→get e' t=get e t
 |[],e,e2,e',vs,_,ht=>by
  simp only[takePs,Option.some.injEq,Prod.mk.injEq] at ht ⊢
  obtain⟨rfl,rfl⟩:=ht
  exact⟨_,⟨rfl,rfl⟩,EnvR.refl (by simp[rdPs]),fun _ _=>rfl⟩
 | (o,k,x)::l,e,e2,e',vs,h,ht=>by
  simp only[rdPs,List.flatMap_cons,List.mem_append] at h
  simp only[takePs,Option.bind_eq_some_iff,Option.map_eq_some_iff,Prod.exists,Prod.mk.injEq] at ht ⊢
  obtain⟨v,e1,h1,vs',e'',h2,rfl,rfl⟩:=ht
  obtain⟨e3,t1,t2⟩:=j87 (e2:=e2) (fun t ht=>h t (.inl ht)) h1
  obtain⟨e5,u1,u2⟩:=j87 (e2:=e) (fun t ht=>rfl) h1
  rw[h1] at u1
  simp only[Option.some.injEq,Prod.mk.injEq,true_and] at u1
  subst u1
  obtain⟨e4,t3,t4,t5⟩:=jaf (ps:=l) (e2:=e3) (fun t ht=>by
   rw[t2 t]
   split
   ·rfl
   ·rename_i hx
    rw[u2 t,if_neg hx]
    exact h t (.inr ht)) h2
  refine⟨e4,⟨v,e3,t1,vs',e4,t3,rfl,rfl⟩,?_,fun t ht=>?_⟩
  ·simp only[rdPs,List.flatMap_cons]
   exact t2.trans t4 t5
  ·simp only[rdPs,List.flatMap_cons,List.mem_append,not_or] at ht
   rw[t5 t ht.2,u2 t,if_neg ht.1]
end
end Go.Lw
end

/-! An operation that looks at no box: what it does elsewhere. Written by program. -/
section
namespace Go.Lw
open Go Go.RowKit
section
variable {s s' s2:St} {cf:CallF}
def Fills (cf:CallF) (i:IOp) (d:Nat):Prop:=
 ∀s s2:St,(∀t∈rd i,get s2.env t=get s.env t)→∀s',opStep cf s i=some s'→∃v,s'=s.put d v∧opStep cf s2 i=some (s2.put d v)
theorem fills_mv {d x}:Fills cf (.mv d x) d:=by
 intro s s2 ha s' h
 have h1:evalK s2.env x=evalK s.env x:=jeb (fun t ht=>ha t (by simp[rd,ht]))
 simp only[opStep,h1] at h ⊢
 simp only[Option.map_eq_some_iff] at h ⊢
 obtain⟨v,hv,rfl⟩:=h
 exact⟨v,rfl,v,hv,rfl⟩
theorem fills_pick {d c x y}:Fills cf (.pick d c x y) d:=by
 intro s s2 ha s' h
 have h1:evalX s2.env c=evalX s.env c:=j7a (fun t ht=>ha t (by simp[rd,ht]))
 have h2:evalX s2.env x=evalX s.env x:=j7a (fun t ht=>ha t (by simp[rd,ht]))
 have h3:evalX s2.env y=evalX s.env y:=j7a (fun t ht=>ha t (by simp[rd,ht]))
 simp only[opStep,h1,h2,h3] at h ⊢
 repeat' split at h
 all_goals first
  |(cases h;done)
  |(cases h;exact⟨_,rfl,by simp[*]⟩)
  |(simp only[Option.map_eq_some_iff] at h;obtain⟨v,hv,rfl⟩:=h;exact⟨_,rfl,by simp[*]⟩)
  | (simp only[Option.bind_eq_some_iff] at h;obtain⟨p,hp,q,hq,h⟩:=h;split at h
     ·rename_i hc;cases h;exact⟨_,rfl,by simp[*]⟩
     ·cases h)
theorem fills_build {d z ps}:Fills cf (.build d z ps) d:=by
 intro s s2 ha s' h
 have h1:evalPs s2.env ps=evalPs s.env ps:=jad (fun t ht=>ha t (by simp[rd,ht]))
 simp only[opStep,h1] at h ⊢
 simp only[Option.bind_eq_some_iff] at h ⊢
 obtain⟨p,hp,h⟩:=h
 split at h
 ·rename_i hc
  simp only[Option.map_eq_some_iff] at h
  obtain⟨v,hv,rfl⟩:=h
  exact⟨_,rfl,p,hp,by rw[if_pos hc,hv];rfl⟩
 ·cases h
theorem fills_buildSl {d z els}:Fills cf (.buildSl d z els) d:=by
 intro s s2 ha s' h
 have h1:evalXs s2.env els=evalXs s.env els:=j7v (fun t ht=>ha t (by simp[rd,ht]))
 simp only[opStep,h1] at h ⊢
 simp only[Option.bind_eq_some_iff] at h ⊢
 obtain⟨p,hp,h⟩:=h
 split at h
 ·rename_i hc;cases h;exact⟨_,rfl,p,hp,by rw[if_pos hc]⟩
 ·cases h
theorem fills_nilc {d x}:Fills cf (.nilc d x) d:=by
 intro s s2 ha s' h
 have h1:evalX s2.env x=evalX s.env x:=j7a (fun t ht=>ha t (by simp[rd,ht]))
 simp only[opStep,h1] at h ⊢
 repeat' split at h
 all_goals first
  |(cases h;done)
  |(cases h;exact⟨_,rfl,by simp[*]⟩)
  |(simp only[Option.map_eq_some_iff] at h;obtain⟨v,hv,rfl⟩:=h;exact⟨_,rfl,by simp[*]⟩)
  | (simp only[Option.bind_eq_some_iff] at h;obtain⟨p,hp,q,hq,h⟩:=h;split at h
     ·rename_i hc;cases h;exact⟨_,rfl,by simp[*]⟩
     ·cases h)
theorem fills_bin {d op x y}:Fills cf (.bin d op x y) d:=by
 intro s s2 ha s' h
 have h1:evalX s2.env x=evalX s.env x:=j7a (fun t ht=>ha t (by simp[rd,ht]))
 have h2:evalX s2.env y=evalX s.env y:=j7a (fun t ht=>ha t (by simp[rd,ht]))
 simp only[opStep,h1,h2] at h ⊢
 simp only[Option.bind_eq_some_iff,Option.map_eq_some_iff] at h ⊢
 obtain⟨p,hp,q,hq,v,hv,rfl⟩:=h
 exact⟨v,rfl,p,hp,q,hq,v,hv,rfl⟩
theorem fills_eqb {d neg x y}:Fills cf (.eqb d neg x y) d:=by
 intro s s2 ha s' h
 have h1:evalX s2.env x=evalX s.env x:=j7a (fun t ht=>ha t (by simp[rd,ht]))
 have h2:evalX s2.env y=evalX s.env y:=j7a (fun t ht=>ha t (by simp[rd,ht]))
 simp only[opStep,h1,h2] at h ⊢
 repeat' split at h
 all_goals first
  |(cases h;done)
  |(cases h;exact⟨_,rfl,by simp[*]⟩)
  |(simp only[Option.map_eq_some_iff] at h;obtain⟨v,hv,rfl⟩:=h;exact⟨_,rfl,by simp[*]⟩)
  | (simp only[Option.bind_eq_some_iff] at h;obtain⟨p,hp,q,hq,h⟩:=h;split at h
     ·rename_i hc;cases h;exact⟨_,rfl,by simp[*]⟩
     ·cases h)
theorem fills_un {d op x}:Fills cf (.un d op x) d:=by
 intro s s2 ha s' h
 have h1:evalX s2.env x=evalX s.env x:=j7a (fun t ht=>ha t (by simp[rd,ht]))
 simp only[opStep,h1] at h ⊢
 simp only[Option.bind_eq_some_iff,Option.map_eq_some_iff] at h ⊢
 obtain⟨p,hp,v,hv,rfl⟩:=h
 exact⟨v,rfl,p,hp,v,hv,rfl⟩
theorem fills_mkfn {d f caps}:Fills cf (.mkfn d f caps) d:=by
 intro s s2 ha s' h
 have h1:evalXs s2.env caps=evalXs s.env caps:=j7v (fun t ht=>ha t (by simp[rd,ht]))
 simp only[opStep,h1] at h ⊢
 simp only[Option.bind_eq_some_iff] at h ⊢
 obtain⟨p,hp,h⟩:=h
 split at h
 ·rename_i hc;cases h;exact⟨_,rfl,p,hp,by rw[if_pos hc]⟩
 ·cases h
theorem fills_slice {d z x lo hi}:Fills cf (.slice d z x lo hi) d:=by
 intro s s2 ha s' h
 have h1:evalX s2.env x=evalX s.env x:=j7a (fun t ht=>ha t (by simp[rd,ht]))
 have h2:∀n,sliceBd s2.env n lo=sliceBd s.env n lo:=fun n=>jae (fun t ht=>ha t (by simp[rd,ht]))
 have h3:∀n,sliceBd s2.env n hi=sliceBd s.env n hi:=fun n=>jae (fun t ht=>ha t (by simp[rd,ht]))
 simp only[opStep,h1,h2,h3] at h ⊢
 repeat' split at h
 all_goals first
  |(cases h;done)
  |(cases h;exact⟨_,rfl,by simp[*]⟩)
  |(simp only[Option.map_eq_some_iff] at h;obtain⟨v,hv,rfl⟩:=h;exact⟨_,rfl,by simp[*]⟩)
  | (simp only[Option.bind_eq_some_iff] at h;obtain⟨p,hp,q,hq,h⟩:=h;split at h
     ·rename_i hc;cases h;exact⟨_,rfl,by simp[*]⟩
     ·cases h)
  | (simp only[Option.bind_eq_some_iff] at h;obtain⟨p,hp,h⟩:=h;split at h
     ·rename_i hc;cases h;exact⟨_,rfl,by simp[*]⟩
     ·cases h)
theorem fills_faddr {d x off}:Fills cf (.faddr d x off) d:=by
 intro s s2 ha s' h
 have h1:evalX s2.env x=evalX s.env x:=j7a (fun t ht=>ha t (by simp[rd,ht]))
 simp only[opStep,h1] at h ⊢
 repeat' split at h
 all_goals first
  |(cases h;done)
  |(cases h;exact⟨_,rfl,by simp[*]⟩)
  |(simp only[Option.map_eq_some_iff] at h;obtain⟨v,hv,rfl⟩:=h;exact⟨_,rfl,by simp[*]⟩)
  | (simp only[Option.bind_eq_some_iff] at h;obtain⟨p,hp,q,hq,h⟩:=h;split at h
     ·rename_i hc;cases h;exact⟨_,rfl,by simp[*]⟩
     ·cases h)
theorem fills_iaddr {d z arr x i}:Fills cf (.iaddr d z arr x i) d:=by
 intro s s2 ha s' h
 have h1:evalX s2.env x=evalX s.env x:=j7a (fun t ht=>ha t (by simp[rd,ht]))
 have h2:evalX s2.env i=evalX s.env i:=j7a (fun t ht=>ha t (by simp[rd,ht]))
 simp only[opStep,h1,h2] at h ⊢
 repeat' split at h
 all_goals first
  |(cases h;done)
  |(cases h;exact⟨_,rfl,by simp[*]⟩)
  |(simp only[Option.map_eq_some_iff] at h;obtain⟨v,hv,rfl⟩:=h;exact⟨_,rfl,by simp[*]⟩)
  | (simp only[Option.bind_eq_some_iff] at h;obtain⟨p,hp,q,hq,h⟩:=h;split at h
     ·rename_i hc;cases h;exact⟨_,rfl,by simp[*]⟩
     ·cases h)
theorem fills_maxi {d xs}:Fills cf (.maxi d xs) d:=by
 intro s s2 ha s' h
 have h1:evalXs s2.env xs=evalXs s.env xs:=j7v (fun t ht=>ha t (by simp[rd,ht]))
 simp only[opStep,h1] at h ⊢
 simp only[Option.bind_eq_some_iff,Option.map_eq_some_iff] at h ⊢
 obtain⟨p,hp,v,hv,rfl⟩:=h
 exact⟨v,rfl,p,hp,v,hv,rfl⟩
theorem fills_extract {d x i}:Fills cf (.extract d x i) d:=by
 intro s s2 ha s' h
 have h1:evalX s2.env x=evalX s.env x:=j7a (fun t ht=>ha t (by simp[rd,ht]))
 simp only[opStep,h1] at h ⊢
 repeat' split at h
 all_goals first
  |(cases h;done)
  |(cases h;exact⟨_,rfl,by simp[*]⟩)
  |(simp only[Option.map_eq_some_iff] at h;obtain⟨v,hv,rfl⟩:=h;exact⟨_,rfl,by simp[*]⟩)
  | (simp only[Option.bind_eq_some_iff] at h;obtain⟨p,hp,q,hq,h⟩:=h;split at h
     ·rename_i hc;cases h;exact⟨_,rfl,by simp[*]⟩
     ·cases h)
end
end Go.Lw
end

/-! What any operation does elsewhere, where what it looks at is the same. -/
section
namespace Go.Lw
open Go Go.RowKit
section
variable {s s' s2:St} {cf:CallF}
def Local (cf:CallF) (i:IOp):Prop:=
 ∀s s2:St,(∀t∈rd i,get s2.env t=get s.env t)→HOk (cls i) s s2→∀s',opStep cf s i=some s'→
  ∃s2',opStep cf s2 i=some s2'∧EnvR (wr i) s'.env s2.env s2'.env∧HRes (cls i) s s' s2 s2'
theorem EnvR.congr {W W2:List Nat} {e' e2 e2':List (Nat×PV)} (h:EnvR W e' e2 e2') (hw:∀t,t∈W↔t∈W2):EnvR W2 e' e2 e2':=fun t=>by
 rw[h t]
 by_cases ht:t∈W
 ·simp[ht,(hw t).1 ht]
 ·have:t∉W2:=fun h2=>ht ((hw t).2 h2)
  simp[ht,this]
theorem EnvR.put1 {e e2:List (Nat×PV)} (d:Nat) (v:PV):EnvR [d] (Lw.put e d v) e2 (Lw.put e2 d v):=EnvR.put (by simp)
theorem EnvR.thenPut {W:List Nat} {e' e2 e2':List (Nat×PV)} (h:EnvR W e' e2 e2') (d:Nat) (v:PV):EnvR (W++[d]) (Lw.put e' d v) e2 (Lw.put e2' d v):=
 h.trans (EnvR.put1 d v) (fun t ht=>by rw[j7m];simp at ht;simp[Ne.symm ht])
theorem Fills.local {i:IOp} {d:Nat} (h:Fills cf i d) (hc:cls i=0) (hw:wr i=[d]):Local cf i:=by
 intro s s2 ha _ s' hs
 obtain⟨v,rfl,h2⟩:=h s s2 ha s' hs
 refine⟨_,h2,by rw[hw];exact EnvR.put1 d v,?_⟩
 rw[hc];exact⟨rfl,rfl,rfl,rfl⟩
theorem jec {d n:Nat}:Local cf (.tk d n):=by
 intro s s2 ha _ s' h
 simp only[opStep,Option.map_eq_some_iff] at h ⊢
 obtain⟨v,hv,rfl⟩:=h
 refine⟨_,⟨v,by rw[ha n (by simp[rd])];exact hv,rfl⟩,?_,rfl,rfl,rfl,rfl⟩
 exact ((EnvR.put1 (e:=s.env) (e2:=s2.env) n (degr v)).thenPut d v).congr (fun t=>by simp[wr,opDst];exact or_comm)
theorem jed {d:Nat} {g tk:Bool} {x:IX}:Local cf (.box d g tk x):=by
 intro s s2 ha hh s' h
 obtain⟨e2,l2,g2⟩:=s2
 have hh':l2=s.lh∧g2=s.gh:=by cases g<;>exact hh
 obtain⟨rfl,rfl⟩:=hh'
 simp only[opStep] at h ⊢
 split at h
 ·rename_i htk
  subst htk
  simp only[Option.bind_eq_some_iff,Prod.exists] at h
  obtain⟨v,e1,hv,h⟩:=h
  split at h
  ·rename_i hok
   cases h
   obtain⟨e3,t1,t2⟩:=j87 (e2:=e2) (fun t ht=>ha t (by simp[rd,ht])) hv
   refine⟨putNew ⟨e3,s.lh,s.gh⟩ d g v.cells,by simp[t1,hok],?_,?_⟩
   ·cases g
    ·exact (t2.thenPut d _).congr (fun t=>by simp[wr,opDst];exact or_comm)
    ·exact (t2.thenPut d _).congr (fun t=>by simp[wr,opDst];exact or_comm)
   ·cases g
    ·exact⟨⟨v.cells,rfl⟩,rfl,rfl,rfl⟩
    ·exact⟨rfl,rfl⟩
  ·cases h
 ·rename_i htk
  simp only[Bool.not_eq_true] at htk
  subst htk
  simp only[Option.bind_eq_some_iff] at h
  obtain⟨v,hv,h⟩:=h
  split at h
  ·rename_i hok
   cases h
   have h1:evalX e2 x=some v:=by rw[←hv];exact j7a (fun t ht=>ha t (by simp[rd,ht]))
   refine⟨putNew ⟨e2,s.lh,s.gh⟩ d g v.cells,by simp[h1,hok],?_,?_⟩
   ·cases g
    ·exact (EnvR.put1 d _).congr (fun t=>by simp[wr,opDst])
    ·exact (EnvR.put1 d _).congr (fun t=>by simp[wr,opDst])
   ·cases g
    ·exact⟨⟨v.cells,rfl⟩,rfl,rfl,rfl⟩
    ·exact⟨rfl,rfl⟩
  ·cases h
theorem jee {d:Nat} {g:Bool} {z:PV}:Local cf (.alloc d g z):=by
 intro s s2 ha hh s' h
 obtain⟨e2,l2,g2⟩:=s2
 have hh':l2=s.lh∧g2=s.gh:=by cases g<;>exact hh
 obtain⟨rfl,rfl⟩:=hh'
 simp only[opStep] at h ⊢
 split at h
 ·rename_i hok
  cases h
  refine⟨putNew ⟨e2,s.lh,s.gh⟩ d g z.cells,by rw[if_pos hok],?_,?_⟩
  ·cases g
   ·exact (EnvR.put1 d _).congr (fun t=>by simp[wr,opDst])
   ·exact (EnvR.put1 d _).congr (fun t=>by simp[wr,opDst])
  ·cases g
   ·exact⟨⟨z.cells,rfl⟩,rfl,rfl,rfl⟩
   ·exact⟨rfl,rfl⟩
 ·cases h
theorem jef {d:Nat} {z:List PV} {ps:List (Nat×Nat×IX)}:Local cf (.buildT d z ps):=by
 intro s s2 ha _ s' h
 simp only[opStep,Option.bind_eq_some_iff,Prod.exists] at h
 obtain⟨vs,e1,hv,h⟩:=h
 split at h
 ·rename_i hc
  simp only[Option.map_eq_some_iff] at h
  obtain⟨cs,hcs,rfl⟩:=h
  obtain⟨e3,t1,t2,_⟩:=jaf (e2:=s2.env) (fun t ht=>ha t (by simp[rd,ht])) hv
  refine⟨⟨Lw.put e3 d (.agg cs),s2.lh,s2.gh⟩,?_,?_,rfl,rfl,rfl,rfl⟩
  ·simp only[opStep,t1,Option.bind_some]
   rw[if_pos hc,hcs];rfl
  ·exact (t2.thenPut d _).congr (fun t=>by simp[wr,opDst];exact or_comm)
 ·cases h
theorem jeg {g:Bool} {b:Nat} {cs:List PV} (hh:HOk 2 s s2) (h:s.cellsAt g b=some cs):∃cs2,s2.cellsAt g b=some cs2∧cs2.map degr1=cs.map degr1:=by
 unfold St.cellsAt at *
 split at h
 ·rename_i hg
  simp only[hg,if_true]
  split at h
  ·rename_i cs' hc
   cases h
   obtain⟨o2,h1,h2⟩:=hh.2 b _ hc
   cases o2 with
   |cells cs2=>
    simp only[GObj.deg,GObj.cells.injEq] at h2
    exact⟨cs2,by rw[h1],h2⟩
   |map es=>simp[GObj.deg] at h2
   |stk g xs=>simp[GObj.deg] at h2
   |bld t=>simp[GObj.deg] at h2
  ·cases h
 ·rename_i hg
  simp only[hg,Bool.false_eq_true,if_false]
  exact hh.1 b cs h
theorem jeh {b:Nat} {es:List (PV×PV)} (hh:HOk 2 s s2) (h:s.gh[b]?=some (.map es)):s2.gh[b]?=some (.map es):=by
 obtain⟨o2,h1,h2⟩:=hh.2 b _ h
 cases o2 with
 |cells cs=>simp[GObj.deg] at h2
 |map es2=>simp only[GObj.deg,GObj.map.injEq] at h2;rw[h1,h2]
 |stk g xs=>simp[GObj.deg] at h2
 |bld t=>simp[GObj.deg] at h2
theorem jag (v:PV):degr (degr1 v)=degr v:=by cases v<;>rfl
theorem jei {agg:Bool} {k off:Nat} {cs cs2:List PV} {v:PV} (he:cs2.map degr1=cs.map degr1) (h:grab agg k off cs=some v):∃v2,grab agg k off cs2=some v2∧degr v2=degr v:=by
 have hl:cs2.length=cs.length:=by rw[←List.length_map (f:=degr1) (as:=cs2),he,List.length_map]
 unfold grab at h ⊢
 cases agg with
 | true=>
  simp only[if_true] at h ⊢
  split at h
  ·rename_i hk
   cases h
   rw[hl,if_pos hk]
   refine⟨_,rfl,?_⟩
   simp only[degr,PV.agg.injEq]
   rw[List.map_take,List.map_drop,he,List.map_take,List.map_drop]
  ·cases h
 |false=>
  simp only[Bool.false_eq_true,if_false] at h ⊢
  have h1:(cs2.map degr1)[off]?=(cs.map degr1)[off]?:=by rw[he]
  rw[List.getElem?_map,List.getElem?_map,h] at h1
  simp only[Option.map_some,Option.map_eq_some_iff] at h1
  obtain⟨v2,h2,h3⟩:=h1
  exact⟨v2,h2,by rw[←jag v2,h3,jag]⟩
theorem jej {d:Nat} {agg:Bool} {k:Nat} {x:IX}:Local cf (.load d agg k x):=by
 intro s s2 ha hh s' h
 have h1:evalX s2.env x=evalX s.env x:=j7a (fun t ht=>ha t (by simp[rd,ht]))
 simp only[opStep,h1] at h ⊢
 have fin:∀v,s'=s.put d v→∀o,o=some (s2.put d v)→∃s2',o=some s2'∧EnvR (wr (.load d agg k x)) s'.env s2.env s2'.env∧HRes 2 s s' s2 s2':=by
  rintro v rfl o rfl
  exact⟨_,rfl,(EnvR.put1 d v).congr (fun t=>by simp[wr,opDst]),rfl,rfl,rfl,rfl⟩
 split at h
 ·rename_i g b off hp
  simp only[Option.bind_eq_some_iff,Option.map_eq_some_iff] at h
  obtain⟨cs,hc,v,hv,rfl⟩:=h
  obtain⟨cs2,hc2,he⟩:=jeg hh hc
  obtain⟨v2,hv2,he2⟩:=jei he hv
  exact fin _ rfl _ (by simp[hc2,hv2,he2])
 ·rename_i e off hp
  simp only[Option.map_eq_some_iff] at h
  obtain⟨v,hv,rfl⟩:=h
  exact fin _ rfl _ (by simp[hv])
 ·cases h
theorem jek {d kd:Nat} {x:IX}:Local cf (.len d kd x):=by
 intro s s2 ha hh s' h
 have h1:evalX s2.env x=evalX s.env x:=j7a (fun t ht=>ha t (by simp[rd,ht]))
 simp only[opStep,h1] at h ⊢
 have fin:∀v,s'=s.put d v→∀o,o=some (s2.put d v)→∃s2',o=some s2'∧EnvR (wr (.len d kd x)) s'.env s2.env s2'.env∧HRes (if kd=2 then 2 else 0) s s' s2 s2':=by
  rintro v rfl o rfl
  refine⟨_,rfl,(EnvR.put1 d v).congr (fun t=>by simp[wr,opDst]),?_⟩
  split<;>exact⟨rfl,rfl,rfl,rfl⟩
 split at h
 ·rename_i hp;cases h;exact fin _ rfl _ (by simp)
 ·rename_i hp;cases h;exact fin _ rfl _ (by simp)
 ·rename_i hp;cases h;exact fin _ rfl _ (by simp)
 ·rename_i hp;cases h;exact fin _ rfl _ (by simp)
 ·rename_i hp;cases h;exact fin _ rfl _ (by simp)
 ·rename_i hp;cases h;exact fin _ rfl _ (by simp)
 ·rename_i b hp
  split at h
  ·rename_i es hes
   cases h
   exact fin _ rfl _ (by simp[jeh (show HOk 2 s s2 from hh) hes])
  ·cases h
 ·cases h
theorem jel {d:Nat}:Local cf (.mkmap d):=by
 intro s s2 ha hh s' h
 obtain⟨e2,l2,g2⟩:=s2
 obtain⟨rfl,rfl⟩:=hh
 simp only[opStep,Option.some.injEq] at h
 subst h
 exact⟨_,rfl,(EnvR.put1 d _).congr (fun t=>by simp[wr,opDst]),rfl,⟨_,rfl⟩,rfl,rfl⟩
theorem jem {d:Nat}:Local cf (.mkbld d):=by
 intro s s2 ha hh s' h
 obtain⟨e2,l2,g2⟩:=s2
 obtain⟨rfl,rfl⟩:=hh
 simp only[opStep,Option.some.injEq] at h
 subst h
 exact⟨_,rfl,(EnvR.put1 d _).congr (fun t=>by simp[wr,opDst]),rfl,⟨_,rfl⟩,rfl,rfl⟩
theorem j95 (s:St) (g:Bool) (b:Nat) (cs:List PV):(s.setCells g b cs).env=s.env:=by cases g<;>rfl
theorem jah {cs:List PV} {off:Nat} {v:PV} (h:cs[off]?=some v):(spliceAt cs off [degr1 v]).map degr1=cs.map degr1:=by
 have hlt:=(List.getElem?_eq_some_iff.1 h).1
 apply List.ext_getElem?
 intro i
 rw[List.getElem?_map,List.getElem?_map,spliceAt,j7i _ _ _ _ (by simp;omega)]
 by_cases h1:i<off
 ·rw[if_pos h1]
 ·rw[if_neg h1]
  by_cases h2:i=off
  ·subst h2
   have hd:degr1 (degr1 v)=degr1 v:=by cases v<;>rfl
   simp[h,hd]
  ·rw[if_neg (by simp;omega)]
theorem jai {α β:Type} (f:α→β) {l:List α} {b:Nat} {x y:α} (h:l[b]?=some x) (he:f y=f x):(l.set b y).map f=l.map f:=by
 apply List.ext_getElem?
 intro k
 rw[List.getElem?_map,List.getElem?_map,List.getElem?_set]
 by_cases hk:b=k
 ·subst hk
  obtain⟨this,rfl⟩:=List.getElem?_eq_some_iff.1 h
  simp[this,he]
 ·simp[hk]
theorem jen {d:Nat} {x:IX}:Local cf (.loadT d x):=by
 intro s s2 ha hh s' h
 obtain⟨e2,l2,g2⟩:=s2
 obtain⟨rfl,rfl⟩:=hh
 have h1:evalX e2 x=evalX s.env x:=j7a (fun t ht=>ha t (by simp[rd,ht]))
 simp only[opStep,h1] at h ⊢
 split at h
 ·rename_i g b off hp
  simp only[Option.bind_eq_some_iff,Option.map_eq_some_iff] at h
  obtain⟨cs,hc,v,hv,rfl⟩:=h
  have hc2:St.cellsAt ⟨e2,s.lh,s.gh⟩ g b=some cs:=hc
  refine⟨(St.setCells ⟨e2,s.lh,s.gh⟩ g b (spliceAt cs off [degr1 v])).put d v,by simp[hc2,hv],?_,?_⟩
  ·simp only[St.put,j95]
   exact (EnvR.put1 d v).congr (fun t=>by simp[wr,opDst])
  ·cases g with
   |false=>exact⟨jai (List.map degr1) (show s.lh[b]?=some cs from hc) (jah hv),rfl,rfl,rfl⟩
   | true=>
    have hg:s.gh[b]?=some (.cells cs):=by
     simp only[St.cellsAt,if_true] at hc
     split at hc
     ·rename_i hx;cases hc;exact hx
     ·cases hc
    exact⟨rfl,jai GObj.deg hg (by simp[GObj.deg,jah hv]),rfl,rfl⟩
 ·cases h
theorem jeo {tk:Bool} {k:Nat} {x y:IX}:Local cf (.store tk k x y):=by
 intro s s2 ha hh s' h
 obtain⟨e2,l2,g2⟩:=s2
 obtain⟨rfl,rfl⟩:=hh
 have h1:evalX e2 x=evalX s.env x:=j7a (fun t ht=>ha t (by simp[rd,ht]))
 have h2:evalX e2 y=evalX s.env y:=j7a (fun t ht=>ha t (by simp[rd,ht]))
 simp only[opStep,h1,h2] at h ⊢
 split at h
 ·rename_i g b off hp
  split at h
  ·rename_i htk
   subst htk
   simp only[Option.bind_eq_some_iff,Prod.exists] at h
   obtain⟨v,e1,hv,cs,hc,h⟩:=h
   split at h
   ·rename_i hk
    cases h
    obtain⟨e3,t1,t2⟩:=j87 (e2:=e2) (fun t ht=>ha t (by simp[rd,ht])) hv
    have hc2:St.cellsAt ⟨e3,s.lh,s.gh⟩ g b=some cs:=hc
    refine⟨St.setCells ⟨e3,s.lh,s.gh⟩ g b (spliceAt cs off v.cells),by simp[t1,hc2,hk],?_,?_⟩
    ·simp only[j95]
     exact t2.congr (fun t=>by simp[wr,opDst])
    ·cases g<;>exact⟨rfl,rfl⟩
   ·cases h
  ·rename_i htk
   simp only[Bool.not_eq_true] at htk
   subst htk
   simp only[Option.bind_eq_some_iff] at h
   obtain⟨v,hv,cs,hc,h⟩:=h
   split at h
   ·rename_i hk
    cases h
    have hc2:St.cellsAt ⟨e2,s.lh,s.gh⟩ g b=some cs:=hc
    refine⟨St.setCells ⟨e2,s.lh,s.gh⟩ g b (spliceAt cs off v.cells),by simp[hv,hc2,hk],?_,?_⟩
    ·simp only[j95]
     exact EnvR.refl (fun t=>by simp[wr,opDst])
    ·cases g<;>exact⟨rfl,rfl⟩
   ·cases h
 ·cases h
theorem jep {kn:Nat} {m k x:IX}:Local cf (.mupd kn m k x):=by
 intro s s2 ha hh s' h
 obtain⟨e2,l2,g2⟩:=s2
 obtain⟨rfl,rfl⟩:=hh
 have h1:evalX e2 m=evalX s.env m:=j7a (fun t ht=>ha t (by simp[rd,ht]))
 have h2:evalX e2 k=evalX s.env k:=j7a (fun t ht=>ha t (by simp[rd,ht]))
 have h3:evalX e2 x=evalX s.env x:=j7a (fun t ht=>ha t (by simp[rd,ht]))
 simp only[opStep,h1,h2,h3] at h ⊢
 split at h
 ·rename_i b kv v hp hkv hv
  split at h
  ·rename_i es hes
   split at h
   ·rename_i hc
    simp only[Option.map_eq_some_iff] at h
    obtain⟨es',hs,rfl⟩:=h
    refine⟨⟨e2,s.lh,s.gh.set b (.map es')⟩,?_,EnvR.refl (fun t=>by simp[wr,opDst]),rfl,rfl⟩
    rw[if_pos hc,hs];rfl
   ·cases h
  ·cases h
 ·cases h
theorem jaj {e e2:List (Nat×PV)} (d:Option Nat) (v:PV):EnvR d.toList (putO e d v) e2 (putO e2 d v):=by
 cases d with
 |none=>exact EnvR.refl (by simp)
 |some d=>exact EnvR.put (by simp)
theorem j96 {d:Option Nat} {q:Bool} {f:Nat} {vs:List PV} (hh:HOk (if q then 1 else 5) s s2) (h:doCall cf s d q f vs=some s') :
  ∃s2',doCall cf s2 d q f vs=some s2'∧EnvR d.toList s'.env s2.env s2'.env∧HRes (if q then 1 else 5) s s' s2 s2':=by
 have hgh:s2.gh=s.gh:=by
  cases q
  ·exact hh.2
  ·exact hh
 unfold doCall at h ⊢
 split at h
 ·rename_i hok
  rw[if_pos hok,hgh]
  split at h
  ·rename_i r gh' hc
   split at h
   ·rename_i hq
    subst hq
    split at h
    ·rename_i he
     cases h
     refine⟨⟨putO s2.env d r,s2.lh,s2.gh⟩,by simp[he,hgh],jaj d r,rfl,rfl,rfl,rfl⟩
    ·cases h
   ·rename_i hq
    simp only[Bool.not_eq_true] at hq
    subst hq
    cases h
    exact⟨⟨putO s2.env d r,s2.lh,gh'⟩,by simp,jaj d r,hh.1,rfl⟩
  ·cases h
 ·cases h
theorem jeq {d:Option Nat} {q:Bool} {f:Nat} {xs:List IX}:Local cf (.call d q f xs):=by
 intro s s2 ha hh s' h
 have h1:evalXs s2.env xs=evalXs s.env xs:=j7v (fun t ht=>ha t (by simp[rd,ht]))
 simp only[opStep,h1,Option.bind_eq_some_iff] at h ⊢
 obtain⟨vs,hv,h⟩:=h
 obtain⟨s2',c1,c2,c3⟩:=j96 (s2:=s2) hh h
 exact⟨s2',⟨vs,hv,c1⟩,by simpa [wr,opDst] using c2,c3⟩
theorem jer {d:Option Nat} {q:Bool} {f:IX} {xs:List IX}:Local cf (.callv d q f xs):=by
 intro s s2 ha hh s' h
 have h0:evalX s2.env f=evalX s.env f:=j7a (fun t ht=>ha t (by simp[rd,ht]))
 have h1:evalXs s2.env xs=evalXs s.env xs:=j7v (fun t ht=>ha t (by simp[rd,ht]))
 simp only[opStep,h0,h1] at h ⊢
 split at h
 ·rename_i f caps hp
  simp only[Option.bind_eq_some_iff] at h
  obtain⟨vs,hv,h⟩:=h
  obtain⟨s2',c1,c2,c3⟩:=j96 (s2:=s2) hh h
  exact⟨s2',by simp[hv,c1],by simpa [wr,opDst] using c2,c3⟩
 ·rename_i f caps hp
  simp only[Option.bind_eq_some_iff] at h
  obtain⟨vs,hv,h⟩:=h
  obtain⟨s2',c1,c2,c3⟩:=j96 (s2:=s2) hh h
  exact⟨s2',by simp[hv,c1],by simpa [wr,opDst] using c2,c3⟩
 ·cases h
theorem jes {d z bytes:Nat} {sx x:IX}:Local cf (.append d z bytes sx x):=by
 intro s s2 ha hh s' h
 have h1:evalX s2.env x=evalX s.env x:=j7a (fun t ht=>ha t (by simp[rd,ht]))
 simp only[opStep,h1,Option.bind_eq_some_iff] at h ⊢
 obtain⟨xv,hxv,h⟩:=h
 cases xv with
 | sl o2 z2 ys=>
  simp only[Option.bind_eq_some_iff,Prod.exists] at h
  obtain⟨v,e1,hv,h⟩:=h
  cases v with
  | sl o z1 xs=>
   simp only at h
   split at h
   ·rename_i hc
    cases h
    obtain⟨e3,t1,t2⟩:=j87 (e2:=s2.env) (fun t ht=>ha t (by simp[rd,ht])) hv
    refine⟨⟨Lw.put e3 d (.sl true z (xs++ys)),s2.lh,s2.gh⟩,⟨_,hxv,by simp only[t1,Option.bind_some];rw[if_pos hc]⟩,?_,rfl,rfl,rfl,rfl⟩
    exact (t2.thenPut d _).congr (fun t=>by simp[wr,opDst];exact or_comm)
   ·cases h
  |_=>cases h
 |_=>cases h
theorem jet (i:IOp):Local cf i:=by
 cases i with
 |callP=>exact fun _ _ _ _ _ h=>by simp[opStep] at h
 |callR=>exact fun _ _ _ _ _ h=>by simp[opStep] at h
 |loadB=>exact fun _ _ _ _ _ h=>by simp[opStep] at h
 |appendE=>exact fun _ _ _ _ _ h=>by simp[opStep] at h
 |loadKB=>exact fun _ _ _ _ _ h=>by simp[opStep] at h
 |loadTB=>exact fun _ _ _ _ _ h=>by simp[opStep] at h
 |loadJ=>exact fun _ _ _ _ _ h=>by simp[opStep] at h
 |appendP=>exact fun _ _ _ _ _ h=>by simp[opStep] at h
 |mkarr=>exact fun _ _ _ _ _ h=>by simp[opStep] at h
 |buildA=>exact fun _ _ _ _ _ h=>by simp[opStep] at h
 |boxSl=>exact fun _ _ _ _ _ h=>by simp[opStep] at h
 |tk=>exact jec
 |box=>exact jed
 |alloc=>exact jee
 |buildT=>exact jef
 |load=>exact jej
 |loadN=>exact fun _ _ _ _ _ h=>by simp[opStep] at h
 |lookup=>exact fun _ _ _ _ _ h=>by simp[opStep] at h
 |len=>exact jek
 |mkmap=>exact jel
 |mkbld=>exact jem
 |mksl=>exact fun _ _ _ _ _ h=>by simp[opStep] at h
 |loadT=>exact jen
 |loadL=>exact fun _ _ _ _ _ h=>by simp[opStep] at h
 |store=>exact jeo
 |mupd=>exact jep
 |call=>exact jeq
 |callv=>exact jer
 |callF=>exact fun _ _ _ _ _ h=>by simp[opStep] at h
 |callE=>exact fun _ _ _ _ _ h=>by simp[opStep] at h
 |append=>exact jes
 |appendK=>exact fun _ _ _ _ _ h=>by simp[opStep] at h
 |appendN=>exact fun _ _ _ _ _ h=>by simp[opStep] at h
 |buildSlK=>exact fun _ _ _ _ _ h=>by simp[opStep] at h
 |loadK=>exact fun _ _ _ _ _ h=>by simp[opStep] at h
 |loadH=>exact fun _ _ _ _ _ h=>by simp[opStep] at h
 |mv=>exact fills_mv.local rfl rfl
 |pick=>exact fills_pick.local rfl rfl
 |build=>exact fills_build.local rfl rfl
 |buildSl=>exact fills_buildSl.local rfl rfl
 |nilc=>exact fills_nilc.local rfl rfl
 |bin=>exact fills_bin.local rfl rfl
 |eqa=>exact fun _ _ _ _ _ h=>by simp[opStep] at h
 |eqb=>exact fills_eqb.local rfl rfl
 |eqn=>exact fun _ _ _ _ _ h=>by simp[opStep] at h
 |un=>exact fills_un.local rfl rfl
 |conv=>exact fun _ _ _ _ _ h=>by simp[opStep] at h
 |mkfn=>exact fills_mkfn.local rfl rfl
 |mkbf=>exact fun _ _ _ _ _ h=>by simp[opStep] at h
 |storeK=>exact fun _ _ _ _ _ h=>by simp[opStep] at h
 |clearK=>exact fun _ _ _ _ _ h=>by simp[opStep] at h
 |slice=>exact fills_slice.local rfl rfl
 |sliceS=>exact fun _ _ _ _ _ h=>by simp[opStep] at h
 |faddr=>exact fills_faddr.local rfl rfl
 |field=>exact fun _ _ _ _ _ h=>by simp[opStep] at h
 |iaddr=>exact fills_iaddr.local rfl rfl
 |index=>exact fun _ _ _ _ _ h=>by simp[opStep] at h
 |indexS=>exact fun _ _ _ _ _ h=>by simp[opStep] at h
 |maxi=>exact fills_maxi.local rfl rfl
 |extract=>exact fills_extract.local rfl rfl
end
end Go.Lw
end

/-! Two operations that do not meet change places; one that meets none of those ahead of it goes to the front. -/
section
namespace Go.Lw
open Go Go.RowKit
section
variable {s s' s1 s2 t1 t2:St} {cf:CallF}
def HRes2 (c:Nat) (s s' s2 s2':St):Prop:=
 match c with
 |0|1|2|8=>s'.lh=s.lh∧s'.gh=s.gh∧s2'.lh=s2.lh∧s2'.gh=s2.gh
 |3=>(∀(b:Nat) (cs:List PV),s.lh[b]?=some cs→s'.lh[b]?=some cs)∧s'.gh=s.gh∧s2'.lh=s'.lh∧s2'.gh=s'.gh
 |4=>s'.lh=s.lh∧(∀(b:Nat) (o:GObj),s.gh[b]?=some o→s'.gh[b]?=some o)∧s2'.lh=s'.lh∧s2'.gh=s'.gh
 |6=>s'.lh.map (List.map degr1)=s.lh.map (List.map degr1)∧s'.gh=s.gh∧s2'.lh=s'.lh∧s2'.gh=s'.gh
 |7=>s'.lh.map (List.map degr1)=s.lh.map (List.map degr1)∧s'.gh.map GObj.deg=s.gh.map GObj.deg∧s2'.lh=s'.lh∧s2'.gh=s'.gh
 |9=>s'.lh=s.lh∧(∀(b:Nat) (o:GObj),s.gh[b]?=some o→∃o2,s'.gh[b]?=some o2∧o2.deg=o.deg)∧s2'.lh=s'.lh∧s2'.gh=s'.gh
 |_=>s2'.lh=s'.lh∧s2'.gh=s'.gh
theorem HRes.two {c:Nat} (h:HRes c s s' s2 s1):HRes2 c s s' s2 s1:=by
 match c,h with
 |0,h=>exact h
 |1,h=>exact h
 |2,h=>exact h
 |3,⟨⟨cs,h1⟩,h2⟩=>exact⟨fun b cs' hb=>by rw[h1,List.getElem?_append_left (List.getElem?_eq_some_iff.1 hb).1];exact hb,h2⟩
 |4,⟨h0,⟨o,h1⟩,h2⟩=>exact⟨h0,fun b o' hb=>by rw[h1,List.getElem?_append_left (List.getElem?_eq_some_iff.1 hb).1];exact hb,h2⟩
 |5,h=>exact h
 |6,h=>exact h
 |7,h=>exact h
 |8,h=>exact h
 |9,h=>exact h
 |n+10,h=>exact h
def rdG (i:IOpG):List Nat:=(match i.guard with|some (g,_)=>[g]|none=>[])++rd i.op
theorem wr_rd {i:IOp} {t:Nat} (h:t∈wr i):opDst i=some t∨t∈rd i:=by
 simp only[wr,List.mem_append,Option.mem_toList] at h
 rcases h with h|h
 ·exact .inl h
 ·right
  split at h<;>first|(simp at h;done)|(simpa [rd] using h)|(simp[rd];first|exact .inl h|exact .inr h|exact h)
theorem j88 (i:IOpG) (ha:∀t∈rdG i,get s2.env t=get s.env t) (hh:HOk (cls i.op) s s2) (h:opG cf i s=some s') :
  ∃s2',opG cf i s2=some s2'∧EnvR (wr i.op) s'.env s2.env s2'.env∧HRes2 (cls i.op) s s' s2 s2':=by
 have hstep:∀s',opStep cf s i.op=some s'→∃s2',opStep cf s2 i.op=some s2'∧EnvR (wr i.op) s'.env s2.env s2'.env∧HRes2 (cls i.op) s s' s2 s2':=fun s' hs=>by
  obtain⟨s2',h1,h2,h3⟩:=jet i.op s s2 (fun t ht=>ha t (by simp[rdG,ht])) hh s' hs
  exact⟨s2',h1,h2,h3.two⟩
 have hskip:EnvR (wr i.op) (skipped s i.op).env s2.env (skipped s2 i.op).env∧HRes2 (cls i.op) s (skipped s i.op) s2 (skipped s2 i.op):=by
  refine⟨fun t=>?_,?_⟩
  ·by_cases ht:t∈wr i.op
   ·rw[if_pos ht]
    unfold skipped
    cases hd:opDst i.op with
    |none=>
     have:=(wr_rd ht).resolve_left (by simp[hd])
     exact ha t (by simp[rdG,this])
    | some d=>
     simp only[St.put,j7m]
     by_cases hdt:d=t
     ·simp[hdt]
     ·have:=(wr_rd ht).resolve_left (by simp[hd,hdt])
      simp only[hdt,if_false]
      exact ha t (by simp[rdG,this])
   ·rw[if_neg ht]
    unfold skipped
    cases hd:opDst i.op with
    |none=>rfl
    |some d=>
     have:d≠t:=fun e=>ht (by subst e;simp[wr,hd])
     simp[St.put,j7m,this]
  ·have e1:(skipped s i.op).lh=s.lh∧(skipped s i.op).gh=s.gh:=by unfold skipped;cases opDst i.op<;>exact⟨rfl,rfl⟩
   have e2:(skipped s2 i.op).lh=s2.lh∧(skipped s2 i.op).gh=s2.gh:=by unfold skipped;cases opDst i.op<;>exact⟨rfl,rfl⟩
   generalize cls i.op=c at hh
   match c,hh with
   |0,_=>exact⟨e1.1,e1.2,e2.1,e2.2⟩
   |1,_=>exact⟨e1.1,e1.2,e2.1,e2.2⟩
   |2,_=>exact⟨e1.1,e1.2,e2.1,e2.2⟩
   |3,⟨h1,h2⟩=>exact⟨fun b cs hb=>by rw[e1.1];exact hb,e1.2,by rw[e1.1,e2.1,h1],by rw[e1.2,e2.2,h2]⟩
   |4,⟨h1,h2⟩=>exact⟨e1.1,fun b cs hb=>by rw[e1.2];exact hb,by rw[e1.1,e2.1,h1],by rw[e1.2,e2.2,h2]⟩
   |5,⟨h1,h2⟩=>exact⟨by rw[e1.1,e2.1,h1],by rw[e1.2,e2.2,h2]⟩
   |6,⟨h1,h2⟩=>exact⟨by rw[e1.1],e1.2,by rw[e1.1,e2.1,h1],by rw[e1.2,e2.2,h2]⟩
   |7,⟨h1,h2⟩=>exact⟨by rw[e1.1],by rw[e1.2],by rw[e1.1,e2.1,h1],by rw[e1.2,e2.2,h2]⟩
   |8,_=>exact⟨e1.1,e1.2,e2.1,e2.2⟩
   |9,⟨h1,h2⟩=>exact⟨e1.1,fun b o hb=>⟨o,by rw[e1.2];exact hb,rfl⟩,by rw[e1.1,e2.1,h1],by rw[e1.2,e2.2,h2]⟩
   |n+10,⟨h1,h2⟩=>exact⟨by rw[e1.1,e2.1,h1],by rw[e1.2,e2.2,h2]⟩
 unfold opG at h ⊢
 cases hg:i.guard with
 |none=>rw[hg] at h;exact hstep s' h
 | some q=>
  obtain⟨g,want⟩:=q
  rw[hg] at h
  have hgg:get s2.env g=get s.env g:=ha g (by simp[rdG,hg])
  simp only at h ⊢
  rw[hgg]
  split at h
  ·split at h
   ·rename_i hw
    simp only[hw,if_true]
    exact hstep s' h
   ·rename_i hw
    cases h
    simp only[if_neg hw]
    exact⟨_,rfl,hskip⟩
  ·cases h
   exact⟨_,rfl,hskip⟩
  ·cases h
theorem j97 (i:IOpG) (h:opG cf i s=some s') {t:Nat} (ht:t∉wr i.op):get s'.env t=get s.env t:=by
 have hh:HOk (cls i.op) s s:=by
  generalize cls i.op=c
  match c with
  |0=>trivial
  |1=>rfl
  |2=>exact⟨fun _ cs h=>⟨cs,h,rfl⟩,fun _ o h=>⟨o,h,rfl⟩⟩
  |3|4|5|6|7=>exact⟨rfl,rfl⟩
  |8=>exact (rfl:s.lh=s.lh)
  |9=>exact⟨rfl,rfl⟩
  |n+10=>exact⟨rfl,rfl⟩
 obtain⟨s2',h1,h2,_⟩:=j88 (s2:=s) i (fun _ _=>rfl) hh h
 rw[h] at h1;cases h1
 have:=h2 t
 rwa [if_neg ht] at this
theorem jeu (i:IOpG) (h:opG cf i s=some s'):HRes2 (cls i.op) s s' s s':=by
 have hh:HOk (cls i.op) s s:=by
  generalize cls i.op=c
  match c with
  |0=>trivial
  |1=>rfl
  |2=>exact⟨fun _ cs h=>⟨cs,h,rfl⟩,fun _ o h=>⟨o,h,rfl⟩⟩
  |3|4|5|6|7=>exact⟨rfl,rfl⟩
  |8=>exact (rfl:s.lh=s.lh)
  |9=>exact⟨rfl,rfl⟩
  |n+10=>exact⟨rfl,rfl⟩
 obtain⟨s2',h1,_,h3⟩:=j88 (s2:=s) i (fun _ _=>rfl) hh h
 rw[h] at h1;cases h1
 exact h3
def clsOk (p x:Nat):Bool:=p==0||(x==0||((decide (p≤2)&&decide (x≤2))||((p==1&&x==3)||((p==2&&x==3)||((p==2&&x==4)||((p==3&&x==1)||((p==1&&x==6)||((p==6&&x==1)||((p==2&&x==6)||((p==2&&x==7)||((p==6&&x==2)||((p==7&&x==2)||((p==4&&x==8)||((p==8&&x==8)||(p==2&&x==9)))))))))))))))
def apartS (p x:IOpG):Bool:=(wr p.op).all (fun t=> !(rdG x).contains t&& !(wr x.op).contains t)&&(wr x.op).all (fun t=> !(rdG p).contains t)
def Eqv (s s2:St):Prop:=(∀t,get s2.env t=get s.env t)∧s2.lh=s.lh∧s2.gh=s.gh
theorem ok_le {p x:Nat} (h:clsOk p x=true):(p=0)∨(x=0)∨(p≤2∧x≤2)∨(p=1∧x=3)∨(p=2∧x=3)∨(p=2∧x=4)∨(p=3∧x=1)∨(p=1∧x=6)∨(p=6∧x=1)∨(p=2∧x=6)∨(p=2∧x=7)∨(p=6∧x=2)∨(p=7∧x=2)∨(p=4∧x=8)∨(p=8∧x=8)∨(p=2∧x=9):=by
 simpa only[clsOk,Bool.or_eq_true,Bool.and_eq_true,beq_iff_eq,decide_eq_true_eq] using h
theorem j71 {c:Nat} (hc:c≤2) (h:HRes2 c s s' s2 s1):s'.lh=s.lh∧s'.gh=s.gh∧s1.lh=s2.lh∧s1.gh=s2.gh:=by
 match c,hc,h with
 |0,_,h=>exact h
 |1,_,h=>exact h
 |2,_,h=>exact h
theorem res_eq {c:Nat} (h:HRes2 c s s' s2 s1) (e1:s2.lh=s.lh) (e2:s2.gh=s.gh):s1.lh=s'.lh∧s1.gh=s'.gh:=by
 match c,h with
 |0,h=>exact⟨by rw[h.2.2.1,e1,h.1],by rw[h.2.2.2,e2,h.2.1]⟩
 |1,h=>exact⟨by rw[h.2.2.1,e1,h.1],by rw[h.2.2.2,e2,h.2.1]⟩
 |2,h=>exact⟨by rw[h.2.2.1,e1,h.1],by rw[h.2.2.2,e2,h.2.1]⟩
 |3,h=>exact h.2.2
 |4,h=>exact h.2.2
 |5,h=>exact h
 |6,h=>exact h.2.2
 |7,h=>exact h.2.2
 |8,h=>exact⟨by rw[h.2.2.1,e1,h.1],by rw[h.2.2.2,e2,h.2.1]⟩
 |9,h=>exact h.2.2
 |n+10,h=>exact h
theorem hok_eq {c:Nat} (e1:s2.lh=s.lh) (e2:s2.gh=s.gh):HOk c s s2:=by
 match c with
 |0=>trivial
 |1=>exact e2
 |2=>exact⟨fun b cs h=>⟨cs,by rw[e1];exact h,rfl⟩,fun b o h=>⟨o,by rw[e2];exact h,rfl⟩⟩
 |3|4|5|6|7=>exact⟨e1,e2⟩
 |8=>exact e1
 |9=>exact⟨e1,e2⟩
 |n+10=>exact⟨e1,e2⟩
theorem j7w {α β:Type} (f:α→β) {l l':List α} (h:l'.map f=l.map f) {b:Nat} {x:α} (hx:l[b]?=some x):∃y,l'[b]?=some y∧f y=f x:=by
 have h1:(l'.map f)[b]?=(l.map f)[b]?:=by rw[h]
 rw[List.getElem?_map,List.getElem?_map,hx] at h1
 simpa using h1
theorem swap {p x:IOpG} (ha:apartS p x=true) (hc:clsOk (cls p.op) (cls x.op)=true) (h1:opG cf p s=some s1) (h2:opG cf x s1=some s2) :
  ∃t1 t2,opG cf x s=some t1∧opG cf p t1=some t2∧Eqv s2 t2:=by
 simp only[apartS,Bool.and_eq_true,List.all_eq_true,Bool.not_eq_true',List.contains_eq_mem,decide_eq_false_iff_not] at ha
 obtain⟨a1,a2⟩:=ha
 have r1:=jeu p h1
 have f1:=fun t ht=>j97 (t:=t) p h1 ht
 have f2:=fun t ht=>j97 (t:=t) x h2 ht
 have hx:HOk (cls x.op) s1 s:=by
  rcases ok_le hc with e|e|⟨e,_⟩|⟨e,_⟩|⟨e,_⟩|⟨e,_⟩|⟨e,e'⟩|⟨e,_⟩|⟨e,e'⟩|⟨e,_⟩|⟨e,_⟩|⟨e,e'⟩|⟨e,e'⟩|⟨e,e'⟩|⟨e,e'⟩|⟨e,e'⟩
  ·have:=j71 (by omega) r1;exact hok_eq this.1.symm this.2.1.symm
  ·rw[e];trivial
  ·have:=j71 (by omega) r1;exact hok_eq this.1.symm this.2.1.symm
  ·have:=j71 (by omega) r1;exact hok_eq this.1.symm this.2.1.symm
  ·have:=j71 (by omega) r1;exact hok_eq this.1.symm this.2.1.symm
  ·have:=j71 (by omega) r1;exact hok_eq this.1.symm this.2.1.symm
  ·rw[e] at r1;rw[e'];exact r1.2.1.symm
  ·have:=j71 (by omega) r1;exact hok_eq this.1.symm this.2.1.symm
  ·rw[e] at r1;rw[e'];exact r1.2.1.symm
  ·have:=j71 (by omega) r1;exact hok_eq this.1.symm this.2.1.symm
  ·have:=j71 (by omega) r1;exact hok_eq this.1.symm this.2.1.symm
  ·rw[e] at r1;rw[e'];exact⟨fun b cs=>j7w _ r1.1.symm,fun b o hb=>⟨o,by rw[←r1.2.1];exact hb,rfl⟩⟩
  ·rw[e] at r1;rw[e'];exact⟨fun b cs=>j7w _ r1.1.symm,fun b o=>j7w _ r1.2.1.symm⟩
  ·rw[e] at r1;rw[e'];exact r1.1.symm
  ·rw[e] at r1;rw[e'];exact r1.1.symm
  ·have:=j71 (by omega) r1;exact hok_eq this.1.symm this.2.1.symm
 obtain⟨t1,g1,g2,g3⟩:=j88 (s2:=s) x (fun t ht=>(f1 t (fun hw=>(a1 t hw).1 ht)).symm) hx h2
 have hp:HOk (cls p.op) s t1:=by
  rcases ok_le hc with e|e|⟨e,e'⟩|⟨e,e'⟩|⟨e,e'⟩|⟨e,e'⟩|⟨e,e'⟩|⟨e,e'⟩|⟨e,e'⟩|⟨e,e'⟩|⟨e,e'⟩|⟨e,e'⟩|⟨e,e'⟩|⟨e,e'⟩|⟨e,e'⟩|⟨e,e'⟩
  ·rw[e];trivial
  ·have:=j71 (by omega) g3;exact hok_eq this.2.2.1 this.2.2.2
  ·have:=j71 (by omega) g3;exact hok_eq this.2.2.1 this.2.2.2
  ·rw[e'] at g3
   have:=j71 (by omega) r1
   rw[e];exact g3.2.2.2.trans (g3.2.1.trans this.2.1)
  ·rw[e'] at g3
   have:=j71 (by omega) r1
   rw[e]
   exact⟨fun b cs hb=>⟨cs,by rw[g3.2.2.1];exact g3.1 b cs (by rw[this.1];exact hb),rfl⟩,fun b o hb=>⟨o,by rw[g3.2.2.2,g3.2.1,this.2.1];exact hb,rfl⟩⟩
  ·rw[e'] at g3
   have:=j71 (by omega) r1
   rw[e]
   exact⟨fun b cs hb=>⟨cs,by rw[g3.2.2.1,g3.1,this.1];exact hb,rfl⟩,fun b o hb=>⟨o,by rw[g3.2.2.2];exact g3.2.1 b o (by rw[this.2.1];exact hb),rfl⟩⟩
  ·have:=j71 (by omega) g3;exact hok_eq this.2.2.1 this.2.2.2
  ·rw[e'] at g3
   have:=j71 (by omega) r1
   rw[e];exact g3.2.2.2.trans (g3.2.1.trans this.2.1)
  ·have:=j71 (by omega) g3;exact hok_eq this.2.2.1 this.2.2.2
  ·rw[e'] at g3
   have:=j71 (by omega) r1
   rw[e]
   refine⟨fun b cs hb=>?_,fun b o hb=>⟨o,by rw[g3.2.2.2,g3.2.1,this.2.1];exact hb,rfl⟩⟩
   rw[g3.2.2.1];exact j7w _ g3.1 (by rw[this.1];exact hb)
  ·rw[e'] at g3
   have:=j71 (by omega) r1
   rw[e]
   refine⟨fun b cs hb=>?_,fun b o hb=>?_⟩
   ·rw[g3.2.2.1];exact j7w _ g3.1 (by rw[this.1];exact hb)
   ·rw[g3.2.2.2];exact j7w _ g3.2.1 (by rw[this.2.1];exact hb)
  ·have:=j71 (by omega) g3;exact hok_eq this.2.2.1 this.2.2.2
  ·have:=j71 (by omega) g3;exact hok_eq this.2.2.1 this.2.2.2
  ·rw[e'] at g3;exact hok_eq g3.2.2.1 g3.2.2.2
  ·rw[e'] at g3;exact hok_eq g3.2.2.1 g3.2.2.2
  ·rw[e'] at g3
   have:=j71 (by omega) r1
   rw[e]
   exact⟨fun b cs hb=>⟨cs,by rw[g3.2.2.1,g3.1,this.1];exact hb,rfl⟩,fun b o hb=>by rw[g3.2.2.2];exact g3.2.1 b o (by rw[this.2.1];exact hb)⟩
 obtain⟨t2,k1,k2,k3⟩:=j88 (s2:=t1) p (fun t ht=>by rw[g2 t,if_neg (fun hw=>a2 t hw ht)]) hp h1
 refine⟨t1,t2,g1,k1,fun t=>?_,?_⟩
 ·rw[k2 t]
  by_cases hw:t∈wr p.op
  ·rw[if_pos hw,f2 t (a1 t hw).2]
  ·rw[if_neg hw,g2 t]
   by_cases hw2:t∈wr x.op
   ·rw[if_pos hw2]
   ·rw[if_neg hw2,f2 t hw2,f1 t hw]
 · -- the boxes
  rcases ok_le hc with e|e|⟨e,e'⟩|⟨e,e'⟩|⟨e,e'⟩|⟨e,e'⟩|⟨e,e'⟩|⟨e,e'⟩|⟨e,e'⟩|⟨e,e'⟩|⟨e,e'⟩|⟨e,e'⟩|⟨e,e'⟩|⟨e,e'⟩|⟨e,e'⟩|⟨e,e'⟩
  ·have q1:=j71 (by omega) r1
   have q2:=j71 (by omega) k3
   have q3:=res_eq g3 q1.1.symm q1.2.1.symm
   exact⟨q2.2.2.1.trans q3.1,q2.2.2.2.trans q3.2⟩
  ·have q2:=j71 (by omega) g3
   have q3:=res_eq k3 q2.2.2.1 q2.2.2.2
   exact⟨q3.1.trans q2.1.symm,q3.2.trans q2.2.1.symm⟩
  ·have q2:=j71 (by omega) g3
   have q3:=res_eq k3 q2.2.2.1 q2.2.2.2
   exact⟨q3.1.trans q2.1.symm,q3.2.trans q2.2.1.symm⟩
  ·have q1:=j71 (by omega) r1
   have q2:=j71 (by omega) k3
   have q3:=res_eq g3 q1.1.symm q1.2.1.symm
   exact⟨q2.2.2.1.trans q3.1,q2.2.2.2.trans q3.2⟩
  ·have q1:=j71 (by omega) r1
   have q2:=j71 (by omega) k3
   have q3:=res_eq g3 q1.1.symm q1.2.1.symm
   exact⟨q2.2.2.1.trans q3.1,q2.2.2.2.trans q3.2⟩
  ·have q1:=j71 (by omega) r1
   have q2:=j71 (by omega) k3
   have q3:=res_eq g3 q1.1.symm q1.2.1.symm
   exact⟨q2.2.2.1.trans q3.1,q2.2.2.2.trans q3.2⟩
  ·have q2:=j71 (by omega) g3
   have q3:=res_eq k3 q2.2.2.1 q2.2.2.2
   exact⟨q3.1.trans q2.1.symm,q3.2.trans q2.2.1.symm⟩
  ·have q1:=j71 (by omega) r1
   have q2:=j71 (by omega) k3
   have q3:=res_eq g3 q1.1.symm q1.2.1.symm
   exact⟨q2.2.2.1.trans q3.1,q2.2.2.2.trans q3.2⟩
  ·have q2:=j71 (by omega) g3
   have q3:=res_eq k3 q2.2.2.1 q2.2.2.2
   exact⟨q3.1.trans q2.1.symm,q3.2.trans q2.2.1.symm⟩
  ·have q1:=j71 (by omega) r1
   have q2:=j71 (by omega) k3
   have q3:=res_eq g3 q1.1.symm q1.2.1.symm
   exact⟨q2.2.2.1.trans q3.1,q2.2.2.2.trans q3.2⟩
  ·have q1:=j71 (by omega) r1
   have q2:=j71 (by omega) k3
   have q3:=res_eq g3 q1.1.symm q1.2.1.symm
   exact⟨q2.2.2.1.trans q3.1,q2.2.2.2.trans q3.2⟩
  ·have q2:=j71 (by omega) g3
   have q3:=res_eq k3 q2.2.2.1 q2.2.2.2
   exact⟨q3.1.trans q2.1.symm,q3.2.trans q2.2.1.symm⟩
  ·have q2:=j71 (by omega) g3
   have q3:=res_eq k3 q2.2.2.1 q2.2.2.2
   exact⟨q3.1.trans q2.1.symm,q3.2.trans q2.2.1.symm⟩
  ·have q2:=g3
   rw[e'] at q2
   have q3:=res_eq k3 q2.2.2.1 q2.2.2.2
   exact⟨q3.1.trans q2.1.symm,q3.2.trans q2.2.1.symm⟩
  ·have q2:=g3
   rw[e'] at q2
   have q3:=res_eq k3 q2.2.2.1 q2.2.2.2
   exact⟨q3.1.trans q2.1.symm,q3.2.trans q2.2.1.symm⟩
  ·have q1:=j71 (by omega) r1
   have q2:=j71 (by omega) k3
   have q3:=res_eq g3 q1.1.symm q1.2.1.symm
   exact⟨q2.2.2.1.trans q3.1,q2.2.2.2.trans q3.2⟩
end
end Go.Lw
end

/-! Traces as texts: one line (the program's and the document's).. -/
section
namespace Go.Lw
open Go
theorem bA_app (a b:List UInt8):bA a++bA b=bA (a++b):=by
 apply ByteArray.ext;simp
theorem j9l:∀(k u:Nat),(digK k u).length≤k
 |0,_=>Nat.le_refl _
 | k+1,u=>by
  rw[digK]
  split
  ·simp
  ·have:=j9l k (u/10)
   simp;omega
theorem j7l (n:Int):(itoaK n).length≤21:=by
 unfold itoaK
 split
 ·have:=j9l 20 n.natAbs
  simp;omega
 ·have:=j9l 20 n.toNat
  omega
section
variable {gh:List GObj}
theorem strAdd {a b:List UInt8} (h:a.length+b.length≤9223372036854775807):binPV .add (.str (bA a)) (.str (bA b))=some (.str (bA (a++b))):=by
 have z1:(bA a).size=a.length:=by simp[ByteArray.size]
 have z2:(bA b).size=b.length:=by simp[ByteArray.size]
 have hm:IntKind.max .i64=9223372036854775807:=rfl
 simp only[binPV,z1,z2,hm,bA_app]
 rw[if_neg (by omega)]
theorem j9m {n:Int} (h0: -9223372036854775808≤n) (h1:n≤9223372036854775807):callL pg 260 [I n] gh=some (.str (bA (itoaK n)),gh):=by
 have:callL pg 260 [I n] gh=libItoa [I n] gh:=rfl
 rw[this,libItoa,if_pos ⟨h0,h1⟩]
theorem j9n {n:Int} (h0: -9223372036854775808≤n) (h1:n≤9223372036854775807):callL pg 363 [I n] gh=some (.str (bA (itoaK n)),gh):=by
 have:callL pg 363 [I n] gh=libItoa [I n] gh:=rfl
 rw[this,libItoa,if_pos ⟨h0,h1⟩]
abbrev I64s (l:List Int):Prop:=∀n∈l,-9223372036854775808≤n∧n≤9223372036854775807
end
end Go.Lw
end

/-! A builder of strings: what the machine's library does with it. -/
section
namespace Go.Lw
open Go
def BW (gh:List GObj) (X:List UInt8):List GObj:=gh++[.bld (bA X)]
section
variable {gh:List GObj} {X Y:List UInt8}
theorem jbg (l:List UInt8):(bA l).size=l.length:=by simp[ByteArray.size]
theorem BW_get:(BW gh X)[gh.length]?=some (.bld (bA X)):=by simp[BW]
theorem ws_eq (h:Y≠[]) (hl:X.length+Y.length≤140737488355328):callL pg 357 [.ptr true gh.length 0,.str (bA Y)] (BW gh X)=some (.tup [I (Y.length:Int),.nilI],BW gh (X++Y)):=by
 have:callL pg 357 [.ptr true gh.length 0,.str (bA Y)] (BW gh X)=libWS [.ptr true gh.length 0,.str (bA Y)] (BW gh X):=rfl
 rw[this]
 have h0:Y.length≠0:=fun e=>h (List.eq_nil_of_length_eq_zero e)
 simp only[libWS,BW_get,jbg]
 rw[if_pos ⟨h0,hl⟩,bA_app]
 simp[BW]
theorem bs_eq:callL pg 359 [.ptr true gh.length 0] (BW gh X)=some (.str (bA X),gh++[.cells [if X.length=0 then .nilp else .ptr true gh.length 0,.sl false 1 (X.map fun c=> .int .u8 c.toNat)]]):=by
 have:callL pg 359 [.ptr true gh.length 0] (BW gh X)=libBS [.ptr true gh.length 0] (BW gh X):=rfl
 rw[this]
 simp only[libBS,BW_get,jbg]
 simp[BW]
end
end Go.Lw
end

/-! What the functions of package gates come to. -/
section
namespace Go.Lw
open Go
theorem jfz (ins:Int) (ands:List (Int×Int)) (gh:List GObj):callL pg 88 [graphV ins ands] gh=some (I (IntKind.i64.wrap (IntKind.i64.wrap (1+ins)+ands.length)),gh):=by
 rw[j8b (fn:=q2i) (s:=⟨[(2,I (IntKind.i64.wrap (IntKind.i64.wrap (1+ins)+ands.length)))],[],gh⟩) (e:= .ret) rfl rfl (q5m_ (by simp[q5m]))]
 simp[finish,results,q2i,resOfs,resOf,resOk,argOk,PV.one,PV.noG]
theorem jbh {xs:List Int} {c:Nat} {caps:List PV} {gh:List GObj} {p:Int→Bool} (hc:∀x∈xs,callL pg c (I x::caps) gh=some (B (p x),gh)) (hcap:caps.all argOk=true) (hs:Sz xs.length) :
  ∀k i,i+k=xs.length→runL pg q2o ⟨[(0,LI xs),(1,.fn c caps),(7,I xs.length),(8,I i)],[],gh⟩=
   match (xs.drop i).findIdx? p with
   |some j=>some (.ret,⟨[(4,I ((i+j:Nat)))],[],gh⟩)
   |none=>some (.normal,⟨[],[],gh⟩)
 |0,i,h=>by
  rw[List.drop_eq_nil_of_le (by omega)]
  refine (j7e (s1:=?s1) (q1k_ ?h1)).trans ?r1
  case h1=>simp[q1k,show i=xs.length by omega];rfl
  case r1=>simp[keep]
 | k+1,i,h=>by
  have hlt:i<xs.length:=by omega
  have hx:xs[i]?=some xs[i]:=List.getElem?_eq_getElem hlt
  rw[List.drop_eq_getElem_cons hlt,List.findIdx?_cons]
  cases hp:p xs[i] with
  |true=>
   refine (lp_ret (s1:=?s2) (q1k_ ?h2)).trans ?r2
   case h2=>simp[q1k,hlt,hx,j8r hcap,hc xs[i] (List.getElem_mem hlt),hp];rfl
   case r2=>simp
  | false=>
   refine j7d (s1:=?s3) (q1k_ ?h3) ?r3
   case h3=>simp[q1k,hlt,hx,j8r hcap,hc xs[i] (List.getElem_mem hlt),hp];rfl
   case r3=>
    rw[j8s (by omega)]
    refine (jbh hc hcap hs k (i+1) (by omega)).trans ?_
    cases (xs.drop (i+1)).findIdx? p<;>simp
    omega
theorem jg0 {xs:List Int} {c:Nat} {caps:List PV} {gh:List GObj} {p:Int→Bool} (hc:∀x∈xs,callL pg c (I x::caps) gh=some (B (p x),gh)) (hcap:caps.all argOk=true) (hs:Sz xs.length) :
  callL pg 111 [LI xs,.fn c caps] gh=some (I (match xs.findIdx? p with|some j=>(j:Int)|none=> -1),gh):=by
 have hl:=jbh hc hcap hs xs.length 0 (by omega)
 simp only[List.drop_zero,Nat.zero_add,Int.natCast_zero] at hl
 cases hf:xs.findIdx? p with
 |some j=>
  rw[hf] at hl
  refine j70 (fn:=qy) (s:=?s4) rfl rfl (q37_ ?h4) ?r4
  case h4=>simp[q37,hl];rfl
  case r4=>simp[finish,results,qy,resOfs,resOf,resOk,argOk,PV.one,PV.noG]
 |none=>
  rw[hf] at hl
  refine j70 (fn:=qy) (s:=?s5) rfl rfl (q37_ ?h5) ?r5
  case h5=>simp[q37,hl,q6b_ (s:=⟨[(4,I (-1))],[],gh⟩) (e:= .ret) rfl];rfl
  case r5=>simp[finish,results,qy,resOfs,resOf,resOk,argOk,PV.one,PV.noG]
theorem j9o {xs:List Int} {c:Nat} {caps:List PV} {gh:List GObj} {p:Int→Bool} (hc:∀x∈xs,callL pg c (I x::caps) gh=some (B (p x),gh)) (hcap:caps.all argOk=true) (hs:Sz xs.length) :
  callL pg 86 [LI xs,.fn c caps] gh=some (B (xs.any p),gh):=by
 refine j70 (fn:=q2m) (s:=?s6) rfl rfl (q5n_ ?h6) ?r6
 case h6=>simp[q5n,jg0 hc hcap hs];rfl
 case r6=>
  have:(decide (0≤(match xs.findIdx? p with|some j=>(j:Int)|none=> -1)))=xs.any p:=by
   cases hf:xs.findIdx? p with
   |some j=>
    have:=List.findIdx?_eq_some_iff_getElem.1 hf
    obtain⟨hj,hpj,_⟩:=this
    simp only[Int.natCast_nonneg,decide_true]
    exact (List.any_eq_true.2 ⟨_,List.getElem_mem hj,hpj⟩).symm
   |none=>
    have:=List.findIdx?_eq_none_iff.1 hf
    simp only[show decide ((0:Int)≤ -1)=false by decide]
    exact (List.any_eq_false.2 fun x hx=>by simp[this x hx]).symm
  simp[finish,results,q2m,resOfs,resOf,resOk,argOk,PV.one,PV.noG,this]
end Go.Lw
end

/-! Graphs: maps whose keys are Ands, and the check of a graph. -/
section
namespace Go.Lw
open Go
theorem jg1 (x:Int×Int):andV x= .agg [I x.1,I x.2]:=rfl
def mapA (l:List ((Int×Int)×PV)):List (PV×PV):=l.map fun e=>(andV e.1,e.2)
def setA:List ((Int×Int)×PV)→Int×Int→PV→List ((Int×Int)×PV)
 |[],k,v=>[(k,v)]
 |(a,u)::l,k,v=>if k=a then (k,v)::l else (a,u)::setA l k v
theorem jbi (x y:Int×Int):sameKey 2 (andV x) (andV y)=some (decide (x=y)):=by
 obtain⟨a,b⟩:=x
 obtain⟨c,d⟩:=y
 by_cases h1:a=c
 ·by_cases h2:b=d<;>simp[sameKey,andV,flatEq,sameCell,h1,h2,List.replicate]
 ·simp[sameKey,andV,flatEq,sameCell,h1,List.replicate]
theorem jg2 (l:List ((Int×Int)×PV)) (k:Int×Int) (v:PV):mset 2 (mapA l) (andV k) v=some (mapA (setA l k v)):=by
 induction l with
 |nil=>rfl
 | cons x l ih=>
  obtain⟨a,u⟩:=x
  by_cases h:k=a
  ·simp[mapA,setA,mset,jbi,h]
  ·have:mset 2 (l.map fun e=>(andV e.1,e.2)) (andV k) v=some (mapA (setA l k v)):=ih
   simp[mapA,setA,mset,jbi,h,this]
theorem jg3 {l:List ((Int×Int)×PV)} {k:Int×Int} {v:PV} (h:k∉l.map (·.1)):setA l k v=l++[(k,v)]:=by
 induction l with
 |nil=>rfl
 |cons x l ih=>
  obtain⟨a,u⟩:=x
  simp only[List.map_cons,List.mem_cons,not_or] at h
  rw[setA,if_neg h.1,ih h.2];rfl
theorem jg4 {l:List ((Int×Int)×PV)} {k:Int×Int} {v:PV} (h:k∈l.map (·.1)):(setA l k v).length=l.length:=by
 induction l with
 |nil=>simp at h
 | cons x l ih=>
  obtain⟨a,u⟩:=x
  rw[setA]
  split
  ·rfl
  ·rename_i hk
   simp only[List.map_cons,List.mem_cons] at h
   simp[ih (h.resolve_left hk)]
theorem j9p {l:List ((Int×Int)×PV)} {k:Int×Int} {v:PV} (x:Int×Int):x∈(setA l k v).map (·.1)↔x=k∨x∈l.map (·.1):=by
 induction l with
 |nil=>simp[setA]
 | cons y l ih=>
  obtain⟨a,u⟩:=y
  rw[setA]
  split
  ·rename_i hk;subst hk;simp
  ·simp only[List.map_cons,List.mem_cons,ih]
   constructor
   ·rintro (h|h|h)
    ·exact .inr (.inl h)
    ·exact .inl h
    ·exact .inr (.inr h)
   ·rintro (h|h|h)
    ·exact .inr (.inl h)
    ·exact .inl h
    ·exact .inr (.inr h)
def metA:List (Int×Int)→List ((Int×Int)×PV)→List ((Int×Int)×PV)
 |[],m=>m
 |x::l,m=>metA l (setA m x (B true))
theorem jbj:∀(l:List (Int×Int)) (m:List ((Int×Int)×PV)),(metA l m).length≤m.length+l.length∧((metA l m).length=m.length+l.length↔(l.Nodup∧∀x∈l,x∉m.map (·.1)))
 |[],m=>by simp[metA]
 | x ::l,m=>by
  obtain⟨h1,h2⟩:=jbj l (setA m x (B true))
  rw[metA]
  by_cases hx:x∈m.map (·.1)
  ·have hl:=jg4 (v:=B true) hx
   rw[hl] at h1 h2
   refine⟨by simp;omega,?_⟩
   constructor
   ·intro h;simp at h;omega
   ·intro h;exact absurd hx (h.2 x (by simp))
  ·have hl:(setA m x (B true)).length=m.length+1:=by rw[jg3 hx];simp
   rw[hl] at h1 h2
   refine⟨by simp;omega,?_⟩
   rw[show (x::l).length=l.length+1 from rfl,show m.length+(l.length+1)=m.length+1+l.length by omega,h2,List.nodup_cons]
   constructor
   ·rintro⟨h3,h4⟩
    refine⟨⟨fun hm=>?_,h3⟩,fun y hy=>?_⟩
    ·exact h4 x hm ((j9p x).2 (.inl rfl))
    ·rcases List.mem_cons.1 hy with rfl|hy
     ·exact hx
     ·exact fun hm=>h4 y hy ((j9p y).2 (.inr hm))
   ·rintro⟨⟨h3,h4⟩,h5⟩
    refine⟨h4,fun y hy hm=>?_⟩
    rcases (j9p y).1 hm with rfl|hm
    ·exact h3 hy
    ·exact h5 y (by simp[hy]) hm
def badA (ins:Int) (i:Nat) (x:Int×Int):Prop:=x.2≤x.1∨x.1<2∨2*(1+ins+i)≤x.2∨x.1/2=x.2/2
instance (ins:Int) (i:Nat) (x:Int×Int):Decidable (badA ins i x):=inferInstanceAs (Decidable (_∨_))
def okA (ins:Int):Nat→List (Int×Int)→Bool
 |_,[]=>true
 |i,x::l=>if badA ins i x then false else okA ins (i+1) l
def chkE (ins:Int) (ands:List (Int×Int)):Int:=
 if ¬(0≤ins∧ins≤1000) then 3 else if 1000000<ands.length then 2 else if okA ins 0 ands then (if ands.Nodup then 0 else 6) else 4
theorem tdiv2 {a:Int} (h:0≤a):Int.tdiv a 2=a/2:=Int.tdiv_eq_ediv_of_nonneg h
section
variable {ins:Int} {ands:List (Int×Int)} {gh:List GObj}
theorem jg5 (hi:0≤ins∧ins≤1000) (hl:ands.length≤1000000) {i:Nat} (hlt:i<ands.length) (m:List ((Int×Int)×PV)) (hr: -9223372036854775808≤ands[i].1∧ands[i].1≤9223372036854775807) (hr2: -9223372036854775808≤ands[i].2∧ands[i].2≤9223372036854775807) :
  qe pg (.mp gh.length) (.sl false 2 (ands.map andV)) ands.length i ins (.sl false 2 (ands.map andV)) (gh++[.map (mapA m)])=
   if badA ins i ands[i] then some (.ret,⟨[(2,I 4)],[],gh++[.map (mapA m)]⟩)
   else some (.normal,⟨[(1,.ptr false 0 0),(3,.mp gh.length),(20,.sl false 2 (ands.map andV)),(21,I ands.length),(22,I ((i+1:Nat):Int))],[[I ins,.sl false 2 (ands.map andV)]],gh++[.map (mapA (setA m ands[i] (B true)))]⟩):=by
 have e2:IntKind.i64.wrap ((i:Int)+1)=((i+1:Nat):Int):=by rw[j7c (by omega) (by omega)];omega
 have hx:(ands.map andV)[i]?=some (.agg [I ands[i].1,I ands[i].2]):=by simp[List.getElem?_eq_getElem hlt,andV]
 generalize hy:ands[i]=x at *
 obtain⟨a,b⟩:=x
 simp only at hr hr2 hx
 have eN:IntKind.i64.wrap (IntKind.i64.wrap (1+ins)+(i:Int))=1+ins+i:=by
  rw[j7c (n:=1+ins) (by omega) (by omega),j7c (by omega) (by omega)]
 have hltI:(i:Int)<(ands.length:Int):=by omega
 by_cases h1:b≤a
 ·rw[if_pos (show badA ins i (a,b) from .inl h1)]
  simp[qe,hltI,hx,h1,-List.getElem?_map]
 by_cases h2:a<2
 ·rw[if_pos (show badA ins i (a,b) from .inr (.inl h2))]
  simp[qe,hltI,hx,h1,h2,-List.getElem?_map]
 have ea:IntKind.i64.wrap (Int.tdiv a 2)=a/2:=by rw[tdiv2 (by omega),j7c (by omega) (by omega)]
 have eb:IntKind.i64.wrap (Int.tdiv b 2)=b/2:=by rw[tdiv2 (by omega),j7c (by omega) (by omega)]
 by_cases h3:2*(1+ins+i)≤b
 ·rw[if_pos (show badA ins i (a,b) from .inr (.inr (.inl h3)))]
  have h3':1+ins+(i:Int)≤b/2:=by omega
  simp[qe,hltI,hx,h1,h2,eN,eb,h3',-List.getElem?_map]
 have h3':¬1+ins+(i:Int)≤b/2:=by omega
 by_cases h4:a/2=b/2
 ·rw[if_pos (show badA ins i (a,b) from .inr (.inr (.inr h4)))]
  simp[qe,hltI,hx,h1,h2,eN,ea,eb,h3',h4,-List.getElem?_map]
 ·rw[if_neg (show ¬badA ins i (a,b) by rintro (h|h|h|h)<;>contradiction)]
  have hm:=jg2 m (a,b) (B true)
  rw[jg1] at hm
  simp[qe,hltI,hx,h1,h2,eN,ea,eb,h3',h4,e2,hm,-List.getElem?_map]
def RA (ands:List (Int×Int)):Prop:=∀x∈ands,(-9223372036854775808≤x.1∧x.1≤9223372036854775807)∧(-9223372036854775808≤x.2∧x.2≤9223372036854775807)
def chkSt (gh:List GObj) (ins:Int) (ands:List (Int×Int)) (m:List ((Int×Int)×PV)) (i:Nat):St:=
 ⟨[(1,.ptr false 0 0),(3,.mp gh.length),(20,.sl false 2 (ands.map andV)),(21,I ands.length),(22,I (i:Int))],[[I ins,.sl false 2 (ands.map andV)]],gh++[.map (mapA m)]⟩
theorem jbk (hi:0≤ins∧ins≤1000) (hl:ands.length≤1000000) (hr:RA ands):∀k i m,i+k=ands.length→
  (okA ins i (ands.drop i)=true→runL pg q1d (chkSt gh ins ands m i)=some (.normal,⟨[(1,.ptr false 0 0),(3,.mp gh.length)],[[I ins,.sl false 2 (ands.map andV)]],gh++[.map (mapA (metA (ands.drop i) m))]⟩))∧
  (okA ins i (ands.drop i)=false→∃m',runL pg q1d (chkSt gh ins ands m i)=some (.ret,⟨[(2,I 4)],[],gh++[.map (mapA m')]⟩))
 |0,i,m,h=>by
  rw[List.drop_eq_nil_of_le (by omega)]
  refine⟨fun _=>?_,fun h=>by simp[okA] at h⟩
  have hlt:¬(i:Int)<(ands.length:Int):=by omega
  refine (j7e (s1:=?s1) (qe_ ?h1)).trans ?r1
  case h1=>simp only[qe,decide_eq_false hlt,j7r];rfl
  case r1=>rfl
 | k+1,i,m,h=>by
  have hlt:i<ands.length:=by omega
  have hx:=hr ands[i] (List.getElem_mem hlt)
  have hb:=jg5 (gh:=gh) hi hl hlt m hx.1 hx.2
  rw[List.drop_eq_getElem_cons hlt,okA]
  by_cases hbad:badA ins i ands[i]
  ·rw[if_pos hbad] at hb ⊢
   exact⟨fun h=>(by cases h),fun _=>⟨m,lp_ret (qe_ hb)⟩⟩
  ·rw[if_neg hbad] at hb ⊢
   obtain⟨g1,g2⟩:=jbk hi hl hr k (i+1) (setA m ands[i] (B true)) (by omega)
   refine⟨fun h=>?_,fun h=>?_⟩
   ·exact j7d (qe_ hb) (g1 h)
   ·obtain⟨m',g⟩:=g2 h
    exact⟨m',j7d (qe_ hb) g⟩
theorem jg6 (hr:RA ands):callL pg 6 [graphV ins ands] gh=some (I (chkE ins ands),gh):=by
 by_cases h1:ins<0
 ·refine j70 (fn:=q4) (s:=?s1) rfl rfl (ql_ ?h1) ?r1
  case h1=>simp[ql,h1];rfl
  case r1=>
   have e:chkE ins ands=3:=by unfold chkE;rw[if_pos (by omega)]
   simp[finish,results,q4,resOfs,resOf,resOk,e]
 by_cases h2:1000<ins
 ·refine j70 (fn:=q4) (s:=?s2) rfl rfl (ql_ ?h2) ?r2
  case h2=>simp[ql,h1,h2];rfl
  case r2=>
   have e:chkE ins ands=3:=by unfold chkE;rw[if_pos (by omega)]
   simp[finish,results,q4,resOfs,resOf,resOk,e]
 have hi:0≤ins∧ins≤1000:=by omega
 by_cases h3:1000000<ands.length
 ·have h3':(1000000:Int)<(ands.length:Int):=by omega
  refine j70 (fn:=q4) (s:=?s3) rfl rfl (ql_ ?h3) ?r3
  case h3=>simp[ql,h1,h2,h3'];rfl
  case r3=>simp[finish,results,q4,resOfs,resOf,resOk,chkE,hi,h3]
 have h3':¬(1000000:Int)<(ands.length:Int):=by omega
 obtain⟨g1,g2⟩:=jbk (gh:=gh) hi (by omega) hr ands.length 0 [] (by omega)
 rw[List.drop_zero] at g1 g2
 unfold chkSt at g1 g2
 have hm0:mapA []=[]:=rfl
 rw[hm0] at g1 g2
 simp only[Int.natCast_zero] at g1 g2
 cases hok:okA ins 0 ands with
 |false=>
  obtain⟨m',g⟩:=g2 hok
  refine j70 (fn:=q4) (s:=?s4) rfl rfl (ql_ ?h4) ?r4
  case h4=>simp[ql,h1,h2,h3',g];rfl
  case r4=>simp[finish,results,q4,resOfs,resOf,resOk,chkE,hi,h3,hok]
 | true=>
  have g:=g1 hok
  obtain⟨l1,l2⟩:=jbj ands []
  simp only[List.length_nil,Nat.zero_add,List.map_nil,List.not_mem_nil,not_false_eq_true,implies_true,and_true] at l1 l2
  have hml:(mapA (metA ands [])).length=(metA ands []).length:=by simp[mapA]
  by_cases hnd:ands.Nodup
  ·have hlen:=l2.2 hnd
   have hk:=q39_ (pg:=pg) (gh:=gh++[.map (mapA (metA ands []))]) (v3:= .mp gh.length) (xc0_0:=ins) (vc0_1:= .sl false 2 (ands.map andV)) (e:= .ret) (s:=⟨[(2,I 0)],[],gh++[.map (mapA (metA ands []))]⟩)
    (by simp[q39,hml,hlen])
   refine j70 (fn:=q4) (s:=?s5) rfl rfl (ql_ ?h5) ?r5
   case h5=>simp[ql,h1,h2,h3',g,hk];rfl
   case r5=>simp[finish,results,q4,resOfs,resOf,resOk,chkE,hi,h3,hok,hnd]
  ·have hlen:(metA ands []).length<ands.length:=by
    rcases Nat.lt_or_ge (metA ands []).length ands.length with h|h
    ·exact h
    ·exact absurd (l2.1 (by omega)) hnd
   have hk:=q39_ (pg:=pg) (gh:=gh++[.map (mapA (metA ands []))]) (v3:= .mp gh.length) (xc0_0:=ins) (vc0_1:= .sl false 2 (ands.map andV)) (e:= .ret) (s:=⟨[(2,I 6)],[],gh++[.map (mapA (metA ands []))]⟩)
    (by simp[q39,hml,hlen])
   refine j70 (fn:=q4) (s:=?s6) rfl rfl (ql_ ?h6) ?r6
   case h6=>simp[ql,h1,h2,h3',g,hk];rfl
   case r6=>simp[finish,results,q4,resOfs,resOf,resOk,chkE,hi,h3,hok,hnd]
theorem jg7 (h:chkE ins ands=0):(0≤ins∧ins≤1000)∧ands.length≤1000000∧okA ins 0 ands=true∧ands.Nodup:=by
 unfold chkE at h
 repeat' split at h
 all_goals first|(cases h;done)|skip
 rename_i h1 h2 h3 h4
 exact⟨Classical.not_not.1 h1,by omega,h3,h4⟩
def nodesOf (ins:Int) (ands:List (Int×Int)):Int:=1+ins+ands.length
theorem jg8 (hi:0≤ins∧ins≤1000) (hl:ands.length≤1000001):callL pg 88 [graphV ins ands] gh=some (I (nodesOf ins ands),gh):=by
 rw[jfz,j7c (n:=1+ins) (by omega) (by omega),j7c (by omega) (by omega)];rfl
def isLit (ins:Int) (ands:List (Int×Int)) (n:Int):Bool:=decide (0≤n∧n<2*nodesOf ins ands)
theorem Is1_eq (hi:0≤ins∧ins≤1000) (hl:ands.length≤1000000) (n:Int) {b:Nat} (hb:gh[b]?=some (.cells [I ins,.sl false 2 (ands.map andV)])):callL pg 85 [I n,.ptr true b 0] gh=some (B (!isLit ins ands n),gh):=by
 have hN:nodesOf ins ands=1+ins+ands.length:=rfl
 by_cases h0:n<0
 ·refine j70 (fn:=qw) (s:=?s1) rfl rfl (q3a_ ?h1) ?r1
  case h1=>simp[q3a,h0];rfl
  case r1=>
   have:isLit ins ands n=false:=by unfold isLit;rw[decide_eq_false_iff_not];omega
   simp[finish,results,qw,resOfs,resOf,resOk,this]
 ·have ew:IntKind.i64.wrap (2*nodesOf ins ands)=2*nodesOf ins ands:=j7c (by omega) (by omega)
  have hN2:=jg8 (gh:=gh) hi (show ands.length≤1000001 by omega)
  unfold graphV at hN2
  refine j70 (fn:=qw) (s:=?s2) rfl rfl (q3a_ ?h2) ?r2
  case h2=>simp[q3a,h0,hb,hN2,ew];rfl
  case r2=>
   have:(!isLit ins ands n)=decide (2*nodesOf ins ands≤n):=by
    unfold isLit
    by_cases h:2*nodesOf ins ands≤n
    ·rw[decide_eq_true h,decide_eq_false (by omega)];rfl
    ·rw[decide_eq_false h,decide_eq_true (by omega)];rfl
   simp[finish,results,qw,resOfs,resOf,resOk,this]
theorem Is_eq (hi:0≤ins∧ins≤1000) (hl:ands.length≤1000000) {lits:List Int} (hs:Sz lits.length):callL pg 47 [graphV ins ands,LI lits] gh=some (B (lits.all (isLit ins ands)),gh):=by
 have hc:∀x∈lits,callL pg 85 (I x::[.ptr true gh.length 0]) (gh++[.cells [I ins,.sl false 2 (ands.map andV)]])=some (B (!isLit ins ands x),gh++[.cells [I ins,.sl false 2 (ands.map andV)]]):=
  fun x _=>Is1_eq hi hl x (by simp)
 have:=j9o (caps:=[.ptr true gh.length 0]) hc (by simp) hs
 refine j70 (fn:=q2h) (s:=?s1) rfl rfl (q5o_ ?h1) ?r1
 case h1=>simp[q5o,this];rfl
 case r1=>
  have e:(!lits.any fun x=> !isLit ins ands x)=lits.all (isLit ins ands):=by
   rw[List.not_any_eq_all_not];simp
  simp[finish,results,q2h,resOfs,resOf,resOk,←e]
end
end Go.Lw
end

/-! Clauses: what the program makes and checks. -/
section
namespace Go.Lw
open Go
def clV (vars:Int) (cls:List (List Int)):PV:= .agg [I vars,.sl false 1 (cls.map fun l=>LI l)]
theorem jg9 (l:List Int):noGs (l.map I)=true:=by
 induction l with
 |nil=>rfl
 |cons x l ih=>simp[ih]
theorem jbl (l:List (List Int)):noGs (l.map fun l=>LI l)=true:=by
 induction l with
 |nil=>rfl
 |cons x l ih=>simp[ih,jg9]
def numE (x more:Int):Int:=
 if Int.tmod x 2=1 then IntKind.i64.wrap (-IntKind.i64.wrap (IntKind.i64.wrap (Int.tdiv x 2)+more)) else IntKind.i64.wrap (IntKind.i64.wrap (Int.tdiv x 2)+more)
theorem j9q (x more:Int) (gh:List GObj):callL pg 90 [I x,I more] gh=some (I (numE x more),gh):=by
 by_cases h:Int.tmod x 2=1
 ·refine j70 (fn:=qt) (s:=?s1) rfl rfl (q3b_ ?h1) ?r1
  case h1=>simp[q3b,h];rfl
  case r1=>simp[finish,results,qt,resOfs,resOf,resOk,numE,h]
 ·refine j70 (fn:=qt) (s:=?s2) rfl rfl (q3b_ ?h2) ?r2
  case h2=>simp[q3b,h];rfl
  case r2=>simp[finish,results,qt,resOfs,resOf,resOk,numE,h]
def mkC (gh:List GObj) (vars:Int) (cls:List (List Int)):List GObj:=gh++[.cells [I vars,.sl true 1 (cls.map fun l=>LI l)]]
section
variable {gh:List GObj} {x y:GObj}
end
theorem Add_eq {gh:List GObj} {vars:Int} {cls:List (List Int)} {c:List Int} (hs:cls.length≤5000000):callL pg 91 [.ptr true gh.length 0,LI c] (mkC gh vars cls)=some (.tup [],mkC gh vars (cls++[c])):=by
 have hmx:(cls.length+1)*24≤maxBytes:=by
  have:maxBytes=140737488355328:=rfl
  omega
 have h1:=q5p_ (pg:=pg) (gh:=mkC gh vars cls) (g0:=gh.length) (o0:=0) (v1:=LI c) (e:= .normal) (s:=⟨[],[],mkC gh vars (cls++[c])⟩) (by
  simp[q5p,mkC,hmx,spliceAt])
 rw[j8b (fn:=q2a) rfl rfl h1]
 simp[finish,results,q2a,resOfs,resOk]
def nOf (ins more:Int) (i:Nat):Int:=IntKind.i64.wrap (IntKind.i64.wrap (IntKind.i64.wrap (1+ins)+(i:Int))+more)
def negI (x:Int):Int:=IntKind.i64.wrap (-x)
def andC (ins more:Int) (i:Nat) (x:Int×Int):List (List Int):=
 [[negI (nOf ins more i),numE x.1 more],[negI (nOf ins more i),numE x.2 more],[nOf ins more i,negI (numE x.1 more),negI (numE x.2 more)]]
def andsC (ins more:Int):Nat→List (Int×Int)→List (List Int)
 |_,[]=>[]
 |i,x::l=>andC ins more i x++andsC ins more (i+1) l
theorem jbm (ins more:Int):∀(i:Nat) (l:List (Int×Int)),(andsC ins more i l).length=3*l.length
 |_,[]=>rfl
 |i,x::l=>by
  rw[andsC,List.length_append,jbm ins more (i+1) l]
  simp[andC];omega
section
variable {ins:Int} {ands:List (Int×Int)} {gh:List GObj}
def anSt (gh:List GObj) (ins:Int) (ands:List (Int×Int)) (more vars:Int) (cls:List (List Int)) (i:Nat):St:=
 ⟨[(0,.ptr true gh.length 0),(2,I more),(4,.ptr false 0 0),(12,.sl false 2 (ands.map andV)),(13,I ands.length),(14,I (i:Int))],[[I ins,.sl false 2 (ands.map andV)]],mkC gh vars cls⟩
theorem jga {more vars:Int} {cls:List (List Int)} {i:Nat} (hlt:i<ands.length) (hl:ands.length≤1000000) (hs:cls.length≤4000000) :
  q1l pg gh.length 0 more (.sl false 2 (ands.map andV)) ands.length i ins (.sl false 2 (ands.map andV)) (mkC gh vars cls)=some (.normal,anSt gh ins ands more vars (cls++andC ins more i ands[i]) (i+1)):=by
 have e2:IntKind.i64.wrap ((i:Int)+1)=((i+1:Nat):Int):=by rw[j7c (by omega) (by omega)];omega
 have hx:(ands.map andV)[i]?=some (.agg [I ands[i].1,I ands[i].2]):=by simp[List.getElem?_eq_getElem hlt,andV]
 generalize hy:ands[i]=x at *
 obtain⟨a,b⟩:=x
 have hltI:(i:Int)<(ands.length:Int):=by omega
 have hn1:=j9q a more (mkC gh vars cls)
 have hn2:=j9q b more (mkC gh vars cls)
 have ha1:=Add_eq (gh:=gh) (vars:=vars) (cls:=cls) (c:=[negI (nOf ins more i),numE a more]) (by omega)
 have ha2:=Add_eq (gh:=gh) (vars:=vars) (cls:=cls++[[negI (nOf ins more i),numE a more]]) (c:=[negI (nOf ins more i),numE b more]) (by simp;omega)
 have ha3:=Add_eq (gh:=gh) (vars:=vars) (cls:=(cls++[[negI (nOf ins more i),numE a more]])++[[negI (nOf ins more i),numE b more]]) (c:=[nOf ins more i,negI (numE a more),negI (numE b more)]) (by simp;omega)
 have e3:((cls++[[negI (nOf ins more i),numE a more]])++[[negI (nOf ins more i),numE b more]])++[[nOf ins more i,negI (numE a more),negI (numE b more)]]=cls++andC ins more i (a,b):=by simp[andC]
 rw[e3] at ha3
 simp only at hx
 generalize hN:nOf ins more i=N at *
 generalize hA:numE a more=A at *
 generalize hB:numE b more=B' at *
 unfold nOf at hN
 simp only[LI,List.map_cons,List.map_nil,negI] at ha1 ha2 ha3
 unfold anSt
 generalize mkC gh vars (cls++andC ins more i (a,b))=g3 at *
 generalize mkC gh vars (cls++[[IntKind.i64.wrap (-N),A]]++[[IntKind.i64.wrap (-N),B']])=g2 at *
 generalize mkC gh vars (cls++[[IntKind.i64.wrap (-N),A]])=g1 at *
 generalize mkC gh vars cls=g0 at *
 simp[q1l,hltI,hx,hn1,hn2,hN,ha1,ha2,ha3,e2,-List.getElem?_map]
theorem jbn {more vars:Int} (hl:ands.length≤1000000):∀k i (cls:List (List Int)),i+k=ands.length→cls.length+3*k≤4000000→
  runL pg q23 (anSt gh ins ands more vars cls i)=some (.normal,⟨[],[],mkC gh vars (cls++andsC ins more i (ands.drop i))⟩)
 |0,i,cls,h,_=>by
  rw[List.drop_eq_nil_of_le (by omega)]
  have hlt:¬(i:Int)<(ands.length:Int):=by omega
  refine (j7e (s1:=?s1) (q1l_ ?h1)).trans ?r1
  case h1=>simp only[q1l,decide_eq_false hlt,j7r];rfl
  case r1=>simp[keep,andsC]
 |k+1,i,cls,h,hs=>by
  have hlt:i<ands.length:=by omega
  refine j7d (q1l_ (jga hlt hl (by omega))) ?_
  rw[List.drop_eq_getElem_cons hlt,andsC,←List.append_assoc]
  exact jbn hl k (i+1) _ (by omega) (by simp[andC];omega)
theorem jgb {more vars:Int} (hl:ands.length≤1000000):callL pg 53 [.ptr true gh.length 0,graphV ins ands,I more] (mkC gh vars [])=some (.tup [],mkC gh vars (andsC ins more 0 ands)):=by
 have h:=jbn (gh:=gh) (ins:=ins) (more:=more) (vars:=vars) hl ands.length 0 [] (by omega) (by simp;omega)
 rw[List.drop_zero,List.nil_append] at h
 unfold anSt at h
 simp only[Int.natCast_zero] at h
 generalize mkC gh vars (andsC ins more 0 ands)=g1 at *
 generalize mkC gh vars []=g0 at *
 have h1:=q5r_ (pg:=pg) (gh:=g0) (g0:=gh.length) (o0:=0) (x1_0:=ins) (v1_1:= .sl false 2 (ands.map andV)) (x2:=more) (e:= .normal) (s:=⟨[],[],g1⟩) (by
  simp[q5r,h])
 rw[j8b (fn:=q24) rfl rfl h1]
 simp[finish,results,q24,resOfs,resOk]
def mustC (r more:Int):List (List Int):=if r=1 then [] else if r=0 then [[]] else [[numE r more]]
theorem jbo (r more:Int):(mustC r more).length≤1:=by
 unfold mustC;split
 ·simp
 ·split<;>simp
theorem jgc {r more vars:Int} {cls:List (List Int)} (hs:cls.length≤5000000):callL pg 54 [.ptr true gh.length 0,I r,I more] (mkC gh vars cls)=some (.tup [],mkC gh vars (cls++mustC r more)):=by
 have h1:runL pg q25 ⟨[(0,.ptr true gh.length 0),(1,I r),(2,I more)],[],mkC gh vars cls⟩=some (.normal,⟨[],[],mkC gh vars (cls++mustC r more)⟩):=by
  refine q1m_ ?_
  by_cases h1:r=1
  ·simp[q1m,h1,mustC]
  by_cases h0:r=0
  ·have ha:=Add_eq (gh:=gh) (vars:=vars) (cls:=cls) (c:=[]) hs
   simp only[LI,List.map_nil] at ha
   simp[q1m,h0,mustC,ha]
  ·have hn:=j9q r more (mkC gh vars cls)
   have ha:=Add_eq (gh:=gh) (vars:=vars) (cls:=cls) (c:=[numE r more]) hs
   simp only[LI,List.map_cons,List.map_nil] at ha
   simp[q1m,h1,h0,mustC,hn,ha]
 rw[j8b (fn:=q26) rfl rfl h1]
 simp[finish,results,q26,resOfs,resOk]
def badN (vars n:Int):Bool:=decide (n=0∨vars<n∨n<IntKind.i64.wrap (-vars))
theorem jgd {n vars:Int} {b:Nat} (hb:gh[b]?=some (.cells [I vars])):callL pg 113 [I n,.ptr true b 0] gh=some (B (badN vars n),gh):=by
 by_cases h0:n=0
 ·refine j70 (fn:=qi) (s:=?s1) rfl rfl (q1o_ ?h1) ?r1
  case h1=>simp[q1o,h0];rfl
  case r1=>simp[finish,results,qi,resOfs,resOf,resOk,badN,h0]
 by_cases h1:vars<n
 ·refine j70 (fn:=qi) (s:=?s2) rfl rfl (q1o_ ?h2) ?r2
  case h2=>simp[q1o,h0,hb,h1];rfl
  case r2=>simp[finish,results,qi,resOfs,resOf,resOk,badN,h1]
 ·refine j70 (fn:=qi) (s:=?s3) rfl rfl (q1o_ ?h3) ?r3
  case h3=>simp[q1o,h0,hb,h1];rfl
  case r3=>simp[finish,results,qi,resOfs,resOf,resOk,badN,h0,h1]
def oneE (vars:Int) (l:List Int):Int:=if 200<l.length then 2 else if l.any (badN vars) then 5 else 0
theorem one_eq {vars:Int} {l:List Int} (hs:Sz l.length):callL pg 94 [I vars,LI l] gh=some (I (oneE vars l),gh):=by
 by_cases h:200<l.length
 ·have hI:(200:Int)<(l.length:Int):=by omega
  refine j70 (fn:=qh) (s:=?s1) rfl rfl (q1n_ ?h1) ?r1
  case h1=>simp[q1n,hI];rfl
  case r1=>simp[finish,results,qh,resOfs,resOf,resOk,oneE,h]
 ·have hI:¬(200:Int)<(l.length:Int):=by omega
  have hc:∀x∈l,callL pg 113 (I x::[.ptr true gh.length 0]) (gh++[.cells [I vars]])=some (B (badN vars x),gh++[.cells [I vars]]):=fun x _=>jgd (by simp)
  have:=j9o (caps:=[.ptr true gh.length 0]) hc (by simp) hs
  cases hb:l.any (badN vars) with
  |true=>
   rw[hb] at this
   refine j70 (fn:=qh) (s:=?s2) rfl rfl (q1n_ ?h2) ?r2
   case h2=>simp[q1n,hI,this];rfl
   case r2=>simp[finish,results,qh,resOfs,resOf,resOk,oneE,h,hb]
  |false=>
   rw[hb] at this
   refine j70 (fn:=qh) (s:=?s3) rfl rfl (q1n_ ?h3) ?r3
   case h3=>simp[q1n,hI,this];rfl
   case r3=>simp[finish,results,qh,resOfs,resOf,resOk,oneE,h,hb]
def firstE (vars:Int):List (List Int)→Int
 |[]=>0
 |l::r=>if oneE vars l=0 then firstE vars r else oneE vars l
def clsE (vars:Int) (cls:List (List Int)):Int:=if vars<0∨200000<vars then 3 else if 800000<cls.length then 2 else firstE vars cls
def SL (cls:List (List Int)):Prop:=∀l∈cls,Sz l.length
theorem jbp {vars:Int} {cls:List (List Int)} (hs:SL cls) (hl:cls.length≤800000):∀k i,i+k=cls.length→
  runL pg q27 ⟨[(1,.ptr false 0 0),(19,.sl false 1 (cls.map fun l=>LI l)),(20,I cls.length),(21,I (i:Int))],[[I vars,.sl false 1 (cls.map fun l=>LI l)]],gh⟩=
   if firstE vars (cls.drop i)=0 then some (.normal,⟨[],[],gh⟩) else some (.ret,⟨[(2,I (firstE vars (cls.drop i)))],[],gh⟩)
 |0,i,h=>by
  rw[List.drop_eq_nil_of_le (by omega),firstE,if_pos rfl]
  have hlt:¬(i:Int)<(cls.length:Int):=by omega
  refine (j7e (s1:=?s1) (q1p_ ?h1)).trans ?r1
  case h1=>simp only[q1p,decide_eq_false hlt,j7r];rfl
  case r1=>simp[keep]
 | k+1,i,h=>by
  have hlt:i<cls.length:=by omega
  have hltI:(i:Int)<(cls.length:Int):=by omega
  have e2:IntKind.i64.wrap ((i:Int)+1)=((i+1:Nat):Int):=by rw[j7c (by omega) (by omega)];omega
  have hx:(cls.map fun l=>LI l)[i]?=some (LI cls[i]):=by simp[List.getElem?_eq_getElem hlt]
  have h1:=one_eq (gh:=gh) (vars:=vars) (hs _ (List.getElem_mem hlt))
  rw[List.drop_eq_getElem_cons hlt,firstE]
  by_cases he:oneE vars cls[i]=0
  ·rw[if_pos he]
   rw[he] at h1
   refine j7d (s1:=⟨[(1,.ptr false 0 0),(19,.sl false 1 (cls.map fun l=>LI l)),(20,I cls.length),(21,I ((i+1:Nat):Int))],[[I vars,.sl false 1 (cls.map fun l=>LI l)]],gh⟩) (q1p_ ?h2) (jbp hs hl k (i+1) (by omega))
   case h2=>simp[q1p,hltI,hx,h1,e2,-List.getElem?_map]
  ·rw[if_neg he,if_neg he]
   refine lp_ret (q1p_ ?h3)
   case h3=>simp[q1p,hltI,hx,h1,he,-List.getElem?_map]
theorem j8c {vars:Int} {cls:List (List Int)} (hs:SL cls):callL pg 59 [clV vars cls] gh=some (I (clsE vars cls),gh):=by
 by_cases h1:vars<0
 ·refine j70 (fn:=qa) (s:=?s1) rfl rfl (qn_ ?h1) ?r1
  case h1=>simp[qn,h1];rfl
  case r1=>simp[finish,results,qa,resOfs,resOf,resOk,clsE,h1]
 by_cases h2:200000<vars
 ·refine j70 (fn:=qa) (s:=?s2) rfl rfl (qn_ ?h2) ?r2
  case h2=>simp[qn,h1,h2];rfl
  case r2=>simp[finish,results,qa,resOfs,resOf,resOk,clsE,h2]
 have h12:¬(vars<0∨200000<vars):=by omega
 by_cases h3:800000<cls.length
 ·have hI:(800000:Int)<(cls.length:Int):=by omega
  refine j70 (fn:=qa) (s:=?s3) rfl rfl (qn_ ?h3) ?r3
  case h3=>simp[qn,h1,h2,hI];rfl
  case r3=>simp[finish,results,qa,resOfs,resOf,resOk,clsE,h12,h3]
 have hI:¬(800000:Int)<(cls.length:Int):=by omega
 have hl:=jbp (gh:=gh) (vars:=vars) hs (by omega) cls.length 0 (by omega)
 rw[List.drop_zero] at hl
 simp only[Int.natCast_zero] at hl
 generalize hL:(cls.map fun l=>LI l)=L at *
 have hLl:L.length=cls.length:=by rw[←hL];simp
 by_cases he:firstE vars cls=0
 ·rw[if_pos he] at hl
  have hk:=q6j_ (pg:=pg) (gh:=gh) (e:= .ret) (s:=⟨[(2,I 0)],[],gh⟩) rfl
  refine j70 (fn:=qa) (s:=?s4) rfl rfl (qn_ ?h4) ?r4
  case h4=>simp[qn,h1,h2,hLl,hI,hl,hk,hL];rfl
  case r4=>simp[finish,results,qa,resOfs,resOf,resOk,clsE,h12,h3,he]
 ·rw[if_neg he] at hl
  refine j70 (fn:=qa) (s:=?s5) rfl rfl (qn_ ?h5) ?r5
  case h5=>simp[qn,h1,h2,hLl,hI,hl,hL];rfl
  case r5=>simp[finish,results,qa,resOfs,resOf,resOk,clsE,h12,h3]
def doneE (vars:Int) (cls:List (List Int)):PV:=if clsE vars cls=0 then .tup [clV vars cls,I 0] else .tup [clV 0 [],I (clsE vars cls)]
theorem jge {vars:Int} {cls:List (List Int)} (hs:SL cls):callL pg 55 [clV vars cls] gh=some (doneE vars cls,gh):=by
 have h:=j8c (gh:=gh) (vars:=vars) hs
 have hn:=jbl cls
 unfold clV at h
 unfold doneE clV
 generalize (cls.map fun l=>LI l)=L at *
 by_cases he:clsE vars cls=0
 ·rw[he] at h
  refine j70 (fn:=qr) (s:=?s1) rfl rfl (q3d_ ?h1) ?r1
  case h1=>simp[q3d,h];rfl
  case r1=>simp[finish,results,qr,resOfs,resOf,St.cellsAt,resOk,he,hn]
 ·refine j70 (fn:=qr) (s:=?s2) rfl rfl (q3d_ ?h2) ?r2
  case h2=>simp[q3d,h,he];rfl
  case r2=>simp[finish,results,qr,resOfs,resOf,St.cellsAt,resOk,he]
def rootsC (more:Int):List Int→List (List Int)
 |[]=>[]
 |r::l=>mustC r more++rootsC more l
theorem jbq (more:Int):∀l:List Int,(rootsC more l).length≤l.length
 |[]=>Nat.le_refl _
 |r::l=>by
  have:=jbo r more
  have:=jbq more l
  rw[rootsC,List.length_append,List.length_cons];omega
def ofSt (gh:List GObj) (ins:Int) (ands:List (Int×Int)) (roots:List Int) (vars:Int) (cls:List (List Int)) (i:Nat):St:=
 ⟨[(4,.ptr false 1 0),(7,.ptr true gh.length 0),(33,LI roots),(34,I roots.length),(35,I (i:Int))],[[I ins,.sl false 2 (ands.map andV)],[I 0,.sl true 1 []]],mkC gh vars cls⟩
theorem jbr {vars:Int} {roots:List Int} (hr:roots.length≤1100000):∀k i (cls:List (List Int)),i+k=roots.length→cls.length+k≤5000000→
  runL pg q21 (ofSt gh ins ands roots vars cls i)=some (.normal,⟨[(4,.ptr false 1 0),(7,.ptr true gh.length 0)],[[I ins,.sl false 2 (ands.map andV)],[I 0,.sl true 1 []]],mkC gh vars (cls++rootsC 0 (roots.drop i))⟩)
 |0,i,cls,h,_=>by
  rw[List.drop_eq_nil_of_le (by omega)]
  have hlt:¬(i:Int)<(roots.length:Int):=by omega
  refine (j7e (s1:=?s1) (q3f_ ?h1)).trans ?r1
  case h1=>simp only[q3f,decide_eq_false hlt,j7r];rfl
  case r1=>simp[keep,rootsC,stays]
 | k+1,i,cls,h,hs=>by
  have hlt:i<roots.length:=by omega
  have hltI:(i:Int)<(roots.length:Int):=by omega
  have e2:IntKind.i64.wrap ((i:Int)+1)=((i+1:Nat):Int):=by rw[j7c (by omega) (by omega)];omega
  have hx:(roots.map I)[i]?=some (I roots[i]):=by simp[List.getElem?_eq_getElem hlt]
  have hm:=jgc (gh:=gh) (r:=roots[i]) (more:=0) (vars:=vars) (cls:=cls) (by omega)
  rw[List.drop_eq_getElem_cons hlt,rootsC,←List.append_assoc]
  refine j7d (q3f_ (s:=ofSt gh ins ands roots vars (cls++mustC roots[i] 0) (i+1)) ?h2) (jbr hr k (i+1) _ (by omega) (by have:=jbo roots[i] 0;simp;omega))
  case h2=>
   unfold ofSt
   generalize mkC gh vars (cls++mustC roots[i] 0)=g1 at *
   generalize mkC gh vars cls=g0 at *
   simp[q3f,hltI,hx,hm,e2,-List.getElem?_map]
def ofE (ins:Int) (ands:List (Int×Int)) (roots:List Int):PV:=
 if chkE ins ands≠0 then .tup [clV 0 [],I (chkE ins ands)] else if roots.all (isLit ins ands)=false then .tup [clV 0 [],I 5]
 else doneE (IntKind.i64.wrap (ins+ands.length)) (andsC ins 0 0 ands++rootsC 0 roots)
theorem jbs (ins more:Int):∀(i:Nat) (l:List (Int×Int)),SL (andsC ins more i l)
 |_,[]=>fun l h=>by cases h
 | i,x::r=>fun l h=>by
  rw[andsC] at h
  rcases List.mem_append.1 h with h|h
  ·simp only[andC,List.mem_cons,List.not_mem_nil,or_false] at h
   rcases h with rfl|rfl|rfl<;>simp
  ·exact jbs ins more (i+1) r l h
theorem jbt (more:Int):∀l:List Int,SL (rootsC more l)
 |[]=>fun l h=>by cases h
 | r::t=>fun l h=>by
  rw[rootsC] at h
  rcases List.mem_append.1 h with h|h
  ·unfold mustC at h
   split at h
   ·cases h
   ·split at h<;>simp at h<;>subst h<;>simp
  ·exact jbt more t l h
theorem jgf {a b:List (List Int)} (ha:SL a) (hb:SL b):SL (a++b):=fun l h=>by
 rcases List.mem_append.1 h with h|h
 ·exact ha l h
 ·exact hb l h
theorem jgg {vars:Int} {cls:List (List Int)}:∃(n:Int) (c:List (List Int)) (e:Int),doneE vars cls= .tup [clV n c,I e]:=by
 unfold doneE;split
 ·exact⟨_,_,_,rfl⟩
 ·exact⟨_,_,_,rfl⟩
theorem Of_eq {roots:List Int} (hr:RA ands) (hs:roots.length≤1100000):callL pg 16 [graphV ins ands,LI roots] gh=some (ofE ins ands roots,gh):=by
 have hC:=jg6 (ins:=ins) (gh:=gh) hr
 unfold graphV at hC
 unfold ofE
 by_cases hc:chkE ins ands=0
 ·obtain⟨hi,hl,hok,hnd⟩:=jg7 hc
  have hI:=Is_eq (gh:=gh) (lits:=roots) hi hl (by simp only[Sz];omega)
  unfold graphV at hI
  rw[hc] at hC
  rw[if_neg (fun h=>h hc)]
  cases hb:roots.all (isLit ins ands) with
  |false=>
   rw[hb] at hI
   refine j70 (fn:=qf) (s:=?s1) rfl rfl (q1q_ ?h1) ?r1
   case h1=>simp[q1q,hC,hI];rfl
   case r1=>simp[finish,results,qf,resOfs,resOf,St.cellsAt,resOk,clV]
  | true=>
   rw[hb] at hI
   rw[if_neg (by simp)]
   generalize hv:IntKind.i64.wrap (ins+(ands.length:Int))=vars
   have hA:=jgb (gh:=gh) (ins:=ins) (ands:=ands) (more:=0) (vars:=vars) hl
   have hal:=jbm ins 0 0 ands
   have hrl:=jbq 0 roots
   have hL:=jbr (gh:=gh) (ins:=ins) (ands:=ands) (vars:=vars) hs roots.length 0 (andsC ins 0 0 ands) (by omega) (by omega)
   rw[List.drop_zero] at hL
   have hSL:=jgf (jbs ins 0 0 ands) (jbt 0 roots)
   generalize andsC ins 0 0 ands++rootsC 0 roots=C at *
   generalize andsC ins 0 0 ands=A at *
   have hD:=jge (gh:=mkC gh vars C) (vars:=vars) hSL
   obtain⟨n,c,e,ho⟩:=jgg (vars:=vars) (cls:=C)
   rw[ho] at hD ⊢
   have hn:=jbl c
   have hk:=q5s_ (pg:=pg) (g7:=gh.length) (o7:=0) (gh:=mkC gh vars C) (xc0_0:=ins) (vc0_1:= .sl false 2 (ands.map andV)) (xc1_0:=0) (vc1_1:= .sl true 1 []) (e:= .ret)
    (s:=⟨[(4,.ptr false 1 0),(5,I e)],[[I ins,.sl false 2 (ands.map andV)],[I n,.sl false 1 (c.map fun l=>LI l)]],mkC gh vars C⟩) (by
     unfold clV at hD
     simp only[mkC] at hD
     simp[q5s,mkC,hD])
   unfold ofSt at hL
   unfold graphV at hA
   simp only[Int.natCast_zero] at hL
   simp only[mkC] at hA hL hk
   refine j70 (fn:=qf) (s:=⟨[(4,.ptr false 1 0),(5,I e)],[[I ins,.sl false 2 (ands.map andV)],[I n,.sl false 1 (c.map fun l=>LI l)]],mkC gh vars C⟩) rfl rfl (q1q_ ?h2) ?r2
   case h2=>
    simp only[List.map_nil] at hA
    simp[q1q,hC,hI,hv,hA,hL,hk,mkC]
   case r2=>simp[finish,results,qf,resOfs,resOf,St.cellsAt,resOk,mkC,clV,hn]
 ·rw[if_pos hc]
  refine j70 (fn:=qf) (s:=?s3) rfl rfl (q1q_ ?h3) ?r3
  case h3=>simp[q1q,hC,hc];rfl
  case r3=>simp[finish,results,qf,resOfs,resOf,St.cellsAt,resOk,clV]
end
end Go.Lw
end

/-! What the functions of package word come to. -/
section
namespace Go.Lw
open Go
def takesOf (k:Int):Int:=
 if k<4 then 0 else if k<6 then 1 else if k<19 then 2 else if k=19 then 3 else if k=20 then 2 else if k<24 then 1 else 0
def wOk (k i w:Int):Prop:=if i<takesOf k then 1≤w∧w≤8 else w=0
instance (k i w:Int):Decidable (wOk k i w):=inferInstanceAs (Decidable (if i<takesOf k then 1≤w∧w≤8 else w=0))
end Go.Lw
end

/-! What the document's functions of words come to. -/
section
namespace Go.Lw
open Go
theorem jgh (n a b:Int) (gh:List GObj):callL pg 50 [I n,I a,I b] gh=some (B (decide (a≤n∧n≤b)),gh):=by
 by_cases h:a≤n
 ·refine j70 (fn:=q16) (s:=?s1) rfl rfl (q3g_ ?h1) ?r1
  case h1=>simp[q3g,h];rfl
  case r1=>simp[finish,results,q16,resOfs,resOf,resOk,h]
 ·refine j70 (fn:=q16) (s:=?s2) rfl rfl (q3g_ ?h2) ?r2
  case h2=>simp[q3g,h];rfl
  case r2=>simp[finish,results,q16,resOfs,resOf,resOk,h]
end Go.Lw
end

/-! Clauses: what the document makes and checks. -/
section
namespace Go.Lw
open Go
abbrev LLI (cls:List (List Int)):List PV:=cls.map fun l=>LI l
section
variable {ins:Int} {ands:List (Int×Int)} {gh:List GObj}
theorem jbu {vars:Int} {l:List Int} (hl:l.length≤200):∀k i,i+k=l.length→
  runL pg q2u ⟨[(0,I vars),(1,LI l),(5,I (i:Int))],[],gh⟩=
   if (l.drop i).any (badN vars)=true then some (.ret,⟨[(4,I 5)],[],gh⟩) else some (.normal,⟨[],[],gh⟩)
 |0,i,h=>by
  rw[List.drop_eq_nil_of_le (by omega),List.any_nil,if_neg (by simp)]
  have hlt:¬i<l.length:=by omega
  refine (j7e (s1:=?s1) (qo_ ?h1)).trans ?r1
  case h1=>simp[qo,hlt];rfl
  case r1=>simp[keep]
 | k+1,i,h=>by
  have hlt:i<l.length:=by omega
  have e2:IntKind.i64.wrap ((i:Int)+1)=((i+1:Nat):Int):=by rw[j7c (by omega) (by omega)];omega
  have hx:(l.map I)[i]?=some (I l[i]):=by simp[List.getElem?_eq_getElem hlt]
  rw[List.drop_eq_getElem_cons hlt,List.any_cons]
  by_cases h0:l[i]=0
  ·rw[if_pos (by simp[badN,h0])]
   refine lp_ret (qo_ ?_)
   simp[qo,hlt,h0,-List.getElem?_map]
  by_cases h1:vars<l[i]
  ·rw[if_pos (by simp[badN,h1])]
   refine lp_ret (qo_ ?_)
   simp[qo,hlt,h0,h1,-List.getElem?_map]
  by_cases h2:l[i]<IntKind.i64.wrap (-vars)
  ·rw[if_pos (by simp[badN,h2])]
   refine lp_ret (qo_ ?_)
   simp[qo,hlt,h0,h1,h2,-List.getElem?_map]
  ·have e:badN vars l[i]=false:=by simp[badN,h0,h1,h2]
   rw[e,Bool.false_or]
   refine j7d (s1:=⟨[(0,I vars),(1,LI l),(5,I ((i+1:Nat):Int))],[],gh⟩) (qo_ ?_) (jbu hl k (i+1) (by omega))
   simp[qo,hlt,h0,h1,h2,e2,-List.getElem?_map]
theorem jgi {vars:Int} {l:List Int}:callL pg 112 [I vars,LI l] gh=some (I (oneE vars l),gh):=by
 by_cases h:200<l.length
 ·have hI:(200:Int)<(l.length:Int):=by omega
  refine j70 (fn:=qk) (s:=?s1) rfl rfl (q1r_ ?h1) ?r1
  case h1=>simp[q1r,hI];rfl
  case r1=>simp[finish,results,qk,resOfs,resOf,resOk,oneE,h]
 ·have hI:¬(200:Int)<(l.length:Int):=by omega
  have hl:=jbu (gh:=gh) (vars:=vars) (l:=l) (by omega) l.length 0 (by omega)
  rw[List.drop_zero] at hl
  simp only[Int.natCast_zero] at hl
  cases hb:l.any (badN vars) with
  |true=>
   rw[if_pos hb] at hl
   refine j70 (fn:=qk) (s:=?s2) rfl rfl (q1r_ ?h2) ?r2
   case h2=>simp[q1r,hI,hl];rfl
   case r2=>simp[finish,results,qk,resOfs,resOf,resOk,oneE,h,hb]
  |false=>
   rw[if_neg (by rw[hb];simp)] at hl
   have hk:=q6m_ (pg:=pg) (gh:=gh) (e:= .ret) (s:=⟨[(4,I 0)],[],gh⟩) rfl
   refine j70 (fn:=qk) (s:=?s3) rfl rfl (q1r_ ?h3) ?r3
   case h3=>simp[q1r,hI,hl,hk];rfl
   case r3=>simp[finish,results,qk,resOfs,resOf,resOk,oneE,h,hb]
theorem jbv {vars:Int} {cls:List (List Int)} (hl:cls.length≤800000):∀k i,i+k=cls.length→
  runL pg q2s ⟨[(1,.ptr false 0 0),(3,I (i:Int))],[[I vars,.sl false 1 (LLI cls)]],gh⟩=
   if firstE vars (cls.drop i)=0 then some (.normal,⟨[],[],gh⟩) else some (.ret,⟨[(2,I (firstE vars (cls.drop i)))],[],gh⟩)
 |0,i,h=>by
  rw[List.drop_eq_nil_of_le (by omega),firstE,if_pos rfl]
  have hlt:¬i<cls.length:=by omega
  refine (j7e (s1:=?s1) (q1s_ ?h1)).trans ?r1
  case h1=>simp[q1s,hlt];rfl
  case r1=>simp[keep]
 | k+1,i,h=>by
  have hlt:i<cls.length:=by omega
  have e2:IntKind.i64.wrap ((i:Int)+1)=((i+1:Nat):Int):=by rw[j7c (by omega) (by omega)];omega
  have hx:(cls.map fun l=>LI l)[i]?=some (LI cls[i]):=by simp[List.getElem?_eq_getElem hlt]
  have h1:=jgi (gh:=gh) (vars:=vars) (l:=cls[i])
  rw[List.drop_eq_getElem_cons hlt,firstE]
  by_cases he:oneE vars cls[i]=0
  ·rw[if_pos he]
   rw[he] at h1
   refine j7d (s1:=⟨[(1,.ptr false 0 0),(3,I ((i+1:Nat):Int))],[[I vars,.sl false 1 (LLI cls)]],gh⟩) (q1s_ ?h2) (jbv hl k (i+1) (by omega))
   case h2=>simp[q1s,hlt,hx,h1,e2,-List.getElem?_map]
  ·rw[if_neg he,if_neg he]
   refine lp_ret (q1s_ ?h3)
   case h3=>simp[q1s,hlt,hx,h1,he,-List.getElem?_map]
theorem jgj {vars:Int} {cls:List (List Int)}:callL pg 93 [clV vars cls] gh=some (I (clsE vars cls),gh):=by
 have hb:=jgh (gh:=gh) vars 0 200000
 by_cases h12:vars<0∨200000<vars
 ·have e:(decide (0≤vars∧vars≤200000))=false:=by
   rw[Bool.eq_false_iff];simp;omega
  rw[e] at hb
  refine j70 (fn:=qb) (s:=?s1) rfl rfl (q1a_ ?h1) ?r1
  case h1=>simp[q1a,hb];rfl
  case r1=>simp[finish,results,qb,resOfs,resOf,resOk,clsE,h12]
 have e:(decide (0≤vars∧vars≤200000))=true:=by simp;omega
 rw[e] at hb
 by_cases h3:800000<cls.length
 ·have hI:(800000:Int)<(cls.length:Int):=by omega
  refine j70 (fn:=qb) (s:=?s3) rfl rfl (q1a_ ?h3) ?r3
  case h3=>simp[q1a,hb,hI];rfl
  case r3=>simp[finish,results,qb,resOfs,resOf,resOk,clsE,h12,h3]
 have hI:¬(800000:Int)<(cls.length:Int):=by omega
 have hl:=jbv (gh:=gh) (vars:=vars) (cls:=cls) (by omega) cls.length 0 (by omega)
 rw[List.drop_zero] at hl
 simp only[Int.natCast_zero,LLI] at hl
 generalize hL:(cls.map fun l=>LI l)=L at *
 have hLl:L.length=cls.length:=by rw[←hL];simp
 by_cases he:firstE vars cls=0
 ·rw[if_pos he] at hl
  have hk:=q6n_ (pg:=pg) (gh:=gh) (e:= .ret) (s:=⟨[(2,I 0)],[],gh⟩) rfl
  refine j70 (fn:=qb) (s:=?s4) rfl rfl (q1a_ ?h4) ?r4
  case h4=>simp[q1a,hb,hLl,hI,hl,hk,hL];rfl
  case r4=>simp[finish,results,qb,resOfs,resOf,resOk,clsE,h12,h3,he]
 ·rw[if_neg he] at hl
  refine j70 (fn:=qb) (s:=?s5) rfl rfl (q1a_ ?h5) ?r5
  case h5=>simp[q1a,hb,hLl,hI,hl,hL];rfl
  case r5=>simp[finish,results,qb,resOfs,resOf,resOk,clsE,h12,h3]
end
end Go.Lw
end

/-! What the nodes of a graph are: what the program makes. -/
section
namespace Go.Lw
open Go
abbrev LB (v:List Bool):PV:= .sl false 1 (v.map B)
@[simp] theorem noG_ep (e : PV) (o : Nat) : PV.noG (.ep e o) = e.noG := rfl
section
variable {gh:List GObj}
end
end Go.Lw
end

/-! Clauses: what makes them hold. -/
section
namespace Go.Lw
open Go
theorem abs_eq {n:Int} (h: -9223372036854775807≤n∧n≤9223372036854775807) (gh:List GObj):callL pg 116 [I n] gh=some (I n.natAbs,gh):=by
 have e:IntKind.i64.wrap (-n)= -n:=j7c (by omega) (by omega)
 refine j70 (fn:=q2d) (s:=⟨[(2,I n.natAbs)],[],gh⟩) rfl rfl (q5t_ ?h1) ?r1
 case h1=>
  simp[q5t,e]
  split<;>omega
 case r1=>simp[finish,results,q2d,resOfs,resOf,resOk]
def litN (v:List Bool) (n:Int):Bool:=v.getD (n.natAbs-1) false==decide (0<n)
def numIn (n:Int) (k:Nat):Prop:=n≠0∧n.natAbs≤k
theorem jgk {v:List Bool} {n:Int} {gh:List GObj} {b:Nat} (hb:gh[b]?=some (.cells [LB v])) (hn:numIn n v.length) (hs:v.length≤3000000):callL pg 98 [I n,.ptr true b 0] gh=some (B (litN v n),gh):=by
 obtain⟨h0,h1⟩:=hn
 have ha:=abs_eq (n:=n) (by omega) gh
 have hlt:n.natAbs-1<v.length:=by omega
 have e1:IntKind.i64.wrap ((n.natAbs:Int)-1)=((n.natAbs-1:Nat):Int):=by rw[j7c (by omega) (by omega)];omega
 have e2:litN v n=(v[n.natAbs-1]==decide (0<n)):=by unfold litN;simp[List.getD_eq_getElem?_getD,List.getElem?_eq_getElem hlt]
 rw[e2]
 have hx:(v.map B)[n.natAbs-1]?=some (B v[n.natAbs-1]):=by simp[List.getElem?_eq_getElem hlt]
 generalize hk:n.natAbs-1=k at *
 refine j70 (fn:=q2b) (s:=?s1) rfl rfl (q5v_ ?h2) ?r1
 case h2=>simp[q5v,hb,ha,e1,hx,-List.getElem?_map];rfl
 case r1=>simp[finish,results,q2b,resOfs,resOf,resOk]
theorem jgl {v:List Bool} {l:List Int} {gh:List GObj} {b b2:Nat} (hb:gh[b]?=some (.cells [LB v])) (hb2:gh[b2]?=some (.cells [.fn 98 [.ptr true b 0]])) (hn:∀n∈l,numIn n v.length) (hs:v.length≤3000000) (hl:Sz l.length) :
  callL pg 99 [LI l,.ptr true b2 0] gh=some (B (!l.any (litN v)),gh):=by
 have hc:∀x∈l,callL pg 98 (I x::[.ptr true b 0]) gh=some (B (litN v x),gh):=fun x hx=>jgk hb (hn x hx) hs
 have:=j9o (caps:=[.ptr true b 0]) hc (by simp) hl
 refine j70 (fn:=q2c) (s:=?s1) rfl rfl (q5w_ ?h1) ?r1
 case h1=>simp[q5w,hb2,this];rfl
 case r1=>simp[finish,results,q2c,resOfs,resOf,resOk]
theorem jbw {xs:List (List Int)} {c:Nat} {caps:List PV} {gh:List GObj} {p:List Int→Bool} (hc:∀x∈xs,callL pg c (LI x::caps) gh=some (B (p x),gh)) (hcap:caps.all argOk=true) (hs:Sz xs.length) :
  ∀k i,i+k=xs.length→runL pg q2q ⟨[(0,.sl false 1 (LLI xs)),(1,.fn c caps),(7,I xs.length),(8,I i)],[],gh⟩=
   match (xs.drop i).findIdx? p with
   |some j=>some (.ret,⟨[(4,I ((i+j:Nat)))],[],gh⟩)
   |none=>some (.normal,⟨[],[],gh⟩)
 |0,i,h=>by
  rw[List.drop_eq_nil_of_le (by omega)]
  refine (j7e (s1:=?s1) (q1u_ ?h1)).trans ?r1
  case h1=>simp[q1u,show i=xs.length by omega];rfl
  case r1=>simp[keep]
 | k+1,i,h=>by
  have hlt:i<xs.length:=by omega
  have hx:(xs.map fun l=>LI l)[i]?=some (LI xs[i]):=by simp[List.getElem?_eq_getElem hlt]
  rw[List.drop_eq_getElem_cons hlt,List.findIdx?_cons]
  have hci:=hc xs[i] (List.getElem_mem hlt)
  have hltI:(i:Int)<(xs.length:Int):=by omega
  cases hp:p xs[i] with
  |true=>
   refine (lp_ret (s1:=?s2) (q1u_ ?h2)).trans ?r2
   case h2=>simp[q1u,hltI,hx,j8r hcap,hci,hp,-List.getElem?_map];rfl
   case r2=>simp
  | false=>
   refine j7d (s1:=⟨[(0,.sl false 1 (LLI xs)),(1,.fn c caps),(7,I xs.length),(8,I (IntKind.i64.wrap ((i:Int)+1)))],[],gh⟩) (q1u_ ?h3) ?r3
   case h3=>simp[q1u,hltI,hx,j8r hcap,hci,hp,-List.getElem?_map]
   case r3=>
    rw[j8s (by omega)]
    refine (jbw hc hcap hs k (i+1) (by omega)).trans ?_
    cases (xs.drop (i+1)).findIdx? p<;>simp
    omega
theorem jgm {xs:List (List Int)} {c:Nat} {caps:List PV} {gh:List GObj} {p:List Int→Bool} (hc:∀x∈xs,callL pg c (LI x::caps) gh=some (B (p x),gh)) (hcap:caps.all argOk=true) (hs:Sz xs.length) :
  callL pg 117 [.sl false 1 (LLI xs),.fn c caps] gh=some (I (match xs.findIdx? p with|some j=>(j:Int)|none=> -1),gh):=by
 have hl:=jbw hc hcap hs xs.length 0 (by omega)
 simp only[List.drop_zero,Nat.zero_add,Int.natCast_zero] at hl
 have hLl:(LLI xs).length=xs.length:=by simp[LLI]
 generalize LLI xs=L at *
 cases hf:xs.findIdx? p with
 |some j=>
  rw[hf] at hl
  refine j70 (fn:=qz) (s:=?s4) rfl rfl (q3k_ ?h4) ?r4
  case h4=>simp[q3k,hLl,hl];rfl
  case r4=>simp[finish,results,qz,resOfs,resOf,resOk]
 |none=>
  rw[hf] at hl
  refine j70 (fn:=qz) (s:=?s5) rfl rfl (q3k_ ?h5) ?r5
  case h5=>simp[q3k,hLl,hl,q6u_ (s:=⟨[(4,I (-1))],[],gh⟩) (e:= .ret) rfl];rfl
  case r5=>simp[finish,results,qz,resOfs,resOf,resOk]
theorem jgn {xs:List (List Int)} {c:Nat} {caps:List PV} {gh:List GObj} {p:List Int→Bool} (hc:∀x∈xs,callL pg c (LI x::caps) gh=some (B (p x),gh)) (hcap:caps.all argOk=true) (hs:Sz xs.length) :
  callL pg 100 [.sl false 1 (LLI xs),.fn c caps] gh=some (B (xs.any p),gh):=by
 have h:=jgm hc hcap hs
 have:(decide (0≤(match xs.findIdx? p with|some j=>(j:Int)|none=> -1)))=xs.any p:=by
  cases hf:xs.findIdx? p with
  |some j=>
   have:=List.findIdx?_eq_some_iff_getElem.1 hf
   obtain⟨hj,hpj,_⟩:=this
   simp only[Int.natCast_nonneg,decide_true]
   exact (List.any_eq_true.2 ⟨_,List.getElem_mem hj,hpj⟩).symm
  |none=>
   have:=List.findIdx?_eq_none_iff.1 hf
   simp only[show decide ((0:Int)≤ -1)=false by decide]
   exact (List.any_eq_false.2 fun x hx=>by simp[this x hx]).symm
 generalize LLI xs=L at *
 refine j70 (fn:=q2n) (s:=?s6) rfl rfl (q5y_ ?h6) ?r6
 case h6=>simp[q5y,h];rfl
 case r6=>simp[finish,results,q2n,resOfs,resOf,resOk,this]
def holdB (v:List Bool) (cls:List (List Int)):Bool:=cls.all fun l=>l.any (litN v)
theorem jgo {vars:Int} {v:List Bool} {cls:List (List Int)} {gh:List GObj} (hn:∀l∈cls,∀n∈l,numIn n v.length) (hs:v.length≤3000000) (hl:SL cls) (hz:Sz cls.length) :
  callL pg 70 [clV vars cls,LB v] gh=some (B (holdB v cls),gh):=by
 have hg:∀x:GObj,(gh++[.cells [LB v],x])[gh.length]?=some (.cells [LB v]):=fun x=>by simp
 have hc:∀x∈cls,callL pg 99 (LI x::[.ptr true (gh.length+1) 0]) (gh++[.cells [LB v],.cells [.fn 98 [.ptr true gh.length 0]]])=some (B (!x.any (litN v)),gh++[.cells [LB v],.cells [.fn 98 [.ptr true gh.length 0]]]):=
  fun x hx=>jgl (b:=gh.length) (by simp) (by simp) (hn x hx) hs (hl x hx)
 have h:=jgn hc (by simp) hz
 have e:(!cls.any fun l=> !l.any (litN v))=holdB v cls:=by
  unfold holdB
  rw[List.not_any_eq_all_not];simp
 unfold clV
 unfold LLI at h
 generalize (cls.map fun l=>LI l)=L at *
 refine j70 (fn:=q29) (s:=⟨[(4,B (holdB v cls))],[],gh++[.cells [LB v],.cells [.fn 98 [.ptr true gh.length 0]]]⟩) rfl rfl (q5u_ ?h1) ?r1
 case h1=>
  rw[←e]
  simp[q5u,spliceAt,h]
 case r1=>simp[finish,results,q29,resOfs,resOf,resOk]
def holdsE (vars:Int) (cls:List (List Int)) (v:List Bool):Bool×Int:=
 if clsE vars cls≠0 then (false,clsE vars cls) else if (v.length:Int)≠vars then (false,1) else (holdB v cls,0)
theorem jbx {vars:Int}:∀{cls:List (List Int)},firstE vars cls=0→∀l∈cls,oneE vars l=0
 | l::r,h,x,hx=>by
  rw[firstE] at h
  split at h
  ·rename_i h0
   rcases List.mem_cons.1 hx with rfl|hx
   ·exact h0
   ·exact jbx h x hx
  ·rename_i h0;exact absurd h h0
theorem j8d {vars:Int} {cls:List (List Int)} (h:clsE vars cls=0):(0≤vars∧vars≤200000)∧cls.length≤800000∧∀l∈cls,l.length≤200∧∀n∈l,n≠0∧ -vars≤n∧n≤vars:=by
 unfold clsE at h
 split at h
 ·cases h
 ·rename_i h1
  split at h
  ·cases h
  ·rename_i h2
   refine⟨by omega,by omega,fun l hl=>?_⟩
   have:=jbx h l hl
   unfold oneE at this
   split at this
   ·cases this
   ·rename_i h3
    split at this
    ·cases this
    ·rename_i h4
     refine⟨by omega,fun n hn=>?_⟩
     have hb:badN vars n=false:=by
      rw[Bool.eq_false_iff]
      intro hb
      exact h4 (List.any_eq_true.2 ⟨n,hn,hb⟩)
     unfold badN at hb
     rw[j7c (by omega) (by omega),decide_eq_false_iff_not] at hb
     omega
theorem jby {vars:Int} {v:List Bool} {cls:List (List Int)} {gh:List GObj} (hl:SL cls):callL pg 32 [clV vars cls,LB v] gh=some (.tup [B (holdsE vars cls v).1,I (holdsE vars cls v).2],gh):=by
 have hC:=j8c (gh:=gh) (vars:=vars) hl
 unfold holdsE
 by_cases hc:clsE vars cls=0
 ·obtain⟨h1,h2,h3⟩:=j8d hc
  rw[hc] at hC
  rw[if_neg (fun h=>h hc)]
  by_cases hv:(v.length:Int)=vars
  ·rw[if_neg (fun h=>h hv)]
   have hH:=jgo (gh:=gh) (vars:=vars) (v:=v) (cls:=cls) (fun l hl n hn=>by
    have:=(h3 l hl).2 n hn
    exact⟨this.1,by omega⟩) (by omega) hl (by simp only[Sz];omega)
   unfold clV at *
   generalize (cls.map fun l=>LI l)=L at *
   refine j70 (fn:=qg) (s:=?s1) rfl rfl (q1t_ ?h1) ?r1
   case h1=>simp[q1t,hC,hv,hH];rfl
   case r1=>simp[finish,results,qg,resOfs,resOf,resOk]
  ·rw[if_pos hv]
   unfold clV at *
   generalize (cls.map fun l=>LI l)=L at *
   refine j70 (fn:=qg) (s:=?s2) rfl rfl (q1t_ ?h2) ?r2
   case h2=>simp[q1t,hC,hv];rfl
   case r2=>simp[finish,results,qg,resOfs,resOf,resOk]
 ·rw[if_pos hc]
  unfold clV at *
  generalize (cls.map fun l=>LI l)=L at *
  refine j70 (fn:=qg) (s:=?s3) rfl rfl (q1t_ ?h3) ?r3
  case h3=>simp[q1t,hC,hc];rfl
  case r3=>simp[finish,results,qg,resOfs,resOf,resOk]
theorem jgp (gh:List GObj):callL pg 18 [] gh=some (B true,gh):=by
 have r1:RA [(2,4)]:=fun x h=>by
  simp at h;subst h;exact⟨by decide,by decide⟩
 have c1:chkE 2 [(2,4)]=0:=by decide +kernel
 have c2:[6].all (isLit 2 [(2,4)])=true:=by decide +kernel
 have c3:IntKind.i64.wrap (2+(([(2,4)]:List (Int×Int)).length:Int))=3:=by decide +kernel
 have c4:andsC 2 0 0 [(2,4)]++rootsC 0 [6]=[[-3,1],[-3,2],[3,-1,-2],[3]]:=by decide +kernel
 have c5:clsE 3 [[-3,1],[-3,2],[3,-1,-2],[3]]=0:=by decide +kernel
 have e1:ofE 2 [(2,4)] [6]= .tup [clV 3 [[-3,1],[-3,2],[3,-1,-2],[3]],I 0]:=by
  unfold ofE
  rw[if_neg (fun h=>h c1),if_neg (by rw[c2];simp),c3,c4,doneE,if_pos c5]
 have hO:=Of_eq (ins:=2) (ands:=[(2,4)]) (roots:=[6]) (gh:=gh) r1 (by simp)
 rw[e1] at hO
 have hsl:SL [[-3,1],[-3,2],[3,-1,-2],[3]]:=fun l h=>by
  simp only[List.mem_cons,List.not_mem_nil,or_false] at h
  rcases h with rfl|rfl|rfl|rfl<;>simp
 have e2:holdsE 3 [[-3,1],[-3,2],[3,-1,-2],[3]] [true,true,true]=(true,0):=by decide +kernel
 have hH:=jby (vars:=3) (v:=[true,true,true]) (gh:=gh) hsl
 rw[e2] at hH
 have hC:=j8c (vars:=3) (gh:=gh) hsl
 rw[c5] at hC
 simp only[graphV,andV,clV,LI,LB,List.map_cons,List.map_nil] at hO hH hC
 refine j70 (fn:=q2j) (s:=⟨[(0,B true)],[],gh⟩) rfl rfl (q5x_ ?h1) ?r1
 case h1=>simp[q5x,hO,hH,hC]
 case r1=>simp[finish,results,q2j,resOfs,resOf,resOk]
end Go.Lw
end

/-! Clauses as a text: the program's and the document's. -/
section
namespace Go.Lw
open Go
def numsB (l:List Int):List UInt8:=l.flatMap fun n=>itoaK n++[32]
def clB (l:List Int):List UInt8:=numsB l++[48,10]
def headB (vars:Int) (n:Nat):List UInt8:=((([112,32,99,110,102,32]++itoaK vars)++[32])++itoaK (n:Int))++[10]
def cnfB (vars:Int) (cls:List (List Int)):List UInt8:=headB vars cls.length++cls.flatMap clB
theorem j9r (l:List Int):(numsB l).length≤22*l.length:=by
 unfold numsB
 induction l with
 |nil=>simp
 |cons a l ih=>
  have:=j7l a
  simp only[List.flatMap_cons,List.length_append,List.length_cons,List.length_nil];omega
theorem jbz {l:List Int} (h:l.length≤200):(clB l).length≤5000:=by
 have:=j9r l
 unfold clB;rw[List.length_append];simp;omega
theorem jc0 (vars:Int) (n:Nat):(headB vars n).length≤60:=by
 have:=j7l vars
 have:=j7l (n:Int)
 unfold headB;simp;omega
theorem jc1 (a:Int) (l:List Int):numsB (a::l)=(itoaK a++[32])++numsB l:=by simp[numsB]
def ClsS (cls:List (List Int)):Prop:=cls.length≤800000∧∀l∈cls,l.length≤200∧I64s l
theorem jc2 {vars:Int} {cls:List (List Int)} (h:clsE vars cls=0):ClsS cls:=by
 obtain⟨h1,h2,h3⟩:=j8d h
 exact⟨h2,fun l hl=>⟨(h3 l hl).1,fun n hn=>by have:=(h3 l hl).2 n hn;omega⟩⟩
section
variable {gh:List GObj} {cls:List (List Int)}
theorem cp_l2 {l:List Int} {i:Nat} (hl:l.length≤200) (hn:I64s l):∀k j (X:List UInt8),j+k=l.length→X.length+22*k≤100000000000→
  runL pg q2e ⟨[(5,.ptr true gh.length 0),(28,.sl false 1 (cls.map fun l=>LI l)),(29,I cls.length),(30,I (i:Int)),(34,LI l),(35,I l.length),(36,I (j:Int))],[],BW gh X⟩=
   some (.normal,⟨[(5,.ptr true gh.length 0),(28,.sl false 1 (cls.map fun l=>LI l)),(29,I cls.length),(30,I (i:Int))],[],BW gh (X++numsB (l.drop j))⟩)
 |0,j,X,h,_=>by
  have hlt:¬(j:Int)<(l.length:Int):=by omega
  rw[List.drop_eq_nil_of_le (by omega)]
  refine (j7e (s1:=?s1) (q3l_ ?h1)).trans ?r1
  case h1=>simp only[q3l,decide_eq_false hlt,j7r];rfl
  case r1=>simp[keep,numsB]
 | k+1,j,X,h,hX=>by
  have hlt:j<l.length:=by omega
  have hltI:(j:Int)<(l.length:Int):=by omega
  have e2:IntKind.i64.wrap ((j:Int)+1)=((j+1:Nat):Int):=by rw[j7c (by omega) (by omega)];omega
  have hx:(l.map I)[j]?=some (I l[j]):=by simp[List.getElem?_eq_getElem hlt]
  have hr:=hn _ (List.getElem_mem hlt)
  rw[List.drop_eq_getElem_cons hlt,jc1,←List.append_assoc]
  generalize l[j]=a at *
  have hi:=fun G=>j9m (gh:=G) hr.1 hr.2
  have hal:=j7l a
  have hw:=ws_eq (gh:=gh) (X:=X) (Y:=itoaK a++[32]) (by simp) (by simp;omega)
  have hs:binPV .add (.str (bA (itoaK a))) (.str (bA [32]))=some (.str (bA (itoaK a++[32]))):=strAdd (by simp;omega)
  have hrec:=cp_l2 (i:=i) hl hn k (j+1) (X++(itoaK a++[32])) (by omega) (by simp;omega)
  refine j7d (q3l_ (s:=⟨[(5,.ptr true gh.length 0),(28,.sl false 1 (cls.map fun l=>LI l)),(29,I cls.length),(30,I (i:Int)),(34,LI l),(35,I l.length),(36,I ((j+1:Nat):Int))],[],BW gh (X++(itoaK a++[32]))⟩) ?h2) hrec
  case h2=>
   generalize (cls.map fun l=>LI l)=C at *
   generalize (itoaK a++[32])=Y at *
   generalize BW gh (X++Y)=g1 at *
   generalize BW gh X=g0 at *
   have hD:=decide_eq_true hltI
   simp only[q3l,hD,j9k]
   simp[hx,hi,hs,hw,e2,-List.getElem?_map]
theorem cp_l1 (hc:ClsS cls):∀k i (X:List UInt8),i+k=cls.length→X.length+5000*k≤90000000000→
  runL pg q2f ⟨[(5,.ptr true gh.length 0),(28,.sl false 1 (cls.map fun l=>LI l)),(29,I cls.length),(30,I (i:Int))],[],BW gh X⟩=
   some (.normal,⟨[(5,.ptr true gh.length 0)],[],BW gh (X++(cls.drop i).flatMap clB)⟩)
 |0,i,X,h,_=>by
  have hlt:¬(i:Int)<(cls.length:Int):=by omega
  rw[List.drop_eq_nil_of_le (by omega)]
  refine (j7e (s1:=?s1) (q3m_ ?h1)).trans ?r1
  case h1=>simp only[q3m,decide_eq_false hlt,j7r];rfl
  case r1=>simp[keep]
 | k+1,i,X,h,hX=>by
  have hlt:i<cls.length:=by omega
  have hltI:(i:Int)<(cls.length:Int):=by omega
  have hcl:=hc.1
  have e2:IntKind.i64.wrap ((i:Int)+1)=((i+1:Nat):Int):=by rw[j7c (by omega) (by omega)];omega
  have hx:(cls.map fun l=>LI l)[i]?=some (LI cls[i]):=by simp[List.getElem?_eq_getElem hlt]
  obtain⟨hl,hn⟩:=hc.2 _ (List.getElem_mem hlt)
  rw[List.drop_eq_getElem_cons hlt,List.flatMap_cons,←List.append_assoc]
  generalize cls[i]=l at *
  have hlen:=jbz hl
  have hnl:=j9r l
  have h2:=cp_l2 (gh:=gh) (cls:=cls) (i:=i) hl hn l.length 0 X (by omega) (by omega)
  rw[List.drop_zero] at h2
  have hw:=ws_eq (gh:=gh) (X:=X++numsB l) (Y:=[48,10]) (by simp) (by simp;omega)
  have ecl:(X++numsB l)++[48,10]=X++clB l:=by rw[clB,List.append_assoc]
  rw[ecl] at hw
  have hrec:=cp_l1 hc k (i+1) (X++clB l) (by omega) (by rw[List.length_append];omega)
  have hk1:runL pg q1b ⟨[(5,.ptr true gh.length 0),(28,.sl false 1 (cls.map fun l=>LI l)),(29,I cls.length),(30,I (i:Int))],[],BW gh (X++numsB l)⟩=some (.normal,⟨[(5,.ptr true gh.length 0),(28,.sl false 1 (cls.map fun l=>LI l)),(29,I cls.length),(30,I (i:Int))],[],BW gh (X++clB l)⟩):=by
   refine q5z_ ?_
   generalize (cls.map fun l=>LI l)=C at *
   generalize BW gh (X++clB l)=g1 at *
   generalize BW gh (X++numsB l)=g0 at *
   simp only[q5z]
   simp[hw]
  have hk2:∀G:List GObj,runL pg qu ⟨[(5,.ptr true gh.length 0),(28,.sl false 1 (cls.map fun l=>LI l)),(29,I cls.length),(30,I (i:Int))],[],G⟩=some (.normal,⟨[(5,.ptr true gh.length 0),(28,.sl false 1 (cls.map fun l=>LI l)),(29,I cls.length),(30,I ((i+1:Nat):Int))],[],G⟩):=fun G=>by
   refine q60_ ?_
   simp only[q60,e2]
   simp
  refine j7d (q3m_ (s:=⟨[(5,.ptr true gh.length 0),(28,.sl false 1 (cls.map fun l=>LI l)),(29,I cls.length),(30,I ((i+1:Nat):Int))],[],BW gh (X++clB l)⟩) ?h3) hrec
  case h3=>
   have hkk:=hk2 (BW gh (X++clB l))
   simp only[Int.natCast_zero] at h2
   have hD:=decide_eq_true hltI
   have hlm:(l.map I).length=l.length:=List.length_map _
   generalize BW gh (X++clB l)=g2 at *
   generalize BW gh (X++numsB l)=g1 at *
   generalize BW gh X=g0 at *
   simp only[LI] at hx h2 hk1 hkk ⊢
   generalize (cls.map fun l=>PV.sl false 1 (l.map I))=C at *
   generalize ((i+1:Nat):Int)=T at *
   generalize (cls.length:Int)=N at *
   simp only[q3m,hD,j9k]
   simp[hx,h2,hk1,hkk,-List.getElem?_map]
theorem jgq {vars:Int} (hl:SL cls):callL pg 384 [clV vars cls] gh=some (.tup [.str (bA (if clsE vars cls=0 then cnfB vars cls else [])),I (clsE vars cls)],gh):=by
 have hC:=j8c (gh:=gh) (vars:=vars) hl
 by_cases h0:clsE vars cls=0
 ·obtain⟨h1,h2,h3⟩:=j8d h0
  have hcs:=jc2 h0
  rw[h0] at hC ⊢
  rw[if_pos rfl]
  have hv:=fun G=>j9m (gh:=G) (n:=vars) (by omega) (by omega)
  have hn:=fun G=>j9m (gh:=G) (n:=(cls.length:Int)) (by omega) (by omega)
  have l1:=j7l vars
  have l2:=j7l (cls.length:Int)
  have s1:binPV .add (.str (bA [112,32,99,110,102,32])) (.str (bA (itoaK vars)))=some (.str (bA ([112,32,99,110,102,32]++itoaK vars))):=strAdd (by simp;omega)
  have s2:binPV .add (.str (bA ([112,32,99,110,102,32]++itoaK vars))) (.str (bA [32]))=some (.str (bA (([112,32,99,110,102,32]++itoaK vars)++[32]))):=strAdd (by simp;omega)
  have s3:binPV .add (.str (bA (([112,32,99,110,102,32]++itoaK vars)++[32]))) (.str (bA (itoaK (cls.length:Int))))=some (.str (bA ((([112,32,99,110,102,32]++itoaK vars)++[32])++itoaK (cls.length:Int)))):=strAdd (by simp;omega)
  have s4:binPV .add (.str (bA ((([112,32,99,110,102,32]++itoaK vars)++[32])++itoaK (cls.length:Int)))) (.str (bA [10]))=some (.str (bA (headB vars cls.length))):=strAdd (by simp;omega)
  have hhl:=jc0 vars cls.length
  have hhn:headB vars cls.length≠[]:=by unfold headB;simp
  have hw:=ws_eq (gh:=gh) (X:=[]) (Y:=headB vars cls.length) hhn (by simp;omega)
  rw[List.nil_append] at hw
  have hlp:=cp_l1 (gh:=gh) hcs cls.length 0 (headB vars cls.length) (by omega) (by omega)
  rw[List.drop_zero] at hlp
  have hb:=bs_eq (gh:=gh) (X:=cnfB vars cls)
  have ec:headB vars cls.length++cls.flatMap clB=cnfB vars cls:=rfl
  rw[ec] at hlp
  generalize cnfB vars cls=Z at *
  generalize headB vars cls.length=H at *
  have hg0:gh++[GObj.bld ByteArray.empty]=BW gh []:=rfl
  generalize hg3:gh++[GObj.cells [if Z.length=0 then PV.nilp else .ptr true gh.length 0,.sl false 1 (Z.map fun c=> .int .u8 c.toNat)]]=g3 at *
  have ht:g3.take gh.length=gh:=by rw[←hg3];simp
  have hk3:runL pg q1c ⟨[(5,.ptr true gh.length 0)],[],BW gh Z⟩=some (.ret,⟨[(2,.str (bA Z)),(3,I 0)],[],g3⟩):=by
   refine q61_ ?_
   generalize BW gh Z=g2 at *
   simp only[q61]
   simp[hb]
  generalize BW gh Z=g2 at *
  generalize BW gh H=g1 at *
  generalize BW gh []=g0 at *
  unfold clV at *
  simp only[Int.natCast_zero] at hlp
  have hLl:(cls.map fun l=>LI l).length=cls.length:=List.length_map _
  generalize (cls.map fun l=>LI l)=C at *
  rw[←hLl] at hlp hn s3 s4
  generalize [112,32,99,110,102,32]++itoaK vars=A1 at *
  generalize A1++[32]=A2 at *
  generalize A2++itoaK (C.length:Int)=A3 at *
  refine j70 (fn:=qv) (s:=⟨[(2,.str (bA Z)),(3,I 0)],[],g3⟩) rfl rfl (q3n_ ?h1) ?r1
  case h1=>
   simp only[q3n]
   simp[hC,hg0,hv,hn,s1,s2,s3,s4,hw,hlp,hk3]
  case r1=>simp[finish,results,qv,resOfs,resOf,resOk,ht]
 ·rw[if_neg h0]
  generalize clsE vars cls=e at *
  unfold clV at *
  generalize (cls.map fun l=>LI l)=C at *
  refine j70 (fn:=qv) (s:=⟨[(2,.str (bA [])),(3,I e)],[],gh⟩) rfl rfl (q3n_ ?h2) ?r2
  case h2=>
   simp only[q3n]
   simp[hC,h0]
   rfl
  case r2=>simp[finish,results,qv,resOfs,resOf,resOk]
theorem rc_l2 {vars:Int} {l:List Int} {i:Nat} (hi:cls[i]?=some l) (hl:l.length≤200) (hn:I64s l):∀k j (X:List UInt8),j+k=l.length→X.length+22*k≤100000000000→
  runL pg q2z ⟨[(1,.ptr false 0 0),(3,.str (bA X)),(4,I (i:Int)),(5,I (j:Int))],[[I vars,.sl false 1 (cls.map fun l=>LI l)]],gh⟩=
   some (.normal,⟨[(1,.ptr false 0 0),(3,.str (bA (X++numsB (l.drop j)))),(4,I (i:Int))],[[I vars,.sl false 1 (cls.map fun l=>LI l)]],gh⟩)
 | 0,j,X,h,_=>by
  have hlt:¬(j:Int)<(l.length:Int):=by omega
  have hx:(cls.map fun l=>LI l)[i]?=some (LI l):=by rw[List.getElem?_map,hi];rfl
  have hlm:(l.map I).length=l.length:=List.length_map _
  rw[List.drop_eq_nil_of_le (by omega)]
  refine (j7e (s1:=⟨[(1,.ptr false 0 0),(3,.str (bA X)),(4,I (i:Int)),(5,I (j:Int)),(31,B false)],[[I vars,.sl false 1 (cls.map fun l=>LI l)]],gh⟩) (q3o_ ?h1)).trans ?r1
  case h1=>
   generalize (cls.map fun l=>LI l)=C at *
   have hD:¬j<l.length:=by omega
   simp only[LI] at hx
   rw[←hlm] at hD
   have hD:=decide_eq_false hD
   generalize l.map I=L at *
   simp[q3o,hx,hD]
  case r1=>simp[keep,numsB,stays]
 | k+1,j,X,h,hX=>by
  have hlt:j<l.length:=by omega
  have hltI:(j:Int)<(l.length:Int):=by omega
  have e2:IntKind.i64.wrap ((j:Int)+1)=((j+1:Nat):Int):=by rw[j7c (by omega) (by omega)];omega
  have hx:(cls.map fun l=>LI l)[i]?=some (LI l):=by rw[List.getElem?_map,hi];rfl
  have hy:(l.map I)[j]?=some (I l[j]):=by simp[List.getElem?_eq_getElem hlt]
  have hlm:(l.map I).length=l.length:=List.length_map _
  have hr:=hn _ (List.getElem_mem hlt)
  rw[List.drop_eq_getElem_cons hlt,jc1,←List.append_assoc]
  generalize l[j]=a at *
  have hi':=fun G=>j9n (gh:=G) hr.1 hr.2
  have hal:=j7l a
  have hs:binPV .add (.str (bA (itoaK a))) (.str (bA [32]))=some (.str (bA (itoaK a++[32]))):=strAdd (by simp;omega)
  have hs2:binPV .add (.str (bA X)) (.str (bA (itoaK a++[32])))=some (.str (bA (X++(itoaK a++[32])))):=strAdd (by simp;omega)
  have hrec:=rc_l2 (vars:=vars) hi hl hn k (j+1) (X++(itoaK a++[32])) (by omega) (by simp;omega)
  refine j7d (q3o_ (s:=⟨[(1,.ptr false 0 0),(3,.str (bA (X++(itoaK a++[32])))),(4,I (i:Int)),(5,I ((j+1:Nat):Int))],[[I vars,.sl false 1 (cls.map fun l=>LI l)]],gh⟩) ?h2) hrec
  case h2=>
   have hltD:decide (j<l.length)=true:=decide_eq_true hlt
   generalize (itoaK a++[32])=Y at *
   simp only[LI] at hx ⊢
   generalize (cls.map fun l=>PV.sl false 1 (l.map I))=C at *
   generalize hLL:l.map I=L at *
   simp[q3o,hx,hy,hlm,hltD,hi',hs,hs2,e2]
theorem rc_l1 {vars:Int} (hc:ClsS cls):∀k i (X:List UInt8),i+k=cls.length→X.length+5000*k≤90000000000→
  runL pg q30 ⟨[(1,.ptr false 0 0),(3,.str (bA X)),(4,I (i:Int))],[[I vars,.sl false 1 (cls.map fun l=>LI l)]],gh⟩=
   some (.normal,⟨[(3,.str (bA (X++(cls.drop i).flatMap clB)))],[],gh⟩)
 | 0,i,X,h,_=>by
  have hlt:¬(i:Int)<(cls.length:Int):=by omega
  have hLl:(cls.map fun l=>LI l).length=cls.length:=List.length_map _
  rw[List.drop_eq_nil_of_le (by omega)]
  refine (j7e (s1:=⟨[(1,.ptr false 0 0),(3,.str (bA X)),(4,I (i:Int)),(21,B false)],[[I vars,.sl false 1 (cls.map fun l=>LI l)]],gh⟩) (q3p_ ?h1)).trans ?r1
  case h1=>
   generalize (cls.map fun l=>LI l)=C at *
   rw[←hLl] at hlt
   have hD:=decide_eq_false hlt
   simp only[q3p,degr,isC_sl,jbf,hD,j7r]
  case r1=>simp[keep]
 | k+1,i,X,h,hX=>by
  have hlt:i<cls.length:=by omega
  have hltI:(i:Int)<(cls.length:Int):=by omega
  have hcl:=hc.1
  have e2:IntKind.i64.wrap ((i:Int)+1)=((i+1:Nat):Int):=by rw[j7c (by omega) (by omega)];omega
  have hx:cls[i]?=some cls[i]:=List.getElem?_eq_getElem hlt
  obtain⟨hl,hn⟩:=hc.2 _ (List.getElem_mem hlt)
  rw[List.drop_eq_getElem_cons hlt,List.flatMap_cons,←List.append_assoc]
  generalize cls[i]=l at *
  have hlen:=jbz hl
  have hnl:=j9r l
  have h2:=rc_l2 (gh:=gh) (vars:=vars) hx hl hn l.length 0 X (by omega) (by omega)
  rw[List.drop_zero] at h2
  have hs:binPV .add (.str (bA (X++numsB l))) (.str (bA [48,10]))=some (.str (bA (X++clB l))):=by
   have:=strAdd (a:=X++numsB l) (b:=[48,10]) (by simp;omega)
   rwa [List.append_assoc] at this
  have hrec:=rc_l1 (vars:=vars) hc k (i+1) (X++clB l) (by omega) (by rw[List.length_append];omega)
  have hk1:runL pg q1f ⟨[(1,.ptr false 0 0),(3,.str (bA (X++numsB l))),(4,I (i:Int))],[[I vars,.sl false 1 (cls.map fun l=>LI l)]],gh⟩=some (.normal,⟨[(1,.ptr false 0 0),(3,.str (bA (X++clB l))),(4,I (i:Int))],[[I vars,.sl false 1 (cls.map fun l=>LI l)]],gh⟩):=by
   refine q62_ ?_
   simp only[q62]
   simp[hs]
  have hk2:runL pg q19 ⟨[(1,.ptr false 0 0),(3,.str (bA (X++clB l))),(4,I (i:Int))],[[I vars,.sl false 1 (cls.map fun l=>LI l)]],gh⟩=some (.normal,⟨[(1,.ptr false 0 0),(3,.str (bA (X++clB l))),(4,I ((i+1:Nat):Int))],[[I vars,.sl false 1 (cls.map fun l=>LI l)]],gh⟩):=by
   refine q63_ ?_
   simp only[q63,e2]
  refine j7d (q3p_ (s:=⟨[(1,.ptr false 0 0),(3,.str (bA (X++clB l))),(4,I ((i+1:Nat):Int))],[[I vars,.sl false 1 (cls.map fun l=>LI l)]],gh⟩) ?h3) hrec
  case h3=>
   simp only[Int.natCast_zero] at h2
   have hLl:(cls.map fun l=>LI l).length=cls.length:=List.length_map _
   generalize (cls.map fun l=>LI l)=C at *
   generalize ((i+1:Nat):Int)=T at *
   rw[←hLl] at hltI
   have hD:=decide_eq_true hltI
   simp only[q3p,degr,isC_sl,jbf,hD,j9k]
   simp[h2,hk1,hk2,show Nat.ble 1 1=true from rfl]
theorem jgr {vars:Int} (hv0: -9223372036854775808≤vars∧vars≤9223372036854775807) (hcs:ClsS cls):callL pg 385 [clV vars cls] gh=some (.str (bA (cnfB vars cls)),gh):=by
 have hcl:=hcs.1
 have hv:=fun G=>j9n (gh:=G) (n:=vars) (by omega) (by omega)
 have hn:=fun G=>j9n (gh:=G) (n:=(cls.length:Int)) (by omega) (by omega)
 have l1:=j7l vars
 have l2:=j7l (cls.length:Int)
 have s1:binPV .add (.str (bA [112,32,99,110,102,32])) (.str (bA (itoaK vars)))=some (.str (bA ([112,32,99,110,102,32]++itoaK vars))):=strAdd (by simp;omega)
 have s2:binPV .add (.str (bA ([112,32,99,110,102,32]++itoaK vars))) (.str (bA [32]))=some (.str (bA (([112,32,99,110,102,32]++itoaK vars)++[32]))):=strAdd (by simp;omega)
 have s3:binPV .add (.str (bA (([112,32,99,110,102,32]++itoaK vars)++[32]))) (.str (bA (itoaK (cls.length:Int))))=some (.str (bA ((([112,32,99,110,102,32]++itoaK vars)++[32])++itoaK (cls.length:Int)))):=strAdd (by simp;omega)
 have s4:binPV .add (.str (bA ((([112,32,99,110,102,32]++itoaK vars)++[32])++itoaK (cls.length:Int)))) (.str (bA [10]))=some (.str (bA (headB vars cls.length))):=strAdd (by simp;omega)
 have hhl:=jc0 vars cls.length
 have hlp:=rc_l1 (gh:=gh) (vars:=vars) hcs cls.length 0 (headB vars cls.length) (by omega) (by omega)
 rw[List.drop_zero] at hlp
 have ec:headB vars cls.length++cls.flatMap clB=cnfB vars cls:=rfl
 rw[ec] at hlp
 generalize cnfB vars cls=Z at *
 generalize headB vars cls.length=H at *
 have hk3:runL pg q1g ⟨[(3,.str (bA Z))],[],gh⟩=some (.ret,⟨[(2,.str (bA Z))],[],gh⟩):=q6w_ rfl
 unfold clV at *
 simp only[Int.natCast_zero] at hlp
 have hLl:(cls.map fun l=>LI l).length=cls.length:=List.length_map _
 generalize (cls.map fun l=>LI l)=C at *
 rw[←hLl] at hn s3 s4
 generalize [112,32,99,110,102,32]++itoaK vars=A1 at *
 generalize A1++[32]=A2 at *
 generalize A2++itoaK (C.length:Int)=A3 at *
 refine j70 (fn:=q31) (s:=⟨[(2,.str (bA Z))],[],gh⟩) rfl rfl (q64_ ?h1) ?r1
 case h1=>
  simp only[q64]
  simp[hv,hn,s1,s2,s3,s4,hlp,hk3]
 case r1=>simp[finish,results,q31,resOfs,resOf,resOk]
end
end Go.Lw
end

/-! The checker of proofs: what it holds, and a number put in. -/
section
namespace Go.Lw
open Go
def mapP (l:List (Int×PV)):List (PV×PV):=l.map fun a=>(I a.1,a.2)
def findP:List (Int×PV)→Int→Option PV
 |[],_=>none
 |(a,v)::l,k=>if k=a then some v else findP l k
inductive Role where
 |no
 |of (n:Int)
 |cl (i:Nat)
 deriving DecidableEq
def OfN (R:Nat→Role) (gh:List GObj) (n:Int) (l:List Nat):Option PV→Prop
 |none=>l=[]
 |some h=>∃b gen,h= .stk b gen l.length∧R b= .of n∧gh[b]?=some (.stk gen (l.map fun (i:Nat)=>I i))
def ClN (R:Nat→Role) (gh:List GObj) (i:Nat) (k:List Int) (h:PV):Prop:=
 (k=[]∧h= .sl false 1 [])∨∃b gen,h= .stk b gen k.length∧R b= .cl i∧gh[b]?=some (.stk gen (k.map I))
structure Stat (R:Nat→Role) (gh:List GObj) (a:Nat) (F:List (Int×PV)) (H:List PV) (K:List (List Int)) (X:Int→List Nat):Prop where
 lt:∀b,R b≠ .no→b<gh.length
 ra:R a= .no
 hl:H.length=K.length
 cl:∀(i:Nat) (h:PV) (k:List Int),H[i]?=some h→K[i]?=some k→ClN R gh i k h
 map:gh[a]?=some (.map (mapP F))
 of:∀n,OfN R gh n (X n) (findP F n)
theorem Stat.keep {R:Nat→Role} {gh gh':List GObj} {a:Nat} {F:List (Int×PV)} {H:List PV} {K:List (List Int)} {X:Int→List Nat} (h:Stat R gh a F H K X) (hl:gh.length≤gh'.length)
  (hk:∀b,b<gh.length→R b≠ .no∨b=a→gh'[b]?=gh[b]?):Stat R gh' a F H K X where
 lt:=fun b hb=>Nat.lt_of_lt_of_le (h.lt b hb) hl
 ra:=h.ra
 hl:=h.hl
 cl:=fun i v k h1 h2=>by
  rcases h.cl i v k h1 h2 with h3|⟨b,gen,h3,h4,h5⟩
  ·exact .inl h3
  ·exact .inr ⟨b,gen,h3,h4,by rw[hk b (List.getElem?_eq_some_iff.1 h5).1 (.inl (by rw[h4];simp))];exact h5⟩
 map:=by rw[hk a (List.getElem?_eq_some_iff.1 h.map).1 (.inr rfl)];exact h.map
 of:=fun n=>by
  have:=h.of n
  unfold OfN at *
  split at this
  ·exact this
  ·obtain⟨b,gen,h3,h4,h5⟩:=this
   exact⟨b,gen,h3,h4,by rw[hk b (List.getElem?_eq_some_iff.1 h5).1 (.inl (by rw[h4];simp))];exact h5⟩
section
variable {R:Nat→Role} {gh:List GObj} {g a s:Nat} {F:List (Int×PV)} {H:List PV} {K:List (List Int)} {X:Int→List Nat} {T D:List Int} {n:Int}
end
end Go.Lw
end

/-! The checker of proofs: does a clause follow? The first two rounds. -/
section
namespace Go.Lw
open Go
def Small (n:Int):Prop:=n≠0∧ -1000000000≤n∧n≤1000000000
theorem Small.neg {n:Int} (h:Small n):Small (-n):=⟨by have:=h.1;omega,by have:=h.2.2;omega,by have:=h.2.1;omega⟩
section
variable {R:Nat→Role} {gh:List GObj} {g a s:Nat} {F:List (Int×PV)} {H:List PV} {K:List (List Int)} {X:Int→List Nat} {T D:List Int} {n:Int}
end
end Go.Lw
end

/-! The checker of proofs: clauses of one number are asked. -/
section
namespace Go.Lw
open Go
structure KeptAll (L K:List (List Int)):Prop where
 a:∀k∈K,∃c,Kept L k c
 b:∀c∈L,∃k∈K,∀x,x∈k↔x∈c
 small:∀c∈L,∀n∈c,Small n
 sz:∀k∈K,Sz k.length
section
variable {R:Nat→Role} {gh:List GObj} {g a s:Nat} {F:List (Int×PV)} {H:List PV} {K L:List (List Int)} {X:Int→List Nat} {T D S:List Int} {n:Int}
theorem KeptAll.nz (h:KeptAll L K):∀c∈L,∀n∈c,n≠0:=fun c hc n hn=>(h.small c hc n hn).1
end
end Go.Lw
end

/-! What follows from clauses (the document): all clauses, over and over. -/
section
namespace Go.Lw
open Go
section
variable {gh:List GObj} {L:List (List Int)} {T S:List Int}
abbrev LLp (L:List (List Int)):List PV:=L.map fun l=>LI l
end
end Go.Lw
end
