/-
  The texts that the proof stands on, part 14.
-/
import Derived.Test.YtmodipglnngghacGreatDoorExploreFindsM
import Derived.RangeFuncIn
import Derived.RangeFuncSeq
import Derived.RangeFuncRecord
import Derived.RangeFuncLeaves
set_option linter.unusedVariables false
set_option linter.unusedSimpArgs false
set_option linter.unnecessarySimpa false

set_option maxRecDepth 100000
set_option maxHeartbeats 4000000
namespace Go.Lw
open Go
section
open Go.RowKit
def FR (r:Option Nat):Fence:={Fence.wide with round:=r }
theorem vR:FR none=Fence.wide:=rfl
section
variable {fi:FI} {M M':Mem} {w w':World} {P:Program} {s s':St} {a:Act} {cf:CallF}
theorem vS {r:Option Nat} {n:Nat} {f:FuncId} {args:Array Value} {R:Ending->World->Prop} (h:Calls P f args w R):CallsIn (FR r) n P f args w R:=
 (callsIn_wide (n:=n)).2 h
theorem vT {r:Option Nat} {n m l:Nat} {f:FuncId} {tmps:Array Value} {assign body:Code} {R:Ending->World->Prop} (h:RoundIn Fence.wide m P l f tmps assign body w R):RoundIn (FR r) n P l f tmps assign body w R:=
 ⟨trivial,λc cs _=>h.2 c cs (room_wide _)⟩
theorem Oper.wp_in {r:Option Nat} {n:Nat} {o:Oper} {next:Act->World->Prop} {Q:Exit->Act->World->Prop} (hnd:∀c,o.op≠ .defer c) (h:o.wp P a w next Q):o.wpIn (FR r) n P a w next Q:=by
 refine⟨λ_ _=>trivial,?_⟩;rw[Oper.semAt_eq _ _ _ hnd];unfold Oper.wp at h;generalize (execOp a.eval o).run P w=R at h;unfold Oper.upon at h;unfold Oper.uponIn;split at h
 ·exact h
 ·exact h
 ·exact h
 ·exact⟨λh=>(by cases h),vS h⟩
 ·exact⟨λh=>(by cases h),λc cs _=>by obtain⟨v,w2,h1,h2⟩:=h c cs;exact⟨v,w2,h1,(StepsIn.of_steps h2).mono λm _=>fenced_wide P m⟩⟩
 ·exact h
 ·exact h.elim
def YOk (P:Program) (fi:FI) (vs:List PV) (b:Nat) (gh gh':List GObj):Prop:=
 ∀(M:Mem) (w:World) (args:List Value),GI fi M w gh->M.lb=[]->(∀b l,M.own b=some l->∃i j,l= .gh i j)->args.length=vs.length->
  (∀(i:Nat) (p:PV) (v:Value),vs[i]?=some p->args[i]?=some v->RepP fi M w p v)->∀l,M.gb[b]?=some l->
  YieldAt Fence.wide 0 P l args.toArray w λe w'=>∃M',e= .returned (.bool true)/\GI fi M' w' gh'/\M'.lb=[]/\Kp M w M' w'
def gO (P:Program) (fi:FI) (cf:CallF):Prop:=
 ∀y caps vs b gh gh',cf y (caps++vs++[.yl b]) gh=some (.bool true,gh')->gh[b]?=some (.lrec 1 y caps)->(∀p∈caps++vs,ah p=true)->YOk P fi vs b gh gh'
theorem pA {i:IOp} {op:Op} (h:b5 P fi i op=true):∀c,op≠ .defer c:=by intro c e;subst e;cases i<;>simp[b5,mOp] at h
theorem RepE.ylInv {b:Nat} {v:Value} (h:RepE fi M w (.yl b) v):∃l,M.gb[b]?=some l/\v= .func (.yield l) #[] #[]:=by
 cases (show RepP fi M w (.yl b) v from h) with
 |yl _ blk hb=>exact⟨blk,hb,rfl⟩
theorem vU {r:Option Nat} {n:Nat} (hcy:gO P fi cf) (hI:Inv fi M w s a) {o:Oper} {d:Option Nat} {x:IX} {xs:List IX} (hm:b5 P fi (.cally d x xs) o.op=true) (hd:o.dst=d) (hlt:∀t,d=some t->t<a.tmps.size)
  (h:ae cf s (.cally d x xs)=some s') {next:Act->World->Prop} {Q:Exit->Act->World->Prop} (hn:∀a' M' w',Inv fi M' w' s' a'->Kp M w M' w'->a'.tmps.size=a.tmps.size->next a' w'):o.wpIn (FR r) n P a w next Q:=by
 have hlt':∀d,o.dst=some d->d<a.tmps.size:=λt h=>hlt t (by rw[<-hd];exact h)
 have hnd:=pA hm;refine⟨λ_ _=>trivial,?_⟩;rw[Oper.semAt_eq _ _ _ hnd];obtain⟨dst,op,ty,pos,aft,gd⟩:=o;cases op<;>simp[b5,mOp] at hm;rename_i c;obtain⟨callee,args,ats⟩:=c;cases callee with
 | value y'=>
  simp at hm;obtain⟨hfv,hxs⟩:=hm;simp only[ae] at h;split at h
  ·rename_i b hcl
   simp only[aC] at h;obtain⟨vs,hvs,h⟩:=h;obtain⟨l,hl,hv⟩:=(bc hI hfv hcl).ylInv;unfold doY at h;split at h
   ·rename_i y caps hgb
    split at h
    ·rename_i hall
     simp only[bS] at hall;obtain⟨e1,e2⟩:=il hI hxs hvs;split at h
     ·rename_i gh' hc
      cases h;have hok:=hcy y caps vs b s.gh gh' hc hgb hall;obtain⟨c1,c2,c3⟩:=hI.callee true;obtain⟨fn,tmps,assign,body,hy,hround⟩:=hok (M.callee true) w (args.toList.map a.eval) c1 c2 c3 (by simpa using e1) (λi p v hp hv=>by simp only[aB,aE] at hv;obtain⟨z,hz,rfl⟩:=hv;exact ma ((e2 i p z hp hz).repP (hall p (bE _ (aP hp)))) (λe=>by cases e)) l hl;have hcap:args.map a.eval=(List.map a.eval args.toList).toArray:=by apply Array.ext';simp
      have hrun:(execOp a.eval {dst:=dst,op:= .call {callee:= .value y',args:=args,argTypes:=ats },type:=ty,pos:=pos,after:=aft,guard:=gd }).run P w= .ok (.round l fn tmps assign body) w:=by rw[<-hcap] at hy;simp[execOp,resolve,Deferred.ofValue,invoke,hv,hy]
      rw[hrun,Oper.uponIn_round];refine⟨λh=>(by cases h),vT (RoundIn.mono hround ?_)⟩;rintro e w2 ⟨M2,rfl,hG,hlb,hk⟩;obtain⟨b1,b2,b3⟩:=hI.back true (pz dst) (λi=>by cases dst<;>rfl) hG hlb hk (r:= .bool true) (v:= .bool true) (RepE.repAt (RepP.repE (.bool true))) (λe=>by cases e) rfl;simp only;cases hdd:dst with
      |none=>
       rw[hdd] at b1 b2 b3;subst hd;simp only[hdd] at hn;exact hn _ _ _ b1 b2 rfl
      |some t=>
       rw[hdd] at b1 b2 b3;subst hd;simp only[hdd] at hn hlt;exact hn _ _ _ (b1.put (hlt t rfl) b3) b2 (by simp[Act.put])
     ·cases h
    ·cases h
   ·cases h
  ·cases h
 |_=>simp at hm
theorem pB {r:Option Nat} {n:Nat} (hcf:go P fi cf) (hcy:gO P fi cf) (hI:Inv fi M w s a) {o:Oper} {i:IOp} (hm:b5 P fi i o.op=true) (hd:o.dst=ba i) (hlt:∀d,ba i=some d->d<a.tmps.size) (h:ae cf s i=some s')
  {next:Act->World->Prop} {Q:Exit->Act->World->Prop} (hn:∀a' M' w',Inv fi M' w' s' a'->Kp M w M' w'->a'.tmps.size=a.tmps.size->next a' w'):o.wpIn (FR r) n P a w next Q:=by
 cases hy:i.isY with
 |false=>exact Oper.wp_in (pA hm) (vQ hcf hy hI hm hd hlt h hn)
 |true=>
  cases i with
  |cally d x xs=>exact vU hcy hI hm hd hlt h hn
  |_=>cases hy
end
end
end Go.Lw