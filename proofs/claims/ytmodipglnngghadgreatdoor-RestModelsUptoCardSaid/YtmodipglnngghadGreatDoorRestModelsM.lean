/-
  The texts that the proof stands on, part 13.
-/
import Derived.Test.YtmodipglnngghadGreatDoorRestModelsJ
import Derived.RangeFuncIn
import Derived.RangeFuncSeq
import Derived.RangeFuncRecord
import Derived.RangeFuncLeaves
set_option linter.unusedVariables false
set_option linter.unusedSimpArgs false
set_option linter.unnecessarySimpa false

set_option maxRecDepth 100000
set_option maxHeartbeats 4000000
namespace Go.Lw
open Go
section
open Go.RowKit
def FR (r:Option Nat):Fence:={Fence.wide with round:=r }
theorem qD:FR none=Fence.wide:=rfl
section
variable {fi:FI} {M M':Mem} {w w':World} {P:Program} {s s':St} {a:Act} {cf:CallF}
theorem EY {r:Option Nat} {n:Nat} {f:FuncId} {a:Array Value} {R:Ending->World->Prop} (h:Calls P f a w R):CallsIn (FR r) n P f a w R:=
 (callsIn_wide (n:=n)).2 h
theorem Oper.wp_in {r:Option Nat} {n:Nat} {o:Oper} {b:Act->World->Prop} {Q:Exit->Act->World->Prop} (d:∀c,o.op≠ .defer c) (h:o.wp P a w b Q):o.wpIn (FR r) n P a w b Q:=by
 refine⟨λ_ _=>trivial,?_⟩;rw[Oper.semAt_eq _ _ _ d];unfold Oper.wp at h;generalize (execOp a.eval o).run P w=R at h;unfold Oper.upon at h;unfold Oper.uponIn;split at h
 ·exact h
 ·exact h
 ·exact h
 ·exact⟨λh=>(by cases h),EY h⟩
 ·exact⟨λh=>(by cases h),λc i _=>by obtain⟨v,e,g,f⟩:=h c i;exact⟨v,e,g,(StepsIn.of_steps f).mono λm _=>fenced_wide P m⟩⟩
 ·exact h
 ·exact h.elim
def sv (_:Program) (_:FI) (_:CallF):Prop:=True
theorem EZ {i:IOp} {op:Op} (h:cj P fi i op=true):∀c,op≠ .defer c:=by intro c e;subst e;cases i<;>simp[cj,mOp] at h
theorem xq {r:Option Nat} {n:Nat} (e:ii P fi cf) (l:sv P fi cf) (m:Inv fi M w s a) {o:Oper} {i:IOp} (j:cj P fi i o.op=true) (k:o.dst=bq i) (c:∀d,bq i=some d->d<a.tmps.size) (h:ae cf s i=some s')
  {b:Act->World->Prop} {Q:Exit->Act->World->Prop} (hn:∀f M' w',Inv fi M' w' s' f->Kp M w M' w'->f.tmps.size=a.tmps.size->b f w'):o.wpIn (FR r) n P a w b Q:=by
 cases g:i.isY with
 |false=>exact Oper.wp_in (EZ j) (xp e g m j k c h hn)
 |true=>cases i<;>cases g
end
end
end Go.Lw