/-
  The texts that the proof stands on, part 23.
-/
import Derived.Test.YtmodipglnngghadGreatDoorRestModelsV
import Derived.Lib.LaidTab
import Derived.LaidLaws
import Derived.Shelf.Vars
set_option linter.unusedVariables false
set_option linter.unusedSimpArgs false
set_option linter.unnecessarySimpa false

set_option maxRecDepth 100000
set_option maxHeartbeats 4000000
namespace Go.Lw
open Go
section
open Go.Proofs
theorem sy {P:Program} {w:World}:∀{b:List (String×DataW Unit)} {f:List MemPlace},DataW.LaidVars P w b f->∀x∈b,
  ∃g t e a p,P.globalNamed x.1=some g/\(P.globals[g]?).map (·.type)=some t/\w.var? P x.1=some e/\DataW.trod (λ_=>()) P w 0 (λ_=>true) false a t e.toList=some (x.2,p)
 |[],_,_,x,c=>by cases c
 |(n,d)::r,f,h,x,c=>by
  obtain⟨g,t,e,a,p,q,m,l,k,j,i,_⟩:=h;rcases List.mem_cons.1 c with rfl|c
  ·exact⟨g,t,e,a,p,m,l,k,j⟩
  ·exact sy i x c
theorem Nv {P:Program} {w:World} {b:List (String×DataW Unit)} {a:String} {k:IntKind} {m:fq} {g:Nat} {t e:TypeId} {n:Nat} (h:laidMet P b w) (q:(a,Lib.tabData k m)∈b)
  (u:P.globalNamed a=some g) (d:(P.globals[g]?).map (·.type)=some t) (s:P.underlying t=some (.array n e)) (v:P.underlying e=some (.int k)) (l:P.cellsOf e=1) (j:P.cellsOf t=n):Lib.TabIs P w a k m:=by
 obtain⟨z,r,_⟩:=h;obtain⟨A,y,B,o,p,i,f,c,x⟩:=sy r _ q;obtain rfl:=cZ (u.symm.trans i);obtain rfl:=cZ (d.symm.trans f);unfold Lib.TabIs;rw[c,<-Lib.cells_of_tab s v l j x]
theorem C8 {P:Program} {w:World} {b:List (String×DataW Unit)} {a nm:String} {d:DataW Unit} {g:Nat} {t:TypeId} {q:Array (String×TypeId)} (h:laidMet P b w) (r:(a,.iface nm d)∈b)
  (m:P.globalNamed a=some g) (e:(P.globals[g]?).map (·.type)=some t) (x:P.underlying t=some (.interface q)):∃u v,g<w.heap.size/\w.cell? ⟨g,0,none⟩=some (.iface u v):=by
 obtain⟨B,s,_⟩:=h;obtain⟨C,A,o,n,p,i,f,c,y⟩:=sy s _ r;obtain rfl:=cZ (m.symm.trans i);obtain rfl:=cZ (e.symm.trans f);obtain⟨l,u,v,j,_,_⟩:=iface_of_trod x y;have k:=World.var?_cell m c 0;have z:o[0]?=some (.iface u v):=by
  have:o.toList[0]?=some (.iface u v):=by rw[j];rfl
  simpa using this
 rw[z] at k;exact⟨u,v,oh k,k⟩
theorem Nw {P:Program} {w:World} {a:String} {k:IntKind} {b:fq} {g:Nat} (h:Lib.TabIs P w a k b) (f:P.globalNamed a=some g) (j:0<b.length):∀x∈wc g k b,x.1<w.heap.size/\w.cell? ⟨x.1,x.2.1,none⟩=x.2.2:=by have d:=World.var?_cell f h;have c:g<w.heap.size:=oh ((d 0).trans (by simp[j]:_=some (Value.int k b[0])));intro x e;obtain⟨i,_,rfl⟩:=List.mem_map.1 e;refine⟨c,?_⟩;rw[d i];simp
end
end Go.Lw