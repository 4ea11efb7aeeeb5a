/-
  The texts that the proof stands on, part 23.
-/
import Derived.Test.YtmodipglnngghacGreatDoorExploreFindsV
import Derived.Lib.LaidTab
import Derived.LaidLaws
import Derived.Shelf.Vars
set_option linter.unusedVariables false
set_option linter.unusedSimpArgs false
set_option linter.unnecessarySimpa false

set_option maxRecDepth 100000
set_option maxHeartbeats 4000000
namespace Go.Lw
open Go
section
open Go.Proofs
theorem om {P:Program} {w:World}:∀{laid:List (String×DataW Unit)} {ps:List MemPlace},DataW.LaidVars P w laid ps->∀x∈laid,
  ∃g t cs fuel p,P.globalNamed x.1=some g/\(P.globals[g]?).map (·.type)=some t/\w.var? P x.1=some cs/\DataW.trod (λ_=>()) P w 0 (λ_=>true) false fuel t cs.toList=some (x.2,p)
 |[],_,_,x,hx=>by cases hx
 |(n,d)::r,ps,h,x,hx=>by
  obtain⟨g,t,cs,fuel,p,q,h1,h2,h3,h4,h5,_⟩:=h;rcases List.mem_cons.1 hx with rfl|hx
  ·exact⟨g,t,cs,fuel,p,h1,h2,h3,h4⟩
  ·exact om h5 x hx
theorem Bt {P:Program} {w:World} {laid:List (String×DataW Unit)} {name:String} {k:IntKind} {zs:List Int} {g:Nat} {t e:TypeId} {n:Nat} (h:laidMet P laid w) (hx:(name,Lib.tabData k zs)∈laid)
  (hg:P.globalNamed name=some g) (hty:(P.globals[g]?).map (·.type)=some t) (ht:P.underlying t=some (.array n e)) (he:P.underlying e=some (.int k)) (hce:P.cellsOf e=1) (hct:P.cellsOf t=n):Lib.TabIs P w name k zs:=by
 obtain⟨ps,hv,_⟩:=h;obtain⟨g',t',cs,fuel,p,hg',ht',hvar,hd⟩:=om hv _ hx;obtain rfl:=cQ (hg.symm.trans hg');obtain rfl:=cQ (hty.symm.trans ht');unfold Lib.TabIs;rw[hvar,<-Lib.cells_of_tab ht he hce hct hd]
theorem t7 {P:Program} {w:World} {laid:List (String×DataW Unit)} {name nm:String} {d:DataW Unit} {g:Nat} {t:TypeId} {ms:Array (String×TypeId)} (h:laidMet P laid w) (hx:(name,.iface nm d)∈laid)
  (hg:P.globalNamed name=some g) (hty:(P.globals[g]?).map (·.type)=some t) (ht:P.underlying t=some (.interface ms)):∃u v,g<w.heap.size/\w.cell? ⟨g,0,none⟩=some (.iface u v):=by
 obtain⟨ps,hv,_⟩:=h;obtain⟨g',t',cs,fuel,p,hg',ht',hvar,hd⟩:=om hv _ hx;obtain rfl:=cQ (hg.symm.trans hg');obtain rfl:=cQ (hty.symm.trans ht');obtain⟨fuel',u,v,hcs,_,_⟩:=iface_of_trod ht hd;have hc:=World.var?_cell hg hvar 0;have h0:cs[0]?=some (.iface u v):=by
  have:cs.toList[0]?=some (.iface u v):=by rw[hcs];rfl
  simpa using this
 rw[h0] at hc;exact⟨u,v,mC hc,hc⟩
theorem Bu {P:Program} {w:World} {name:String} {k:IntKind} {zs:List Int} {g:Nat} (h:Lib.TabIs P w name k zs) (hg:P.globalNamed name=some g) (h0:0<zs.length):∀x∈oi g k zs,x.1<w.heap.size/\w.cell? ⟨x.1,x.2.1,none⟩=x.2.2:=by have hc:=World.var?_cell hg h;have hlt:g<w.heap.size:=mC ((hc 0).trans (by simp[h0]:_=some (Value.int k zs[0])));intro x hx;obtain⟨i,_,rfl⟩:=List.mem_map.1 hx;refine⟨hlt,?_⟩;rw[hc i];simp
end
end Go.Lw