/-
  The texts that the proof stands on, part 23.
-/
import Derived.Test.YtmodipglnngghacDoorTextBackV
import Derived.LaidMore
import Derived.ChangeArms
set_option linter.unusedVariables false
set_option linter.unusedSimpArgs false
set_option linter.unnecessarySimpa false

/-! What a row's list of package variables gives: a variable that holds a list of texts. -/
section
namespace Go.Lw
open Go Go.Proofs
def wordsGl (g b o c:Nat) (ss:List ByteArray):List (Nat×Nat×Option Value):=
 (g,0,some (.slice (some ⟨b,o,none⟩) ss.length c))::(List.range ss.length).map fun i=>(b,o+i,(ss[i]?).map Value.string)
theorem jos {gl:List (Nat×Nat×Option Value)} {g b o c:Nat} {ss:List ByteArray} (hc:ss.length≤c) (hs:∀x∈wordsGl g b o c ss,x∈gl):GwOk gl [(g,ss)]:=by
 intro x hx
 rw[List.mem_singleton] at hx
 subst hx
 exact⟨b,o,c,hs _ (List.mem_cons_self ..),hc,fun i s hi=>hs _ (List.mem_cons_of_mem _ (List.mem_map.2 ⟨i,List.mem_range.2 (List.getElem?_eq_some_iff.1 hi).1,by simp only[hi,Option.map_some]⟩))⟩
theorem jot {P:Program} {w:World} {laid:List (String×DataW Unit)} {name:String} {ss:List ByteArray} {g:Nat} {t e:TypeId} (h:laidMet P laid w) (hx:(name,.slice (ss.map fun s=> .lit (.string s.data.toList)) [])∈laid)
  (hg:P.globalNamed name=some g) (hty:(P.globals[g]?).map (·.type)=some t) (ht:P.underlying t=some (.slice e)) (he:P.underlying e=some .string) (hc:P.cellsOf e=1) (h0:0<ss.length) :
  ∃b o c,ss.length≤c∧∀x∈wordsGl g b o c ss,x.1<w.heap.size∧w.cell? ⟨x.1,x.2.1,none⟩=x.2.2:=by
 obtain⟨ps,hv,_⟩:=h
 obtain⟨g',t',cs,fuel,p,hg',ht',hvar,hd⟩:=jdl hv _ hx
 obtain rfl:=Option.some.inj (hg.symm.trans hg')
 obtain rfl:=Option.some.inj (hty.symm.trans ht')
 obtain⟨a,cap,hcs,hle,hel⟩:=open_row ht hc hd
 rw[List.length_map] at hcs hle
 have hcell:∀(i:Nat) (s:ByteArray),ss[i]?=some s→w.cell? (a.add i)=some (.string s):=by
  intro i s hi
  obtain⟨v,n,q,h1,h2⟩:=hel i (.lit (.string s.data.toList)) (by rw[List.getElem?_map,hi];rfl)
  obtain⟨s2,e1,e2,_⟩:=DataW.trod_string he h2
  simp only[Prod.mk.injEq,DataW.lit.injEq] at e2
  have e2:=e2.1
  simp only[List.cons.injEq,and_true] at e1
  subst e1
  rw[h1]
  have:s2=s:=by
   obtain⟨⟨x⟩⟩:=s;obtain⟨⟨y⟩⟩:=s2
   injection e2 with e2
   simp only at e2
   rw[e2]
  rw[this]
 have h00:=hcell 0 ss[0] (List.getElem?_eq_getElem h0)
 have hs0:=World.cell?_spot h00
 have ha0:a.add 0=a:=by simp[Addr.add]
 rw[ha0] at hs0
 obtain⟨b,o,sp⟩:=a
 simp only at hs0
 subst hs0
 have hadd:∀i,(Addr.add ⟨b,o,none⟩ i)=⟨b,o+i,none⟩:=by
  intro i
  unfold Addr.add
  split
  ·subst_vars;rfl
  ·rfl
 have hvc:=World.var?_cell hg hvar 0
 have hc0:cs[0]?=some (.slice (some ⟨b,o,none⟩) ss.length cap):=by
  have:cs.toList[0]?=some (.slice (some ⟨b,o,none⟩) ss.length cap):=by rw[hcs];rfl
  simpa using this
 rw[hc0] at hvc
 refine⟨b,o,cap,hle,fun x hx=>?_⟩
 rcases List.mem_cons.1 hx with rfl|hx
 ·exact⟨jc5 hvc,hvc⟩
 ·obtain⟨i,hi,rfl⟩:=List.mem_map.1 hx
  have hi:=List.mem_range.1 hi
  have:=hcell i ss[i] (List.getElem?_eq_getElem hi)
  rw[hadd] at this
  simp only[List.getElem?_eq_getElem hi,Option.map_some]
  exact⟨jc5 this,this⟩
end Go.Lw
end
