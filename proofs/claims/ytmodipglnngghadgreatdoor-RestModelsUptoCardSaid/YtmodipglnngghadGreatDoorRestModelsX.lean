/-
  The texts that the proof stands on, part 24.
-/
import Derived.Test.YtmodipglnngghadGreatDoorRestModelsW
import Derived.LaidMore
import Derived.ChangeArms
set_option linter.unusedVariables false
set_option linter.unusedSimpArgs false
set_option linter.unnecessarySimpa false

set_option maxRecDepth 100000
set_option maxHeartbeats 4000000
namespace Go.Lw
open Go
section
open Go.Proofs
def O5 (g b o c:Nat) (a:List ByteArray):List (Nat×Nat×Option Value):=
 (g,0,some (.slice (some ⟨b,o,none⟩) a.length c))::(List.range a.length).map λi=>(b,o+i,(a[i]?).map Value.string)
theorem Nx {gl:List (Nat×Nat×Option Value)} {g b o c:Nat} {a:List ByteArray} (h:a.length<=c) (e:∀x∈O5 g b o c a,x∈gl):kI gl [(g,a)]:=by intro x d;rw[List.mem_singleton] at d;subst d;exact⟨b,o,c,e _ (aZ ..),h,λi s f=>e _ (bC _ (List.mem_map.2 ⟨i,List.mem_range.2 (aD.1 f).1,by simp only[f,cK]⟩))⟩
theorem Ny {P:Program} {w:World} {f:List (String×DataW Unit)} {name:String} {ss:List ByteArray} {g:Nat} {t e:TypeId} (h:laidMet P f w) (u:(name,.slice (ss.map λs=> .lit (.string s.data.toList)) [])∈f)
  (N:P.globalNamed name=some g) (D:(P.globals[g]?).map (·.type)=some t) (T:P.underlying t=some (.slice e)) (U:P.underlying e=some .string) (hc:P.cellsOf e=1) (h0:0<ss.length) :
  ∃b o c,ss.length<=c/\∀x∈O5 g b o c ss,x.1<w.heap.size/\w.cell? ⟨x.1,x.2.1,none⟩=x.2.2:=by
 obtain⟨ps,S,_⟩:=h;obtain⟨g',t',R,O,p,F,E,z,X⟩:=sy S _ u;obtain rfl:=cZ (N.symm.trans F);obtain rfl:=cZ (D.symm.trans E);obtain⟨a,m,B,A,G⟩:=open_row T hc X;rw[aW] at B A;have d:∀(i:Nat) (s:ByteArray),ss[i]?=some s->w.cell? (a.add i)=some (.string s):=by
  intro i s r;obtain⟨v,n,q,h1,h2⟩:=G i (.lit (.string s.data.toList)) (by rw[aB,r];rfl);obtain⟨M,Q,l,_⟩:=DataW.trod_string U h2;simp only[bZ,DataW.lit.injEq] at l;have l:=l.1;simp only[List.cons.injEq,and_true] at Q;subst Q;rw[h1];have:M=s:=by
   obtain⟨⟨x⟩⟩:=s;obtain⟨⟨y⟩⟩:=M;injection l with l
   simp only at l;rw[l]
  rw[this]
 have L:=d 0 ss[0] (aA h0);have k:=World.cell?_spot L;have I:a.add 0=a:=by simp[Addr.add]
 rw[I] at k;obtain⟨b,o,sp⟩:=a;simp only at k;subst k;have C:∀i,(Addr.add ⟨b,o,none⟩ i)=⟨b,o+i,none⟩:=by
  intro i;unfold Addr.add;split
  ·subst_vars;rfl
  ·rfl
 have j:=World.var?_cell N z 0;have H:R[0]?=some (.slice (some ⟨b,o,none⟩) ss.length m):=by
  have:R.toList[0]?=some (.slice (some ⟨b,o,none⟩) ss.length m):=by rw[B];rfl
  simpa using this
 rw[H] at j;refine⟨b,o,m,A,λx u=>?_⟩;rcases List.mem_cons.1 u with rfl|u
 ·exact⟨oh j,j⟩
 ·obtain⟨i,r,rfl⟩:=List.mem_map.1 u
  have r:=List.mem_range.1 r;have:=d i ss[i] (aA r);rw[C] at this;simp only[aA r,cK];exact⟨oh this,this⟩
end
end Go.Lw