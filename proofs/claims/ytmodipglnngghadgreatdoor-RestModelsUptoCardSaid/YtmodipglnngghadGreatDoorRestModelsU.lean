/-
  The texts that the proof stands on, part 21.
-/
import Derived.Test.YtmodipglnngghadGreatDoorRestModelsG
import Derived.Test.YtmodipglnngghadGreatDoorRestModelsS
import Derived.Sort.Grow
set_option linter.unusedVariables false
set_option linter.unusedSimpArgs false
set_option linter.unnecessarySimpa false

set_option maxRecDepth 100000
set_option maxHeartbeats 4000000
namespace Go.Lw
open Go
section
open Go.Sort
section
variable {fi:FI} {M M':Mem} {w w' W:World} {P:Program}
theorem pM {b k:Nat} (h:W.heap[b]?=w.heap[b]?):W.cell? ⟨b,k,none⟩=w.cell? ⟨b,k,none⟩:=by simp[World.cell?,h]
theorem GI.restk {F:fB} (d:GI fi M w F) {b q:Nat} {N zs:fw} (z:F[b]?=some (.stk q N)) {m:Array Value} {T:TypeId} (I:W.os=w.os) (H:W.tape=w.tape) (s:W.output=w.output)
  (f:w.heap.size<=W.heap.size) (a:∀k,k<w.heap.size->k≠(M.st b).2.1->W.heap[k]?=w.heap[k]?) (A:W.heap[(M.st b).2.1]?=some (.cells m T (0,0))) (L:m.size=(M.st b).2.2) (y:zs.length<=m.size)
  (U:∀x∈zs,co x=true) (hr:∀(j:Nat) (x:PV),zs[j]?=some x->∃u,m[j]?=some u/\RepP fi M W x u):GI fi M W (F.set b (.stk q zs))/\Kp M w M W:=by
 have B:b<F.length:=(aD.1 z).1;have C:b<M.gb.length:=by rw[d.gbl];exact B
 obtain⟨Q,P,D,G,o5,aa,T0,o6,o7,o8,o9⟩:RepStk fi M w b M.gb[b] q N:=d.gh b _ _ z (aA C);have g:Good M w M W (λl=>l=Loc.gh b 0) (λ_=>False):=by
  refine⟨⟨λ_ _ h=>h,λ_ _ h=>h,λc k h=>?_,λ_ _=>⟨cW _,λ_=>rfl⟩,λc k h=>m8 (a c (d.immlt c k h) (λe=>G k (by rw[<-e];exact h)))⟩,f,λ_ _ h=>h,λc l h R=>?_,λc X _ h=>?_,λ_ _=>rfl⟩
  ·exact pM (a c (d.immlt c k h) (λe=>G k (by rw[<-e];exact h)))
  ·exact⟨h,a c (d.ownlt c l h) (λe=>R (by rw[e,D] at h;cases h;rfl)),λ_ h=>h,id,id⟩
  ·exact⟨a c X (λe=>by rw[e,D] at h;cases h),λ_ h=>h,h⟩
 have k:Kp M w M W:=⟨I,H,s,f,g.ext,λi S _ _ O=>a i S (λe=>by rw[e,D] at O;cases O),λ_ h=> .inl h,λ_ h=> .inl h,λ_ _ h=>h,λ_ _ h=> .inl h,.same rfl⟩
 refine⟨⟨λt v h=>by simp[get] at h,d.defers,d.lbl,by simpa using d.gbl,d.nodup,λi cs r h=>by simp at h,λi o r n E=>?_,g.ext.gl d.gl,λc j h=>aO (d.immlt c j h) f,λc l h=>aO (d.ownlt c l h) f,λc h=>aO (d.gblt c h) f⟩,k⟩;simp only at n;rw[cM] at n;by_cases p:b=i
 ·subst p
  rw[if_pos rfl,if_pos B] at n;cases n;have eb:M.gb[b]=r:=by rw[aA C] at E;exact cZ E
  exact⟨by rw[<-eb];exact Q,P,D,G,U,m,T,A,L,y,hr⟩
 ·rw[if_neg p] at n
  exact (d.gh i o r n E).good g id (λj h=>by injection h with n E;exact p n.symm)
end
end
end Go.Lw