/-
  The texts that the proof stands on, part 19.
-/
import Derived.Test.YtmodipglnngghabGreatDoorDecideTextsF
import Derived.Test.YtmodipglnngghabGreatDoorDecideTextsQ
import Derived.Sort.Grow
set_option linter.unusedVariables false
set_option linter.unusedSimpArgs false
set_option linter.unnecessarySimpa false

set_option maxRecDepth 100000
set_option maxHeartbeats 4000000
namespace Go.Lw
open Go
section
open Go.Sort
section
variable {fi:FI} {M M':Mem} {w w' W:World} {P:Program}
theorem pM {b k:Nat} (h:W.heap[b]?=w.heap[b]?):W.cell? ⟨b,k,none⟩=w.cell? ⟨b,k,none⟩:=by simp[World.cell?,h]
theorem GI.restk {E:Ol} (c:GI fi M w E) {b p:Nat} {I zs:Ok} (y:E[b]?=some (.stk p I)) {cs2:Array Value} {T:TypeId} (G:W.os=w.os) (F:W.tape=w.tape) (r:W.output=w.output)
  (f:w.heap.size<=W.heap.size) (a:∀k,k<w.heap.size->k≠(M.st b).2.1->W.heap[k]?=w.heap[k]?) (z:W.heap[(M.st b).2.1]?=some (.cells cs2 T (0,0))) (H:cs2.size=(M.st b).2.2) (s:zs.length<=cs2.size)
  (S:∀x∈zs,co x=true) (hr:∀(j:Nat) (x:PV),zs[j]?=some x->∃u,cs2[j]?=some u/\RepP fi M W x u):GI fi M W (E.set b (.stk p zs))/\Kp M w M W:=by
 have A:b<E.length:=(aD.1 y).1;have B:b<M.gb.length:=by rw[c.gbl];exact A
 obtain⟨P,O,C,L,o5,ad,T0,o6,o7,o8,o9⟩:RepStk fi M w b M.gb[b] p I:=c.gh b _ _ y (aA B);have g:Good M w M W (λl=>l=Loc.gh b 0) (λ_=>False):=by
  refine⟨⟨λ_ _ h=>h,λ_ _ h=>h,λd k h=>?_,λ_ _=>⟨cU _,λ_=>rfl⟩⟩,f,λ_ _ h=>h,λd l h Q=>?_,λd U _ h=>?_,λ_ _=>rfl⟩
  ·exact pM (a d (c.immlt d k h) (λe=>L k (by rw[<-e];exact h)))
  ·exact⟨h,a d (c.ownlt d l h) (λe=>Q (by rw[e,C] at h;cases h;rfl)),λ_ h=>h,id,id⟩
  ·exact⟨a d U (λe=>by rw[e,C] at h;cases h),λ_ h=>h,h⟩
 have k:Kp M w M W:=⟨G,F,r,f,g.ext,λi R _ _ N=>a i R (λe=>by rw[e,C] at N;cases N),λ_ h=> .inl h,λ_ h=> .inl h,λ_ _ h=>h,λ_ _ h=> .inl h,.same rfl⟩
 refine⟨⟨λt v h=>by simp[get] at h,c.defers,c.lbl,by simpa using c.gbl,c.nodup,λi cs q h=>by simp at h,λi o q m D=>?_,g.ext.gl c.gl,λd j h=>aO (c.immlt d j h) f,λd l h=>aO (c.ownlt d l h) f,λd h=>aO (c.gblt d h) f⟩,k⟩;simp only at m;rw[cL] at m;by_cases n:b=i
 ·subst n
  rw[if_pos rfl,if_pos A] at m;cases m;have X:M.gb[b]=q:=by rw[aA B] at D;exact cX D
  exact⟨by rw[<-X];exact P,O,C,L,S,cs2,T,z,H,s,hr⟩
 ·rw[if_neg n] at m
  exact (c.gh i o q m D).good g id (λj h=>by injection h with m D;exact n m.symm)
theorem CW {w:World} {n blk:Nat} {d:Array Int} {os:Array Obj} (k:Nat) (a:k<w.heap.size):(grow (putRow (Value.int .i64) (Sort.ahead w n) blk 0 d) os).heap[k]?=if k=blk then w.heap[k]?.map (onCells (putCells (Value.int .i64) 0 d)) else w.heap[k]?:=by
 have e:(grow (putRow (Value.int .i64) (Sort.ahead w n) blk 0 d) os).heap=w.heap.modify blk (onCells (putCells (Value.int .i64) 0 d))++os:=rfl;rw[e,Array.getElem?_append_left (by simpa using a),Array.getElem?_modify];by_cases h:k=blk
 ·subst h;simp
 ·simp[h,Ne.symm h]
theorem Nh {d:Array Int} {cs:Array Value} (j:Nat) (a:j<cs.size):(putCells (Value.int .i64) 0 d cs)[j]?=if h:j<d.size then some (.int .i64 d[j]) else cs[j]?:=by unfold putCells;rw[Array.getElem?_mapIdx,Array.getElem?_eq_getElem a];by_cases h:j<d.size<;>simp[h]
theorem vZ {s:Ol} (H:GI fi M w s) {b a:Nat} {i:Ok} {e:Oi} (g:s[b]?=some (.stk a i)) (Q:gj i=some e) {v:Value} (P:RepP fi M w (.stk b a i.length) v) :
  ∃ c,v= .slice (some ⟨(M.st b).2.1,0,none⟩) e.length c/\e.length<=c/\c<=(M.st b).2.2/\Holds (Value.int .i64) w (M.st b).2.1 0 e.toArray/\(M.st b).2.1<w.heap.size/\
   ∀(W:World) (n:Nat) (os:Array Obj) (d h:Oi),d.length=e.length->h <+:d->W=grow (putRow (Value.int .i64) (Sort.ahead w n) (M.st b).2.1 0 d.toArray) os->
    GI fi M W (s.set b (.stk a (h.map (PV.int .i64))))/\Kp M w M W:=by
 have F:b<s.length:=(aD.1 g).1;have G:b<M.gb.length:=by rw[H.gbl];exact F
 obtain⟨o1,O,o3,o4,o5,cs,T,p,N,X,L⟩:RepStk fi M w b M.gb[b] a i:=H.gh b _ _ g (aA G);have q:=mQ Q;have A:i.length=e.length:=by rw[q];simp
 have l:(M.st b).2.1<w.heap.size:=(Array.getElem?_eq_some_iff.1 p).1;cases P with
 |stk _ _ _ blk c hb hg U hc=>
 obtain⟨rfl,E⟩:=U O.symm;refine⟨c,by rw[A],NW,E,λj r=>?_,l,λW n os d h hd y S=>?_⟩
 ·have o:j<e.length:=by simpa using r
  obtain⟨u,C,B⟩:=L j (.int .i64 e[j]) (by rw[q];simp[o]);cases B;refine⟨?_,?_⟩
  ·rw[cV]
   simp[World.cell?,p,C,o]
  ·simp[World.frozen?,p]
 ·subst S
  obtain⟨rest,rfl⟩:=y;have I:=CW (n:=n) (d:=(h++rest).toArray) (os:=os) (blk:=(M.st b).2.1) _ l;rw[if_pos rfl,p] at I;have f:(h++rest).length<=cs.size:=NW;refine H.restk g (cs2:=putCells (Value.int .i64) 0 (h++rest).toArray cs) (T:=T) rfl rfl rfl ?_ (λk R D=>by rw[CW k R,if_neg D]) I (by simpa [putCells] using N) ?_ ?_ ?_
  ·show _<=(w.heap.modify _ _++os).size
   simp
  ·simp only[aQ] at f
   simp[putCells];omega
  ·intro x q
   obtain⟨z,_,rfl⟩:=List.mem_map.1 q;rfl
  ·intro j x r
   rw[aB,aE] at r;obtain⟨z,t,rfl⟩:=r;have m:=(aD.1 t).1;simp only[aQ] at f;refine⟨.int .i64 z,?_,.int _ _⟩;rw[Nh j NW,dif_pos (by simp;omega)];simp only[List.getElem_toArray];rw[List.getElem_append_left m];rw[aA m] at t;rw[cX t]
end
end
end Go.Lw