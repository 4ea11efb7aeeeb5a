/-
  The texts that the proof stands on, part 20.
-/
import Derived.Test.YtmodipglnngghabGreatDoorDecideTextsS
import Derived.Shelf.Sort.Plain
import Derived.Shelf.Slices.In.SortNone
import Derived.Shelf.Slices.CompactI
set_option linter.unusedVariables false
set_option linter.unusedSimpArgs false
set_option linter.unnecessarySimpa false

set_option maxRecDepth 100000
set_option maxHeartbeats 4000000
namespace Go.Lw
open Go
section
open Go.Sort Go.Shelf Go.Proofs
section
variable {fi:FI} {P:Program} {ρ:Ren}
theorem CX (a:FI) (M:Mem) (w:World):RepAt a M w Loc.res (.tup []) (.tuple #[]):=⟨[],rfl,rfl,λi c u h=>by simp at h⟩
theorem Ni (L:Lays.n189 P ρ) (z:Ok) (E:Ol) (r:PV) (k:Ol) (h:libSortK z E=some (r,k)):eG P fi (ρ.f 189) z E r k:=by
 intro M w F D j B d a;unfold libSortK at h;split at h
 ·rename_i b R n
  obtain⟨v,rfl⟩:=List.length_eq_one_iff.1 d;have p:=a 0 _ _ rfl rfl;split at h
  case h_2=>cases h
  rename_i g G q;split at h
  case isFalse=>cases h
  rename_i I;obtain⟨rfl,rfl,s⟩:=I;rw[aE] at h;obtain⟨l,i,h⟩:=h;cases h;obtain⟨c,rfl,T,S,Q,O,N⟩:=vZ D q i p;have m:G.length=l.length:=by rw[mQ i];simp
  have C:l.length*8<=140737488355328:=by rw[<-m];exact s
  refine (Any.slices_Sort_int L (M.st b).2.1 0 c l w Q O NW).mono ?_;rintro e u ⟨rfl,n,H,hw⟩;have t:=N u n H _ _ NX (List.prefix_refl (l.mergeSort λx y=>decide (x<=y))) hw;rw[<-yz] at t;exact⟨_,M,rfl,t.1,j,rfl,CX _ _ _,t.2⟩
 ·obtain⟨v,rfl⟩:=List.length_eq_one_iff.1 d
  cases h;obtain⟨A,c,rfl⟩:∃A c,v= .slice A 0 c:=by rename_i o;have p:=a 0 _ _ rfl rfl;cases p;exact⟨_,_,rfl⟩
  refine (Any.slices_Sort_int_none L A c w).mono ?_;rintro e u ⟨rfl,rfl⟩;exact⟨_,M,rfl,D,j,rfl,CX _ _ _,Kp.refl _ _⟩
 ·cases h
theorem Nj (a:Oi):(Lib.compact a).length<=a.length:=by unfold Lib.compact Lib.compactUpTo;rw[aW];exact cA (List.length_filter_le _ _) NX
theorem Nk (L:Lays2.n20 P ρ) (F:Ok) (C:Ol) (r:PV) (t:Ol) (h:libCompactK F C=some (r,t)):eG P fi (ρ.f 20) F C r t:=by
 intro M w N u q G d a;unfold libCompactK at h;split at h
 ·rename_i b X n
  obtain⟨v,rfl⟩:=List.length_eq_one_iff.1 d;have y:=a 0 _ _ rfl rfl;split at h
  case h_2=>cases h
  rename_i g D l;split at h
  case isFalse=>cases h
  rename_i Q;obtain⟨rfl,rfl,B⟩:=Q;rw[aE] at h;obtain⟨k,m,h⟩:=h;cases h;obtain⟨c,rfl,U,T,S,h4,R⟩:=vZ u l m y;have x:D.length=k.length:=by rw[mQ m];simp
  have H:k.length*8<=140737488355328:=by rw[<-x];exact B
  have O:=Nj k;refine (Any.slices_Compact_int L (M.st b).2.1 0 c k w S NW U).mono ?_;rintro e E ⟨rfl,n,hw⟩;have I:=R E n #[] _ _ (by simp;omega) (List.prefix_append (Lib.compact k) (List.replicate (k.length-(Lib.compact k).length) 0)) (by rw[hw,grow_empty]);have z:b<C.length:=(aD.1 l).1;have s:b<M.gb.length:=by rw[u.gbl];exact z
  obtain⟨_,o2,_⟩:RepStk fi M w b M.gb[b] g D:=u.gh b _ _ l (aA s);exact⟨_,M,rfl,I.1,q,rfl,(RepP.stk b g _ _ c s NW (λ_=>⟨rfl,T⟩) NW).repE.repAt,I.2⟩
 ·obtain⟨v,rfl⟩:=List.length_eq_one_iff.1 d
  cases h;obtain⟨A,c,rfl⟩:∃A c,v= .slice A 0 c:=by rename_i o;have y:=a 0 _ _ rfl rfl;cases y;exact⟨_,_,rfl⟩
  refine (Any.slices_Compact_int_empty L A c w).mono ?_;rintro e E ⟨rfl,rfl⟩;exact⟨_,M,rfl,u,q,rfl,(RepP.sl (fi:=fi) 1 [] A c 0 0 (λ_=>undef) (.inl rfl) (Nat.zero_le _) NX NX (λi e j p h=>by simp at h) (λi e j p h=>by simp at h)).repE.repAt,Kp.refl _ _⟩
 ·cases h
end
end
end Go.Lw