/-
  The texts that the proof stands on, part 21.
-/
import Derived.Test.YtmodipglnngghabGreatDoorDecideTextsJ
import Derived.Test.YtmodipglnngghabGreatDoorDecideTextsS
import Derived.Shelf.SlSortCmp.NoneTotal
set_option linter.unusedVariables false
set_option linter.unusedSimpArgs false
set_option linter.unnecessarySimpa false

set_option maxRecDepth 100000
set_option maxHeartbeats 4000000
namespace Go.Lw
open Go
section
open Go.Sort Go.Shelf Go.Proofs
section
variable {fi:FI} {M:Mem} {w:World} {P:Program} {ρ:Ren} {gh:Ol}
theorem wa (k:GI fi M w gh) {b i:Nat} {cs:Ok} {c:PV} (h:gh[b]?=some (.cells cs)) (j:cs[i]?=some c):∃d u,M.gb[b]?=some d/\w.cell? ⟨d,i,none⟩=some u/\RepP fi M w (aw c) u:=by
 have e:=(aD.1 h).1;have a:b<M.gb.length:=by rw[k.gbl];exact e
 obtain⟨-,-,-,-,f,T,n,m,l⟩:RepBox fi M w (Loc.gh b) M.gb[b] cs:=k.gh b _ _ h (aA a);have g:i<f.length:=by rw[m];exact (aD.1 j).1
 refine⟨M.gb[b],f[i],aA a,?_,(l i c _ j (aA g)).degr1⟩;simp[World.cell?,n,g]
abbrev nH {N:Nat} (z:ke N):Value:= .int .i64 z.1
theorem CY {N:Nat} (W:World) (b:Nat) (d:Array (ke N)):putRow nH W b 0 d=putRow (Value.int .i64) W b 0 (d.map (·.1)):=by
 unfold putRow putCells
 congr 1
 funext c
 congr 1
 funext k x
 simp only[Array.size_map,cV,Nat.sub_zero,Nat.zero_le,true_and];by_cases a:k<d.size
 ·rw[if_pos a,if_pos a,getElem!_pos d k a,getElem!_pos (d.map (·.1)) k (by simpa using a)]
  simp
 ·rw[if_neg a,if_neg a]
theorem Nl {N:Nat} {zs:Oi} (h:∀z∈zs,z.natAbs<N+1):(zs.map (fo N)).map (·.1)=zs:=by
 rw[List.map_map]
 conv=>rhs;rw[<-List.map_id zs]
 exact List.map_congr_left λz a=>tJ (h z a)
def CZ (P:Program) (F:Nat):Prop:=∀(x y b a:Int) (g f d N c:Nat) (w:World),x.natAbs<2000000000->y.natAbs<2000000000->w.cell? ⟨g,0,none⟩=some (.pointer (some ⟨f,0,none⟩))->w.cell? ⟨f,5,none⟩=some (.slice (some ⟨d,0,none⟩) N c)->
 w.cell? ⟨d,x.natAbs,none⟩=some (.int .i64 b)->w.cell? ⟨d,y.natAbs,none⟩=some (.int .i64 a)->x.natAbs<N->y.natAbs<N->(0<=b/\b<=2000000000)->(0<=a/\a<=2000000000)->
 Calls P F #[.int .i64 x,.int .i64 y,.pointer (some ⟨g,0,none⟩)] w λe h=>e= .returned (.int .i64 (a-b))/\∃q,h=w.drewN q
theorem Nm {F:Nat} (L:SlLaysF.n6 P ρ) (aJ:fi 189=some F) (eg:∀k w,(callFunc F k).run P w= .ok (.enter F k) w) (hw:CZ P F)
  (vs:Ok) (gh:Ol) (r:PV) (av:Ol) (h:libSortLv vs gh=some (r,av)):eG P fi (ρ.f 6) vs gh r av:=by
 intro M w k hG al aP p B;unfold libSortLv at h;split at h
 case h_2=>cases h
 rename_i v c;obtain⟨a0,a1,rfl⟩:∃a0 a1,k=[a0,a1]:=by
  rcases k with _|⟨a0,_|⟨a1,_|⟨a2,l⟩⟩⟩
  ·simp at p
  ·simp at p
  ·exact⟨a0,a1,rfl⟩
  ·simp at p
 have X:=B 0 _ _ rfl rfl;have aB:=B 1 _ _ rfl rfl;split at h
 case h_2=>cases h
 rename_i g H;split at h
 case h_2=>cases h
 rename_i d0 d1 d2 d3 d4 lv N e0 e1 e2 e3 e4 e5 e6 G;split at h
 case h_2=>cases h
 rename_i ks E;rw[aC] at h;obtain⟨d,aG,h⟩:=h;obtain⟨cb,rfl,aM⟩:∃cb:Ou,a1= .func (.func F) #[] cb.toArray/\∃Q,cb=[.pointer (some ⟨Q,0,none⟩)]/\M.gb[c]?=some Q:=by
  cases aB with
  |fn _ F' _ vs hf hl _ hr=>
   rw[aJ] at hf;cases hf;obtain⟨u,rfl⟩:=List.length_eq_one_iff.1 hl;have:=hr 0 _ _ rfl rfl;cases this with
   |ptr _ _ ax hb=>exact⟨_,rfl,ax,rfl,hb⟩
 obtain⟨Q,rfl,aN⟩:=aM;split at h
 ·cases h
  obtain⟨A,cp,rfl⟩:∃A cp,a0= .slice A 0 cp:=by cases X;exact⟨_,_,rfl⟩
  refine (AnyF.slices_SortFunc_none {L with } A cp _ w).mono ?_;rintro e w' ⟨rfl,rfl⟩;exact⟨_,M,rfl,hG,al,rfl,⟨[],rfl,rfl,λi c u h=>by simp at h⟩,Kp.refl _ _⟩
 ·rename_i b aV n
  split at h
  case h_2=>cases h
  rename_i g' xs t;rw[aC] at h;obtain⟨zs,S,h⟩:=h;split at h
  case isFalse=>cases h
  rename_i hc;obtain⟨rfl,rfl,hn,hN,aT,ad⟩:=hc;cases h;simp only[qT,aS,aH,bV] at ad;obtain⟨⟨k1,k2⟩,k3⟩:=ad;have aU:N-1+1=N:=NW;obtain⟨cp,rfl,h1,h2,h3,h4,h5⟩:=vZ hG t S X;have aQ:xs.length=zs.length:=by rw[mQ S];simp
  have aD:=Nl (N:=N-1) (zs:=zs) (λz T=>k3 z T);have D:b≠c/\b≠g/\b≠lv:=⟨λe=>(by subst e;rw[t] at H;cases H),λe=>(by subst e;rw[t] at G;cases G),λe=>(by subst e;rw[t] at E;cases E)⟩
  have s:(zs.map (fo (N-1))).toArray.size=zs.length:=NX;have hH:Holds (nH (N:=N-1)) w (M.st b).2.1 0 (zs.map (fo (N-1))).toArray:=λj hj=>by
   have:=h3 j (by simpa using hj);have an:j<zs.length:=by simpa using hj
   rw[getElem!_pos _ j (by simpa using hj)] at this ⊢;have e:((zs.map (fo (N-1))).toArray[j]'hj).1=zs.toArray[j]'(by simpa using an):=by simp only[List.getElem_toArray,List.getElem_map];exact tJ (k3 _ (cD an))
   show _=some (Value.int .i64 _)/\_
   rw[e];exact this
  have ao:CmpLays1 P F #[.pointer (some ⟨Q,0,none⟩)] (nH (N:=N-1)) (je d) (M.st b).2.1 0 (zs.map (fo (N-1))).toArray.size w:=by
   intro m R C aR x y;have aL:(C.map (·.1)).toList.length=zs.length:=by simp;omega
   obtain⟨I,-⟩:=h5 (sortWorld nH w (M.st b).2.1 0 m C R) m R (C.map (·.1)).toList (C.map (·.1)).toList aL (List.prefix_refl _) (by unfold sortWorld;rw[CY]);generalize sortWorld nH w (M.st b).2.1 0 m C R=W at *;have f1:(gh.set b (.stk g' ((C.map (·.1)).toList.map (PV.int .i64))))[c]?=some (.cells [Oe g 0]):=by rw[List.getElem?_set_ne D.1];exact H
   have f2:=(List.getElem?_set_ne (l:=gh) (a:= .stk g' ((C.map (·.1)).toList.map (PV.int .i64))) D.2.1).trans G;have f3:=(List.getElem?_set_ne (l:=gh) (a:= .stk g' ((C.map (·.1)).toList.map (PV.int .i64))) D.2.2).trans E;obtain⟨b1,u1,q1,q2,q3⟩:=wa I f1 (i:=0) rfl;obtain⟨b2,u2,q4,q5,q6⟩:=wa I f2 (i:=5) rfl;rw[aN] at q1;cases q1;cases q3 with
   |ptr _ _ aX ap=>
   rw[q4] at ap;cases ap;have aI:=mQ aG;have lvl:∀z:ke (N-1),∃O,M.gb[lv]?=some O/\W.cell? ⟨O,z.1.natAbs,none⟩=some (.int .i64 (d.getD z.1.natAbs 0))/\0<=d.getD z.1.natAbs 0/\d.getD z.1.natAbs 0<=2000000000:=λz=>by
    have T:z.1.natAbs<d.length:=by have:=z.2;omega
    obtain⟨O,u3,q7,q8,q9⟩:=wa I f3 (i:=z.1.natAbs) (c:= .int .i64 d[z.1.natAbs]) (by rw[aI];simp[T]);cases q9;have e:d.getD z.1.natAbs 0=d[z.1.natAbs]:=by rw[aK,aA T];rfl
    rw[e];exact⟨O,q7,q8,k2 _ (cD T)⟩
   obtain⟨O,x1,x2,x3⟩:=lvl x;obtain⟨aW,y1,y2,y3⟩:=lvl y;rw[x1] at y1;cases y1;cases q6 with
   |bs _ _ _ _ A cq ax hb hA hc=>
   rw[x1] at hb;cases hb;have aO:A=some ⟨O,0,none⟩:=hA.resolve_left (by have:=x.2;omega);subst aO;have hx:=x.2;have hy:=y.2;refine (hw x.1 y.1 _ _ Q b2 O N cq W NW NW q2 q5 x2 y2 NW NW x3 y3).mono ?_;rintro e w' ⟨rfl,q,rfl⟩;exact⟨rfl,q,#[],by rw[grow_empty]⟩
  have hS:=Any.slices_SortFunc_eq L (nH (N:=N-1)) (λ_=>rfl) (je d) (qU d) F #[.pointer (some ⟨Q,0,none⟩)] (M.st b).2.1 0 cp (zs.map (fo (N-1))).toArray w eg ao hH h4 (by simp;omega);rw[s] at hS;refine hS.mono ?_;rintro e w' ⟨rfl,n,R,U⟩;generalize hr:pdq (ltOf (je d)) (zs.map (fo (N-1))).toArray 0 zs.length (Lib.bitLen zs.length) true true=o at U;have aE:o.size=zs.length:=by obtain⟨⟨p1,-,-⟩,-⟩:=Sort.pdq_sorts (ltOf (je d)) (qU d) (zs.map (fo (N-1))).toArray 0 zs.length (Lib.bitLen zs.length) true true (Nat.zero_le _) (by rw[s];exact cU _) (Or.inl rfl);rw[hr] at p1;omega
  have h6:=h5 w' n R (o.map (·.1)).toList (o.map (·.1)).toList (by simp;omega) (List.prefix_refl _) (by rw[U];unfold sortWorld;rw[CY]);have aF:(jH (N-1) d zs)=(o.map (·.1)).toList:=by
   unfold jH;by_cases hl:zs.length<=1
   ·rw[if_pos hl]
    obtain⟨⟨-,-,p3⟩,-⟩:=Sort.pdq_sorts (ltOf (je d)) (qU d) (zs.map (fo (N-1))).toArray 0 zs.length (Lib.bitLen zs.length) true true (Nat.zero_le _) (by rw[s];exact cU _) (Or.inl rfl);rw[hr] at p3;have e1:o.extract 0 zs.length=o:=by rw[<-aE];exact Array.extract_size
    have e2:(zs.map (fo (N-1))).toArray.extract 0 zs.length=(zs.map (fo (N-1))).toArray:=by
     conv=>lhs;rw[<-s]
     exact Array.extract_size
    rw[e1,e2] at p3;have p4:=p3.map (λx:ke (N-1)=>x.1);rw[aD] at p4;rw[Array.toList_map];rcases zs with _|⟨z,_|⟨z2,l⟩⟩
    ·exact (List.Perm.eq_nil p4).symm
    ·exact (List.perm_singleton.1 p4).symm
    ·simp at hl
   ·rw[if_neg hl]
    have e:(Sort.pdq (kV d) (zs.map (fo (N-1))).toArray 0 zs.length (Lib.bitLen zs.length) true true)=o:=hr;rw[e];simp
  rw[aF];exact⟨_,M,rfl,h6.1,al,rfl,⟨[],rfl,rfl,λi c u h=>by simp at h⟩,h6.2⟩
 ·cases h
end
end
end Go.Lw