/-
  The texts that the proof stands on, part 14.
-/
import Derived.Test.YtmodipglnngghabBlastTellsM
set_option linter.unusedVariables false
set_option linter.unusedSimpArgs false
set_option linter.unnecessarySimpa false

set_option maxRecDepth 100000
set_option maxHeartbeats 4000000
namespace Go.Lw
open Go
section
variable {m:Md} {gh:List GObj}
theorem Hm {f:List Bool} (hf:f.length=m.nodes.length) (hl:m.nodes.length<=1000) (h1:Sz m.inits.length) (h2:Sz m.nexts.length) :
  ab pg q8d ⟨[(1,.ptr false 0 0),(5,.sl false 1 (f.map B)),(6,I 0)],[bz m],gh⟩=
   if dr m.nodes f true m.inits≠0 then some (.ret,⟨[(2,I (dr m.nodes f true m.inits))],[],gh⟩)
   else if dr m.nodes f false m.nexts≠0 then some (.ret,⟨[(2,I (dr m.nodes f false m.nexts))],[],gh⟩)
   else some (.normal,⟨[(1,.ptr false 0 0)],[bz m],gh⟩):=by
 have l1:=sT (gh:=gh) (m:=m) (ps:=m.inits) (k:=0) hf hl h1 m.inits.length 0 (by omega);have l2:=sT (gh:=gh) (m:=m) (ps:=m.nexts) (k:=1) hf hl h2 m.nexts.length 0 (by omega);rw[bL] at l1 l2;simp only[aX,decide_true] at l1 l2;rw[show decide (1=0)=false from rfl] at l2;simp only[Int.natCast_one] at l1 l2;have w1:WI.wrap (0+1)=1:=by decide
 have w2:WI.wrap (1+1)=2:=by decide
 generalize f.map B=F at *;have k3:∀x,ab pg q2b ⟨[(1,.ptr false 0 0),(5,.sl false 1 F),(6,I x)],[bz m],gh⟩=some (.normal,⟨[(1,.ptr false 0 0),(5,.sl false 1 F),(6,I (WI.wrap (x+1)))],[bz m],gh⟩):=λx=>by refine qmm ?_;simp
 have k2:∀x ps e s,ab pg q29 ⟨[(1,.ptr false 0 0),(5,.sl false 1 F),(6,I x),(7,LP ps),(8,I 0)],[bz m],gh⟩=some (e,s)->ab pg q2a ⟨[(1,.ptr false 0 0),(5,.sl false 1 F),(6,I x),(7,LP ps)],[bz m],gh⟩=some (e,s):=λx ps e s h=>by refine qml ?_;simp only[bz] at *;simp[h]
 by_cases e1:dr m.nodes f true m.inits=0
 ·rw[if_pos e1] at l1
  rw[if_neg (λh=>h e1)];have k30:=k3 0;rw[w1] at k30;have k20:=k2 _ _ _ _ l1;refine bh (s1:=⟨[(1,.ptr false 0 0),(5,.sl false 1 F),(6,I 1)],[bz m],gh⟩) (q3c (by simp only[bz] at *;simp[k20,k30])) ?_;by_cases e2:dr m.nodes f false m.nexts=0
  ·rw[if_pos e2] at l2
   rw[if_neg (λh=>h e2)];have k31:=k3 1;rw[w2] at k31;have k21:=k2 _ _ _ _ l2;refine bh (s1:=⟨[(1,.ptr false 0 0),(5,.sl false 1 F),(6,I 2)],[bz m],gh⟩) (q3c (by simp only[bz] at *;simp[k21,k31])) ?_;refine (cm (s1:=?s1) (q3c ?h1)).trans ?r1
   case h1=>simp;rfl
   case r1=>simp[keep,co]
  ·rw[if_neg e2] at l2
   rw[if_pos e2];have k21:=k2 _ _ _ _ l2;refine dJ (q3c ?_);simp only[bz] at *;simp[k21]
 ·rw[if_neg e1] at l1
  rw[if_pos e1];have k20:=k2 _ _ _ _ l1;refine dJ (q3c ?_);simp only[bz] at *;simp[k20]
theorem Hn (h1:Sz m.inits.length) (h2:Sz m.nexts.length) :
  ab pg q8f ⟨[(1,.ptr false 0 0),(10,I 0)],[bz m],gh⟩=
   if dP m.inits\/dP m.nexts then some (.ret,⟨[(2,I 6)],[],gh⟩) else some (.normal,⟨[(1,.ptr false 0 0)],[bz m],gh⟩):=by
 have l1:=sU (gh:=gh) (m:=m) (ps:=m.inits) (k:=0) h1 m.inits.length 0 (by omega);have l2:=sU (gh:=gh) (m:=m) (ps:=m.nexts) (k:=1) h2 m.nexts.length 0 (by omega);rw[bL,List.take_zero,Hl] at l1 l2;simp only[aX,Int.natCast_one,aH] at l1 l2;have w1:WI.wrap (0+1)=1:=by decide
 have w2:WI.wrap (1+1)=2:=by decide
 have k7:∀x,ab pg q2d ⟨[(1,.ptr false 0 0),(10,I x)],[bz m],gh⟩=some (.normal,⟨[(1,.ptr false 0 0),(10,I (WI.wrap (x+1)))],[bz m],gh⟩):=λx=>by refine qmp ?_;simp
 have k5:∀x ps e s,ab pg q4g ⟨[(1,.ptr false 0 0),(10,I x),(11,LP ps),(12,I 0)],[bz m],gh⟩=some (e,s)->ab pg q2c ⟨[(1,.ptr false 0 0),(10,I x),(11,LP ps)],[bz m],gh⟩=some (e,s):=λx ps e s h=>by refine qmo ?_;simp only[bz] at *;simp[h]
 by_cases t1:dP m.inits
 ·rw[if_pos t1] at l1
  rw[if_pos (.inl t1)];have k50:=k5 _ _ _ _ l1;refine dJ (q3d ?_);simp only[bz] at *;simp[k50]
 ·rw[if_neg t1] at l1
  have k50:=k5 _ _ _ _ l1;have k70:=k7 0;rw[w1] at k70;refine bh (s1:=⟨[(1,.ptr false 0 0),(10,I 1)],[bz m],gh⟩) (q3d (by simp only[bz] at *;simp[k50,k70])) ?_;by_cases t2:dP m.nexts
  ·rw[if_pos t2] at l2
   rw[if_pos (.inr t2)];have k51:=k5 _ _ _ _ l2;refine dJ (q3d ?_);simp only[bz] at *;simp[k51]
  ·rw[if_neg t2] at l2
   rw[if_neg (by rintro (h|h)<;>contradiction)];have k51:=k5 _ _ _ _ l2;have k71:=k7 1;rw[w2] at k71;refine bh (s1:=⟨[(1,.ptr false 0 0),(10,I 2)],[bz m],gh⟩) (q3d (by simp only[bz] at *;simp[k51,k71])) ?_;refine (cm (s1:=?s1) (q3d ?h1)).trans ?r1
   case h1=>simp;rfl
   case r1=>simp[keep,co]
def mI (m:Md):Int:=
 if m.nexts.length≠(ak m.nodes 3).length then 5 else if (m.bads++m.holds).any (λa=> !decide (dh m.nodes a)) then 5
 else if (m.bads++m.holds).any (λa=> !decide (wAt m.nodes a=1)) then 1 else 0
theorem Ho (hl:m.nodes.length<=1000) (h1:m.bads.length<=100) (h2:m.holds.length<=100) :
  ab pg q4h ⟨[(1,.ptr false 0 0)],[bz m],gh⟩=some (.ret,⟨[(2,I (mI m))],[],gh⟩):=by
 have ho:=j8 (m:=m) (gh:=gh) (kind:=3) (by omega);rw[en] at ho;have hm:=MB;have hm1:m.bads.length*8<=maxBytes:=by omega
 have hm2:(m.bads.length+m.holds.length)*8<=maxBytes:=by omega
 have hsz:Sz (m.bads++m.holds).length:=by simp only[Sz,aW];omega
 have l7:=xF (m:=m) (gh:=gh) (xs:=m.bads++m.holds) hl hsz (m.bads++m.holds).length 0 (by omega);have l8:(∀a∈m.bads++m.holds,dh m.nodes a)->_:=λhn=>xG (m:=m) (gh:=gh) (xs:=m.bads++m.holds) hn hsz (m.bads++m.holds).length 0 (by omega)
 rw[bL] at l7;rw[bL] at l8;simp only[aX] at l7 l8;have hnb:(m.bads++m.holds).any (λa=> !decide (dh m.nodes a))=false->∀a∈m.bads++m.holds,dh m.nodes a:=λh a ha=>by have:=List.any_eq_false.1 h a ha;simpa using this
 unfold mI;generalize (m.bads++m.holds).any (λa=> !decide (dh m.nodes a))=p1 at *;generalize (m.bads++m.holds).any (λa=> !decide (wAt m.nodes a=1))=p2 at *;generalize hK:ak m.nodes 3=K at *;have hKl:(K.map I).length=K.length:=by simp
 have hXl:(m.nexts.map aj).length=m.nexts.length:=by simp
 have hBl:(m.bads.map I).length=m.bads.length:=by simp
 have hHl:(m.holds.map I).length=m.holds.length:=by simp
 have k10:=qmq (pg:=pg) (gh:=gh) (e:= .ret) (s:=⟨[(2,I 0)],[],gh⟩) rfl;have k9r:∀M s,ab pg q2e ⟨[(1,.ptr false 0 0),(14,.sl true 1 M),(16,I 0)],[bz m],gh⟩=some (.ret,s)->ab pg q2f ⟨[(1,.ptr false 0 0),(14,.sl true 1 M)],[bz m],gh⟩=some (.ret,s):=λM s h=>by simp only[bz] at *;refine qh4 ?_;simp[h]
 have k9n:∀M,ab pg q2e ⟨[(1,.ptr false 0 0),(14,.sl true 1 M),(16,I 0)],[bz m],gh⟩=some (.normal,⟨[],[],gh⟩)->ab pg q2f ⟨[(1,.ptr false 0 0),(14,.sl true 1 M)],[bz m],gh⟩=some (.ret,⟨[(2,I 0)],[],gh⟩):=λM h=>by simp only[bz] at *;refine qh4 ?_;simp[h,k10]
 refine qmr ?_;simp only[bK] at l7 l8;simp only[LI,bz] at *;generalize m.bads.map I=M1 at *;generalize m.holds.map I=M2 at *;generalize K.map I=K' at *;generalize m.nexts.map aj=X' at *;by_cases e1:m.nexts.length=K.length
 ·rw[if_neg (λh=>h e1)]
  cases p1 with
  |true=>
   rw[if_pos rfl] at l7 ⊢;simp[ho,hKl,hXl,e1,hBl,hHl,hm1,hm2,l7]
  | false=>
   rw[if_neg (by simp)] at l7 ⊢;have l8:=l8 (hnb rfl);cases p2 with
   |true=>
    rw[if_pos rfl] at l8 ⊢;have k9:=k9r _ _ l8;simp[ho,hKl,hXl,e1,hBl,hHl,hm1,hm2,l7,k9]
   |false=>
    rw[if_neg (by simp)] at l8 ⊢;have k9:=k9n _ l8;simp[ho,hKl,hXl,e1,hBl,hHl,hm1,hm2,l7,k9]
 ·rw[if_pos e1]
  have e1':¬(m.nexts.length:Int)=(K.length:Int):=by omega
  simp[ho,hKl,hXl,e1']
theorem Hp {f:List Bool} (h:gy m f=0):mI m=ir m:=by
 unfold gy at h;split at h
 ·contradiction
 split at h
 ·contradiction
 rename_i h1 h2;split at h
 ·contradiction
 rename_i h3;have hd:(m.nexts.map (·.1)).Nodup:=by
  have:=λh=>h3 (.inr h)
  unfold dP at this;exact aV this
 have hz:∀(l:List (Int×Int)),dr m.nodes f false l=0->∀p∈l,p.1∈ak m.nodes 3:=by
  intro l
  induction l with
  |nil=>intro _ p hp;simp at hp
  | cons q l ih=>
   intro hq p hp;rw[dr] at hq;split at hq
   ·rename_i hq0
    rcases List.mem_cons.1 hp with rfl|hp
    ·unfold eK at hq0
     split at hq0
     ·contradiction
     rename_i hn;have hi:dh m.nodes p.1:=aV λh=>hn (.inl h)
     have hk:(m.nodes.getD p.1.toNat default).k=3:=aV λh=>hn (.inr (.inr h))
     refine kindF_mem.2 ⟨p.1.toNat,hi.2,?_,?_⟩
     ·have:=hi.1;omega
     ·rw[aM,aA hi.2] at hk
      rw[aA hi.2];simpa using hk
    ·exact ih hq p hp
   ·contradiction
 have hle:m.nexts.length<=(ak m.nodes 3).length:=by have:=List.Nodup.length_le_of_subset hd (l₂:=ak m.nodes 3) (λa ha=>by obtain⟨p,hp,rfl⟩:=List.mem_map.1 ha;exact hz _ (by simpa using h2) p hp);simpa using this
 unfold mI ir;by_cases he:m.nexts.length=(ak m.nodes 3).length
 ·rw[if_neg (c:=m.nexts.length≠_) (λh=>h he),if_neg (c:=m.nexts.length<_) (by omega)]
 ·rw[if_pos he,if_pos (by omega)]
theorem Hq (h1:Sz m.inits.length) (h2:Sz m.nexts.length):ac pg 36 [e8 m] gh=some (I (cY m),gh):=by
 unfold cY;have hNl:(m.nodes.map bm).length=m.nodes.length:=by simp
 have hBl:(m.bads.map I).length=m.bads.length:=by simp
 have hHl:(m.holds.map I).length=m.holds.length:=by simp
 rw[en];by_cases c1:m.nodes.length>80\/m.bads.length>8\/m.holds.length>8
 ·rw [if_pos c1]
  refine aq (fn:=qu) (s:=⟨[(2,I 2)],[],gh⟩) rfl rfl (q5d ?h1) ?r1
  case r1=>simp[am,results,qu,ao,au,ai]
  case h1=>
   by_cases d1:(80:Int)<(m.nodes.length:Int)
   ·simp[d1]
   ·by_cases d2:(8:Int)<(m.bads.length:Int)
    ·simp[d1,d2]
    ·have d3:(8:Int)<(m.holds.length:Int):=by omega
     simp[d1,d2,d3]
 ·rw [if_neg c1]
  have d1:¬(80:Int)<(m.nodes.length:Int):=by omega
  have d2:¬(8:Int)<(m.bads.length:Int):=by omega
  have d3:¬(8:Int)<(m.holds.length:Int):=by omega
  have hl:=xD (m:=m) (gh:=gh) (by omega) m.nodes.length 0 (by omega);rw[bL] at hl;simp only[aX,bz] at hl;by_cases hn:fk m.nodes 0 m.nodes=0
  ·rw [if_neg (λh=>h hn)]
   rw[if_pos hn] at hl;have hb2:=oI (m:=m) (gh:=gh) (kind:=2) (by omega);have hb3:=oI (m:=m) (gh:=gh) (kind:=3) (by omega);have hlen:=Hk (m:=m) (gh:=gh) (sN hn) (by omega);rw[en] at hb2 hb3 hlen;have hf:(dR [] m.nodes).length=m.nodes.length:=by simpa using sF [] m.nodes
   have l2:=Hm (gh:=gh) hf (by omega) h1 h2;have l4:=Hn (m:=m) (gh:=gh) h1 h2;have k8:=Ho (m:=m) (gh:=gh) (by omega) (by omega) (by omega);have hme:=Hp (m:=m) (f:=dR [] m.nodes);unfold gy at hme ⊢;simp only[bz] at *;generalize (dR [] m.nodes).map B=F at *;generalize dr m.nodes (dR [] m.nodes) true m.inits=r1 at *;generalize dr m.nodes (dR [] m.nodes) false m.nexts=r2 at *;by_cases hbt:bu m.nodes 2>6\/bu m.nodes 3>10
   ·rw[if_pos hbt]
    have k1:ab pg q2h ⟨[(1,.ptr false 0 0)],[[LN m.nodes,LP m.inits,LP m.nexts,LI m.bads,LI m.holds]],gh⟩=some (.ret,⟨[(2,I 2)],[],gh⟩):=by
     refine q3e ?_;by_cases b1:6<bu m.nodes 2
     ·simp[hb2,b1]
     ·have b2:10<bu m.nodes 3:=by omega
      simp[hb2,hb3,b1,b2]
    refine aq (fn:=qu) (s:=⟨[(2,I 2)],[],gh⟩) rfl rfl (q5d ?h2) ?r2
    case r2=>simp[am,results,qu,ao,au,ai]
    case h2=>simp[d1,d2,d3,hl,k1]
   ·rw [if_neg hbt]
    have b1:¬6<bu m.nodes 2:=by omega
    have b2:¬10<bu m.nodes 3:=by omega
    have fin:∀r,ab pg q2h ⟨[(1,.ptr false 0 0)],[[LN m.nodes,LP m.inits,LP m.nexts,LI m.bads,LI m.holds]],gh⟩=some (.ret,⟨[(2,I r)],[],gh⟩)->ac pg 36 [.agg [LN m.nodes,LP m.inits,LP m.nexts,LI m.bads,LI m.holds]] gh=some (I r,gh):=λr k1=>by
     refine aq (fn:=qu) (s:=⟨[(2,I r)],[],gh⟩) rfl rfl (q5d ?h3) ?r3
     case r3=>simp[am,results,qu,ao,au,ai]
     case h3=>simp[d1,d2,d3,hl,k1]
    by_cases e1:r1=0
    ·rw [if_neg (λh=>h e1)] at l2
     by_cases e2:r2=0
     ·rw[if_neg (λh=>h e2)] at l2
      by_cases ht:dP m.inits\/dP m.nexts
      ·rw[if_pos ht] at l4
       have k4:ab pg q2g ⟨[(1,.ptr false 0 0)],[[LN m.nodes,LP m.inits,LP m.nexts,LI m.bads,LI m.holds]],gh⟩=some (.ret,⟨[(2,I 6)],[],gh⟩):=by refine qh5 ?_;simp[l4]
       simp only[e1,e2,ht,if_true,ne_eq,not_true,if_false];refine fin 6 (q3e ?_);simp[hb2,hb3,b1,b2,hlen,l2,k4]
      ·rw[if_neg ht] at l4
       have k4:ab pg q2g ⟨[(1,.ptr false 0 0)],[[LN m.nodes,LP m.inits,LP m.nexts,LI m.bads,LI m.holds]],gh⟩=some (.ret,⟨[(2,I (mI m))],[],gh⟩):=by refine qh5 ?_;simp[l4,k8]
       simp only[e1,e2,ht,if_true,ne_eq,not_true,if_false] at hme ⊢;rw[<-hme trivial];refine fin _ (q3e ?_);simp[hb2,hb3,b1,b2,hlen,l2,k4]
     ·rw[if_pos e2] at l2
      simp only[e1,e2,ne_eq,not_true,not_false_iff,if_false,if_true];refine fin _ (q3e ?_);simp[hb2,hb3,b1,b2,hlen,l2]
    ·rw[if_pos e1] at l2
     simp only[e1,ne_eq,not_true,not_false_iff,if_true];refine fin _ (q3e ?_);simp[hb2,hb3,b1,b2,hlen,l2]
  ·rw[if_pos hn]
   rw[if_neg hn] at hl;generalize fk m.nodes 0 m.nodes=r at *;refine aq (fn:=qu) (s:=⟨[(2,I r)],[],gh⟩) rfl rfl (q5d ?h5) ?r5
   case r5=>simp[am,results,qu,ao,au,ai]
   case h5=>simp[d1,d2,d3,hl]
end
section
variable {gh:List GObj}
abbrev mP (xs:List Int):List Int:=xs.filter (· != -1)
def Els (gh:List GObj) (w:PV) (xs:List Int):Prop:=
 w=LI xs\/∃(b g n:Nat) (zs:List Int),w= .stk b g n/\gh[b]?=some (.stk g (zs.map I))/\n<=zs.length/\zs.take n=xs
theorem Els.els {w:PV} {xs:List Int} (h:Els gh w xs):gC gh w=some (xs.map I):=by
 rcases h with rfl|⟨b,g,n,zs,rfl,hb,hn,rfl⟩
 ·rfl
 ·simp[gC,hb,hn]
theorem Els.len {w:PV} {xs:List Int} {R:Type} (h:Els gh w xs) (f:Nat->Option R):bg w f=f xs.length:=by
 rcases h with rfl|⟨b,g,n,zs,rfl,hb,hn,rfl⟩
 ·simp
 ·simp[Nat.min_eq_left hn]
theorem Els.isC {w:PV} {xs:List Int} {R:Type} (h:Els gh w xs) (x:Option R):Lw.isC w x=x:=by rcases h with rfl|⟨b,g,n,zs,rfl,hb,hn,rfl⟩<;>rfl
theorem Els.st {w:PV} {xs:List Int} {R:Type} (h:Els gh w xs) (n:Nat) (x:Option R):stK n w x=x:=by rcases h with rfl|⟨b,g,n,zs,rfl,hb,hn,rfl⟩<;>rfl
theorem Els.cells {w:PV} {xs:List Int} (h:Els gh w xs):w.cells=[w]:=by rcases h with rfl|⟨b,g,n,zs,rfl,hb,hn,rfl⟩<;>rfl
abbrev cV (l:List (PV×List Int)):PV:= .sl false 1 (l.map (·.1))
end
def I3 (l:List (Int×PV)):List (PV×PV):=l.map λa=>(I a.1,a.2)
def yW:List (Int×PV)->Int->Option PV
 |[],_=>none
 |(a,v)::l,k=>if k=a then some v else yW l k
inductive gQ where
 |no
 |of (n:Int)
 |cl (i:Nat)
 deriving DecidableEq
def OfN (R:Nat->gQ) (gh:List GObj) (n:Int) (l:List Nat):Option PV->Prop
 |none=>l=[]
 |some h=>∃b gen,h= .stk b gen l.length/\R b= .of n/\gh[b]?=some (.stk gen (l.map λ(i:Nat)=>I i))
def ClN (R:Nat->gQ) (gh:List GObj) (i:Nat) (k:List Int) (h:PV):Prop:=
 (k=[]/\h= .sl false 1 [])\/∃b gen,h= .stk b gen k.length/\R b= .cl i/\gh[b]?=some (.stk gen (k.map I))
structure Stat (R:Nat->gQ) (gh:List GObj) (a:Nat) (F:List (Int×PV)) (H:List PV) (K:List (List Int)) (X:Int->List Nat):Prop where
 lt:∀b,R b≠ .no->b<gh.length
 ra:R a= .no
 hl:H.length=K.length
 cl:∀(i:Nat) (h:PV) (k:List Int),H[i]?=some h->K[i]?=some k->ClN R gh i k h
 map:gh[a]?=some (.map (I3 F))
 of:∀n,OfN R gh n (X n) (yW F n)
theorem Stat.keep {R:Nat->gQ} {gh gh':List GObj} {a:Nat} {F:List (Int×PV)} {H:List PV} {K:List (List Int)} {X:Int->List Nat} (h:Stat R gh a F H K X) (hl:gh.length<=gh'.length)
  (hk:∀b,b<gh.length->R b≠ .no\/b=a->gh'[b]?=gh[b]?):Stat R gh' a F H K X where
 lt:=λb hb=>aU (h.lt b hb) hl
 ra:=h.ra
 hl:=h.hl
 cl:=λi v k h1 h2=>by
  rcases h.cl i v k h1 h2 with h3|⟨b,gen,h3,h4,h5⟩
  ·exact .inl h3
  ·exact .inr ⟨b,gen,h3,h4,by rw[hk b (aD.1 h5).1 (.inl (by rw[h4];simp))];exact h5⟩
 map:=by rw[hk a (aD.1 h.map).1 (.inr rfl)];exact h.map
 of:=λn=>by
  have:=h.of n;unfold OfN at *;split at this
  ·exact this
  ·obtain⟨b,gen,h3,h4,h5⟩:=this
   exact⟨b,gen,h3,h4,by rw[hk b (aD.1 h5).1 (.inl (by rw[h4];simp))];exact h5⟩
section
variable {R:Nat->gQ} {gh:List GObj} {g a s:Nat} {F:List (Int×PV)} {H:List PV} {K:List (List Int)} {X:Int->List Nat} {T D:List Int} {n:Int}
end
def Small (n:Int):Prop:=n≠0/\ -1000000000<=n/\n<=1000000000
theorem Small.neg {n:Int} (h:Small n):Small (-n):=⟨by have:=h.1;omega,by have:=h.2.2;omega,by have:=h.2.1;omega⟩
section
variable {R:Nat->gQ} {gh:List GObj} {g a s:Nat} {F:List (Int×PV)} {H:List PV} {K:List (List Int)} {X:Int->List Nat} {T D:List Int} {n:Int}
end
structure KeptAll (L K:List (List Int)):Prop where
 a:∀k∈K,∃c,I4 L k c
 b:∀c∈L,∃k∈K,∀x,x∈k↔x∈c
 small:∀c∈L,∀n∈c,Small n
 sz:∀k∈K,Sz k.length
section
variable {R:Nat->gQ} {gh:List GObj} {g a s:Nat} {F:List (Int×PV)} {H:List PV} {K L:List (List Int)} {X:Int->List Nat} {T D S:List Int} {n:Int}
theorem KeptAll.nz (h:KeptAll L K):∀c∈L,∀n∈c,n≠0:=λc hc n hn=>(h.small c hc n hn).1
end
def fM (c:Int) (n:Nat):Nat:=(if c<0 then -(c+1) else c).toNat%n
theorem y6 {c:Int} {n:Nat} (h1: -9223372036854775808<=c) (h2:c<=9223372036854775807) (hn:0<n) (gh:List GObj):ac pg 30 [I c,I n] gh=some (I (fM c n),gh):=by
 have hz:((n:Int)≠0):=by omega
 have hk:∀x:Int,0<=x->ab pg q1w ⟨[(0,I x),(1,I n)],[],gh⟩=some (.ret,⟨[(4,I ((x.toNat%n:Nat):Int))],[],gh⟩):=by
  intro x hx;refine qnn ?_;obtain⟨y,rfl⟩:∃y:Nat,x=y:=⟨x.toNat,by omega⟩
  have e:Int.tmod (y:Int) (n:Int)=((y%n:Nat):Int):=(Int.ofNat_tmod _ _).symm;rw[aG hz,e];rfl
 by_cases h:c<0
 ·have e1:WI.wrap (0-WI.wrap (c+1))= -(c+1):=by
   rw[a9 (n:=c+1) (by omega) (by omega),a9 (by omega) (by omega)];omega
  refine aq (fn:=q1x) (s:=⟨[(4,I (fM c n))],[],gh⟩) rfl rfl (qhj ?h1) ?r1
  case h1=>rw[aG h,dO,e1,hk _ (by omega),jy,fM,if_pos h]
  case r1=>simp[am,results,q1x,ao,au,ai]
 ·refine aq (fn:=q1x) (s:=⟨[(4,I (fM c n))],[],gh⟩) rfl rfl (qhj ?h2) ?r2
  case h2=>rw[aF h,dq,hk _ (by omega),jy,fM,if_neg h]
  case r2=>simp[am,results,q1x,ao,au,ai]
theorem y7 (c:Int) {n:Nat} (hn:0<n):fM c n<n:=Nat.mod_lt _ hn
end Go.Lw