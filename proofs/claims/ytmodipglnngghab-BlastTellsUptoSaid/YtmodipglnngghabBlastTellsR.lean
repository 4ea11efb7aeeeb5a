/-
  The texts that the proof stands on, part 18.
-/
import Derived.Test.YtmodipglnngghabBlastTellsQ
import Derived.Test.YtmodipglnngghabRows
import Derived.KernelRfl
set_option linter.unusedVariables false
set_option linter.unusedSimpArgs false
set_option linter.unnecessarySimpa false

set_option maxRecDepth 100000
set_option maxHeartbeats 4000000
namespace Go.Lw
open Go
section
open Go.Proofs.Ytmodipglnngghab
variable {H:Type}
mutual
theorem Jx:∀d:DataW H,eR d<=Rows.uptoBulk d
 | .lit l=>by cases l<;>simp[eR,Rows.uptoBulk]
 | .nil=>by simp[eR,Rows.uptoBulk]
 | .ptr d=>by simp[eR,Rows.uptoBulk]
 | .slice elems spare=>by have:=pN elems;simp only[eR,Rows.uptoBulk];omega
 | .agg parts=>by have:=pN parts;simp only[eR,Rows.uptoBulk];omega
 | .iface t d=>by simp[eR,Rows.uptoBulk]
 | .map entries=>by simp[eR,Rows.uptoBulk]
 | .held h=>by simp[eR,Rows.uptoBulk]
theorem pN:∀l:List (DataW H),fy l<=Rows.uptoBulkAll l
 |[]=>by simp[fy,Rows.uptoBulkAll]
 |d::r=>by have:=Jx d;have:=pN r;simp only[fy,Rows.uptoBulkAll];omega
end
theorem Jy {ds:List (DataW H)} (h:Rows.uptoSmall H (ds++[])=true):fy ds<=1048576:=by
 rw[bH] at h;have:Rows.uptoBulkAll ds<=1048576:=by simpa [Rows.uptoSmall] using h
 exact bW (pN ds) this
end
section
variable {ins:Int} {ands:List (Int×Int)} {gh:List GObj}
theorem wi (hl:Sz ands.length):∀k i,i+k=ands.length->
  ab pg q80 ⟨[(2,.ptr false 0 0),(3,.ptr false 1 0),(5,I (i:Int))],[[I ins,.sl false 2 (ands.map aj)],[I ins,.sl false 2 (ands.map aj)]],gh⟩=some (.normal,⟨[],[],gh⟩)
 |0,i,h=>by
  have hlt:¬i<ands.length:=by omega
  refine (cm (s1:=?s1) (qgk ?h1)).trans ?r1
  case h1=>simp[hlt];rfl
  case r1=>simp[keep]
 |k+1,i,h=>by
  have hlt:i<ands.length:=by omega
  have e2:WI.wrap ((i:Int)+1)=((i+1:Nat):Int):=gg (by simp only[Sz] at hl ⊢;omega);have hfl:=wb ands[i] ands[i].1 ands[i].2;rw[aG rfl] at hfl;refine bh (s1:=⟨[(2,.ptr false 0 0),(3,.ptr false 1 0),(5,I ((i+1:Nat):Int))],[[I ins,.sl false 2 (ands.map aj)],[I ins,.sl false 2 (ands.map aj)]],gh⟩) (qgk ?_) (wi hl k (i+1) (by omega));simp[hlt,e2,hfl,fz]
theorem ED (hl:Sz ands.length):ac pg 7 [fq ins ands,fq ins ands] gh=some (B true,gh):=by
 have h:=wi (ins:=ins) (gh:=gh) hl ands.length 0 (by omega);simp only[aX] at h;have hk:=qj8 (pg:=pg) (gh:=gh) (e:= .ret) (s:=⟨[(4,B true)],[],gh⟩) rfl;refine aq (fn:=q82) (s:=?s1) rfl rfl (qj9 ?h1) ?r1
 case h1=>simp[h,hk];rfl
 case r1=>simp[am,results,q82,ao,au,ai]
end
theorem mj {g:Bool} {bytes:Nat} {l:List CS} {p:PV} (h:js (.slice g bytes l) p):∃xs,p= .sl false l.length xs/\xs.length*bytes<=reachBytes/\∀e∈xs,(g=true/\∃ps,e= .agg ps/\dl l ps)\/(g=false/\dl l [e]):=by unfold js at h;exact h
theorem rO:∀{xs:List PV},(∀e∈xs,(true=true/\∃ps,e= .agg ps/\dl [.int,.int] ps)\/(true=false/\dl [.int,.int] [e]))->∃ands,RA ands/\xs=ands.map aj
 |[],_=>⟨[],λx h=>(by cases h),rfl⟩
 | e::xs,h=>by
  obtain⟨ands,hr,rfl⟩:=rO (xs:=xs) λe he=>h e (bG _ he)
  rcases h e (by simp) with ⟨-,ps,rfl,hp⟩|⟨h,-⟩
  ·obtain⟨_,_,rfl,g0,hp⟩:=fP hp
   obtain⟨_,_,rfl,g1,hp⟩:=fP hp;obtain rfl:=lU hp;obtain⟨a,rfl,ha⟩:=iV g0;obtain⟨b,rfl,hb⟩:=iV g1;refine⟨(a,b)::ands,λx hx=>?_,rfl⟩;rcases List.mem_cons.1 hx with rfl|hx
   ·exact⟨ha,hb⟩
   ·exact hr x hx
  ·cases h
section
variable {ins:Int} {ands:List (Int×Int)} {gh:List GObj}
theorem rP {v:List Bool} {n:Int} (h0:0<=n) (hm:n<=9223372036854775807) (h:(n/2).toNat<v.length):ac pg 12 [LB v,I n] gh=some (B (cu v n),gh):=by
 have e1:WI.wrap (Int.tdiv n 2)=n/2:=by rw[rJ h0,a9 (by omega) (by omega)]
 have e2:Int.tmod n 2=n%2:=Int.tmod_eq_emod_of_nonneg h0;have h2:0<=n/2:=by omega
 by_cases h3:n%2=1
 ·refine aq (fn:=q28) (s:=?s1) rfl rfl (qgm ?h1) ?r1
  case h1=>simp[e1,e2,h2,h3,vV h,-List.getElem?_map];rfl
  case r1=>simp[am,results,q28,ao,au,ai,cu,h3]
 ·refine aq (fn:=q28) (s:=?s2) rfl rfl (qgm ?h2) ?r2
  case h2=>simp[e1,e2,h2,h3,vV h,-List.getElem?_map];rfl
  case r2=>simp[am,results,q28,ao,au,ai,cu,h3]
theorem wj (hi:0<=ins/\ins<=1000) (hl:ands.length<=1000000) {lits:List Int} (hs:Sz lits.length):∀k i,i+k=lits.length->
  ab pg q83 ⟨[(1,LI lits),(2,.ptr false 0 0),(5,I (i:Int))],[[I ins,.sl false 2 (ands.map aj)]],gh⟩=
   if (lits.drop i).all (dt ins ands)=true then some (.normal,⟨[],[],gh⟩) else some (.ret,⟨[(4,B false)],[],gh⟩)
 |0,i,h=>by
  rw[aQ (by omega),List.all_nil,if_pos rfl];have hlt:¬i<lits.length:=by omega
  refine (cm (s1:=?s1) (qab ?h1)).trans ?r1
  case h1=>simp[hlt];rfl
  case r1=>simp[keep]
 | k+1,i,h=>by
  have hlt:i<lits.length:=by omega
  have e3:WI.wrap ((i:Int)+1)=((i+1:Nat):Int):=gg (by simp only[Sz] at hs ⊢;omega);have hL:=wh (gh:=gh) hi hl lits[i];unfold fq at hL;have hg:(lits.map I)[i]?=some (I lits[i]):=by simp[aA hlt]
  rw[aL hlt,List.all_cons];cases hx:dt ins ands lits[i] with
  | true=>
   rw[hx] at hL;refine bh (s1:=⟨[(1,LI lits),(2,.ptr false 0 0),(5,I ((i+1:Nat):Int))],[[I ins,.sl false 2 (ands.map aj)]],gh⟩) (qab ?h2) ?r2
   case h2=>simp[hlt,hL,e3]
   case r2=>
    rw[Bool.true_and];exact wj hi hl hs k (i+1) (by omega)
  |false=>
   rw[hx] at hL;rw[Bool.false_and,if_neg (by simp)];refine dJ (qab ?h3)
   case h3=>simp[hlt,hL]
theorem EE (hi:0<=ins/\ins<=1000) (hl:ands.length<=1000000) {lits:List Int} (hs:Sz lits.length):ac pg 10 [fq ins ands,LI lits] gh=some (B (lits.all (dt ins ands)),gh):=by
 have h:=wj (gh:=gh) hi hl hs lits.length 0 (by omega);rw[bL] at h;simp only[aX] at h;cases hx:lits.all (dt ins ands) with
 |true=>
  rw[if_pos hx] at h;have hk:=qja (pg:=pg) (gh:=gh) (e:= .ret) (s:=⟨[(4,B true)],[],gh⟩) rfl;refine aq (fn:=q27) (s:=?s1) rfl rfl (qgl ?h1) ?r1
  case h1=>simp[h,hk];rfl
  case r1=>simp[am,results,q27,ao,au,ai]
 |false=>
  rw[if_neg (by rw[hx];simp)] at h;refine aq (fn:=q27) (s:=?s2) rfl rfl (qgl ?h2) ?r2
  case h2=>simp[h];rfl
  case r2=>simp[am,results,q27,ao,au,ai]
def ml (gh:List GObj) (ins:Int) (ands:List (Int×Int)) (v:List Bool) (i:Nat):St:=
 ⟨[(2,.ptr false 0 0),(5,.sl true 1 (v.map B)),(6,I (i:Int))],[[I ins,.sl false 2 (ands.map aj)]],gh⟩
theorem EF {v:List Bool} {i:Nat} (hlt:i<ands.length) (hx:k0 ands[i] v.length) (hl:ands.length<=1000000) (hv:v.length<=3000000) :
  q33 pg (.sl true 1 (v.map B)) i ins (.sl false 2 (ands.map aj)) gh=some (.normal,ml gh ins ands (v++[cu v ands[i].1&&cu v ands[i].2]) (i+1)):=by
 have e2:WI.wrap ((i:Int)+1)=((i+1:Nat):Int):=by rw[a9 (by omega) (by omega)];omega
 generalize hy:ands[i]=x at *;obtain⟨a,b⟩:=x;obtain⟨⟨a0,a1,a2⟩,b0,b1,b2⟩:=hx;simp only at a0 a1 a2 b0 b1 b2;have ha:=rP (gh:=gh) a0 a1 a2;have hb:=rP (gh:=gh) b0 b1 b2;have hmx:v.length+1<=maxBytes:=by have:=MB;omega
 cases hla:cu v a with
 |true=>
  rw[hla] at ha;simp[q33,hlt,hy,fz,ml,e2,ha,hb,hmx,hla]
 |false=>
  rw[hla] at ha;simp[q33,hlt,hy,fz,ml,e2,ha,hmx,hla]
theorem wk (hl:ands.length<=1000000):∀k i v,i+k=ands.length->v.length<=1001001+i->(∀j (h:j<ands.length),i<=j->k0 ands[j] (v.length+(j-i)))->
  ab pg q85 (ml gh ins ands v i)=some (.normal,⟨[(5,.sl true 1 ((bt v (ands.drop i)).map B))],[],gh⟩)
 |0,i,v,h,_,_=>by
  rw[aQ (by omega)];have hlt:¬i<ands.length:=by omega
  refine (cm (s1:=?s1) (q33_ ?h1)).trans ?r1
  case h1=>simp[q33,hlt];rfl
  case r1=>simp[keep,bt]
 |k+1,i,v,h,hv,hin=>by
  have hlt:i<ands.length:=by omega
  have hx:=hin i hlt (cQ _);rw[Nat.sub_self,cA] at hx;refine bh (q33_ (EF hlt hx hl (by omega))) ?_;rw[aL hlt,bt];refine wk hl k (i+1) _ (by omega) (by simp;omega) (λj hj hij=>?_);have:=hin j hj (by omega);rw[show (v++[cu v ands[i].1&&cu v ands[i].2]).length+(j-(i+1))=v.length+(j-i) by simp;omega];exact this
theorem EG {v:List Bool} (hi:0<=ins/\ins<=1000) (hl:ands.length<=1000000) (hok:okA ins 0 ands=true) (hv:(v.length:Int)=ins) :
  ac pg 11 [fq ins ands,LB v] gh=some (LB (bt (false::v) ands),gh):=by
 have hlp:=wk (ins:=ins) (gh:=gh) hl ands.length 0 (false::v) (by omega) (by simp;omega) (λj hj _=>by have h:=nU hok hj;refine vX hi (by simpa using h) (by omega) ?_;simp;omega);rw[bL] at hlp;unfold ml at hlp;simp only[aX,bQ] at hlp;have hk:=qjb (pg:=pg) (gh:=gh) (v5:= .sl true 1 ((bt (false::v) ands).map B)) (e:= .ret) (s:=⟨[(4,LB (bt (false::v) ands))],[],gh⟩) (by simp);have hmx:1+v.length<=maxBytes:=by have:=MB;omega
 have hmx2:v.length+1<=maxBytes:=by omega
 refine aq (fn:=q87) (s:=⟨[(4,LB (bt (false::v) ands))],[],gh⟩) rfl rfl (qjc ?h1) ?r1
 case h1=>simp[fq,hmx,hmx2,hlp,hk]
 case r1=>simp[am,results,q87,ao,au,ai,vW]
end
def RI (l:List Int):Prop:=∀x∈l,-9223372036854775808<=x/\x<=9223372036854775807
theorem rQ:∀{xs:List PV},(∀e∈xs,(false=true/\∃ps,e= .agg ps/\dl [.int] ps)\/(false=false/\dl [.int] [e]))->∃v:List Int,RI v/\xs=v.map I
 |[],_=>⟨[],λx h=>(by cases h),rfl⟩
 | e::xs,h=>by
  obtain⟨v,hr,rfl⟩:=rQ (xs:=xs) λe he=>h e (bG _ he)
  rcases h e (by simp) with ⟨h,-⟩|⟨-,hp⟩
  ·cases h
  ·obtain⟨_,_,e1,g0,hp⟩:=fP hp
   cases lU hp;simp only[List.cons.injEq,and_true] at e1;subst e1;obtain⟨b,rfl,hb⟩:=iV g0;refine⟨b::v,λx hx=>?_,rfl⟩;rcases List.mem_cons.1 hx with rfl|hx
   ·exact hb
   ·exact hr x hx
theorem j4:∀(v:List Bool) (l:List (Int×Int)),∃t,bt v l=v++t
 |v,[]=>⟨[],by simp[bt]⟩
 |v,x::l=>by obtain⟨t,ht⟩:=j4 (v++[cu v x.1&&cu v x.2]) l;exact⟨[cu v x.1&&cu v x.2]++t,by rw[bt,ht,aZ]⟩
theorem rR {v t:List Bool} {n:Int} (h:(n/2).toNat<v.length):cu (v++t) n=cu v n:=by unfold cu;simp only[aM,aJ h]
theorem rS (v:List Bool) (l m:List (Int×Int)):bt v (l++m)=bt (bt v l) m:=by
 induction l generalizing v with
 |nil=>rfl
 |cons x l ih=>rw[bJ,bt,bt,ih]
theorem wl:∀{v:List Bool} {l:List (Int×Int)} {i:Nat} (h:i<l.length),k0 l[i] (v.length+i)->(bt v l).getD (v.length+i) false=(cu (bt v l) l[i].1&&cu (bt v l) l[i].2)
 |v,x::l,0,_,hx=>by
  simp only[List.getElem_cons_zero,cA] at hx ⊢;obtain⟨t,ht⟩:=j4 (v++[cu v x.1&&cu v x.2]) l;have e:bt v (x::l)=v++((cu v x.1&&cu v x.2)::t):=by rw[bt,ht,aZ];rfl
  rw[e,rR hx.1.2.2,rR hx.2.2.2];simp[aM]
 | v,x::l,i+1,h,hx=>by simp only[List.getElem_cons_succ] at hx ⊢;have:=wl (v:=v++[cu v x.1&&cu v x.2]) (l:=l) (i:=i) (by simpa using h) (by rw[show (v++[cu v x.1&&cu v x.2]).length+i=v.length+(i+1) by simp;omega];exact hx);rw[show (v++[cu v x.1&&cu v x.2]).length+i=v.length+(i+1) by simp;omega] at this;rw[bt];exact this
section
variable {ins:Int} {ands:List (Int×Int)}
theorem EH {i:Nat} {l:List (Int×Int)} {x:Int×Int} (h:okA ins i l=true) (hx:¬fJ ins (i+l.length) x):okA ins i (l++[x])=true:=by
 induction l generalizing i with
 |nil=>simpa [okA] using hx
 | cons y l ih=>
  rw[okA] at h;split at h
  ·cases h
  ·rename_i hy
   rw[bJ,okA,if_neg hy];refine ih h ?_;rw[show i+1+l.length=i+(y::l).length by simp;omega];exact hx
theorem wm (hc:bq ins ands=0) {a b:Int} (ha:dt ins ands a=true) (hb:dt ins ands b=true) (hab:a<=b) (hm:(eV ins ands a b).1.length<=1000000) {v:List Bool} (hv:(v.length:Int)=ins) :
  bq ins (eV ins ands a b).1=0/\ands.length<=(eV ins ands a b).1.length/\dt ins (eV ins ands a b).1 (eV ins ands a b).2=true/\
  (∃t,bt (false::v) (eV ins ands a b).1=bt (false::v) ands++t)/\
  cu (bt (false::v) (eV ins ands a b).1) (eV ins ands a b).2=(cu (bt (false::v) ands) a&&cu (bt (false::v) ands) b):=by
 obtain⟨hi,hl,hok,hnd⟩:=dK hc;have hlen:=nT (false::v) ands;have hN:eG ins ands=1+ins+ands.length:=rfl;have hvl:(false::v).length=v.length+1:=rfl;have ha':=ha;have hb':=hb;unfold dt at ha' hb';rw[aH] at ha' hb';have hz:(bt (false::v) ands).getD 0 false=false:=by obtain⟨t,ht⟩:=j4 (false::v) ands;rw[ht];rfl
 unfold eV;split
 ·rename_i h
  refine⟨hc,cQ _,?_,⟨[],by simp⟩,?_⟩
  ·dsimp only;unfold dt;rw[aH];omega
  ·dsimp only
   have e0:cu (bt (false::v) ands) 0=false:=by unfold cu;rw[show ((0:Int)/2).toNat=0 by decide,hz];rfl
   rw[e0];rcases h with rfl|⟨h1,h2⟩
   ·rw[e0];rfl
   ·unfold cu
    rw[h1];have:a%2=1/\b%2≠1\/a%2≠1/\b%2=1:=by omega
    rcases this with ⟨h3,h4⟩|⟨h3,h4⟩
    ·rw[aG h3,aF h4];cases (bt (false::v) ands).getD (b/2).toNat false<;>rfl
    ·rw[aF h3,aG h4];cases (bt (false::v) ands).getD (b/2).toNat false<;>rfl
 ·rename_i h
  simp only[not_or] at h;split
  ·rename_i h2
   refine⟨hc,cQ _,hb,⟨[],by simp⟩,?_⟩;rcases h2 with rfl|rfl
   ·have e1:cu (bt (false::v) ands) 1=true:=by unfold cu;rw[show ((1:Int)/2).toNat=0 by decide,hz];rfl
    rw[e1];rfl
   ·rw[Bool.and_self]
  ·rename_i h2
   simp only[not_or] at h2;have h3:a/2≠b/2:=λe=>h.2 ⟨e,h2.2⟩
   cases hat:atA ands (a,b) with
   | some i=>
    obtain⟨g1,g2⟩:=Em hat;refine⟨hc,cQ _,?_,⟨[],by simp⟩,?_⟩
    ·dsimp only;unfold dt;rw[aH];omega
    ·dsimp only
     have hg:ands[i]=(a,b):=by rw[aA g1] at g2;exact cW g2
     have hbad:=nU hok g1;have hli:k0 ands[i] ((false::v).length+i):=vX hi (by simpa using hbad) (by omega) (by omega);have:=wl g1 hli;rw[hg] at this;rw[<-this];unfold cu;rw[show (2*(1+ins+(i:Int))/2).toNat=(false::v).length+i by omega,aF (by omega)];cases (bt (false::v) ands).getD ((false::v).length+i) false<;>rfl
   | none=>
    have hnm:=atA_none.1 hat;simp only[eV,hat] at hm;rw[if_neg (by rintro (q|q);exact h.1 q;exact h.2 q),if_neg (by rintro (q|q);exact h2.1 q;exact h2.2 q)] at hm;simp only[aW,bB,bZ] at hm;have hnb:¬fJ ins (0+ands.length) (a,b):=by unfold fJ;simp only;omega
    refine⟨?_,by simp,?_,⟨[cu (bt (false::v) ands) a&&cu (bt (false::v) ands) b],by rw[rS];rfl⟩,?_⟩
    ·unfold bq
     rw[if_neg (λq=>q hi),if_neg (by simp;omega),if_pos (EH hok hnb),if_pos];rw[cM];exact⟨hnd,by simp,λx hx y hy hxy=>by simp at hy;subst hy;subst hxy;exact hnm hx⟩
    ·dsimp only;unfold dt;rw[aH];unfold eG;simp only[aW,bB,bZ];omega
    ·dsimp only
     rw[rS]
     show cu (bt (false::v) ands++[cu (bt (false::v) ands) a&&cu (bt (false::v) ands) b]) _=_
     generalize (cu (bt (false::v) ands) a&&cu (bt (false::v) ands) b)=r;unfold cu;rw[show (2*eG ins ands/2).toNat=(bt (false::v) ands).length by omega,aF (by omega)];simp[aM]
theorem EI (hc:bq ins ands=0) {a b:Int} (ha:dt ins ands a=true) (hb:dt ins ands b=true) (hm:(fb ins ands a b).1.length<=1000000) {v:List Bool} (hv:(v.length:Int)=ins) :
  bq ins (fb ins ands a b).1=0/\ands.length<=(fb ins ands a b).1.length/\dt ins (fb ins ands a b).1 (fb ins ands a b).2=true/\
  (∃t,bt (false::v) (fb ins ands a b).1=bt (false::v) ands++t)/\
  cu (bt (false::v) (fb ins ands a b).1) (fb ins ands a b).2=(cu (bt (false::v) ands) a&&cu (bt (false::v) ands) b):=by
 unfold fb at hm ⊢;split
 ·rename_i h
  rw[if_pos h] at hm;have:=wm hc hb ha (by omega) hm hv;rw[Bool.and_comm];exact this
 ·rename_i h
  rw[if_neg h] at hm;exact wm hc ha hb (by omega) hm hv
end
structure BC where
 m0:PV
 m1:PV
 m2:PV
 m3:PV
 m4:PV
 bits:PV
 post:List GObj
def BC.g (H:BC) (pre:List GObj) (ins:Int) (A:List (Int×Int)):List GObj:=
 pre++ .map (fT (byL ins 0 A)):: .cells [I ins,.sl true 2 (A.map aj),.mp pre.length]:: .cells [.ptr true (pre.length+1) 0,H.m0,H.m1,H.m2,H.m3,H.m4,H.bits]::H.post
def BC.push (H:BC) (J:List GObj):BC:=⟨H.m0,H.m1,H.m2,H.m3,H.m4,H.bits,H.post++J⟩
theorem lc (H:BC) (J K:List GObj):(H.push J).push K=H.push (J++K):=by simp[BC.push]
theorem fA (H:BC):H.push []=H:=by simp[BC.push]
section
variable {pre post gh:List GObj} {x y z:GObj}
theorem wJ:(pre++x::y::post)[pre.length]?=some x:=by simp
theorem wK:(pre++x::y::post)[pre.length+1]?=some y:=by simp
theorem FN:(pre++x::y::post).set pre.length z=pre++z::y::post:=by simp
theorem FO:(pre++x::y::post).set (pre.length+1) z=pre++x::z::post:=by simp[List.set_append_right]
end
theorem wL (ins:Int):∀(j:Nat) (l:List (Int×Int)) (x:Int×Int),byL ins j l++[(x,I (2*(1+ins+((j+l.length:Nat):Int))))]=byL ins j (l++[x])
 |j,[],x=>by simp[byL]
 |j,y::l,x=>by have:=wL ins (j+1) l x;rw[show j+1+l.length=j+(y::l).length by simp;omega] at this;simp only[byL,bJ,this]
theorem FP {ins:Int} {A:List (Int×Int)} {x:Int×Int} (h:x∉A):ij (byL ins 0 A) x (I (2*eG ins A))=byL ins 0 (A++[x]):=by have h2:=wL ins 0 A x;rw[cR] at h2;rw[vP (by rw[rK];exact h),<-h2];rfl
section
variable {pre:List GObj} {ins:Int} {A:List (Int×Int)} {H:BC}
theorem FQ:(H.g pre ins A)[pre.length]?=some (.map (fT (byL ins 0 A))):=wJ
theorem wM:(H.g pre ins A)[pre.length+1]?=some (.cells [I ins,.sl true 2 (A.map aj),.mp pre.length]):=wK
theorem ip:(H.g pre ins A)[pre.length+2]?=some (.cells [.ptr true (pre.length+1) 0,H.m0,H.m1,H.m2,H.m3,H.m4,H.bits]):=by unfold BC.g;simp
theorem oe:(H.g pre ins A).length=pre.length+3+H.post.length:=by unfold BC.g;simp;omega
theorem FR {R:Type} {B':List (Int×Int)} {K:BC} {x:Option R} (h:K.bits=H.bits/\K.m0=H.m0/\K.m1=H.m1/\K.m2=H.m2/\K.m3=H.m3/\K.m4=H.m4):kbX (H.g pre ins A) (K.g pre ins B') (.ptr true (pre.length+2) 0) x=x:=by obtain⟨h0,h1,h2,h3,h4,h5⟩:=h;exact D3 (by rw[oe];omega) (by rw[ip,ip,h0,h1,h2,h3,h4,h5])
theorem og {R:Type} {B':List (Int×Int)} {x:Option R}:kbX (H.g pre ins A) (H.g pre ins B') (.ptr true (pre.length+2) 0) x=x:=FR ⟨rfl,rfl,rfl,rfl,rfl,rfl⟩
theorem wN (hi:0<=ins/\ins<=1000) (hl:A.length<=1000000) {a b:Int} (ha:0<=a/\a<2002002) (hb:0<=b) :
  ab pg q1u ⟨[(0,.ptr true (pre.length+1) 0),(1,I a),(2,I b)],[],H.g pre ins A⟩=some (.ret,⟨[(6,I (eV ins A a b).2)],[],H.g pre ins (eV ins A a b).1⟩):=by
 by_cases h1:a=0
 ·refine q1k ?_
  simp[h1,eV]
 by_cases h2:fH .i64 a 1=b
 ·refine q1k ?_
  have e:eV ins A a b=(A,0):=by unfold eV;rw[if_pos (.inr ((nR ha hb).1 h2))]
  rw[e];simp[h1,h2]
 have h2':¬(a/2=b/2/\a≠b):=λh=>h2 ((nR ha hb).2 h)
 have e0:eV ins A a b=if a=1\/a=b then (A,b) else match atA A (a,b) with
  |some i=>(A,2*(1+ins+i))
  |none=>(A++[(a,b)],2*eG ins A):=by unfold eV;exact if_neg (by rintro (h|h);exact h1 h;exact h2' h)
 by_cases h3:a=1
 ·refine q1k ?_
  rw[e0,if_pos (.inl h3)];subst h3;simp[h2]
 by_cases h4:a=b
 ·refine q1k ?_
  rw[e0,if_pos (.inr h4)];subst h4;simp[h1,h2,h3]
 rw[if_neg (by rintro (h|h);exact h3 h;exact h4 h)] at e0;have hfind:i9 (byL ins 0 A) (a,b)=(atA A (a,b)).map λj=>I (2*(1+ins+((0+j:Nat):Int))):=vQ ins (a,b) 0 A
 cases hat:atA A (a,b) with
 |some i=>
  have e1:eV ins A a b=(A,2*(1+ins+i)):=by rw[e0,hat]
  rw[hat] at hfind;simp only[cD,cR] at hfind;rw[e1];refine q1k ?_;simp[h1,h2,h3,h4,wM,FQ,vT,hfind]
 | none=>
  have e1:eV ins A a b=(A++[(a,b)],2*eG ins A):=by rw[e0,hat]
  rw[hat] at hfind;simp only[Option.map_none] at hfind;have hN:=El (gh:=H.g pre ins A) hi (show A.length<=1000001 by omega);unfold fq BC.g at hN;have ew:WI.wrap (2*eG ins A)=2*eG ins A:=by unfold eG;exact a9 (by omega) (by omega)
  have hmx:(A.length+1)*16<=maxBytes:=by have:=MB;omega
  have hset:=FP (ins:=ins) (atA_none.1 hat);rw[e1];refine q1k ?_;unfold BC.g;rw[<-hset];simp[h1,h2,h3,h4,wJ,wK,FN,FO,vT,hfind,hN,ew,hmx,bj,vR,aj]
theorem FT (hi:0<=ins/\ins<=1000) (hl:A.length<=1000000) {a b:Int} (ha:0<=a/\a<2002002) (hb:0<=b/\b<2002002) :
  ac pg 49 [.ptr true (pre.length+1) 0,I a,I b] (H.g pre ins A)=some (I (fb ins A a b).2,H.g pre ins (fb ins A a b).1):=by
 by_cases h:b<a
 ·have hm:=wN (H:=H) (pre:=pre) hi hl hb ha.1
  refine aq (fn:=q1v) (s:=⟨[(6,I (fb ins A a b).2)],[],H.g pre ins (fb ins A a b).1⟩) rfl rfl (qge ?h1) ?r1
  case h1=>rw[aG h,dO,hm,jy,fb,if_pos h]
  case r1=>simp[am,results,q1v,ao,au,ai]
 ·have hm:=wN (H:=H) (pre:=pre) hi hl ha hb.1
  refine aq (fn:=q1v) (s:=⟨[(6,I (fb ins A a b).2)],[],H.g pre ins (fb ins A a b).1⟩) rfl rfl (qge ?h2) ?r2
  case h2=>rw[aF h,dq,hm,jy,fb,if_neg h]
  case r2=>simp[am,results,q1v,ao,au,ai]
end
def Lt (ins:Int) (v:List Bool) (A:List (Int×Int)) (n:Int) (b:Bool):Prop:=dt ins A n=true/\cu (bt (false::v) A) n=b
def Stp (ins:Int) (A A':List (Int×Int)) (c:Nat):Prop:=bq ins A'=0/\A'.length<=A.length+c/\∃t,A'=A++t
def Ls (ins:Int) (v:List Bool) (A:List (Int×Int)):List Int->List Bool->Prop
 |[],[]=>True
 |x::xs,b::bs=>Lt ins v A x b/\Ls ins v A xs bs
 |_,_=>False
def dg (a:Int):Int:=fH .i64 a 1
section
variable {ins:Int} {v:List Bool} {A A' C:List (Int×Int)} {c d:Nat}
theorem Stp.refl (h:bq ins A=0):Stp ins A A 0:=⟨h,by omega,[],by simp⟩
theorem Stp.trans (h1:Stp ins A A' c) (h2:Stp ins A' C d):Stp ins A C (c+d):=by obtain⟨_,h1,t,ht⟩:=h1;obtain⟨h0,h2,u,hu⟩:=h2;exact⟨h0,by omega,t++u,by rw[hu,ht,aZ]⟩
theorem Stp.mono (h:Stp ins A A' c) (hc:c<=d):Stp ins A A' d:=⟨h.1,by have:=h.2.1;omega,h.2.2⟩
theorem oh {n:Int} (h:dt ins A n=true):0<=n/\n<2*(1+ins+A.length):=by
 unfold dt eG at h
 rwa [aH] at h
theorem Lt.mono (hv:(v.length:Int)=ins) {n:Int} {b:Bool} (h:Lt ins v A n b) (s:Stp ins A A' c):Lt ins v A' n b:=by
 obtain⟨h1,h2⟩:=h;obtain⟨_,_,t,rfl⟩:=s;have hw:=oh h1;have hl:=nT (false::v) A;rw[bB] at hl;refine⟨?_,?_⟩
 ·unfold dt eG
  rw[aH,aW];omega
 ·obtain⟨u,hu⟩:=j4 (bt (false::v) A) t
  rw[rS,hu,rR (by omega)];exact h2
theorem Ls.mono (hv:(v.length:Int)=ins) (s:Stp ins A A' c):∀{xs:List Int} {bs:List Bool},Ls ins v A xs bs->Ls ins v A' xs bs
 |[],[],_=>trivial
 |_::_,_::_,h=>⟨h.1.mono hv s,Ls.mono hv s h.2⟩
theorem Ls.len:∀{xs:List Int} {bs:List Bool},Ls ins v A xs bs->bs.length=xs.length
 |[],[],_=>rfl
 |_::_,_::_,h=>by rw[bB,bB,Ls.len h.2]
theorem Ls.app:∀{xs ys:List Int} {bs cs:List Bool},Ls ins v A xs bs->Ls ins v A ys cs->Ls ins v A (xs++ys) (bs++cs)
 |[],_,[],_,_,h=>h
 |_::_,_,_::_,_,h,k=>⟨h.1,Ls.app h.2 k⟩
theorem Ls.take:∀{xs:List Int} {bs:List Bool} (n:Nat),Ls ins v A xs bs->Ls ins v A (xs.take n) (bs.take n)
 |[],[],n,_=>by simp[Ls]
 |_::_,_::_,0,_=>trivial
 |_::_,_::_,n+1,h=>⟨h.1,Ls.take n h.2⟩
theorem Ls.drop:∀{xs:List Int} {bs:List Bool} (n:Nat),Ls ins v A xs bs->Ls ins v A (xs.drop n) (bs.drop n)
 |[],[],n,_=>by simp[Ls]
 |_::_,_::_,0,h=>h
 |_::_,_::_,n+1,h=>Ls.drop n h.2
theorem oi (hc:bq ins A=0) {n:Int} {b:Bool} (h:Lt ins v A n b):0<=n/\n<2002002:=by obtain⟨hi,hl,_,_⟩:=dK hc;exact Eu hi hl h.1
theorem FU {a:Int} (h:0<=a/\a<2002002):dg a=if a%2=0 then a+1 else a-1:=by
 unfold dg;split
 ·exact (nR h (by omega)).2 ⟨by omega,by omega⟩
 ·exact (nR h (by omega)).2 ⟨by omega,by omega⟩
theorem Lt.not (hc:bq ins A=0) {n:Int} {b:Bool} (h:Lt ins v A n b):Lt ins v A (dg n) (!b):=by
 have hn:=oi hc h;have hw:=oh h.1;have e:=FU hn;obtain⟨h1,h2⟩:=h;have hd:dg n/2=n/2:=by rw[e];split<;>omega
 refine⟨?_,?_⟩
 ·unfold dt eG
  rw[aH];omega
 ·unfold cu at h2 ⊢
  rw[hd,<-h2];by_cases hp:n%2=1
  ·rw[aG hp,aF (by omega)];cases (bt (false::v) A).getD (n/2).toNat false<;>rfl
  ·rw[aF hp,aG (by omega)];cases (bt (false::v) A).getD (n/2).toNat false<;>rfl
theorem mr (hi:0<=ins):Lt ins v A 0 false:=by
 refine⟨?_,?_⟩
 ·unfold dt eG;rw[aH];omega
 ·obtain⟨t,ht⟩:=j4 (false::v) A
  unfold cu;rw[ht];rfl
theorem ms (hi:0<=ins):Lt ins v A 1 true:=by
 refine⟨?_,?_⟩
 ·unfold dt eG;rw[aH];omega
 ·obtain⟨t,ht⟩:=j4 (false::v) A
  unfold cu;rw[ht];rfl
theorem Ls.zeros (hi:0<=ins):∀n:Nat,Ls ins v A (List.replicate n 0) (zB n)
 |0=>trivial
 |n+1=>⟨mr hi,Ls.zeros hi n⟩
theorem Ls.not (hc:bq ins A=0):∀{xs:List Int} {bs:List Bool},Ls ins v A xs bs->Ls ins v A (xs.map dg) (bs.map (!·))
 |[],[],_=>trivial
 |_::_,_::_,h=>⟨h.1.not hc,Ls.not hc h.2⟩
theorem FV (a b:Int):∃t,(fb ins A a b).1=A++t/\t.length<=1:=by
 have h:∀a b:Int,∃t,(eV ins A a b).1=A++t/\t.length<=1:=λa b=>by
  unfold eV;split
  ·exact⟨[],by simp,by simp⟩
  ·split
   ·exact⟨[],by simp,by simp⟩
   ·split
    ·exact⟨[],by simp,by simp⟩
    ·exact⟨[(a,b)],by simp,by simp⟩
 unfold fb;split
 ·exact h b a
 ·exact h a b
end
section
variable {pre:List GObj} {ins:Int} {v:List Bool} {A:List (Int×Int)}
theorem jb (a:Int) (gh:List GObj):ac pg 231 [I a] gh=some (I (dg a),gh):=by
 refine aq (fn:=q6f) (s:=?s1) rfl rfl (qjt ?h1) ?r1
 case h1=>simp;rfl
 case r1=>simp[am,results,q6f,ao,au,ai,dg]
theorem iI (pre:List GObj) (hv:(v.length:Int)=ins) (hc:bq ins A=0) (hs:A.length+1<=1000000) {a b:Int} {ba bb:Bool} (ha:Lt ins v A a ba) (hb:Lt ins v A b bb) :
  ∃A' n,(∀H:BC,ac pg 49 [.ptr true (pre.length+1) 0,I a,I b] (H.g pre ins A)=some (I n,H.g pre ins A'))/\Stp ins A A' 1/\Lt ins v A' n (ba&&bb):=by
 obtain⟨hi,hl,_,_⟩:=dK hc;obtain⟨t,ht,h1⟩:=FV (ins:=ins) (A:=A) a b;obtain⟨g1,_,g3,_,g5⟩:=EI hc ha.1 hb.1 (by rw[ht,aW];omega) hv;refine⟨(fb ins A a b).1,(fb ins A a b).2,λH=>FT hi hl (oi hc ha) (oi hc hb),⟨g1,by rw[ht,aW];omega,t,ht⟩,g3,?_⟩;rw[g5,ha.2,hb.2]
theorem oj (pre:List GObj) (hv:(v.length:Int)=ins) (hc:bq ins A=0) (hs:A.length+1<=1000000) {a b:Int} {ba bb:Bool} (ha:Lt ins v A a ba) (hb:Lt ins v A b bb) :
  ∃A' n,(∀H:BC,ac pg 223 [.ptr true (pre.length+2) 0,I a,I b] (H.g pre ins A)=some (I n,H.g pre ins A'))/\Stp ins A A' 1/\Lt ins v A' n (ba||bb):=by
 obtain⟨A',n,h1,s1,l1⟩:=iI pre hv hc hs (ha.not hc) (hb.not hc);refine⟨A',dg n,λH=>?_,s1,?_⟩
 ·have hm:=h1 H
  refine aq (fn:=q62) (s:=?s1) rfl rfl (qjv ?h1) ?r1
  case h1=>simp[ip,jb,hm];rfl
  case r1=>simp[am,results,q62,ao,au,ai]
 ·have:=l1.not s1.1
  rw[show (ba||bb)= !(!ba&& !bb) by cases ba<;>cases bb<;>rfl];exact this
theorem om (pre:List GObj) (hv:(v.length:Int)=ins) (hc:bq ins A=0) (hs:A.length+3<=1000000) {a b:Int} {ba bb:Bool} (ha:Lt ins v A a ba) (hb:Lt ins v A b bb) :
  ∃A' n,(∀H:BC,ac pg 224 [.ptr true (pre.length+2) 0,I a,I b] (H.g pre ins A)=some (I n,H.g pre ins A'))/\Stp ins A A' 3/\Lt ins v A' n (ba ^^bb):=by
 obtain⟨A1,n1,h1,s1,l1⟩:=iI pre hv hc (by omega) ha (hb.not hc);have b1:=s1.2.1;obtain⟨A2,n2,h2,s2,l2⟩:=iI pre hv s1.1 (by omega) ((ha.not hc).mono hv s1) (hb.mono hv s1);have b2:=s2.2.1;obtain⟨A3,n3,h3,s3,l3⟩:=oj pre hv s2.1 (by omega) (l1.mono hv s2) l2;refine⟨A3,n3,λH=>?_,(s1.trans (s2.trans s3)).mono (by omega),?_⟩
 ·have e1:=h1 H
  have e2:=h2 H;have e3:=h3 H;refine aq (fn:=q63) (s:=?s1) rfl rfl (qjx ?h1) ?r1
  case h1=>simp[ip,jb,e1,og,e2,e3];rfl
  case r1=>simp[am,results,q63,ao,au,ai]
 ·rw[show (ba ^^bb)=((ba&& !bb)||(!ba&&bb)) by cases ba<;>cases bb<;>rfl]
  exact l3
theorem FW (pre:List GObj) (hv:(v.length:Int)=ins) (hc:bq ins A=0) (hs:A.length+3<=1000000) {c a b:Int} {bc ba bb:Bool} (hcc:Lt ins v A c bc) (ha:Lt ins v A a ba) (hb:Lt ins v A b bb) :
  ∃A' n,(∀H:BC,ac pg 238 [.ptr true (pre.length+2) 0,I c,I a,I b] (H.g pre ins A)=some (I n,H.g pre ins A'))/\Stp ins A A' 3/\Lt ins v A' n (if bc then ba else bb):=by
 obtain⟨A1,n1,h1,s1,l1⟩:=iI pre hv hc (by omega) hcc ha;have b1:=s1.2.1;obtain⟨A2,n2,h2,s2,l2⟩:=iI pre hv s1.1 (by omega) ((hcc.not hc).mono hv s1) (hb.mono hv s1);have b2:=s2.2.1;obtain⟨A3,n3,h3,s3,l3⟩:=oj pre hv s2.1 (by omega) (l1.mono hv s2) l2;refine⟨A3,n3,λH=>?_,(s1.trans (s2.trans s3)).mono (by omega),?_⟩
 ·have e1:=h1 H
  have e2:=h2 H;have e3:=h3 H;refine aq (fn:=q6n) (s:=?s1) rfl rfl (qjz ?h1) ?r1
  case h1=>simp[ip,jb,e1,og,e2,e3];rfl
  case r1=>simp[am,results,q6n,ao,au,ai]
 ·rw[show (if bc then ba else bb)=((bc&&ba)||(!bc&&bb)) by cases bc<;>cases ba<;>cases bb<;>rfl]
  exact l3
end
theorem wrS' (n:Nat) (h:n<=1000000):WI.wrap ((n:Int)+1)=((n+1:Nat):Int):=by rw[a9 (by omega) (by omega)];omega
theorem get_at {px rx:List Int} {x:Int} {i:Nat} (h:px.length=i):((px++x::rx).map I)[i]?=some (I x):=by subst h;simp
theorem fB (l:List Int):dL (l.map I)=true:=by
 induction l with
 |nil=>rfl
 |cons x l ih=>simpa using ih
def YOk (vy:PV) (ys:List Int) (gh:List GObj):Prop:=vy= .sl false 1 (ys.map I)\/∃b,vy= .bs true b 0 ys.length 1/\gh[b]?=some (.cells (ys.map I))
section
variable {gh gh':List GObj}
theorem FX {X acc:List PV} {vy:PV} {ys:List Int} {f:Nat} {caps:List PV} {fn:PV} {ap:List PV->List PV} {x o:Int} {n i:Nat} (hi:i<n) (hn:n<=1000) (hX:X[i]?=some (I x)) (hly:ys.length=n) (hY:YOk vy ys gh) (hacc:acc.length=i)
  (hf:(fn= .fn f caps/\ap=λvs=>vs++caps)\/(fn= .bfn f caps/\ap=λvs=>caps++vs)) (hcap:caps.all ar=true) (hc:ac pg f (ap [I x,I (ys.getD i 0)]) gh=some (I o,gh')) :
  q1d pg (.sl false 1 X) vy fn (.sl true 1 acc) n i gh=some (.normal,⟨[(0,.sl false 1 X),(1,vy),(2,fn),(7,.sl true 1 (acc++[I o])),(10,I n),(11,I ((i+1:Nat):Int))],[],gh'⟩):=by
 have hltI:(i:Int)<(n:Int):=by omega
 have e2:=wrS' i (by omega);have hmx:(acc.length+1)*8<=maxBytes:=by have:=MB;omega
 have hy:(ys.map I)[i]?=some (I (ys.getD i 0)):=by rw[aB,aM,aA (by omega)];rfl
 generalize ys.getD i 0=y at *;rcases hf with ⟨rfl,rfl⟩|⟨rfl,rfl⟩
 ·have hc':ac pg f (I x::I y::caps) gh=some (I o,gh'):=hc
  rcases hY with rfl|⟨b,rfl,hb⟩
  ·generalize ys.map I=Y at *
   simp[q1d,hltI,hX,hy,kZ hcap,hc',hmx,e2,-List.getElem?_map]
  ·rw[hly]
   generalize ys.map I=Y at *;simp[q1d,hltI,hX,hy,hb,kZ hcap,hc',hmx,e2]
 ·rcases hY with rfl|⟨b,rfl,hb⟩
  ·generalize ys.map I=Y at *
   simp[q1d,hltI,hX,hy,kZ hcap,hc,hmx,e2,-List.getElem?_map]
  ·rw[hly]
   generalize ys.map I=Y at *;simp[q1d,hltI,hX,hy,hb,kZ hcap,hc,hmx,e2]
end
theorem wO {xs ys outs:List Int} {vy fn:PV} {f:Nat} {caps:List PV} {ap:List PV->List PV} {hs:Nat->List GObj} (hl:xs.length<=1000) (hly:ys.length=xs.length) (hlo:outs.length=xs.length) (hY:∀i,YOk vy ys (hs i))
  (hf:(fn= .fn f caps/\ap=λvs=>vs++caps)\/(fn= .bfn f caps/\ap=λvs=>caps++vs)) (hcap:caps.all ar=true)
  (hc:∀i,i<xs.length->ac pg f (ap [I (xs.getD i 0),I (ys.getD i 0)]) (hs i)=some (I (outs.getD i 0),hs (i+1))):∀k i,i+k=xs.length->
  ab pg q60 ⟨[(0,LI xs),(1,vy),(2,fn),(7,.sl true 1 ((outs.take i).map I)),(10,I xs.length),(11,I (i:Int))],[],hs i⟩=some (.normal,⟨[(7,.sl true 1 (outs.map I))],[],hs xs.length⟩)
 |0,i,h=>by
  obtain rfl:i=xs.length:=by omega
  rw[bM (by omega)];have hlt:¬(xs.length:Int)<(xs.length:Int):=by omega
  refine (cm (s1:=?s1) (q1d_ ?h1)).trans ?r1
  case h1=>simp only[q1d,aF hlt,dq];rfl
  case r1=>simp[keep]
 | k+1,i,h=>by
  have hi:i<xs.length:=by omega
  have hx:(xs.map I)[i]?=some (I (xs.getD i 0)):=by rw[aB,aM,aA hi];rfl
  refine bh (q1d_ (FX hi hl hx hly (hY i) (by simp;omega) hf hcap (hc i hi))) ?_;have ht:(outs.take i).map I++[I (outs.getD i 0)]=(outs.take (i+1)).map I:=by
   have:outs.take (i+1)=outs.take i++[outs.getD i 0]:=by rw[List.take_add_one,aM,aA (by omega)];rfl
   rw[this,bK];rfl
  rw[ht];exact wO hl hly hlo hY hf hcap hc k (i+1) (by omega)
theorem YOk.st {vy:PV} {ys:List Int} {gh:List GObj} {nl:Nat} (h:YOk vy ys gh) {R:Type} (x:Option R):stK nl vy x=x:=by rcases h with rfl|⟨b,rfl,_⟩<;>rfl
theorem sj {xs ys outs:List Int} {vy fn:PV} {f:Nat} {caps:List PV} {ap:List PV->List PV} {hs:Nat->List GObj} (hl:xs.length<=1000) (hly:ys.length=xs.length) (hlo:outs.length=xs.length) (hY:∀i,YOk vy ys (hs i))
  (hf:(fn= .fn f caps/\ap=λvs=>vs++caps)\/(fn= .bfn f caps/\ap=λvs=>caps++vs)) (hcap:caps.all ar=true)
  (hc:∀i,i<xs.length->ac pg f (ap [I (xs.getD i 0),I (ys.getD i 0)]) (hs i)=some (I (outs.getD i 0),hs (i+1))) :
  ac pg 222 [LI xs,vy,fn] (hs 0)=some (LI outs,hs xs.length):=by
 have hL:=wO hl hly hlo hY hf hcap hc xs.length 0 (by omega);simp only[List.take_zero,bR,aX] at hL;have hk:ab pg q3q ⟨[(7,.sl true 1 (outs.map I))],[],hs xs.length⟩=some (.ret,⟨[(6,LI outs)],[],hs xs.length⟩):=qk0 (by simp);have hst:=(hY 0).st (nl:=0) (R:=ag×St);generalize hs xs.length=g1 at *;generalize hs 0=g0 at *;refine aq (fn:=q61) (s:=⟨[(6,LI outs)],[],g1⟩) rfl rfl (qk1 ?h1) ?r1
 case h1=>
  rcases hf with ⟨rfl,_⟩|⟨rfl,_⟩
  ·simp[hst,hL,hk]
  ·simp[hst,hL,hk]
 case r1=>simp[am,results,q61,ao,au,ai]
theorem FY (a b:Int) (gh:List GObj):ac pg 236 [I a,I b] gh=some (I (dg a),gh):=by
 refine aq (fn:=q6l) (s:=?s1) rfl rfl (qk5 ?h1) ?r1
 case h1=>simp[jb];rfl
 case r1=>simp[am,results,q6l,ao,au,ai]
theorem oo {xs:List Int} (hl:xs.length<=1000) (gh:List GObj):ac pg 219 [LI xs] gh=some (LI (xs.map dg),gh):=by
 have h:=sj (xs:=xs) (ys:=xs) (outs:=xs.map dg) (vy:=LI xs) (fn:= .fn 236 []) (f:=236) (caps:=[]) (hs:=λ_=>gh) hl rfl (by simp) (λ_=> .inl rfl) (.inl ⟨rfl,rfl⟩) rfl (λi hi=>by
  have e:(xs.map dg).getD i 0=dg (xs.getD i 0):=by simp[aM,aA hi]
  rw[e];exact FY _ _ gh)
 generalize xs.map dg=ys at *;refine aq (fn:=q5x) (s:=⟨[(2,LI ys)],[],gh⟩) rfl rfl (qk3 ?h1) ?r1
 case h1=>simp[h]
 case r1=>simp[am,results,q5x,ao,au,ai,fB]
theorem oq {n:Nat} (h:n<=1000000):fp (n:Int) 8 1 (.int .i64 0)=true:=by have:=MB;simp[fp];omega
theorem jc {n:Nat} (h:n<=1000000) (gh:List GObj):ac pg 220 [I (n:Int)] gh=some (.sl true 1 ((List.replicate n (0:Int)).map I),gh):=by
 refine aq (fn:=q5y) (s:=⟨[(2,.sl true 1 ((List.replicate n (0:Int)).map I))],[],gh⟩) rfl rfl (qk7 ?h1) ?r1
 case h1=>simp[oq h]
 case r1=>
  have:=fB (List.replicate n (0:Int));generalize (List.replicate n (0:Int)).map I=Z at *;simp[am,results,q5y,ai,this]
section
variable {ins:Int} {v:List Bool}
theorem sk {pre:List GObj} (hv:(v.length:Int)=ins) {A:List (Int×Int)} {c:Nat} {f:Nat} {ap:BC->List PV->List PV} {CC:BC->Prop} {op:Bool->Bool->Bool}
  (hop:∀A1 d,Stp ins A A1 d->A1.length+c<=1000000->∀a b ba bb,Lt ins v A1 a ba->Lt ins v A1 b bb->∃A2 n,(∀H:BC,CC H->ac pg f (ap H [I a,I b]) (H.g pre ins A1)=some (I n,H.g pre ins A2))/\Stp ins A1 A2 c/\Lt ins v A2 n (op ba bb)) :
  ∀ (xs ys:List Int) (bs cs:List Bool) (A1:List (Int×Int)) (d:Nat),Stp ins A A1 d->ys.length=xs.length->A1.length+c*xs.length<=1000000->Ls ins v A1 xs bs->Ls ins v A1 ys cs->
   ∃(As:Nat->List (Int×Int)) (outs:List Int),As 0=A1/\outs.length=xs.length/\(∀i,i<xs.length->∀H:BC,CC H->ac pg f (ap H [I (xs.getD i 0),I (ys.getD i 0)]) (H.g pre ins (As i))=some (I (outs.getD i 0),H.g pre ins (As (i+1))))/\
    Stp ins A1 (As xs.length) (c*xs.length)/\Ls ins v (As xs.length) outs (List.zipWith op bs cs)
 |[],[],[],[],A1,d,s,_,_,_,_=>⟨λ_=>A1,[],rfl,rfl,λi hi=>absurd hi (by simp),Stp.refl s.1,trivial⟩
 | x::xs,y::ys,b::bs,e::cs,A1,d,s,hl,hs,hx,hy=>by
  simp only[bB] at hl hs;rw[Nat.mul_add,Nat.mul_one] at hs;obtain⟨A2,n,h1,s1,l1⟩:=hop A1 d s (by omega) x y b e hx.1 hy.1;have b1:=s1.2.1;obtain⟨As,outs,g1,g2,g3,g4,g5⟩:=sk hv hop xs ys bs cs A2 (d+c) (s.trans s1) (by omega) (by omega) (hx.2.mono hv s1) (hy.2.mono hv s1);refine⟨λi=>match i with|0=>A1|i+1=>As i,n::outs,rfl,by simp[g2],?_,?_,?_⟩
  ·intro i hi H hH
   match i with
   |0=>
    have:=h1 H hH
    show ac pg f (ap H [I x,I y]) (H.g pre ins A1)=some (I n,H.g pre ins (As 0))
    rw[g1];exact this
   |i+1=>exact g3 i (by simpa using hi) H hH
  ·show Stp ins A1 (As xs.length) _
   rw[g1] at *;exact (s1.trans g4).mono (by rw[bB,Nat.mul_add];omega)
  ·show Ls ins v (As xs.length) (n::outs) (op b e::List.zipWith op bs cs)
   exact⟨l1.mono hv (by rw[<-g1] at *;exact g4),g5⟩
def YB (pre:List GObj) (H:BC) (vy:PV) (ys:List Int):Prop:=vy=LI ys\/∃j,vy= .bs true (pre.length+3+j) 0 ys.length 1/\H.post[j]?=some (.cells (ys.map I))
theorem mu {pre:List GObj} {A:List (Int×Int)} {H:BC} {j:Nat} {x:GObj} (h:H.post[j]?=some x):(H.g pre ins A)[pre.length+3+j]?=some x:=by unfold BC.g;rw[aR (by omega),show pre.length+3+j-pre.length=j+3 by omega];simpa using h
theorem YB.ok {pre:List GObj} {A:List (Int×Int)} {H:BC} {vy:PV} {ys:List Int} (h:YB pre H vy ys):YOk vy ys (H.g pre ins A):=by
 rcases h with rfl|⟨j,rfl,hj⟩
 ·exact .inl rfl
 ·exact .inr ⟨_,rfl,mu hj⟩
theorem YB.push {pre:List GObj} {H:BC} {vy:PV} {ys:List Int} {J:List GObj} (h:YB pre H vy ys):YB pre (H.push J) vy ys:=by
 rcases h with rfl|⟨j,rfl,hj⟩
 ·exact .inl rfl
 ·refine .inr ⟨j,rfl,?_⟩
  have hlt:j<H.post.length:=by
   rcases Nat.lt_or_ge j H.post.length with h|h
   ·exact h
   ·rw[List.getElem?_eq_none h] at hj;cases hj
  show (H.post++J)[j]?=_
  rw[aJ hlt];exact hj
def pkJ (pre:List GObj) (c:Int):List GObj:=[.cells [.ptr true (pre.length+2) 0],.cells [I c]]
def jd (pre:List GObj) (K:BC):List PV:=[.ptr true (pre.length+3+(K.post.length-2)) 0,.ptr true (pre.length+3+(K.post.length-1)) 0]
theorem ld (pre:List GObj) (hv:(v.length:Int)=ins) {A:List (Int×Int)} (hc:bq ins A=0) {c:Int} {bc:Bool} {xs ys:List Int} {bs cs:List Bool} (hs:A.length+3*xs.length<=1000000) (hl:xs.length<=1000) (hly:ys.length=xs.length)
  (hcc:Lt ins v A c bc) (hx:Ls ins v A xs bs) (hy:Ls ins v A ys cs) :
  ∃A' outs,(∀(H:BC) (vy:PV),YB pre H vy ys->ac pg 234 [.ptr true (pre.length+2) 0,I c,LI xs,vy] (H.g pre ins A)=some (LI outs,(H.push (pkJ pre c)).g pre ins A'))/\Stp ins A A' (3*xs.length)/\Ls ins v A' outs (d9 bc bs cs):=by
 have hop:∀A1 d,Stp ins A A1 d->A1.length+3<=1000000->∀a b ba bb,Lt ins v A1 a ba->Lt ins v A1 b bb->∃A2 n,(∀K:BC,(∃H:BC,K=H.push (pkJ pre c))->ac pg 237 ((λK vs=>vs++jd pre K) K [I a,I b]) (K.g pre ins A1)=some (I n,K.g pre ins A2))/\Stp ins A1 A2 3/\Lt ins v A2 n ((λp q=>if bc then p else q) ba bb):=by
  intro A1 d s hA1 a b ba bb ha hb;obtain⟨A2,n,h1,s1,l1⟩:=FW pre hv s.1 hA1 (hcc.mono hv s) ha hb;refine⟨A2,n,?_,s1,l1⟩;rintro K ⟨H,rfl⟩;have e1:=h1 (H.push (pkJ pre c));have p1:((H.push (pkJ pre c)).g pre ins A1)[pre.length+3+H.post.length]?=some (.cells [.ptr true (pre.length+2) 0]):=mu (by simp[BC.push,pkJ]);have p2:((H.push (pkJ pre c)).g pre ins A1)[pre.length+3+(H.post.length+1)]?=some (.cells [I c]):=mu (by simp[BC.push,pkJ]);have hcp:jd pre (H.push (pkJ pre c))=[.ptr true (pre.length+3+H.post.length) 0,.ptr true (pre.length+3+(H.post.length+1)) 0]:=by simp[jd,BC.push,pkJ]
  show ac pg 237 ([I a,I b]++jd pre (H.push (pkJ pre c))) _=_
  rw[hcp];generalize pre.length+3+H.post.length=q1 at *;generalize pre.length+3+(H.post.length+1)=q2 at *;generalize (H.push (pkJ pre c)).g pre ins A1=G1 at *;generalize (H.push (pkJ pre c)).g pre ins A2=G2 at *;refine aq (fn:=q6m) (s:=⟨[(6,I n)],[],G2⟩) rfl rfl (qkd ?h1) ?r1
  case h1=>simp[p1,p2,e1]
  case r1=>simp[am,results,q6m,ao,au,ai]
 obtain⟨As,outs,g1,g2,g3,g4,g5⟩:=sk (pre:=pre) (f:=237) (ap:=λK vs=>vs++jd pre K) (CC:=λK=>∃H:BC,K=H.push (pkJ pre c)) (op:=λp q=>if bc then p else q) hv hop xs ys bs cs A 0 (Stp.refl hc) hly hs hx hy;refine⟨As xs.length,outs,?_,g4,?_⟩
 ·intro H vy hvy
  have he:=sj (xs:=xs) (ys:=ys) (outs:=outs) (vy:=vy) (fn:= .fn 237 (jd pre (H.push (pkJ pre c)))) (f:=237) (caps:=jd pre (H.push (pkJ pre c))) (hs:=λi=>(H.push (pkJ pre c)).g pre ins (As i)) hl hly g2 (λi=>hvy.push.ok) (.inl ⟨rfl,rfl⟩) rfl (λi hi=>g3 i hi _ ⟨H,rfl⟩);simp only[g1] at he;have hst:=(hvy.ok (ins:=ins) (A:=A)).st (nl:=0) (R:=ag×St);have hcp:jd pre (H.push (pkJ pre c))=[.ptr true (pre.length+3+H.post.length) 0,.ptr true (pre.length+3+(H.post.length+1)) 0]:=by simp[jd,BC.push,pkJ]
  have hpg:(H.push (pkJ pre c)).g pre ins A=H.g pre ins A++[.cells [.ptr true (pre.length+2) 0]]++[.cells [I c]]:=by simp[BC.push,pkJ,BC.g]
  have hlen:=oe (pre:=pre) (ins:=ins) (A:=A) (H:=H);rw[hcp,hpg] at he;generalize (H.push (pkJ pre c)).g pre ins (As xs.length)=G2 at *;generalize H.g pre ins A=G1 at *;refine aq (fn:=q6i) (s:=⟨[(8,LI outs)],[],G2⟩) rfl rfl (qkb ?h1) ?r1
  case h1=>
   simp only[aZ,bJ,bI] at he;rw[show pre.length+3+(H.post.length+1)=pre.length+3+H.post.length+1 by omega] at he;generalize pre.length+3+H.post.length=q at *;rcases hvy with rfl|⟨j,rfl,_⟩
   ·simp[hlen,he]
   ·generalize pre.length+3+j=q2 at *
    simp[hlen,he]
  case r1=>simp[am,results,q6i,ao,au,ai]
 ·have hzip:∀(bs cs:List Bool),bs.length=cs.length->List.zipWith (λp q=>if bc then p else q) bs cs=d9 bc bs cs:=by
   intro bs
   induction bs with
   |nil=>intro cs h;cases cs with|nil=>cases bc<;>rfl|cons _ _=>cases h
   | cons b bs ih=>
    intro cs h;cases cs with
    |nil=>cases h
    |cons e cs=>
     rw[List.zipWith_cons_cons,ih cs (by simpa using h)];cases bc<;>rfl
  rw[<-hzip bs cs (by rw[hx.len,hy.len,hly])];exact g5
end
section
variable {pre:List GObj} {ins:Int} {v:List Bool}
theorem FZ {H:BC} {A A1 A2 A3 A4 A5:List (Int×Int)} {X Y acc:List PV} {x y c d o e f c':Int} {n i:Nat} (hi:i<n) (hn:n<=1000) (hX:X[i]?=some (I x)) (hY:Y[i]?=some (I y)) (hacc:acc.length=i)
  (h1:ac pg 224 [.ptr true (pre.length+2) 0,I x,I y] (H.g pre ins A)=some (I d,H.g pre ins A1))
  (h2:ac pg 224 [.ptr true (pre.length+2) 0,I d,I c] (H.g pre ins A1)=some (I o,H.g pre ins A2))
  (h3:ac pg 49 [.ptr true (pre.length+1) 0,I x,I y] (H.g pre ins A2)=some (I e,H.g pre ins A3))
  (h4:ac pg 49 [.ptr true (pre.length+1) 0,I d,I c] (H.g pre ins A3)=some (I f,H.g pre ins A4))
  (h5:ac pg 223 [.ptr true (pre.length+2) 0,I e,I f] (H.g pre ins A4)=some (I c',H.g pre ins A5)) :
  q4y pg (pre.length+2) 0 (.sl false 1 X) (.sl false 1 Y) c (.sl true 1 acc) n i (H.g pre ins A)=some (.normal,⟨[(0,.ptr true (pre.length+2) 0),(1,.sl false 1 X),(2,.sl false 1 Y),(3,I c'),(10,.sl true 1 (acc++[I o])),(14,I n),(15,I ((i+1:Nat):Int))],[],H.g pre ins A5⟩):=by
 have hltI:(i:Int)<(n:Int):=by omega
 have e2:=wrS' i (by omega);have hmx:(acc.length+1)*8<=maxBytes:=by have:=MB;omega
 simp[q4y,hltI,hX,hY,h1,h2,h3,h4,h5,ip,og,hmx,e2]
theorem wP (pre:List GObj) (hv:(v.length:Int)=ins):∀(rx ry px py acc:List Int) (bs cs:List Bool) (A:List (Int×Int)) (c:Int) (bc:Bool),bq ins A=0->A.length+9*rx.length<=1000000->py.length=px.length->ry.length=rx.length->acc.length=px.length->px.length+rx.length<=1000->
  Ls ins v A rx bs->Ls ins v A ry cs->Lt ins v A c bc->
  ∃A' out c',(∀H:BC,ab pg q64 ⟨[(0,.ptr true (pre.length+2) 0),(1,LI (px++rx)),(2,LI (py++ry)),(3,I c),(10,.sl true 1 (acc.map I)),(14,I ((px.length+rx.length:Nat):Int)),(15,I (px.length:Int))],[],H.g pre ins A⟩=some (.normal,⟨[(3,I c'),(10,.sl true 1 ((acc++out).map I))],[],H.g pre ins A'⟩))/\
   Stp ins A A' (9*rx.length)/\Ls ins v A' out (ee bs cs bc).1/\Lt ins v A' c' (ee bs cs bc).2
 |[],[],px,py,acc,[],[],A,c,bc,hc,_,_,_,_,_,_,_,hcc=>by
  refine⟨A,[],c,λH=>?_,Stp.refl hc,trivial,hcc⟩;have hlt:¬((px.length:Nat):Int)<((px.length+([]:List Int).length:Nat):Int):=by simp
  refine (cm (s1:=?s1) (q4y_ ?h1)).trans ?r1
  case h1=>simp only[q4y,aF hlt,dq];rfl
  case r1=>simp[keep]
 | x::rx,y::ry,px,py,acc,b::bs,e::cs,A,c,bc,hc,hs,hp,hl,ha,hn,hx,hy,hcc=>by
  simp only[bB] at hs hl hn;obtain⟨A1,d,h1,s1,l1⟩:=om pre hv hc (by omega) hx.1 hy.1;have b1:=s1.2.1;obtain⟨A2,o,h2,s2,l2⟩:=om pre hv s1.1 (by omega) l1 (hcc.mono hv s1);have b2:=s2.2.1;have t2:=s1.trans s2;obtain⟨A3,e',h3,s3,l3⟩:=iI pre hv s2.1 (by omega) (hx.1.mono hv t2) (hy.1.mono hv t2);have b3:=s3.2.1;have t3:=t2.trans s3;obtain⟨A4,f,h4,s4,l4⟩:=iI pre hv s3.1 (by omega) (l1.mono hv (s2.trans s3)) (hcc.mono hv t3);have b4:=s4.2.1;obtain⟨A5,c',h5,s5,l5⟩:=oj pre hv s4.1 (by omega) (l3.mono hv s4) l4;have b5:=s5.2.1;have t5:=(t3.trans s4).trans s5
  obtain⟨A6,out,c'',g1,g2,g3,g4⟩:=wP pre hv rx ry (px++[x]) (py++[y]) (acc++[o]) bs cs A5 c' _ s5.1 (by omega) (by simp;omega) (by omega) (by simp;omega) (by simp;omega) (hx.2.mono hv t5) (hy.2.mono hv t5) l5;refine⟨A6,o::out,c'',λH=>?_,(t5.trans g2).mono (by simp only[bB];omega),?_,?_⟩
  ·have ex:((px++x::rx).map I)[px.length]?=some (I x):=get_at rfl
   have ey:((py++y::ry).map I)[px.length]?=some (I y):=get_at hp;have hb:=FZ (H:=H) (acc:=acc.map I) (n:=px.length+(x::rx).length) (i:=px.length) (by simp) (by simp only[bB];omega) ex ey (by simpa using ha) (h1 H) (h2 H) (h3 H) (h4 H) (h5 H);rw[show acc.map I++[I o]=(acc++[o]).map I by simp] at hb;refine bh (q4y_ hb) ?_;have hg:=g1 H;rw[show (px++[x]).length+rx.length=px.length+(x::rx).length by simp;omega,show (px++[x]).length=px.length+1 by simp,aZ px [x] rx,aZ py [y] ry,aZ acc [o] out] at hg;exact hg
  ·rw[ee]
   exact⟨l2.mono hv (((s3.trans s4).trans s5).trans g2),g3⟩
  ·rw[ee]
   exact g4
theorem ot (pre:List GObj) (hv:(v.length:Int)=ins) {A:List (Int×Int)} (hc:bq ins A=0) {xs ys:List Int} {c:Int} {bs cs:List Bool} {bc:Bool} (hs:A.length+9*xs.length<=1000000) (hn:xs.length<=1000) (hl:ys.length=xs.length)
  (hx:Ls ins v A xs bs) (hy:Ls ins v A ys cs) (hcc:Lt ins v A c bc) :
  ∃A' out c',(∀H:BC,ac pg 225 [.ptr true (pre.length+2) 0,LI xs,LI ys,I c] (H.g pre ins A)=some (.tup [LI out,I c'],H.g pre ins A'))/\
   Stp ins A A' (9*xs.length)/\Ls ins v A' out (ee bs cs bc).1/\Lt ins v A' c' (ee bs cs bc).2:=by
 obtain⟨A',out,c',h1,h2,h3,h4⟩:=wP pre hv xs ys [] [] [] bs cs A c bc hc hs rfl hl rfl (by simpa using hn) hx hy hcc;refine⟨A',out,c',λH=>?_,h2,h3,h4⟩;have hL:=h1 H;simp only[bI,bR,bZ,cR,aX] at hL;have hk:ab pg q3r ⟨[(3,I c'),(10,.sl true 1 (out.map I))],[],H.g pre ins A'⟩=some (.ret,⟨[(8,LI out),(9,I c')],[],H.g pre ins A'⟩):=qke (by simp);generalize H.g pre ins A'=g1 at *;generalize H.g pre ins A=g0 at *;refine aq (fn:=q65) (s:=⟨[(8,LI out),(9,I c')],[],g1⟩) rfl rfl (qkf ?h1) ?r1
 case h1=>simp[hL,hk]
 case r1=>simp[am,results,q65,ao,au,ai]
theorem sm (pre:List GObj) (hv:(v.length:Int)=ins) {A:List (Int×Int)} (hc:bq ins A=0) {xs ys:List Int} {bs cs:List Bool} (hs:A.length+9*xs.length<=1000000) (hn:xs.length<=1000) (hl:ys.length=xs.length)
  (hx:Ls ins v A xs bs) (hy:Ls ins v A ys cs) :
  ∃A' out,(∀H:BC,ac pg 221 [.ptr true (pre.length+2) 0,LI xs,LI ys] (H.g pre ins A)=some (LI out,H.g pre ins A'))/\Stp ins A A' (9*xs.length)/\Ls ins v A' out (jE bs cs):=by
 obtain⟨hi,_,_,_⟩:=dK hc;obtain⟨A',out,c',h1,h2,h3,h4⟩:=ot pre hv hc hs hn (by simpa using hl) hx (hy.not hc) (ms hi.1);refine⟨A',out,λH=>?_,h2,h3⟩;have hf:=oo (xs:=ys) (by omega) (H.g pre ins A);have hm:=h1 H;generalize H.g pre ins A'=g1 at *;generalize H.g pre ins A=g0 at *;generalize ys.map dg=zs at *;refine aq (fn:=q5z) (s:=⟨[(6,LI out)],[],g1⟩) rfl rfl (qkj ?h1) ?r1
 case h1=>simp[hf,hm]
 case r1=>simp[am,results,q5z,ao,au,ai]
theorem sn (pre:List GObj) (hv:(v.length:Int)=ins) {A:List (Int×Int)} (hc:bq ins A=0) {xs ys:List Int} {bs cs:List Bool} (hs:A.length+9*xs.length<=1000000) (hn:xs.length<=1000) (hl:ys.length=xs.length)
  (hx:Ls ins v A xs bs) (hy:Ls ins v A ys cs) :
  ∃A' n,(∀H:BC,ac pg 232 [.ptr true (pre.length+2) 0,LI xs,LI ys] (H.g pre ins A)=some (I n,H.g pre ins A'))/\Stp ins A A' (9*xs.length)/\Lt ins v A' n (gJ bs cs):=by
 obtain⟨hi,_,_,_⟩:=dK hc;obtain⟨A',out,c',h1,h2,h3,h4⟩:=ot pre hv hc hs hn (by simpa using hl) hx (hy.not hc) (ms hi.1);refine⟨A',dg c',λH=>?_,h2,h4.not h2.1⟩;have hf:=oo (xs:=ys) (by omega) (H.g pre ins A);have hm:=h1 H;generalize H.g pre ins A'=g1 at *;generalize H.g pre ins A=g0 at *;generalize ys.map dg=zs at *;refine aq (fn:=q6g) (s:=⟨[(6,I (dg c'))],[],g1⟩) rfl rfl (qkh ?h1) ?r1
 case h1=>simp[hf,hm,jb]
 case r1=>simp[am,results,q6g,ao,au,ai]
theorem F0 {gh g1 g2:List GObj} {X out Y:List Int} {out2 pk:List Int} {o:Bool} {c c2:Int} {n i ly:Nat} (hi:i<ly) (hn:n<=1000) (hX:X.length=n) (hin:i<=n) (hY:(Y.map I)[i]?=some (I c)) (hly:ly<=1000)
  (h1:ac pg 234 [.ptr true (pre.length+2) 0,I c,LI (List.replicate i 0++X.take (n-i)),LI (List.replicate n 0)] gh=some (LI pk,g1))
  (h2:ac pg 225 [.ptr true (pre.length+2) 0,LI out,LI pk,I 0] g1=some (.tup [LI out2,I c2],g2)) :
  q4z pg (pre.length+2) 0 (LI X) (.sl o 1 (out.map I)) (LI Y) ly i gh=some (.normal,⟨[(0,.ptr true (pre.length+2) 0),(1,LI X),(7,LI out2),(14,LI Y),(15,I ly),(16,I ((i+1:Nat):Int))],[],g2⟩):=by
 have hltI:(i:Int)<(ly:Int):=by omega
 have e2:=wrS' i (by omega);have ez1:=jc (n:=i) (by omega) gh;have ez2:=jc (n:=n) (by omega) gh;have ew:WI.wrap (((n:Nat):Int)-(i:Int))=((n-i:Nat):Int):=by rw[a9 (by omega) (by omega)];omega
 have hmx:(i+(n-i))*8<=maxBytes:=by have:=MB;omega
 have hmx2:n*8<=maxBytes:=by have:=MB;omega
 have el:(X.map I).length=n:=by simpa using hX
 have ht:(X.map I).take (n-i)=(X.take (n-i)).map I:=by simp
 have hr1:((List.replicate i (0:Int)).map I).length=i:=by simp
 have htl:((X.take (n-i)).map I).length=n-i:=by simp;omega
 have happ:(List.replicate i (0:Int)++X.take (n-i)).map I=(List.replicate i (0:Int)).map I++(X.take (n-i)).map I:=by simp
 unfold LI at *;rw[happ] at h1;generalize (X.take (n-i)).map I=XT at *;generalize X.map I=XS at *;generalize Y.map I=YS at *;generalize pk.map I=PK at *;generalize out2.map I=O2 at *;generalize out.map I=O1 at *;generalize (List.replicate i (0:Int)).map I=RI at *;generalize (List.replicate n (0:Int)).map I=RN at *;have hb:i<=n/\n-i<=n:=by omega
 simp[q4z,hltI,hY,ez1,ez2,el,ew,e2,ht,hr1,htl,hmx,hmx2,h1,h2,hb]
theorem wQ (pre:List GObj) (hv:(v.length:Int)=ins) {X:List Int} {bx:List Bool} (hX:X.length<=100):∀(ry py:List Int) (cs:List Bool) (A:List (Int×Int)) (out:List Int) (bo:List Bool) (o:Bool),bq ins A=0->A.length+12*X.length*ry.length<=1000000->py.length+ry.length<=X.length->out.length=X.length->
  Ls ins v A X bx->Ls ins v A out bo->Ls ins v A ry cs->
  ∃A' out' J o',(∀H:BC,ab pg q66 ⟨[(0,.ptr true (pre.length+2) 0),(1,LI X),(7,.sl o 1 (out.map I)),(14,LI (py++ry)),(15,I ((py.length+ry.length:Nat):Int)),(16,I (py.length:Int))],[],H.g pre ins A⟩=some (.normal,⟨[(7,.sl o' 1 (out'.map I))],[],(H.push J).g pre ins A'⟩))/\
   Stp ins A A' (12*X.length*ry.length)/\Ls ins v A' out' (io bx py.length cs bo)
 |[],py,[],A,out,bo,o,hc,_,_,_,_,ho,_=>by
  refine⟨A,out,[],o,λH=>?_,Stp.refl hc,ho⟩;have hlt:¬((py.length:Nat):Int)<((py.length+([]:List Int).length:Nat):Int):=by simp
  rw[fA];refine (cm (s1:=?s1) (q4z_ ?h1)).trans ?r1
  case h1=>simp only[q4z,aF hlt,dq];rfl
  case r1=>simp[keep]
 | c::ry,py,b::cs,A,out,bo,o,hc,hs,hp,hl,hx,ho,hy=>by
  simp only[bB] at hs hp;rw[Nat.mul_add,Nat.mul_one] at hs;obtain⟨hi0,_,_,_⟩:=dK hc;have hrow:Ls ins v A (List.replicate py.length 0++X.take (X.length-py.length)) (im bx py.length):=by unfold im;rw[hx.len];exact (Ls.zeros hi0.1 _).app (hx.take _)
  have hrl:(List.replicate py.length (0:Int)++X.take (X.length-py.length)).length=X.length:=by simp;omega
  obtain⟨A1,pk,h1,s1,l1⟩:=ld pre hv hc (c:=c) (bc:=b) (xs:=List.replicate py.length 0++X.take (X.length-py.length)) (ys:=List.replicate X.length 0) (bs:=im bx py.length) (cs:=zB X.length) (by rw[hrl];omega) (by rw[hrl];omega) (by rw[hrl];simp) hy.1 hrow (Ls.zeros hi0.1 _);rw[hrl] at s1;have b1:=s1.2.1;have hpk:pk.length=X.length:=by
   rw[<-l1.len];unfold d9;split
   ·rw[wE (by rw[hx.len];omega),hx.len]
   ·simp[zB]
  obtain⟨A2,out2,c2,h2,s2,l2,_⟩:=ot pre hv s1.1 (xs:=out) (ys:=pk) (c:=0) (bc:=false) (by omega) (by omega) (by omega) (ho.mono hv s1) l1 (mr hi0.1);have b2:=s2.2.1;have t2:=s1.trans s2;rw[hl] at t2;have hout2:out2.length=X.length:=by rw[<-l2.len,jD (by rw[ho.len,l1.len,hl,hpk]),ho.len,hl]
  rw[hl] at b2;obtain⟨A3,out3,J,o3,h3,s3,l3⟩:=wQ pre hv hX ry (py++[c]) cs A2 out2 _ false s2.1 (by omega) (by simp;omega) hout2 (hx.mono hv t2) l2 (hy.2.mono hv t2);refine⟨A3,out3,pkJ pre c++J,o3,λH=>?_,(t2.trans s3).mono (by rw[bB,Nat.mul_add];omega),?_⟩
  ·have hb:=F0 (o:=o) (n:=X.length) (i:=py.length) (ly:=py.length+(c::ry).length) (Y:=py++c::ry) (by simp) (by omega) rfl (by omega) (get_at rfl) (by simp only[bB];omega) (h1 H _ (.inl rfl)) (h2 (H.push (pkJ pre c)))
   refine bh (q4z_ hb) ?_;have hg:=h3 (H.push (pkJ pre c));rw[show (py++[c]).length+ry.length=py.length+(c::ry).length by simp;omega,show (py++[c]).length=py.length+1 by simp,aZ py [c] ry,lc] at hg;exact hg
  ·rw[io]
   rw[show (py++[c]).length=py.length+1 by simp] at l3;rw[hx.len];exact l3
theorem F1 (pre:List GObj) (hv:(v.length:Int)=ins) {A:List (Int×Int)} (hc:bq ins A=0) {xs ys:List Int} {bs cs:List Bool} (hs:A.length+12*xs.length*xs.length<=1000000) (hn:xs.length<=100) (hl:ys.length=xs.length)
  (hx:Ls ins v A xs bs) (hy:Ls ins v A ys cs) :
  ∃A' out J,(∀H:BC,ac pg 226 [.ptr true (pre.length+2) 0,LI xs,LI ys] (H.g pre ins A)=some (LI out,(H.push J).g pre ins A'))/\Stp ins A A' (12*xs.length*xs.length)/\Ls ins v A' out (io bs 0 cs (zB bs.length)):=by
 obtain⟨hi,_,_,_⟩:=dK hc;obtain⟨A',out,J,o,h1,h2,h3⟩:=wQ pre hv hn ys [] cs A (List.replicate xs.length 0) (zB xs.length) true hc (by rw[hl];omega) (by simp;omega) (by simp) hx (Ls.zeros hi.1 _) hy;rw[hl] at h2;refine⟨A',out,J,λH=>?_,h2,by rw[hx.len];exact h3⟩;have hL:=h1 H;simp only[bI,bZ,cR,aX] at hL;have hk:ab pg q3s ⟨[(7,.sl o 1 (out.map I))],[],(H.push J).g pre ins A'⟩=some (.ret,⟨[(6,LI out)],[],(H.push J).g pre ins A'⟩):=qkk (by simp);have hz:=jc (n:=xs.length) (by omega) (H.g pre ins A);generalize (H.push J).g pre ins A'=g1 at *;generalize H.g pre ins A=g0 at *
 generalize (List.replicate xs.length (0:Int)).map I=Z at *;refine aq (fn:=q67) (s:=⟨[(6,LI out)],[],g1⟩) rfl rfl (qkl ?h1) ?r1
 case h1=>simp[hz,hL,hk]
 case r1=>simp[am,results,q67,ao,au,ai]
end
theorem sq {xs:List Int} (h:xs.length<=1000000) (gh:List GObj):ac pg 83 [LI xs] gh=some (.sl true 1 (xs.map I),gh):=by have hm:=MB;have:ac pg 83 [.sl false 1 (xs.map I)] gh=gf 1 8 [.sl false 1 (xs.map I)] gh:=rfl;rw[this,gf,if_pos ⟨rfl,by rw[bC];omega⟩]
theorem F3 (n:Nat):List.flatMap PV.cells (List.replicate n (PV.int .i64 0))=(List.replicate n (0:Int)).map I:=by
 induction n with
 |zero=>rfl
 |succ n ih=>rw[List.replicate_succ,List.replicate_succ,cO,ih];rfl
theorem F4 {n:Nat} (h:n<=1000000) (gh:List GObj):ac pg 392 [I (n:Int)] gh=some (.bs true gh.length 0 n 1,gh++[.cells ((List.replicate n (0:Int)).map I)]):=by
 refine aq (fn:=q6o) (s:=⟨[(2,.bs true gh.length 0 n 1)],[],gh++[.cells ((List.replicate n (0:Int)).map I)]⟩) rfl rfl (qk9 ?h1) ?r1
 case h1=>
  have:=F3 n;simp only[oq h,Int.toNat_natCast,this];rfl
 case r1=>simp[am,results,q6o,ai]
def j6:List Bool->Bool->Bool
 |[],c=>c
 |b::l,c=>j6 l (c&& !b)
theorem sr:∀(l:List Bool) (c:Bool),j6 l c=(c&&decide (num l=0))
 |[],c=>by simp[j6,num]
 | b::l,c=>by
  rw[j6,sr l,num];cases b
  ·have:decide (0+2*num l=0)=decide (num l=0):=by congr 1;exact propext ⟨λh=>by omega,λh=>by omega⟩
   simp only[Bool.not_false,Bool.and_true,bP,if_false];rw[this]
  ·rw[aF (p:=(if true=true then 1 else 0)+2*num l=0) (by simp)]
   simp
def qB (x y:List Bool):List Bool:=d9 (j6 y true) ((zB x.length).map (!·)) (ovB x.length (y++[false]) x).2
def rB (x y:List Bool):List Bool:=d9 (j6 y true) x ((ovB x.length (y++[false]) x).1.take x.length)
theorem F5 {x y:List Bool} (h:y.length=x.length):(qB x y).length=x.length:=by
 unfold qB d9;split
 ·simp[zB]
 ·exact (od (by simp[h]) x).2
theorem F6 {x y:List Bool} (h:y.length=x.length):(rB x y).length=x.length:=by
 unfold rB d9;split
 ·rfl
 ·rw[cK,(od (by simp[h]) x).1];omega
theorem F7 {x y:List Bool} (h:y.length=x.length):num (qB x y)=if num y=0 then 2^x.length-1 else num x/num y:=by
 unfold qB d9;rw[sr,Bool.true_and];by_cases h0:num y=0
 ·rw[aG h0,if_pos rfl,if_pos h0]
  have:=mq (zB x.length);rw[zB,gI,bN] at this;unfold zB;omega
 ·rw[aF h0,if_neg h0]
  exact (sg h (by omega) x).2
theorem F8 {x y:List Bool} (h:y.length=x.length):num (rB x y)=if num y=0 then num x else num x%num y:=by
 unfold rB d9;rw[sr,Bool.true_and];by_cases h0:num y=0
 ·rw[aG h0,if_pos rfl,if_pos h0]
 ·rw[aF h0,if_neg h0]
  have h1:=(sg h (by omega) x).1;have h2:=de y;have h3:=Nat.mod_lt (num x) (show 0<num y by omega);rw[h] at h2
  show num ((ovB x.length (y++[false]) x).1.take x.length)=_
  rw[nV,h1,cP (by omega)]
section
variable {pre:List GObj} {ins:Int} {v:List Bool}
theorem F9 {A:List (Int×Int)} {H:BC} {x y:GObj} {J:List GObj}:((H.push (x::J)).g pre ins A).set (pre.length+3+H.post.length) y=(H.push (y::J)).g pre ins A:=by unfold BC.g BC.push;rw[List.set_append_right _ _ (by omega),show pre.length+3+H.post.length-pre.length=H.post.length+3 by omega];simp
theorem Ga {A:List (Int×Int)} {H:BC} {x:GObj} {J:List GObj}:((H.push (x::J)).g pre ins A)[pre.length+3+H.post.length]?=some x:=mu (by simp[BC.push])
theorem Gb {G0 G1 G2 G3 G4:List GObj} {X Y W OF S P:List PV} {left:List PV} {x nl:Int} {n i b:Nat} {o:Bool} (hi:i<n) (hn:n<=100) (hX:X[i]?=some (I x)) (hL:left.length=n+1) (hOF:OF.length=n)
  (h1:ac pg 232 [.ptr true (pre.length+2) 0,.sl false 1 (I x::left.take n),.sl false 1 W] G0=some (I nl,G1))
  (h2:ac pg 221 [.ptr true (pre.length+2) 0,.sl false 1 (I x::left.take n),.sl false 1 W] G1=some (.sl false 1 S,G2))
  (h3:ac pg 234 [.ptr true (pre.length+2) 0,I (dg nl),.sl false 1 S,.sl false 1 (I x::left.take n)] G2=some (.sl false 1 P,G3))
  (hb:G3[b]?=some (.cells OF)) (hset:G3.set b (.cells (OF.set i (I (dg nl))))=G4) :
  q50 pg (pre.length+2) 0 (.sl false 1 X) (.sl false 1 Y) n (.sl o 1 left) (.sl true 1 W) (.bs true b 0 n 1) i G0=some (.normal,⟨[(0,.ptr true (pre.length+2) 0),(1,.sl false 1 X),(2,.sl false 1 Y),(8,I n),(9,.sl false 1 P),(10,.sl true 1 W),(11,.bs true b 0 n 1),(12,I ((i:Int)-1))],[],G4⟩):=by
 have hge:(0:Int)<=(i:Int):=by omega
 have e2:WI.wrap ((i:Int)-1)=(i:Int)-1:=a9 (by omega) (by omega);have hsp:bj OF i [I (dg nl)]=OF.set i (I (dg nl)):=by unfold bj;rw[List.set_eq_take_append_cons_drop,if_pos (by omega)];simp
 have hlt:(left.take n).length=n:=by rw[cK];omega
 have hmx:(n+1)*8<=maxBytes:=by have:=MB;omega
 have hn1:n<=n+1:=by omega
 have hio:i+1<=n:=by omega
 have hmx2:(1+n)*8<=maxBytes:=by omega
 generalize hT:left.take n=T at *;simp[q50,hge,hX,hL,hT,hlt,hmx,hmx2,hn1,hio,h1,h2,h3,jb,hi,hb,hOF,hsp,hset,e2]
theorem Ls.get:∀{xs:List Int} {bs:List Bool} {A:List (Int×Int)} {k:Nat},Ls ins v A xs bs->k<xs.length->Lt ins v A (xs.getD k 0) (bs.getD k false)
 |_::_,_::_,_,0,h,_=>h.1
 |_::xs,_::bs,_,k+1,h,hk=>Ls.get (xs:=xs) (bs:=bs) h.2 (by simpa using hk)
theorem wR {α:Type} {d:α}:∀{l:List α} {k:Nat},k<l.length->l.drop k=l.getD k d::l.drop (k+1)
 |_::_,0,_=>rfl
 |_::l,k+1,h=>wR (l:=l) (by simpa using h)
theorem wT (pre:List GObj) (hv:(v.length:Int)=ins) {xs ys wide:List Int} {bx bw:List Bool} {n:Nat} (hn:n<=100) (hxl:xs.length=n) (hwl:wide.length=n+1):∀(k:Nat) (A:List (Int×Int)) (left oft:List Int) (J:List GObj) (o:Bool),k<=n->bq ins A=0->A.length+21*(n+1)*k<=1000000->left.length=n+1->k+oft.length=n->
  Ls ins v A xs bx->Ls ins v A wide bw->Ls ins v A left (ovB n bw (bx.drop k)).1->Ls ins v A oft (ovB n bw (bx.drop k)).2->
  ∃ A' left' oft' J' o',(∀H:BC,ab pg q68 ⟨[(0,.ptr true (pre.length+2) 0),(1,LI xs),(2,LI ys),(8,I n),(9,.sl o 1 (left.map I)),(10,.sl true 1 (wide.map I)),(11,.bs true (pre.length+3+H.post.length) 0 n 1),(12,I ((k:Int)-1))],[],(H.push (.cells ((List.replicate k 0++oft).map I)::J)).g pre ins A⟩=
    some (.normal,⟨[(0,.ptr true (pre.length+2) 0),(1,LI xs),(2,LI ys),(8,I n),(9,.sl o' 1 (left'.map I)),(11,.bs true (pre.length+3+H.post.length) 0 n 1)],[],(H.push (.cells (oft'.map I)::J')).g pre ins A'⟩))/\
   Stp ins A A' (21*(n+1)*k)/\left'.length=n+1/\oft'.length=n/\Ls ins v A' left' (ovB n bw bx).1/\Ls ins v A' oft' (ovB n bw bx).2
 |0,A,left,oft,J,o,_,hc,_,hl,ho,_,_,h1,h2=>by
  refine⟨A,left,oft,J,o,λH=>?_,Stp.refl hc,hl,by omega,h1,h2⟩;have hlt:¬(0:Int)<=((0:Nat):Int)-1:=by omega
  rw[List.replicate_zero,bI];refine (cm (s1:=?s1) (q50_ ?h1)).trans ?r1
  case h1=>simp only[q50,aF hlt,dq,fw,mi];rfl
  case r1=>simp[keep]
 | k+1,A,left,oft,J,o,hk,hc,hs,hl,ho,hx,hw,h1,h2=>by
  rw[Nat.mul_add,Nat.mul_one] at hs;have hxk:=hx.get (k:=k) (by omega);have hxl':Ls ins v A (xs.getD k 0::left.take n) (bx.getD k false::(ovB n bw (bx.drop (k+1))).1.take n):=⟨hxk,h1.take n⟩
  have hll:(xs.getD k 0::left.take n).length=n+1:=by simp;omega
  have hbl:bx.length=n:=by rw[hx.len,hxl]
  have hdr:bx.drop k=bx.getD k false::bx.drop (k+1):=wR (by omega);obtain⟨A1,nl,f1,s1,l1⟩:=sn pre hv hc (xs:=xs.getD k 0::left.take n) (ys:=wide) (by rw[hll];omega) (by rw[hll];omega) (by rw[hll,hwl]) hxl' hw;rw[hll] at s1;have b1:=s1.2.1;obtain⟨A2,sb,f2,s2,l2⟩:=sm pre hv s1.1 (xs:=xs.getD k 0::left.take n) (ys:=wide) (by rw[hll];omega) (by rw[hll];omega) (by rw[hll,hwl]) (hxl'.mono hv s1) (hw.mono hv s1);rw[hll] at s2;have b2:=s2.2.1;have hbw:bw.length=n+1:=by rw[hw.len,hwl]
  have hsb:sb.length=n+1:=by rw[<-l2.len,n0 (by rw[hxl'.len,hll,hbw]),hxl'.len,hll]
  obtain⟨A3,pk,f3,s3,l3⟩:=ld pre hv s2.1 (c:=dg nl) (bc:= !gJ (bx.getD k false::(ovB n bw (bx.drop (k+1))).1.take n) bw) (xs:=sb) (ys:=xs.getD k 0::left.take n) (by rw[hsb];omega) (by rw[hsb];omega) (by rw[hsb,hll]) ((l1.not s1.1).mono hv s2) l2 (hxl'.mono hv (s1.trans s2));rw[hsb] at s3;have b3:=s3.2.1;have t3:=(s1.trans s2).trans s3
  have hov:ovB n bw (bx.drop k)=(d9 (!gJ (bx.getD k false::(ovB n bw (bx.drop (k+1))).1.take n) bw) (jE (bx.getD k false::(ovB n bw (bx.drop (k+1))).1.take n) bw) (bx.getD k false::(ovB n bw (bx.drop (k+1))).1.take n),(!gJ (bx.getD k false::(ovB n bw (bx.drop (k+1))).1.take n) bw)::(ovB n bw (bx.drop (k+1))).2):=by rw[hdr,ovB,ovS]
  have hpk:pk.length=n+1:=by
   rw[<-l3.len];unfold d9;split
   ·rw[l2.len,hsb]
   ·rw[hxl'.len,hll]
  obtain⟨A4,left',oft',J',o',g1,g2,g3,g4,g5,g6⟩:=wT pre hv (ys:=ys) hn hxl hwl k A3 pk (dg nl::oft) (J++pkJ pre (dg nl)) false (by omega) s3.1 (by omega) hpk (by simp;omega) (hx.mono hv t3) (hw.mono hv t3) (by rw[hov];exact l3) (by rw[hov];exact⟨(l1.not s1.1).mono hv (s2.trans s3),h2.mono hv t3⟩);refine⟨A4,left',oft',J',o',λH=>?_,(t3.trans g2).mono (by have e:=Nat.mul_add (21*(n+1)) k 1;rw[Nat.mul_one] at e;omega),g3,g4,g5,g6⟩;have hX:(xs.map I)[k]?=some (I (xs.getD k 0)):=by rw[aB,aM,aA (by omega)];rfl
  have eT:(xs.getD k 0::left.take n).map I=I (xs.getD k 0)::(left.map I).take n:=by simp
  have r1:=f1 (H.push (.cells ((List.replicate (k+1) 0++oft).map I)::J));have r2:=f2 (H.push (.cells ((List.replicate (k+1) 0++oft).map I)::J));have r3:=f3 (H.push (.cells ((List.replicate (k+1) 0++oft).map I)::J)) _ (.inl rfl);rw[lc,bJ] at r3;unfold LI at r1 r2 r3;rw[eT] at r1 r2 r3;have hOF:((List.replicate (k+1) (0:Int)++oft).map I).length=n:=by simp;omega
  have hset:((List.replicate (k+1) (0:Int)++oft).map I).set k (I (dg nl))=(List.replicate k (0:Int)++dg nl::oft).map I:=by rw[List.replicate_succ',aZ,bK,List.set_append_right _ _ (by simp),bK];simp
  have hb:=Gb (pre:=pre) (Y:=ys.map I) (o:=o) (i:=k) (by omega) hn hX (by simpa using hl) hOF r1 r2 r3 Ga F9;rw[hset] at hb;rw[show (((k+1:Nat):Int)-1)=(k:Int) by omega];refine bh (q50_ hb) ?_;exact g1 H
theorem Gc {G G2:List GObj} {V1 V9 Y:List PV} {o9:Bool} {m0 m1 m2 m3 m4 bits:PV} {b n k i l:Nat} {c y c2:Int} (hi:i<l) (hn:l<=1000) (hY:Y[i]?=some (I y)) (hbg:G[pre.length+2]?=some (.cells [.ptr true (pre.length+1) 0,m0,m1,m2,m3,m4,bits]))
  (h1:ac pg 49 [.ptr true (pre.length+1) 0,I c,I (dg y)] G=some (I c2,G2)) :
  q51 pg (pre.length+2) 0 (.sl false 1 V1) n (.sl o9 1 V9) (.bs true b 0 k 1) c (.sl false 1 Y) l i G=some (.normal,⟨[(0,.ptr true (pre.length+2) 0),(1,.sl false 1 V1),(8,I n),(9,.sl o9 1 V9),(11,.bs true b 0 k 1),(14,I c2),(61,.sl false 1 Y),(62,I l),(63,I ((i+1:Nat):Int))],[],G2⟩):=by
 have hltI:(i:Int)<(l:Int):=by omega
 have e2:=wrS' i (by omega);simp[q51,hltI,hY,hbg,jb,h1,e2]
theorem wU (pre:List GObj) (hv:(v.length:Int)=ins) {V1 V9:List PV} {o9:Bool} {n k:Nat}:∀(ry py:List Int) (cs:List Bool) (A:List (Int×Int)) (c:Int) (bc:Bool),bq ins A=0->A.length+ry.length<=1000000->py.length+ry.length<=1000->Ls ins v A ry cs->Lt ins v A c bc->
  ∃ A' c',(∀(H:BC) (b:Nat),ab pg q69 ⟨[(0,.ptr true (pre.length+2) 0),(1,.sl false 1 V1),(8,I n),(9,.sl o9 1 V9),(11,.bs true b 0 k 1),(14,I c),(61,LI (py++ry)),(62,I ((py.length+ry.length:Nat):Int)),(63,I (py.length:Int))],[],H.g pre ins A⟩=
    some (.normal,⟨[(0,.ptr true (pre.length+2) 0),(1,.sl false 1 V1),(8,I n),(9,.sl o9 1 V9),(11,.bs true b 0 k 1),(14,I c')],[],H.g pre ins A'⟩))/\
   Stp ins A A' ry.length/\Lt ins v A' c' (j6 cs bc)
 |[],py,[],A,c,bc,hc,_,_,_,hcc=>by
  refine⟨A,c,λH b=>?_,Stp.refl hc,hcc⟩;have hlt:¬((py.length:Nat):Int)<((py.length+([]:List Int).length:Nat):Int):=by simp
  refine (cm (s1:=?s1) (q51_ ?h1)).trans ?r1
  case h1=>simp only[q51,aF hlt,dq];rfl
  case r1=>simp[keep]
 |y::ry,py,b::cs,A,c,bc,hc,hs,hp,hy,hcc=>by
  simp only[bB] at hs hp;obtain⟨A1,c1,f1,s1,l1⟩:=iI pre hv hc (by omega) hcc (hy.1.not hc);have b1:=s1.2.1;obtain⟨A2,c2,g1,g2,g3⟩:=wU pre hv ry (py++[y]) cs A1 c1 _ s1.1 (by omega) (by simp;omega) (hy.2.mono hv s1) l1;refine⟨A2,c2,λH b=>?_,(s1.trans g2).mono (by simp only[bB];omega),g3⟩;have hb:=Gc (V1:=V1) (V9:=V9) (o9:=o9) (b:=b) (n:=n) (k:=k) (l:=py.length+(y::ry).length) (i:=py.length) (by simp) (by simp only[bB];omega) (get_at (rx:=ry) (x:=y) rfl) ip (f1 H);refine bh (q51_ hb) ?_;have hg:=g1 H b
  rw[show (py++[y]).length+ry.length=py.length+(y::ry).length by simp;omega,show (py++[y]).length=py.length+1 by simp,aZ py [y] ry] at hg;exact hg
end
section
variable {pre:List GObj} {ins:Int} {v:List Bool}
theorem Gd {G G2 G3:List GObj} {V1 L Q R:List PV} {o9:Bool} {b n:Nat} {c:Int} (hn:n<=1000) (hL:L.length=n+1)
  (h1:ac pg 234 [.ptr true (pre.length+2) 0,I c,LI ((List.replicate n (0:Int)).map dg),.bs true b 0 n 1] G=some (.sl false 1 Q,G2))
  (h2:ac pg 234 [.ptr true (pre.length+2) 0,I c,.sl false 1 V1,.sl false 1 (L.take n)] G2=some (.sl false 1 R,G3)) :
  ab pg q3t ⟨[(0,.ptr true (pre.length+2) 0),(1,.sl false 1 V1),(8,I n),(9,.sl o9 1 L),(11,.bs true b 0 n 1),(14,I c)],[],G⟩=some (.ret,⟨[(6,.sl false 1 Q),(7,.sl false 1 R)],[],G3⟩):=by
 have hz:=jc (n:=n) (by omega) G;have hf:=oo (xs:=List.replicate n (0:Int)) (by simp;omega) G;have hn1:n<=n+1:=by omega
 refine qkm ?_;generalize (List.replicate n (0:Int)).map dg=ZN at *;unfold LI at *;generalize (List.replicate n (0:Int)).map I=ZI at *;generalize ZN.map I=ZZ at *;simp[hz,hf,h1,h2,hL,hn1]
theorem wV (pre:List GObj) (hv:(v.length:Int)=ins) {A:List (Int×Int)} (hc:bq ins A=0) {xs ys:List Int} {bs cs:List Bool} (hs:A.length+21*(xs.length+1)*xs.length+7*xs.length<=1000000) (hn:xs.length<=100) (hl:ys.length=xs.length)
  (hx:Ls ins v A xs bs) (hy:Ls ins v A ys cs) :
  ∃A' q r J,(∀H:BC,ac pg 227 [.ptr true (pre.length+2) 0,LI xs,LI ys] (H.g pre ins A)=some (.tup [LI q,LI r],(H.push J).g pre ins A'))/\Stp ins A A' (21*(xs.length+1)*xs.length+7*xs.length)/\Ls ins v A' q (qB bs cs)/\Ls ins v A' r (rB bs cs):=by
 obtain⟨hi,_,_,_⟩:=dK hc;generalize hnn:xs.length=n at *;have hbl:bs.length=n:=by rw[hx.len,hnn]
 have hcl:cs.length=n:=by rw[hy.len,hl]
 have hd0:bs.drop n=[]:=aQ (by omega);have hw:Ls ins v A (ys++[0]) (cs++[false]):=hy.app ⟨mr hi.1,trivial⟩;obtain⟨A1,left,oft,J,o,f1,s1,g1,g2,l1,l2⟩:=wT pre hv (ys:=ys) hn hnn (wide:=ys++[0]) (by simp;omega) n A (List.replicate (n+1) 0) [] [] true (cQ _) hc (by omega) (by simp) (by simp) hx hw (by rw[hd0];exact Ls.zeros hi.1 _) (by rw[hd0];trivial);have b1:=s1.2.1;obtain⟨A2,c,f2,s2,l3⟩:=wU pre hv (V1:=xs.map I) (V9:=left.map I) (o9:=o) (n:=n) (k:=n) ys [] cs A1 1 true s1.1 (by omega) (by simp;omega) (hy.mono hv s1) (ms hi.1);rw[hl] at s2;have b2:=s2.2.1
 have hzn:((List.replicate n (0:Int)).map dg).length=n:=by simp
 obtain⟨A3,q,f3,s3,l4⟩:=ld pre hv s2.1 (c:=c) (xs:=(List.replicate n (0:Int)).map dg) (ys:=oft) (by rw[hzn];omega) (by rw[hzn];omega) (by rw[hzn,g2]) l3 ((Ls.zeros hi.1 n).not s2.1) (l2.mono hv s2);rw[hzn] at s3;have b3:=s3.2.1;have t3:=(s1.trans s2).trans s3;obtain⟨A4,r,f4,s4,l5⟩:=ld pre hv s3.1 (c:=c) (xs:=xs) (ys:=left.take n) (by rw[hnn];omega) (by omega) (by simp;omega) (l3.mono hv s3) (hx.mono hv t3) ((l1.mono hv (s2.trans s3)).take n);rw[hnn] at s4;refine⟨A4,q,r,.cells (oft.map I)::(J++pkJ pre c++pkJ pre c),λH=>?_,(t3.trans s4).mono (by omega),?_,?_⟩
 ·have e1:=f1 H
  have e2:=f2 (H.push (.cells (oft.map I)::J)) (pre.length+3+H.post.length);have e3:=f3 (H.push (.cells (oft.map I)::J)) (.bs true (pre.length+3+H.post.length) 0 oft.length 1) (.inr ⟨H.post.length,rfl,by simp[BC.push]⟩);have e4:=f4 ((H.push (.cells (oft.map I)::J)).push (pkJ pre c)) (LI (left.take n)) (.inl rfl);rw[g2] at e3;rw[lc,lc] at e4;rw[lc] at e3;simp only[bJ] at e3 e4;have ek:=Gd (pre:=pre) (V1:=xs.map I) (L:=left.map I) (o9:=o) (b:=pre.length+3+H.post.length) (n:=n) (c:=c) (by omega) (by simpa using g1) e3 (by rw[<-List.map_take];exact e4)
  have hz1:=jc (n:=n+1) (by omega) (H.g pre ins A);have hz2:=F4 (n:=n) (by omega) (H.g pre ins A);have hcl2:=sq (xs:=ys) (by omega) (H.g pre ins A);have hpg:(H.push [.cells ((List.replicate n (0:Int)).map I)]).g pre ins A=H.g pre ins A++[.cells ((List.replicate n (0:Int)).map I)]:=by simp[BC.push,BC.g]
  rw[oe,<-hpg] at hz2;rw[show ((n+1:Nat):Int)=(n:Int)+1 by omega] at hz1;have ew1:WI.wrap ((n:Int)+1)=(n:Int)+1:=a9 (by omega) (by omega);have ew2:WI.wrap ((n:Int)-1)=(n:Int)-1:=a9 (by omega) (by omega);have hmx:(n+1)*8<=maxBytes:=by have:=MB;omega
  have hyl:(ys.map I).length=n:=by simpa using hl
  have hxl:(xs.map I).length=n:=by simpa using hnn
  rw[bH,bK,bQ,bR] at e1;simp only[bI,bZ,cR,aX,hl] at e2;have ek1:ab pg q3u ⟨[(0,.ptr true (pre.length+2) 0),(1,LI xs),(2,LI ys),(8,I n),(9,.sl o 1 (left.map I)),(11,.bs true (pre.length+3+H.post.length) 0 n 1)],[],(H.push (.cells (oft.map I)::J)).g pre ins A1⟩=some (.ret,⟨[(6,LI q),(7,LI r)],[],(H.push (.cells (oft.map I)::(J++pkJ pre c++pkJ pre c))).g pre ins A4⟩):=by refine qkn ?_;unfold LI at *;generalize ys.map I=YS at *;generalize xs.map I=XS at *;generalize left.map I=LS at *;simp[hyl,e2,ek]
  generalize pre.length+3+H.post.length=b at *;generalize (H.push (.cells (oft.map I)::(J++pkJ pre c++pkJ pre c))).g pre ins A4=G4 at *;generalize (H.push (.cells (oft.map I)::J)).g pre ins A1=G1 at *;generalize (H.push [.cells ((List.replicate n (0:Int)).map I)]).g pre ins A=G0' at *;generalize H.g pre ins A=G0 at *;refine aq (fn:=q6a) (s:=⟨[(6,LI q),(7,LI r)],[],G4⟩) rfl rfl (qko ?h1) ?r1
  case h1=>
   unfold LI at *;generalize ys.map I=YS at *;generalize xs.map I=XS at *;generalize left.map I=LS at *;generalize (List.replicate (n+1) (0:Int)).map I=Z1 at *;simp[hxl,hyl,ew1,ew2,hz1,hcl2,hz2,hmx,e1,ek1]
  case r1=>simp[am,results,q6a,ao,au,ai]
 ·unfold qB
  rw[hbl];exact l4.mono hv s4
 ·unfold rB
  rw[hbl];exact l5
theorem Ge {xs:List Int} {m:Nat} (hl:xs.length<=1000) (hm:m<=xs.length) (gh:List GObj):ac pg 228 [LI xs,I (m:Int)] gh=some (LI (List.replicate m 0++xs.take (xs.length-m)),gh):=by
 have hz:=jc (n:=m) (by omega) gh;have ew:WI.wrap ((xs.length:Int)-(m:Int))=((xs.length-m:Nat):Int):=by rw[a9 (by omega) (by omega)];omega
 have hmx:(m+(xs.length-m))*8<=maxBytes:=by have:=MB;omega
 have hmx2:xs.length*8<=maxBytes:=by have:=MB;omega
 have hg:=fB (List.replicate m 0++xs.take (xs.length-m));have e1:(List.replicate m 0++xs.take (xs.length-m)).map I=(List.replicate m (0:Int)).map I++(xs.map I).take (xs.length-m):=by simp
 have hr:((List.replicate m (0:Int)).map I).length=m:=by simp
 have hxl:(xs.map I).length=xs.length:=by simp
 have hxt:((xs.map I).take (xs.length-m)).length=xs.length-m:=by simp
 unfold LI;rw[e1] at hg ⊢;generalize (List.replicate m (0:Int)).map I=Z at *;generalize xs.map I=X at *;generalize hX:X.take (xs.length-m)=XT at *;have hle:xs.length-m<=xs.length:=by omega
 refine aq (fn:=q6b) (s:=⟨[(4,.sl true 1 (Z++XT))],[],gh⟩) rfl rfl (qku ?h1) ?r1
 case h1=>simp[hz,ew,hxl,hX,hr,hxt,hmx,hmx2,hm]
 case r1=>simp[am,results,q6b,ao,au,ai,hg]
theorem Gf {xs:List Int} {m:Nat} (hl:xs.length<=1000) (hm:m<=xs.length) (gh:List GObj):ac pg 230 [LI xs,I (m:Int)] gh=some (LI (xs.drop m++List.replicate m 0),gh):=by
 have hz:=jc (n:=m) (by omega) gh;have hcl:=sq (xs:=xs.drop m) (by simp;omega) gh;have hmx:(xs.length-m+m)*8<=maxBytes:=by have:=MB;omega
 have hmx2:xs.length*8<=maxBytes:=by have:=MB;omega
 have hg:=fB (xs.drop m++List.replicate m 0);have e1:(xs.drop m++List.replicate m 0).map I=(xs.drop m).map I++(List.replicate m (0:Int)).map I:=by simp
 have hr:((List.replicate m (0:Int)).map I).length=m:=by simp
 have hxl:(xs.map I).length=xs.length:=by simp
 have hxt:((xs.drop m).map I).length=xs.length-m:=by simp
 have hX:(xs.map I).drop m=(xs.drop m).map I:=by simp
 have htk:(xs.map I).take xs.length=xs.map I:=bM (by omega);unfold LI at *;rw[e1] at hg ⊢;generalize (List.replicate m (0:Int)).map I=Z at *;generalize (xs.drop m).map I=XD at *;generalize xs.map I=X at *;refine aq (fn:=q6e) (s:=⟨[(4,.sl true 1 (XD++Z))],[],gh⟩) rfl rfl (qkw ?h1) ?r1
 case h1=>simp[hz,hcl,hxl,hX,htk,hr,hxt,hmx,hmx2,hm]
 case r1=>simp[am,results,q6e,ao,au,ai,hg]
theorem wW {b:Int} {w:Nat} (hw:w<=1000) (gh:List GObj):∀(k:Nat) (xs:List Int) (o:Bool),xs.length+k=w->
  ab pg q6j ⟨[(0,.sl true 1 (xs.map I)),(1,I (w:Int)),(2,I b)],[],gh⟩=some (.normal,⟨[(0,.sl true 1 ((xs++List.replicate k b).map I))],[],gh⟩)
 |0,xs,o,h=>by
  have hlt:¬((xs.length:Nat):Int)<(w:Int):=by omega
  have hxl:(xs.map I).length=xs.length:=by simp
  rw[List.replicate_zero,bH];generalize xs.map I=X at *;refine (cm (s1:=?s1) (qgu ?h1)).trans ?r1
  case h1=>simp only[ig,ie,ii,hxl,aF hlt,dq,fw];rfl
  case r1=>simp[keep]
 | k+1,xs,o,h=>by
  have hlt:((xs.length:Nat):Int)<(w:Int):=by omega
  have hxl:(xs.map I).length=xs.length:=by simp
  have hmx:(xs.length+1)*8<=maxBytes:=by have:=MB;omega
  have hlt2:xs.length<w:=by omega
  have ih:=wW (b:=b) hw gh k (xs++[b]) o (by simp;omega);rw[aZ,show [b]++List.replicate k b=List.replicate (k+1) b by rw[List.replicate_succ];rfl,bK (l₁:=xs) (l₂:=[b])] at ih;refine bh (s1:=⟨[(0,.sl true 1 (xs.map I++[b].map I)),(1,I (w:Int)),(2,I b)],[],gh⟩) (qgu ?h2) ih
  case h2=>
   generalize xs.map I=X at *;simp[hxl,hlt2,hmx]
theorem w6 {xs:List Int} {w:Nat} {b:Int} (hw:w<=1000) (hl:xs.length<=w) (gh:List GObj):ac pg 235 [LI xs,I (w:Int),I b] gh=some (LI (xs++List.replicate (w-xs.length) b),gh):=by
 have hL:=wW (b:=b) hw gh (w-xs.length) xs true (by omega);have hcl:=sq (xs:=xs) (by omega) gh;have hg:=fB (xs++List.replicate (w-xs.length) b);unfold LI at *;generalize (xs++List.replicate (w-xs.length) b).map I=R at *;generalize xs.map I=X at *;have hk:ab pg q3w ⟨[(0,.sl true 1 R)],[],gh⟩=some (.ret,⟨[(6,.sl false 1 R)],[],gh⟩):=qkx (by simp);refine aq (fn:=q6k) (s:=⟨[(6,.sl false 1 R)],[],gh⟩) rfl rfl (qky ?h1) ?r1
 case h1=>simp[hcl,hL,hk]
 case r1=>simp[am,results,q6k,ao,au,ai,hg]
theorem w7 {xs:List Int} {n:Nat} (hn:xs.length=n+1) (hl:n<=1000) (gh:List GObj):ac pg 233 [LI xs] gh=some (LI (xs.set n (dg (xs.getD n 0))),gh):=by
 have hm:=MB;have hne:xs.map I≠[]:=by intro h;have:=congrArg List.length h;simp at this;subst this;simp at hn
 have hfl:(xs.map I).all cx=true:=by rw[bS];intro v hv;obtain⟨n,-,rfl⟩:=List.mem_map.1 hv;rfl
 have hcl:ac pg 121 [.sl false 1 (xs.map I)] gh=some (.stk gh.length 1 (n+1),gh++[.stk 1 (xs.map I)]):=by have:ac pg 121 [.sl false 1 (xs.map I)] gh=jt 8 [.sl false 1 (xs.map I)] gh:=rfl;rw[this,jt,if_neg (by simpa using hne),if_pos ⟨rfl,by rw[bC];omega,hfl⟩,bC,hn]
 have ew:WI.wrap ((n:Int)+1-1)=(n:Int):=by rw[show (n:Int)+1-1=n by omega];exact a9 (by omega) (by omega)
 have ew2:WI.wrap (n:Int)=(n:Int):=a9 (by omega) (by omega);have hx:(xs.map I)[n]?=some (I (xs.getD n 0)):=by rw[aB,aM,aA (by omega)];rfl
 have hst:((xs.map I).set n (I (dg (xs.getD n 0))))=(xs.set n (dg (xs.getD n 0))).map I:=by rw[List.map_set]
 have hg:=fB (xs.set n (dg (xs.getD n 0)));have hxl:(xs.map I).length=n+1:=by simpa using hn
 have hrl:((xs.set n (dg (xs.getD n 0))).map I).length=n+1:=by simpa using hn
 unfold LI;rw[<-hst] at hg hrl ⊢;generalize xs.map I=X at *;generalize xs.getD n 0=y at *;have hsg:jx (gh++[.stk 1 X]) gh.length=some (1,X):=by simp[jx]
 have hgt:iQ (gh++[.stk 1 X]) gh.length 1 n=some (I y):=by simp[iQ,hx]
 have hn1:(n:Int)<(n:Int)+1:=by omega
 refine aq (fn:=q6h) (s:=⟨[(2,.stk gh.length 1 (n+1))],[],gh++[.stk 1 (X.set n (I (dg y)))]⟩) rfl rfl (ql0 ?h1) ?r1
 case h1=>simp[hcl,ew2,hgt,hn1,jb,hsg,hxl,cx]
 case r1=>
  have hf:frz gh.length (gh++[.stk 1 (X.set n (I (dg y)))]) (.stk gh.length 1 (n+1))= .sl false 1 (X.set n (I (dg y))):=by rw[D8 (xs:=X.set n (I (dg y))) (by simp) (cQ _) (by omega),bM (by omega)]
  generalize X.set n (I (dg y))=XS at *;simp[am,results,q6h,ao,au,ai,hf,hg]
end
def jI (up:Bool) (xs:List Int) (m:Nat):List Int:=if up then List.replicate m 0++xs.take (xs.length-m) else xs.drop m++List.replicate m 0
def gK (up:Bool):Nat:=if up then 228 else 230
theorem Gu {up:Bool} {xs:List Int} {m:Nat} (hl:xs.length<=1000) (hm:m<=xs.length) (gh:List GObj):ac pg (gK up) [LI xs,I (m:Int)] gh=some (LI (jI up xs m),gh):=by
 cases up
 ·exact Gf hl hm gh
 ·exact Ge hl hm gh
section
variable {pre:List GObj} {ins:Int} {v:List Bool}
theorem xk {G G2:List GObj} {X V Y R:List PV} {o:Bool} {f i n:Nat} {c:Int} (h:ac pg 234 [.ptr true (pre.length+2) 0,I c,.sl false 1 V,.sl false 1 X] G=some (.sl false 1 R,G2)) :
  ab pg q1s ⟨[(0,.ptr true (pre.length+2) 0),(1,.sl false 1 X),(3,.fn f []),(10,I c),(11,.sl o 1 V),(12,.sl false 1 Y),(13,I n),(14,I i)],[],G⟩=some (.normal,⟨[(0,.ptr true (pre.length+2) 0),(1,.sl false 1 R),(3,.fn f []),(12,.sl false 1 Y),(13,I n),(14,I i)],[],G2⟩):=
 qkp (by simp[h])
theorem xm {G:List GObj} {X Y:List PV} {f i n:Nat} (hi:i<=1000) :
  ab pg q1t ⟨[(0,.ptr true (pre.length+2) 0),(1,.sl false 1 X),(3,.fn f []),(12,.sl false 1 Y),(13,I n),(14,I i)],[],G⟩=some (.normal,⟨[(0,.ptr true (pre.length+2) 0),(1,.sl false 1 X),(3,.fn f []),(12,.sl false 1 Y),(13,I n),(14,I ((i+1:Nat):Int))],[],G⟩):=
 qkq (by simp[wrS' i (by omega)])
theorem Gv {G G2:List GObj} {xs vs:List Int} {Y R:List PV} {up:Bool} {i n:Nat} {c:Int} (hi:i<n) (hn:n<=8) (hl:xs.length<=100) (hY:Y[i]?=some (I c)) (hv:vs=if 2^i<xs.length then jI up xs (2^i) else List.replicate xs.length 0)
  (h:ac pg 234 [.ptr true (pre.length+2) 0,I c,.sl false 1 (vs.map I),.sl false 1 (xs.map I)] G=some (.sl false 1 R,G2)) :
  q36 pg (pre.length+2) 0 (.sl false 1 (xs.map I)) (.fn (gK up) []) (.sl false 1 Y) n i G=some (.normal,⟨[(0,.ptr true (pre.length+2) 0),(1,.sl false 1 R),(3,.fn (gK up) []),(12,.sl false 1 Y),(13,I n),(14,I ((i+1:Nat):Int))],[],G2⟩):=by
 have hltI:(i:Int)<(n:Int):=by omega
 have hz:=jc (n:=xs.length) (by omega) G;have hsh:dH .i64 1 (i:Int)=((2^i:Nat):Int):=by rw[nO (by omega)];simp
 have hxl:(xs.map I).length=xs.length:=by simp
 have hge:(0:Int)<=(i:Int):=by omega
 by_cases hp:2^i<xs.length
 ·rw[if_pos hp] at hv
  subst hv;have hm:=Gu (up:=up) (xs:=xs) (m:=2^i) (by omega) (by omega) G;have hd:decide (((2^i:Nat):Int)<(xs.length:Int))=true:=aG (by omega);generalize 2^i=p at *;have hk1:=xk (pre:=pre) (Y:=Y) (o:=false) (f:=gK up) (i:=i) (n:=n) h;have hk2:=xm (pre:=pre) (G:=G2) (X:=R) (Y:=Y) (f:=gK up) (i:=i) (n:=n) (by omega);unfold LI at hm;generalize (jI up xs p).map I=M at *;generalize (List.replicate xs.length (0:Int)).map I=Z at *;generalize xs.map I=X at *;generalize gK up=f at *;simp only[q36,aG hltI,dO];simp[hY,hz,hsh,hxl,hp,hm,hk1,hk2]
 ·rw[if_neg hp] at hv
  subst hv;have hd:decide (((2^i:Nat):Int)<(xs.length:Int))=false:=aF (by omega);generalize 2^i=p at *;have hk1:=xk (pre:=pre) (Y:=Y) (o:=true) (f:=gK up) (i:=i) (n:=n) h;have hk2:=xm (pre:=pre) (G:=G2) (X:=R) (Y:=Y) (f:=gK up) (i:=i) (n:=n) (by omega);generalize (List.replicate xs.length (0:Int)).map I=Z at *;generalize xs.map I=X at *;generalize gK up=f at *;simp only[q36,aG hltI,dO];simp[hY,hz,hsh,hxl,hp,hk1,hk2]
theorem Gw (hi:0<=ins) {A:List (Int×Int)} {up:Bool} {xs:List Int} {bs:List Bool} {n:Nat} (h:Ls ins v A xs bs):Ls ins v A (if n<xs.length then jI up xs n else List.replicate xs.length 0) (ja up bs n):=by
 unfold ja jI;rw[h.len];split
 ·cases up
  ·exact (h.drop _).app (Ls.zeros hi _)
  ·exact (Ls.zeros hi _).app (h.take _)
 ·exact Ls.zeros hi _
theorem oz {up:Bool} {xs:List Int} {n:Nat}:(if n<xs.length then jI up xs n else List.replicate xs.length 0).length=xs.length:=by
 unfold jI;split
 ·cases up
  ·simp;omega
  ·simp;omega
 ·simp
theorem xn (pre:List GObj) (hv:(v.length:Int)=ins) {up:Bool}:∀(ry py:List Int) (cs:List Bool) (A:List (Int×Int)) (xs:List Int) (bs:List Bool),bq ins A=0->A.length+3*xs.length*ry.length<=1000000->py.length+ry.length<=8->xs.length<=100->
  Ls ins v A xs bs->Ls ins v A ry cs->
  ∃A' out J,(∀H:BC,ab pg q6c ⟨[(0,.ptr true (pre.length+2) 0),(1,LI xs),(3,.fn (gK up) []),(12,LI (py++ry)),(13,I ((py.length+ry.length:Nat):Int)),(14,I (py.length:Int))],[],H.g pre ins A⟩=some (.normal,⟨[(1,LI out)],[],(H.push J).g pre ins A'⟩))/\
   Stp ins A A' (3*xs.length*ry.length)/\Ls ins v A' out (shB up py.length cs bs)
 |[],py,[],A,xs,bs,hc,_,_,_,hx,_=>by
  refine⟨A,xs,[],λH=>?_,Stp.refl hc,hx⟩;have hlt:¬((py.length:Nat):Int)<((py.length+([]:List Int).length:Nat):Int):=by simp
  rw[fA];refine (cm (s1:=?s1) (q36_ ?h1)).trans ?r1
  case h1=>simp only[q36,aF hlt,dq];rfl
  case r1=>simp[keep]
 | c::ry,py,b::cs,A,xs,bs,hc,hs,hp,hl,hx,hy=>by
  simp only[bB] at hs hp;rw[Nat.mul_add,Nat.mul_one] at hs;obtain⟨hi,_,_,_⟩:=dK hc;obtain⟨A1,r,f1,s1,l1⟩:=ld pre hv hc (c:=c) (bc:=b) (xs:=if 2^py.length<xs.length then jI up xs (2^py.length) else List.replicate xs.length 0) (ys:=xs) (by rw[oz];omega) (by rw[oz];omega) (by rw[oz]) hy.1 (Gw hi.1 hx) hx;rw[oz] at s1;have b1:=s1.2.1;have hr:r.length=xs.length:=by
   rw[<-l1.len];unfold d9;split
   ·rw[sh,hx.len]
   ·rw[hx.len]
  obtain⟨A2,out,J,g1,g2,g3⟩:=xn pre hv (up:=up) ry (py++[c]) cs A1 r _ s1.1 (by rw[hr];omega) (by simp;omega) (by omega) l1 (hy.2.mono hv s1);rw[hr] at g2;refine⟨A2,out,pkJ pre c++J,λH=>?_,(s1.trans g2).mono (by have e:=Nat.mul_add (3*xs.length) ry.length 1;simp only[bB];omega),?_⟩
  ·have hb:=Gv (pre:=pre) (up:=up) (xs:=xs) (i:=py.length) (n:=py.length+(c::ry).length) (by simp) (by simp only[bB];omega) hl (get_at (rx:=ry) (x:=c) rfl) rfl (f1 H _ (.inl rfl))
   refine bh (q36_ hb) ?_;have hg:=g1 (H.push (pkJ pre c));rw[show (py++[c]).length+ry.length=py.length+(c::ry).length by simp;omega,show (py++[c]).length=py.length+1 by simp,aZ py [c] ry,lc] at hg;exact hg
  ·rw[shB]
   rw[show (py++[c]).length=py.length+1 by simp] at g3;exact g3
theorem xp (pre:List GObj) (hv:(v.length:Int)=ins) {up:Bool} {A:List (Int×Int)} (hc:bq ins A=0) {xs ys:List Int} {bs cs:List Bool} (hs:A.length+3*xs.length*ys.length<=1000000) (hn:xs.length<=100) (hl:ys.length<=8)
  (hx:Ls ins v A xs bs) (hy:Ls ins v A ys cs) :
  ∃A' out J,(∀H:BC,ac pg 229 [.ptr true (pre.length+2) 0,LI xs,LI ys,.fn (gK up) []] (H.g pre ins A)=some (LI out,(H.push J).g pre ins A'))/\Stp ins A A' (3*xs.length*ys.length)/\Ls ins v A' out (shB up 0 cs bs):=by
 obtain⟨A',out,J,h1,h2,h3⟩:=xn pre hv (up:=up) ys [] cs A xs bs hc hs (by simpa using hl) hn hx hy;refine⟨A',out,J,λH=>?_,h2,h3⟩;have hL:=h1 H;simp only[bI,bZ,cR,aX] at hL;have hk:ab pg q3v ⟨[(1,LI out)],[],(H.push J).g pre ins A'⟩=some (.ret,⟨[(8,LI out)],[],(H.push J).g pre ins A'⟩):=qkr (by simp);generalize (H.push J).g pre ins A'=g1 at *;generalize H.g pre ins A=g0 at *;generalize gK up=f at *;refine aq (fn:=q6d) (s:=⟨[(8,LI out)],[],g1⟩) rfl rfl (qks ?h1) ?r1
 case h1=>simp[hL,hk]
 case r1=>simp[am,results,q6d,ao,au,ai]
def nkS (pre:List GObj) (k w a b c n:Int) (X Y Z:List PV) (o0 o1 o2:Bool) (G:List GObj):St:=
 ⟨[(0,.ptr true (pre.length+2) 0),(3,.ptr false 0 0),(5,.ptr false 1 0)],[[I k,I w,I a,I b,I c,I n],[.sl o0 1 X,.sl o1 1 Y,.sl o2 1 Z]],G⟩
variable {k w a b c n:Int} {X Y Z:List PV} {o0 o1 o2:Bool} {G G2:List GObj}
theorem Gx (hk:k=4)
  {R:List PV} (h:ac pg 219 [.sl false 1 X] G=some (.sl false 1 R,G)) :
  ab pg q6 (nkS pre k w a b c n X Y Z o0 o1 o2 G)=some (.ret,⟨[(4,.sl false 1 R)],[],G⟩):=by
 have kf:∀j:Int,j≠4->(k==j)=false:=λj hj=>by rw[hk];exact bA (λe=>hj e.symm)
 have kt:(k==4)=true:=by rw[hk];rfl
 clear hk;refine q8 ?_;simp[kf 1 (by decide),kt,h]
theorem Gy (hk:k=5)
  {R V:List PV} (h0:ac pg 220 [I w] G=some (.sl true 1 V,G)) (h:ac pg 221 [.ptr true (pre.length+2) 0,.sl false 1 V,.sl false 1 X] G=some (.sl false 1 R,G2)) :
  ab pg q6 (nkS pre k w a b c n X Y Z o0 o1 o2 G)=some (.ret,⟨[(4,.sl false 1 R)],[],G2⟩):=by
 have kf:∀j:Int,j≠5->(k==j)=false:=λj hj=>by rw[hk];exact bA (λe=>hj e.symm)
 have kt:(k==5)=true:=by rw[hk];rfl
 clear hk;refine q8 ?_;simp[kf 1 (by decide),kf 4 (by decide),kt,h0,h]
theorem Gz (hk:k=6)
  {R:List PV} {m0 m1 m2 m3 m4 bits:PV} (hbg:G[pre.length+2]?=some (.cells [.ptr true (pre.length+1) 0,m0,m1,m2,m3,m4,bits])) (h:ac pg 222 [.sl false 1 X,.sl false 1 Y,.bfn 49 [.ptr true (pre.length+1) 0]] G=some (.sl false 1 R,G2)) :
  ab pg q6 (nkS pre k w a b c n X Y Z o0 o1 o2 G)=some (.ret,⟨[(4,.sl false 1 R)],[],G2⟩):=by
 have kf:∀j:Int,j≠6->(k==j)=false:=λj hj=>by rw[hk];exact bA (λe=>hj e.symm)
 have kt:(k==6)=true:=by rw[hk];rfl
 clear hk;refine q8 ?_;simp[kf 1 (by decide),kf 4 (by decide),kf 5 (by decide),kt,hbg,h]
theorem GA (hk:k=7)
  {R:List PV} (h:ac pg 222 [.sl false 1 X,.sl false 1 Y,.bfn 223 [.ptr true (pre.length+2) 0]] G=some (.sl false 1 R,G2)) :
  ab pg q6 (nkS pre k w a b c n X Y Z o0 o1 o2 G)=some (.ret,⟨[(4,.sl false 1 R)],[],G2⟩):=by
 have kf:∀j:Int,j≠7->(k==j)=false:=λj hj=>by rw[hk];exact bA (λe=>hj e.symm)
 have kt:(k==7)=true:=by rw[hk];rfl
 clear hk;refine q8 ?_;simp[kf 1 (by decide),kf 4 (by decide),kf 5 (by decide),kf 6 (by decide),kt,h]
theorem GB (hk:k=8)
  {R:List PV} (h:ac pg 222 [.sl false 1 X,.sl false 1 Y,.bfn 224 [.ptr true (pre.length+2) 0]] G=some (.sl false 1 R,G2)) :
  ab pg q6 (nkS pre k w a b c n X Y Z o0 o1 o2 G)=some (.ret,⟨[(4,.sl false 1 R)],[],G2⟩):=by
 have kf:∀j:Int,j≠8->(k==j)=false:=λj hj=>by rw[hk];exact bA (λe=>hj e.symm)
 have kt:(k==8)=true:=by rw[hk];rfl
 clear hk;refine q8 ?_;simp[kf 1 (by decide),kf 4 (by decide),kf 5 (by decide),kf 6 (by decide),kf 7 (by decide),kt,h]
theorem GC (hk:k=9)
  {R:List PV} {c2:Int} (h:ac pg 225 [.ptr true (pre.length+2) 0,.sl false 1 X,.sl false 1 Y,I 0] G=some (.tup [.sl false 1 R,I c2],G2)) :
  ab pg q6 (nkS pre k w a b c n X Y Z o0 o1 o2 G)=some (.ret,⟨[(4,.sl false 1 R)],[],G2⟩):=by
 have kf:∀j:Int,j≠9->(k==j)=false:=λj hj=>by rw[hk];exact bA (λe=>hj e.symm)
 have kt:(k==9)=true:=by rw[hk];rfl
 clear hk;refine q8 ?_;simp[kf 1 (by decide),kf 4 (by decide),kf 5 (by decide),kf 6 (by decide),kf 7 (by decide),kf 8 (by decide),kt,h]
theorem GF (hk:k=10)
  {R:List PV} (h:ac pg 221 [.ptr true (pre.length+2) 0,.sl false 1 X,.sl false 1 Y] G=some (.sl false 1 R,G2)) :
  ab pg q6 (nkS pre k w a b c n X Y Z o0 o1 o2 G)=some (.ret,⟨[(4,.sl false 1 R)],[],G2⟩):=by
 have kf:∀j:Int,j≠10->(k==j)=false:=λj hj=>by rw[hk];exact bA (λe=>hj e.symm)
 have kt:(k==10)=true:=by rw[hk];rfl
 clear hk;refine q8 ?_;simp[kf 1 (by decide),kf 4 (by decide),kf 5 (by decide),kf 6 (by decide),kf 7 (by decide),kf 8 (by decide),kf 9 (by decide),kt,h]
theorem GG (hk:k=11)
  {R:List PV} (h:ac pg 226 [.ptr true (pre.length+2) 0,.sl false 1 X,.sl false 1 Y] G=some (.sl false 1 R,G2)) :
  ab pg q6 (nkS pre k w a b c n X Y Z o0 o1 o2 G)=some (.ret,⟨[(4,.sl false 1 R)],[],G2⟩):=by
 have kf:∀j:Int,j≠11->(k==j)=false:=λj hj=>by rw[hk];exact bA (λe=>hj e.symm)
 have kt:(k==11)=true:=by rw[hk];rfl
 clear hk;refine q8 ?_;simp[kf 1 (by decide),kf 4 (by decide),kf 5 (by decide),kf 6 (by decide),kf 7 (by decide),kf 8 (by decide),kf 9 (by decide),kf 10 (by decide),kt,h]
theorem GH (hk:k=12)
  {R V:List PV} (h:ac pg 227 [.ptr true (pre.length+2) 0,.sl false 1 X,.sl false 1 Y] G=some (.tup [.sl false 1 R,.sl false 1 V],G2)) :
  ab pg q6 (nkS pre k w a b c n X Y Z o0 o1 o2 G)=some (.ret,⟨[(4,.sl false 1 R)],[],G2⟩):=by
 have kf:∀j:Int,j≠12->(k==j)=false:=λj hj=>by rw[hk];exact bA (λe=>hj e.symm)
 have kt:(k==12)=true:=by rw[hk];rfl
 clear hk;refine q8 ?_;simp[kf 1 (by decide),kf 4 (by decide),kf 5 (by decide),kf 6 (by decide),kf 7 (by decide),kf 8 (by decide),kf 9 (by decide),kf 10 (by decide),kf 11 (by decide),kt,h]
theorem GJ (hk:k=13)
  {R V:List PV} (h:ac pg 227 [.ptr true (pre.length+2) 0,.sl false 1 X,.sl false 1 Y] G=some (.tup [.sl false 1 V,.sl false 1 R],G2)) :
  ab pg q6 (nkS pre k w a b c n X Y Z o0 o1 o2 G)=some (.ret,⟨[(4,.sl false 1 R)],[],G2⟩):=by
 have kf:∀j:Int,j≠13->(k==j)=false:=λj hj=>by rw[hk];exact bA (λe=>hj e.symm)
 have kt:(k==13)=true:=by rw[hk];rfl
 clear hk;refine q8 ?_;simp[kf 1 (by decide),kf 4 (by decide),kf 5 (by decide),kf 6 (by decide),kf 7 (by decide),kf 8 (by decide),kf 9 (by decide),kf 10 (by decide),kf 11 (by decide),kf 12 (by decide),kt,h]
theorem GK (hk:k=14)
  {R:List PV} (h:ac pg 229 [.ptr true (pre.length+2) 0,.sl false 1 X,.sl false 1 Y,.fn 228 []] G=some (.sl false 1 R,G2)) :
  ab pg q6 (nkS pre k w a b c n X Y Z o0 o1 o2 G)=some (.ret,⟨[(4,.sl false 1 R)],[],G2⟩):=by
 have kf:∀j:Int,j≠14->(k==j)=false:=λj hj=>by rw[hk];exact bA (λe=>hj e.symm)
 have kt:(k==14)=true:=by rw[hk];rfl
 clear hk;refine q8 ?_;simp[kf 1 (by decide),kf 4 (by decide),kf 5 (by decide),kf 6 (by decide),kf 7 (by decide),kf 8 (by decide),kf 9 (by decide),kf 10 (by decide),kf 11 (by decide),kf 12 (by decide),kf 13 (by decide),kt,h]
theorem GL (hk:k=15)
  {R:List PV} (h:ac pg 229 [.ptr true (pre.length+2) 0,.sl false 1 X,.sl false 1 Y,.fn 230 []] G=some (.sl false 1 R,G2)) :
  ab pg q6 (nkS pre k w a b c n X Y Z o0 o1 o2 G)=some (.ret,⟨[(4,.sl false 1 R)],[],G2⟩):=by
 have kf:∀j:Int,j≠15->(k==j)=false:=λj hj=>by rw[hk];exact bA (λe=>hj e.symm)
 have kt:(k==15)=true:=by rw[hk];rfl
 clear hk;refine q8 ?_;simp[kf 1 (by decide),kf 4 (by decide),kf 5 (by decide),kf 6 (by decide),kf 7 (by decide),kf 8 (by decide),kf 9 (by decide),kf 10 (by decide),kf 11 (by decide),kf 12 (by decide),kf 13 (by decide),kf 14 (by decide),kt,h]
theorem GN (hk:k=16)
  {e:Int} (h:ab pg q3o ⟨[(0,.ptr true (pre.length+2) 0),(8,.sl false 1 X),(9,.sl false 1 Y),(19,I 1),(157,I (X.length:Int)),(158,I 0)],[],G⟩=some (.normal,⟨[(19,I e)],[],G2⟩)) (h2:ab pg q3p ⟨[(19,I e)],[],G2⟩=some (.ret,⟨[(4,.sl true 1 [I e])],[],G2⟩)) :
  ab pg q6 (nkS pre k w a b c n X Y Z o0 o1 o2 G)=some (.ret,⟨[(4,.sl true 1 [I e])],[],G2⟩):=by
 have kf:∀j:Int,j≠16->(k==j)=false:=λj hj=>by rw[hk];exact bA (λe=>hj e.symm)
 have kt:(k==16)=true:=by rw[hk];rfl
 clear hk;refine q8 ?_;simp[kf 1 (by decide),kf 4 (by decide),kf 5 (by decide),kf 6 (by decide),kf 7 (by decide),kf 8 (by decide),kf 9 (by decide),kf 10 (by decide),kf 11 (by decide),kf 12 (by decide),kf 13 (by decide),kf 14 (by decide),kf 15 (by decide),kt,h,h2]
theorem GO (hk:k=17)
  {e:Int} (h:ac pg 232 [.ptr true (pre.length+2) 0,.sl false 1 X,.sl false 1 Y] G=some (I e,G2)) :
  ab pg q6 (nkS pre k w a b c n X Y Z o0 o1 o2 G)=some (.ret,⟨[(4,.sl true 1 [I e])],[],G2⟩):=by
 have kf:∀j:Int,j≠17->(k==j)=false:=λj hj=>by rw[hk];exact bA (λe=>hj e.symm)
 have kt:(k==17)=true:=by rw[hk];rfl
 clear hk;refine q8 ?_;simp[kf 1 (by decide),kf 4 (by decide),kf 5 (by decide),kf 6 (by decide),kf 7 (by decide),kf 8 (by decide),kf 9 (by decide),kf 10 (by decide),kf 11 (by decide),kf 12 (by decide),kf 13 (by decide),kf 14 (by decide),kf 15 (by decide),kf 16 (by decide),kt,h]
theorem GP (hk:k=18)
  {e:Int} {V W:List PV} (h0:ac pg 233 [.sl false 1 X] G=some (.sl false 1 V,G)) (h1:ac pg 233 [.sl false 1 Y] G=some (.sl false 1 W,G)) (h:ac pg 232 [.ptr true (pre.length+2) 0,.sl false 1 V,.sl false 1 W] G=some (I e,G2)) :
  ab pg q6 (nkS pre k w a b c n X Y Z o0 o1 o2 G)=some (.ret,⟨[(4,.sl true 1 [I e])],[],G2⟩):=by
 have kf:∀j:Int,j≠18->(k==j)=false:=λj hj=>by rw[hk];exact bA (λe=>hj e.symm)
 have kt:(k==18)=true:=by rw[hk];rfl
 clear hk;refine q8 ?_;simp[kf 1 (by decide),kf 4 (by decide),kf 5 (by decide),kf 6 (by decide),kf 7 (by decide),kf 8 (by decide),kf 9 (by decide),kf 10 (by decide),kf 11 (by decide),kf 12 (by decide),kf 13 (by decide),kf 14 (by decide),kf 15 (by decide),kf 16 (by decide),kf 17 (by decide),kt,h0,h1,h]
theorem GQ (hk:k=19)
  {R:List PV} {q:Int} (hx:X[0]?=some (I q)) (h:ac pg 234 [.ptr true (pre.length+2) 0,I q,.sl false 1 Y,.sl false 1 Z] G=some (.sl false 1 R,G2)) :
  ab pg q6 (nkS pre k w a b c n X Y Z o0 o1 o2 G)=some (.ret,⟨[(4,.sl false 1 R)],[],G2⟩):=by
 have kf:∀j:Int,j≠19->(k==j)=false:=λj hj=>by rw[hk];exact bA (λe=>hj e.symm)
 have kt:(k==19)=true:=by rw[hk];rfl
 clear hk;refine q8 ?_;simp[kf 1 (by decide),kf 4 (by decide),kf 5 (by decide),kf 6 (by decide),kf 7 (by decide),kf 8 (by decide),kf 9 (by decide),kf 10 (by decide),kf 11 (by decide),kf 12 (by decide),kf 13 (by decide),kf 14 (by decide),kf 15 (by decide),kf 16 (by decide),kf 17 (by decide),kf 18 (by decide),kt,hx,h]
theorem GR (hk:k=20)
  (h:ac pg 107 [.sl false 1 [.sl false 1 Y,.sl false 1 X]] G=some (.sl false 1 (Y++X),G)) :
  ab pg q6 (nkS pre k w a b c n X Y Z o0 o1 o2 G)=some (.ret,⟨[(4,.sl false 1 (Y++X))],[],G⟩):=by
 have kf:∀j:Int,j≠20->(k==j)=false:=λj hj=>by rw[hk];exact bA (λe=>hj e.symm)
 have kt:(k==20)=true:=by rw[hk];rfl
 clear hk;refine q8 ?_;simp[kf 1 (by decide),kf 4 (by decide),kf 5 (by decide),kf 6 (by decide),kf 7 (by decide),kf 8 (by decide),kf 9 (by decide),kf 10 (by decide),kf 11 (by decide),kf 12 (by decide),kf 13 (by decide),kf 14 (by decide),kf 15 (by decide),kf 16 (by decide),kf 17 (by decide),kf 18 (by decide),kf 19 (by decide),kt,h]
theorem GS (hk:k=21)
  {N W:Nat} (hN:n=(N:Int)) (hW:WI.wrap (n+w)=((N+W:Nat):Int)) (hl:N+W<=X.length) :
  ab pg q6 (nkS pre k w a b c n X Y Z o0 o1 o2 G)=some (.ret,⟨[(4,.sl false 1 ((X.take (N+W)).drop N))],[],G⟩):=by
 have kf:∀j:Int,j≠21->(k==j)=false:=λj hj=>by rw[hk];exact bA (λe=>hj e.symm)
 have kt:(k==21)=true:=by rw[hk];rfl
 clear hk;have hN2:n.toNat=N:=by omega
 have hn0:0<=n:=by omega
 have hW0:(0:Int)<=((N+W:Nat):Int):=by omega
 have hNW:N<=N+W:=by omega
 have hnw:N+W-N=W:=by omega
 refine q8 ?_;simp[kf 1 (by decide),kf 4 (by decide),kf 5 (by decide),kf 6 (by decide),kf 7 (by decide),kf 8 (by decide),kf 9 (by decide),kf 10 (by decide),kf 11 (by decide),kf 12 (by decide),kf 13 (by decide),kf 14 (by decide),kf 15 (by decide),kf 16 (by decide),kf 17 (by decide),kf 18 (by decide),kf 19 (by decide),kf 20 (by decide),kt,hN2,hn0,hW,hl,-Int.natCast_add]
theorem GT (hk:k=22)
  {R:List PV} (h:ac pg 235 [.sl false 1 X,I w,I 0] G=some (.sl false 1 R,G)) :
  ab pg q6 (nkS pre k w a b c n X Y Z o0 o1 o2 G)=some (.ret,⟨[(4,.sl false 1 R)],[],G⟩):=by
 have kf:∀j:Int,j≠22->(k==j)=false:=λj hj=>by rw[hk];exact bA (λe=>hj e.symm)
 have kt:(k==22)=true:=by rw[hk];rfl
 clear hk;refine q8 ?_;simp[kf 1 (by decide),kf 4 (by decide),kf 5 (by decide),kf 6 (by decide),kf 7 (by decide),kf 8 (by decide),kf 9 (by decide),kf 10 (by decide),kf 11 (by decide),kf 12 (by decide),kf 13 (by decide),kf 14 (by decide),kf 15 (by decide),kf 16 (by decide),kf 17 (by decide),kf 18 (by decide),kf 19 (by decide),kf 20 (by decide),kf 21 (by decide),kt,h]
theorem GU (hk:k=23) {R:List PV} {q:Int} {m:Nat} (hm:X.length=m+1) (hm8:m<=100) (hx:X[m]?=some (I q)) (h:ac pg 235 [.sl false 1 X,I w,I q] G=some (.sl false 1 R,G)) :
  ab pg q6 (nkS pre k w a b c n X Y Z o0 o1 o2 G)=some (.ret,⟨[(4,.sl false 1 R)],[],G⟩):=by
 have kf:∀j:Int,j≠23->(k==j)=false:=λj hj=>by rw[hk];exact bA (λe=>hj e.symm)
 have ew2:WI.wrap ((X.length:Int)-1)=(m:Int):=by rw[a9 (by omega) (by omega)];omega
 clear hm
 have hk4:ab pg qx ⟨[(3,.ptr false 0 0),(8,.sl false 1 X),(223,.bool false)],[[I k,I w,I a,I b,I c,I n]],G⟩=some (.ret,⟨[(4,.sl false 1 R)],[],G⟩):=
  qm7 (by simp[ew2,hx,h])
 clear hk;refine q8 ?_;simp[kf 1 (by decide),kf 4 (by decide),kf 5 (by decide),kf 6 (by decide),kf 7 (by decide),kf 8 (by decide),kf 9 (by decide),kf 10 (by decide),kf 11 (by decide),kf 12 (by decide),kf 13 (by decide),kf 14 (by decide),kf 15 (by decide),kf 16 (by decide),kf 17 (by decide),kf 18 (by decide),kf 19 (by decide),kf 20 (by decide),kf 21 (by decide),kf 22 (by decide),hk4]
end
section
variable {m:Md} {gh:List GObj}
end
abbrev xH:List CS:=[.slice true 48 [.int,.int,.int,.int,.int,.int],.slice true 16 [.int,.int],.slice true 16 [.int,.int],.slice false 8 [.int],.slice false 8 [.int]]
structure sV (m:Md):Prop where
 nodes:m.nodes.length*48<=reachBytes
 inits:m.inits.length*16<=reachBytes
 nexts:m.nexts.length*16<=reachBytes
 bads:m.bads.length*8<=reachBytes
 holds:m.holds.length*8<=reachBytes
theorem xI:∀{xs:List PV},(∀e∈xs,(true=true/\∃ps,e= .agg ps/\dl [.int,.int,.int,.int,.int,.int] ps)\/(true=false/\dl [.int,.int,.int,.int,.int,.int] [e]))->∃l:List Nd,xs=l.map bm
 |[],_=>⟨[],rfl⟩
 | e::xs,h=>by
  obtain⟨l,rfl⟩:=xI (xs:=xs) λe he=>h e (bG _ he)
  rcases h e (by simp) with ⟨-,ps,rfl,hp⟩|⟨h,-⟩
  ·obtain⟨_,_,rfl,g0,hp⟩:=fP hp
   obtain⟨_,_,rfl,g1,hp⟩:=fP hp;obtain⟨_,_,rfl,g2,hp⟩:=fP hp;obtain⟨_,_,rfl,g3,hp⟩:=fP hp;obtain⟨_,_,rfl,g4,hp⟩:=fP hp;obtain⟨_,_,rfl,g5,hp⟩:=fP hp;obtain rfl:=lU hp;obtain⟨a0,rfl,-⟩:=iV g0;obtain⟨a1,rfl,-⟩:=iV g1;obtain⟨a2,rfl,-⟩:=iV g2;obtain⟨a3,rfl,-⟩:=iV g3;obtain⟨a4,rfl,-⟩:=iV g4;obtain⟨a5,rfl,-⟩:=iV g5;exact⟨⟨a0,a1,a2,a3,a4,a5⟩::l,rfl⟩
  ·cases h
theorem Hr {p:PV} (h:iU (true,xH) p):∃m,p=e8 m/\sV m:=by obtain⟨ps,rfl,hp⟩:=Cm h;obtain⟨_,_,rfl,g0,hp⟩:=fP hp;obtain⟨_,_,rfl,g1,hp⟩:=fP hp;obtain⟨_,_,rfl,g2,hp⟩:=fP hp;obtain⟨_,_,rfl,g3,hp⟩:=fP hp;obtain⟨_,_,rfl,g4,hp⟩:=fP hp;obtain rfl:=lU hp;obtain⟨x0,rfl,b0,h0⟩:=mj g0;obtain⟨x1,rfl,b1,h1⟩:=mj g1;obtain⟨x2,rfl,b2,h2⟩:=mj g2;obtain⟨x3,rfl,b3,h3⟩:=mj g3;obtain⟨x4,rfl,b4,h4⟩:=mj g4;obtain⟨l0,rfl⟩:=xI h0;obtain⟨l1,-,rfl⟩:=rO h1;obtain⟨l2,-,rfl⟩:=rO h2;obtain⟨l3,-,rfl⟩:=rQ h3;obtain⟨l4,-,rfl⟩:=rQ h4;exact⟨⟨l0,l1,l2,l3,l4⟩,rfl,⟨by simpa using b0,by simpa using b1,by simpa using b2,by simpa using b3,by simpa using b4⟩⟩
structure jJ (m:Md):Prop where
 len:m.nodes.length<=80
 ahead:lg m.nodes
 pairs:∀p∈m.inits++m.nexts,dh m.nodes p.1/\dh m.nodes p.2
 nod1:(m.inits.map (·.1)).Nodup
 nod2:(m.nexts.map (·.1)).Nodup
theorem sW {l:List Nd} {f:List Bool} {init:Bool}:∀{ps:List (Int×Int)},dr l f init ps=0->∀p∈ps,dh l p.1/\dh l p.2
 |[],_,p,hp=>by cases hp
 | q ::ps,h,p,hp=>by
  rw[dr] at h;split at h
  ·rename_i h0
   rcases List.mem_cons.1 hp with rfl|hp
   ·unfold eK at h0
    split at h0
    ·contradiction
    ·rename_i hn
     exact⟨aV λh=>hn (.inl h),aV λh=>hn (.inr (.inl h))⟩
   ·exact sW h p hp
  ·contradiction
theorem gk {m:Md} (h:cY m=0):jJ m:=by
 unfold cY at h;split at h
 ·contradiction
 rename_i h1;split at h
 ·contradiction
 rename_i h2;split at h
 ·contradiction
 split at h
 ·contradiction
 rename_i h4;have h4:gy m (dR [] m.nodes)=0:=aV h4;unfold gy at h4;split at h4
 ·contradiction
 rename_i e1;split at h4
 ·contradiction
 rename_i e2;split at h4
 ·contradiction
 rename_i e3;have e1:=aV e1;have e2:=aV e2;refine⟨by omega,sN (aV h2),λp hp=>?_,?_,?_⟩
 ·rcases bY.1 hp with hp|hp
  ·exact sW e1 p hp
  ·exact sW e2 p hp
 ·exact aV λh=>e3 (.inl h)
 ·exact aV λh=>e3 (.inr h)
theorem jf {x:Int} (h:0<=x):∃n:Nat,x=n:=⟨x.toNat,by omega⟩
section
variable (k width n v e a b c w0 w1 w2:Int) (gh:List GObj)
end
def mJ (l:List Nd) (ns:List Int):Prop:=∀a∈ns,dh l a/\1<=wAt l a/\wAt l a<=8
def eW (L:List Nd):List Int->List Int->Int
 |a::ns,v::vs=>if 0<=v/\v<((2^(wAt L a).toNat:Nat):Int) then eW L ns vs else 3
 |[],_=>0
 |_::_,[]=>0
def eM (L:List Nd) (ns vs:List Int):Int:=if vs.length≠ns.length then 2 else eW L ns vs
section
variable {m:Md} {gh:List GObj}
theorem Hs {m:Md} (h:cY m=0):fk m.nodes 0 m.nodes=0:=by
 unfold cY at h;split at h
 ·contradiction
 split at h
 ·contradiction
 rename_i h2;exact aV h2
theorem ll {m:Md} (h:cY m=0) {i:Nat} {x:Nd} (hx:m.nodes[i]?=some x):dU m.nodes i x=0:=by
 have:=sM (Hs h) i x hx
 rwa [cR] at this
theorem xJ {m:Md} (h:cY m=0) {i:Nat} {x:Nd} (hx:m.nodes[i]?=some x):1<=x.w/\x.w<=8:=by
 have h0:=ll h hx;unfold dU at h0;split at h0
 ·omega
 split at h0
 ·omega
 rename_i hw;exact aV hw
theorem xK {m:Md} (h:cY m=0) {ns:List Int} (hn:∀a∈ns,dh m.nodes a):mJ m.nodes ns:=by intro a ha;have hno:=hn a ha;refine⟨hno,?_⟩;unfold wAt;rw[aM,aA hno.2];exact xJ h (aA hno.2)
theorem mL {m:Md} (h:cY m=0) (kind:Int):mJ m.nodes (ak m.nodes kind):=xK h λ_ ha=>xe ha
end
def jg (L:List Nd) (acc:List Int) (x:Nd):Int:=
 cz x.k x.w (acc.getD x.a.toNat 0) (acc.getD x.b.toNat 0) (acc.getD x.c.toNat 0) x.n (wdJ L x.k 0 x.a) (wdJ L x.k 1 x.b)
def eO (L:List Nd):List Int->List Int->List Int->List Nd->List Int
 |acc,_,_,[]=>acc
 |acc,ss,ks,x::l=>
  if x.k=1 then eO L (acc++[x.n]) ss ks l else if x.k=3 then eO L (acc++[ss.headD 0]) ss.tail ks l
  else if x.k=2 then eO L (acc++[ks.headD 0]) ss ks.tail l else eO L (acc++[jg L acc x]) ss ks l
def InW (L:List Nd) (acc:List Int):Prop:=∀j:Nat,j<acc.length->0<=acc.getD j 0/\acc.getD j 0<((2^(wAt L j).toNat:Nat):Int)
structure VGood (L:List Nd) (i:Nat) (acc ss ks:List Int):Prop where
 len:acc.length=i
 inw:InW L acc
 sl:ss.length=(di 3 i (L.drop i)).length
 sw:eW L (di 3 i (L.drop i)) ss=0
 kl:ks.length=(di 2 i (L.drop i)).length
 kw:eW L (di 2 i (L.drop i)) ks=0
theorem oJ {L:List Nd} {a:Int} {ns vs:List Int} (hl:vs.length=(a::ns).length) (h:eW L (a::ns) vs=0) :
  ∃v vs',vs=v::vs'/\0<=v/\v<((2^(wAt L a).toNat:Nat):Int)/\vs'.length=ns.length/\eW L ns vs'=0:=by
 cases vs with
 |nil=>simp at hl
 | cons v vs'=>
  rw[eW] at h;split at h
  ·rename_i hc
   exact⟨v,vs',rfl,hc.1,hc.2,by simpa using hl,h⟩
  ·cases h
theorem oO {L:List Nd} {i:Nat} {x:Nd} (hx:L[i]?=some x):wAt L (i:Int)=x.w:=by unfold wAt;rw[aM,Int.toNat_natCast,hx];rfl
theorem InW.push {L:List Nd} {acc:List Int} {i:Nat} {x:Nd} {v:Int} (h:InW L acc) (hi:acc.length=i) (hx:L[i]?=some x) (h0:0<=v) (h1:v<((2^x.w.toNat:Nat):Int)):InW L (acc++[v]):=by
 intro j hj;rw[aW,List.length_singleton] at hj;by_cases he:j<acc.length
 ·have e:(acc++[v]).getD j 0=acc.getD j 0:=by simp[aM,aJ he]
  rw[e];exact h j he
 ·have ej:j=i:=by omega
  subst ej;have e:(acc++[v]).getD j 0=v:=by simp[aM,<-hi]
  rw[e,oO hx];exact⟨h0,h1⟩
section
variable {L:List Nd} {i:Nat} {acc ss ks:List Int} {x:Nd}
theorem VGood.other (h:VGood L i acc ss ks) (hx:L[i]?=some x) (h3:x.k≠3) (h2:x.k≠2) {v:Int} (v0:0<=v) (v1:v<((2^x.w.toNat:Nat):Int)):VGood L (i+1) (acc++[v]) ss ks:=by obtain⟨hlt,rfl⟩:=aD.1 hx;obtain⟨e1,e2,e3,e4,e5,e6⟩:=h;rw[aL hlt,di,if_neg h3] at e3 e4;rw[aL hlt,di,if_neg h2] at e5 e6;exact⟨by simp[e1],e2.push e1 hx v0 v1,e3,e4,e5,e6⟩
theorem VGood.state (h:VGood L i acc ss ks) (hx:L[i]?=some x) (h3:x.k=3):∃v ss',ss=v::ss'/\VGood L (i+1) (acc++[v]) ss' ks:=by obtain⟨hlt,rfl⟩:=aD.1 hx;obtain⟨e1,e2,e3,e4,e5,e6⟩:=h;rw[aL hlt,di,if_pos h3] at e3 e4;rw[aL hlt,di,if_neg (by omega)] at e5 e6;obtain⟨v,ss',rfl,v0,v1,hl,hw⟩:=oJ e3 e4;rw[oO hx] at v1;exact⟨v,ss',rfl,by simp[e1],e2.push e1 hx v0 v1,hl,hw,e5,e6⟩
theorem VGood.input (h:VGood L i acc ss ks) (hx:L[i]?=some x) (h2:x.k=2):∃v ks',ks=v::ks'/\VGood L (i+1) (acc++[v]) ss ks':=by obtain⟨hlt,rfl⟩:=aD.1 hx;obtain⟨e1,e2,e3,e4,e5,e6⟩:=h;rw[aL hlt,di,if_neg (by omega)] at e3 e4;rw[aL hlt,di,if_pos h2] at e5 e6;obtain⟨v,ks',rfl,v0,v1,hl,hw⟩:=oJ e5 e6;rw[oO hx] at v1;exact⟨v,ks',rfl,by simp[e1],e2.push e1 hx v0 v1,e3,e4,hl,hw⟩
structure lm (L:List Nd) (i:Nat) (x:Nd):Prop where
 fit:gi x.k x.w x.n (wdJ L x.k 0 x.a) (wdJ L x.k 1 x.b) (wdJ L x.k 2 x.c)=0
 a:0<=x.a/\x.a<i
 b:0<=x.b/\x.b<i
 c:0<=x.c/\x.c<i
 inn:mB L x
theorem oQ (hx:L[i]?=some x) (hn:dU L i x=0) (hk:¬x.k<=3):lm L i x:=by
 unfold dU at hn;split at hn
 ·omega
 split at hn
 ·omega
 split at hn
 ·omega
 rename_i hb;have hi:i<=L.length:=Nat.le_of_lt (aD.1 hx).1;have hin:=sv hi hb;have hk':=(la hn).1;have ht:=mm hk';unfold gj eJ at hb;simp only[not_or] at hb;obtain⟨b0,b1,b2⟩:=hb;rw[if_pos ht] at b0;refine⟨hn,by omega,?_,?_,hin⟩
 ·split at b1<;>omega
 ·split at b2<;>omega
theorem oU (hn:dU L i x=0) (hk:x.k=1):0<=x.n/\x.n<((2^x.w.toNat:Nat):Int):=by
 unfold dU at hn;split at hn
 ·omega
 split at hn
 ·omega
 rw[if_pos (by omega)] at hn;split at hn
 ·omega
 rename_i h;exact aV λh2=>h ⟨hk,h2⟩
theorem Ht {k w a b c n w0 w1:Int} (hw:1<=w/\w<=8):0<=cz k w a b c n w0 w1/\cz k w a b c n w0 w1<((2^w.toNat:Nat):Int):=by obtain⟨W,rfl⟩:=jf (show 0<=w by omega);rw[e7 k a b c n w0 w1 (by omega),Int.toNat_natCast];have:(0:Int)<((2^W:Nat):Int):=Int.natCast_pos.2 (Nat.two_pow_pos W);exact⟨Int.emod_nonneg _ (by omega),Int.emod_lt_of_pos _ this⟩
theorem VGood.op (h:VGood L i acc ss ks) (hx:L[i]?=some x) (h3:x.k≠3) (h2:x.k≠2) (ho:lm L i x):VGood L (i+1) (acc++[jg L acc x]) ss ks:=
 have hw:=Ht (k:=x.k) (a:=acc.getD x.a.toNat 0) (b:=acc.getD x.b.toNat 0) (c:=acc.getD x.c.toNat 0) (n:=x.n) (w0:=wdJ L x.k 0 x.a) (w1:=wdJ L x.k 1 x.b) (la ho.fit).2.1
 h.other hx h3 h2 hw.1 hw.2
theorem oV (h:VGood L i acc ss ks) {a:Int} (ha:0<=a/\a<i):0<=acc.getD a.toNat 0/\acc.getD a.toNat 0<((2^(wAt L a).toNat:Nat):Int):=by
 have:=h.inw a.toNat (by rw[h.len];omega)
 rwa [show ((a.toNat:Nat):Int)=a by omega] at this
theorem Hu {k width a b c n w0 w1 w2:Int} (he:gi k width n w0 w1 w2=0) (h0:0<=a/\a<((2^w0.toNat:Nat):Int)) (hb:0<=b) (h1:1<az k->b<((2^w1.toNat:Nat):Int)) (hc:0<=c) (h2:2<az k->c<((2^w2.toNat:Nat):Int)) (gh:List GObj) :
  ac pg 28 [I k,I width,I a,I b,I c,I n,.agg [I w0,I w1,I w2]] gh=some (I (cz k width a b c n w0 w1),gh):=by
 obtain⟨hk,hw,g0,g1,g2,s,hs,hf⟩:=la he;have ht:=mm hk;unfold wOk at g0 g1 g2;rw[if_pos ht] at g0;have hn:0<=n:=by
  unfold ck at hf;by_cases h6:s=6
  ·simp[h6] at hf;omega
  ·by_cases hn:n=0
   ·omega
   ·simp[h6,hn] at hf
 have hw1:0<=w1:=by split at g1<;>omega
 have hw2:0<=w2:=by split at g2<;>omega
 obtain⟨W,rfl⟩:=jf (show 0<=width by omega);obtain⟨A,rfl⟩:=jf h0.1;obtain⟨B,rfl⟩:=jf hb;obtain⟨C,rfl⟩:=jf hc;obtain⟨N,rfl⟩:=jf hn;obtain⟨W0,rfl⟩:=jf (show 0<=w0 by omega);obtain⟨W1,rfl⟩:=jf hw1;obtain⟨W2,rfl⟩:=jf hw2;rw[Int.toNat_natCast] at h0 h1 h2;have hd:=FF (gh:=gh) (A:=A) (B:=B) (C:=C) hk hs hf (by omega) (by omega) (λh=>by rw[if_pos h] at g1;omega) (by omega) (λh=>by have:=h1 h;omega) (λh=>by have:=h2 h;omega);refine aq (fn:=q8b) rfl rfl (q7_ hd) ?r1;simp[am,results,q8b,ao,au,ai]
theorem Hv (h:VGood L i acc ss ks) (ho:lm L i x) (gh:List GObj) :
  ac pg 28 [I x.k,I x.w,I (acc.getD x.a.toNat 0),I (acc.getD x.b.toNat 0),I (acc.getD x.c.toNat 0),I x.n,iJ L x] gh=some (I (jg L acc x),gh):=by
 have ht:=mm (la ho.fit).1;have va:=oV h ho.a;have vb:=oV h ho.b;have vc:=oV h ho.c;refine Hu ho.fit ⟨va.1,?_⟩ vb.1 (λh1=>?_) vc.1 (λh2=>?_) gh
 ·rw[show wdJ L x.k 0 x.a=wAt L x.a from if_pos ht];exact va.2
 ·rw[show wdJ L x.k 1 x.b=wAt L x.b from if_pos h1];exact vb.2
 ·rw[show wdJ L x.k 2 x.c=wAt L x.c from if_pos h2];exact vc.2
theorem Hw (h:VGood L i acc ss ks) (ho:lm L i x) (gh:List GObj) :
  ac pg 66 [I x.k,I x.w,I (acc.getD x.a.toNat 0),I (acc.getD x.b.toNat 0),I (acc.getD x.c.toNat 0),I x.n,iJ L x] gh=some (I (jg L acc x),gh):=by
 obtain⟨hk,hw,g0,g1,g2,s,hs,hf⟩:=la ho.fit;have ht:=mm hk;unfold wOk at g0 g1 g2;rw[if_pos ht] at g0;refine E6 _ _ _ _ _ _ _ _ _ hk (oV h ho.b).1 (λh21=>?_) g0 (λh1=>?_) (by omega) gh
 ·unfold ck at hf
  by_cases h6:s=6
  ·simp[h6] at hf;omega
  ·by_cases hn:x.n=0
   ·omega
   ·simp[h6,hn] at hf
 ·have:1<az x.k:=by rcases h1 with h|h<;>rw[h]<;>decide
  rwa [if_pos this] at g1
theorem oZ {m:Md} {ss ks:List Int} (hs:eM m.nodes (ak m.nodes 3) ss=0) (hk:eM m.nodes (ak m.nodes 2) ks=0):VGood m.nodes 0 [] ss ks:=by
 unfold eM at hs hk;split at hs
 ·cases hs
 split at hk
 ·cases hk
 exact⟨rfl,λj hj=>by simp at hj,by rw[bL];rename_i h _;exact aV h,by rw[bL];exact hs,by rw[bL];rename_i _ h;exact aV h,by rw[bL];exact hk⟩
theorem xL:∀{l:List Nd} {acc ss ks:List Int},(eO L acc ss ks l).length=acc.length+l.length
 |[],_,_,_=>rfl
 |x::l,acc,ss,ks=>by
  rw[eO]
  repeat' split
  all_goals rw[xL];simp;omega
theorem ln (hz:∀(j:Nat) (x:Nd),L[j]?=some x->dU L j x=0):∀k i acc ss ks,i+k=L.length->VGood L i acc ss ks->InW L (eO L acc ss ks (L.drop i))
 |0,i,acc,ss,ks,h,hg=>by rw[aQ (by omega)];exact hg.inw
 | k +1,i,acc,ss,ks,h,hg=>by
  have hlt:i<L.length:=by omega
  have hx:L[i]?=some L[i]:=aA hlt;have hn:=hz i _ hx;rw[aL hlt,eO];split
  ·rename_i h1
   have:=oU hn h1;exact ln hz k (i+1) _ _ _ (by omega) (hg.other hx (by omega) (by omega) this.1 this.2)
  ·split
   ·rename_i h3
    obtain⟨v,ss',rfl,hg'⟩:=hg.state hx h3;exact ln hz k (i+1) _ _ _ (by omega) hg'
   ·split
    ·rename_i h2
     obtain⟨v,ks',rfl,hg'⟩:=hg.input hx h2;exact ln hz k (i+1) _ _ _ (by omega) hg'
    ·rename_i h1 h3 h2
     have hk:¬L[i].k<=3:=by
      intro hle;unfold dU at hn;split at hn
      ·omega
      ·omega
     exact ln hz k (i+1) _ _ _ (by omega) (hg.op hx h3 h2 (oQ hx hn hk))
end
section
variable {pre:List GObj} {ins:Int} {v:List Bool}
def cI (N:Nat):Nat->Nat->List Int
 |_,0=>[]
 |i,m+1=>((N/2^i%2:Nat):Int)::cI N (i+1) m
def cB (N:Nat):Nat->Nat->List Bool
 |_,0=>[]
 |i,m+1=>decide (N/2^i%2=1)::cB N (i+1) m
theorem gm (N:Nat):∀m i,(cB N i m).length=m
 |0,_=>rfl
 |m+1,i=>by rw[cB,bB,gm N m]
theorem sX (N:Nat):∀m i,num (cB N i m)=N/2^i%2^m
 |0,i=>by simp[cB,num,Nat.mod_one]
 | m+1,i=>by
  rw[cB,num,sX N m,Nat.pow_succ 2 i,<-Nat.div_div_eq_div_mul,Nat.pow_succ 2 m,Nat.mul_comm (2^m) 2,Nat.mod_mul];generalize N/2^i=q;by_cases h:q%2=1
  ·simp[h]
  ·have:q%2=0:=by omega
   simp[this]
theorem sY (hi:0<=ins) {A:List (Int×Int)} (N:Nat):∀m i,Ls ins v A (cI N i m) (cB N i m)
 |0,_=>trivial
 |m+1,i=>by
  refine⟨?_,sY hi N m (i+1)⟩;by_cases h:N/2^i%2=1
  ·rw[h,aG rfl];exact ms hi
  ·rw[show N/2^i%2=0 by omega,aF (by decide)];exact mr hi
theorem xM {k w a b c:Int} {N W:Nat} (hN:N<256) (hw:W<=8) (G:List GObj):∀(m i:Nat) (acc:List Int),i+m=W->acc.length=i->
  ab pg q5v ⟨[(3,.ptr false 0 0),(11,.sl true 1 (acc.map I)),(50,I (W:Int)),(51,I (i:Int))],[[I k,I w,I a,I b,I c,I (N:Int)]],G⟩=some (.normal,⟨[(11,.sl true 1 ((acc++cI N i m).map I))],[],G⟩)
 |0,i,acc,h,_=>by
  have hlt:¬((i:Nat):Int)<(W:Int):=by omega
  rw[cI,bH];refine (cm (s1:=?s1) (qh2 ?h1)).trans ?r1
  case h1=>simp only[aF hlt,dq];rfl
  case r1=>simp[keep]
 | m+1,i,acc,h,ha=>by
  have hlt:((i:Nat):Int)<(W:Int):=by omega
  have hge:(0:Int)<=(i:Int):=by omega
  have hal:(acc.map I).length=i:=by simpa using ha
  have hmx:(i+1)*8<=maxBytes:=by have:=MB;omega
  have e2:=wrS' i (by omega);have hd:N/2^i<=N:=Nat.div_le_self _ _;have ex:fG .i64 (fa .i64 (N:Int) (i:Int)) 1=((N/2^i%2:Nat):Int):=by rw[j3 _ _ (by omega),show (1:Int)=((1:Nat):Int) from rfl,nN (by omega) (by omega),Nat.and_one_is_mod]
  have ih:=xM (k:=k) (w:=w) (a:=a) (b:=b) (c:=c) hN hw G m (i+1) (acc++[((N/2^i%2:Nat):Int)]) (by omega) (by simp;omega);rw[aZ,bK (l₁:=acc) (l₂:=[((N/2^i%2:Nat):Int)])] at ih;refine bh (s1:=⟨[(3,.ptr false 0 0),(11,.sl true 1 (acc.map I++[((N/2^i%2:Nat):Int)].map I)),(50,I (W:Int)),(51,I ((i+1:Nat):Int))],[[I k,I w,I a,I b,I c,I (N:Int)]],G⟩) (qh2 ?h2) ih
  case h2=>
   generalize acc.map I=X at *;generalize N/2^i%2=q at *;simp only[aG hlt,dO];simp[hge,hal,ex,hmx,e2]
theorem Hx {k w a b c:Int} {N W:Nat} {X Y Z:List PV} {o0 o1 o2:Bool} {G:List GObj} (hk:k=1) (hw:w=(W:Int)) (hW:W<=8) (hN:N<256) :
  ab pg q6 (nkS pre k w a b c N X Y Z o0 o1 o2 G)=some (.ret,⟨[(4,.sl false 1 ((cI N 0 W).map I))],[],G⟩):=by
 have kt:(k==1)=true:=by rw[hk];rfl
 clear hk;have hl:=xM (k:=k) (w:=w) (a:=a) (b:=b) (c:=c) hN hW G W 0 [] (by omega) rfl;rw[bI,<-hw] at hl;simp only[bR,aX] at hl;generalize (cI N 0 W).map I=R at *;have hk2:ab pg q3n ⟨[(11,.sl true 1 R)],[],G⟩=some (.ret,⟨[(4,.sl false 1 R)],[],G⟩):=qm5 (by simp);refine q8 ?_;simp[kt,hl,hk2]
theorem Hy {H:BC} {A A1 A2:List (Int×Int)} {X Y:List PV} {x y c e c2:Int} {n i:Nat} (hi:i<n) (hn:n<=1000) (hX:X[i]?=some (I x)) (hY:Y[i]?=some (I y))
  (h1:ac pg 224 [.ptr true (pre.length+2) 0,I x,I y] (H.g pre ins A)=some (I e,H.g pre ins A1))
  (h2:ac pg 49 [.ptr true (pre.length+1) 0,I c,I (dg e)] (H.g pre ins A1)=some (I c2,H.g pre ins A2)) :
  q57 pg (pre.length+2) 0 (.sl false 1 X) (.sl false 1 Y) c n i (H.g pre ins A)=some (.normal,⟨[(0,.ptr true (pre.length+2) 0),(8,.sl false 1 X),(9,.sl false 1 Y),(19,I c2),(157,I n),(158,I ((i+1:Nat):Int))],[],H.g pre ins A2⟩):=by
 have hltI:(i:Int)<(n:Int):=by omega
 have e2:=wrS' i (by omega);simp[q57,hltI,hX,hY,ip,og,h1,jb,h2,e2]
theorem xN (pre:List GObj) (hv:(v.length:Int)=ins):∀(rx ry px py:List Int) (bs cs:List Bool) (A:List (Int×Int)) (c:Int) (bc:Bool),bq ins A=0->A.length+4*rx.length<=1000000->py.length=px.length->ry.length=rx.length->px.length+rx.length<=1000->
  Ls ins v A rx bs->Ls ins v A ry cs->Lt ins v A c bc->
  ∃A' c',(∀H:BC,ab pg q3o ⟨[(0,.ptr true (pre.length+2) 0),(8,LI (px++rx)),(9,LI (py++ry)),(19,I c),(157,I ((px.length+rx.length:Nat):Int)),(158,I (px.length:Int))],[],H.g pre ins A⟩=some (.normal,⟨[(19,I c')],[],H.g pre ins A'⟩))/\
   Stp ins A A' (4*rx.length)/\Lt ins v A' c' (eqB bs cs bc)
 |[],[],px,py,[],[],A,c,bc,hc,_,_,_,_,_,_,hcc=>by
  refine⟨A,c,λH=>?_,Stp.refl hc,hcc⟩;have hlt:¬((px.length:Nat):Int)<((px.length+([]:List Int).length:Nat):Int):=by simp
  refine (cm (s1:=?s1) (q57_ ?h1)).trans ?r1
  case h1=>simp only[q57,aF hlt,dq];rfl
  case r1=>simp[keep]
 |x::rx,y::ry,px,py,b::bs,e::cs,A,c,bc,hc,hs,hp,hl,hn,hx,hy,hcc=>by
  simp only[bB] at hs hl hn;obtain⟨A1,d,h1,s1,l1⟩:=om pre hv hc (by omega) hx.1 hy.1;have b1:=s1.2.1;obtain⟨A2,c2,h2,s2,l2⟩:=iI pre hv s1.1 (by omega) (hcc.mono hv s1) (l1.not s1.1);have b2:=s2.2.1;have t2:=s1.trans s2;obtain⟨A3,c3,g1,g2,g3⟩:=xN pre hv rx ry (px++[x]) (py++[y]) bs cs A2 c2 _ s2.1 (by omega) (by simp;omega) (by omega) (by simp;omega) (hx.2.mono hv t2) (hy.2.mono hv t2) l2;refine⟨A3,c3,λH=>?_,(t2.trans g2).mono (by simp only[bB];omega),g3⟩
  have hb:=Hy (H:=H) (n:=px.length+(x::rx).length) (i:=px.length) (by simp) (by simp only[bB];omega) (get_at (rx:=rx) (x:=x) rfl) (get_at (rx:=ry) (x:=y) hp) (h1 H) (h2 H);refine bh (q57_ hb) ?_;have hg:=g1 H;rw[show (px++[x]).length+rx.length=px.length+(x::rx).length by simp;omega,show (px++[x]).length=px.length+1 by simp,aZ px [x] rx,aZ py [y] ry] at hg;exact hg
def NS (pre:List GObj) (ins:Int) (v:List Bool) (A:List (Int×Int)) (k w n:Int) (X Y Z:List Int) (val:Int):Prop:=
 ∃A' out ob J oR,(∀(H:BC) (a b c:Int) (o0 o1 o2:Bool),ab pg q6 (nkS pre k w a b c n (X.map I) (Y.map I) (Z.map I) o0 o1 o2 (H.g pre ins A))=some (.ret,⟨[(4,.sl oR 1 (out.map I))],[],(H.push J).g pre ins A'⟩))/\
  Stp ins A A' 5000/\Ls ins v A' out ob/\(ob.length:Int)=w/\(num ob:Int)=val
theorem sZ (pre:List GObj) {A:List (Int×Int)} {c f:Nat} {p:PV} {op:Bool->Bool->Bool} (hv:(v.length:Int)=ins) (hp:ar p=true)
  (hop:∀(A1:List (Int×Int)),bq ins A1=0->A1.length+c<=1000000->∀(a b:Int) (ba bb:Bool),Lt ins v A1 a ba->Lt ins v A1 b bb->∃A2 n,(∀H:BC,ac pg f [p,I a,I b] (H.g pre ins A1)=some (I n,H.g pre ins A2))/\Stp ins A1 A2 c/\Lt ins v A2 n (op ba bb))
  (hc:bq ins A=0) {xs ys:List Int} {bs cs:List Bool} (hl:ys.length=xs.length) (hn:xs.length<=1000) (hs:A.length+c*xs.length<=1000000) (hx:Ls ins v A xs bs) (hy:Ls ins v A ys cs) :
  ∃A' outs,(∀H:BC,ac pg 222 [LI xs,LI ys,.bfn f [p]] (H.g pre ins A)=some (LI outs,H.g pre ins A'))/\Stp ins A A' (c*xs.length)/\Ls ins v A' outs (List.zipWith op bs cs):=by
 obtain⟨As,outs,g1,g2,g3,g4,g5⟩:=sk (pre:=pre) (f:=f) (ap:=λ_ vs=>[p]++vs) (CC:=λ_=>True) (op:=op) (c:=c) hv (λA1 d s h a b ba bb ha hb=>by obtain⟨A2,n,h1,h2,h3⟩:=hop A1 s.1 h a b ba bb ha hb;exact⟨A2,n,λH _=>h1 H,h2,h3⟩) xs ys bs cs A 0 (Stp.refl hc) hl hs hx hy;refine⟨As xs.length,outs,λH=>?_,g4,g5⟩;have he:=sj (xs:=xs) (ys:=ys) (outs:=outs) (vy:=LI ys) (fn:= .bfn f [p]) (f:=f) (caps:=[p]) (hs:=λi=>H.g pre ins (As i)) hn hl g2 (λi=> .inl rfl) (.inr ⟨rfl,rfl⟩) (by simp only[List.all_cons,List.all_nil,hp];rfl) (λi hi=>g3 i hi H trivial);simp only[g1] at he;exact he
section
variable {k w n s av bv cv:Int} {X Y Z:List Int} {BX BY BZ:List Bool} {A:List (Int×Int)}
theorem xO {ins:Int} {v:List Bool} {A:List (Int×Int)} (hc:bq ins A=0):∀{X:List Int} {BX:List Bool} {m:Nat},Ls ins v A X BX->X.length=m+1->Ls ins v A (X.set m (dg (X.getD m 0))) (fK BX):=by
 intro X BX m h hm;have hu:fK BX=BX.set m (!BX.getD m false):=by unfold fK;rw[h.len,hm,Nat.add_sub_cancel]
 rw[hu];clear hu
 induction m generalizing X BX with
 |zero=>match X,BX,h with|_::_,_::_,h=>exact⟨h.1.not hc,h.2⟩
 |succ m ih=>match X,BX,h with|_::_,_::_,h=>exact⟨h.1,ih h.2 (by simpa using hm)⟩
theorem xP {ins:Int} {v:List Bool} {A:List (Int×Int)} {x:Int} {b:Bool} (h:Lt ins v A x b):∀n:Nat,Ls ins v A (List.replicate n x) (List.replicate n b)
 |0=>trivial
 |n+1=>⟨h,xP h n⟩
theorem Hz (hk:k=4) (hv:(v.length:Int)=ins) (hc:bq ins A=0) (hA:A.length+5000<=1000000) (hw:1<=w/\w<=8) (hs:ct k=some s) (hf:ck s w n BX.length BY.length BZ.length=true) (h0:1<=BX.length/\BX.length<=8) (lX:Ls ins v A X BX) (nX:(num BX:Int)=av) :
  NS pre ins v A k w n X Y Z (cz k w av bv cv n BX.length BY.length):=by
 obtain⟨hi,_,_,_⟩:=dK hc;obtain⟨W,rfl⟩:∃W:Nat,w=W:=⟨w.toNat,by omega⟩
 rw[hk,show ct 4=some 1 from rfl] at hs;cases hs;simp[ck] at hf;have hxl:=lX.len;have hW:1<=W/\W<=8:=by omega
 refine⟨A,X.map dg,BX.map (!·),[],false,λH a b c o0 o1 o2=>?_,(Stp.refl hc).mono (by omega),lX.not hc,by simp;omega,?_⟩
 ·rw[fA]
  exact Gx hk (oo (by omega) _)
 ·rw[hk,<-nX];exact v4 hW (by omega)
theorem HA (hk:k=5) (hv:(v.length:Int)=ins) (hc:bq ins A=0) (hA:A.length+5000<=1000000) (hw:1<=w/\w<=8) (hs:ct k=some s) (hf:ck s w n BX.length BY.length BZ.length=true) (h0:1<=BX.length/\BX.length<=8) (lX:Ls ins v A X BX) (nX:(num BX:Int)=av) :
  NS pre ins v A k w n X Y Z (cz k w av bv cv n BX.length BY.length):=by
 obtain⟨hi,_,_,_⟩:=dK hc;obtain⟨W,rfl⟩:∃W:Nat,w=W:=⟨w.toNat,by omega⟩
 rw[hk,show ct 5=some 1 from rfl] at hs;cases hs;simp[ck] at hf;have hxl:=lX.len;have hW:1<=W/\W<=8:=by omega
 obtain⟨A1,out,f1,s1,l1⟩:=sm pre hv hc (xs:=List.replicate W 0) (ys:=X) (by simp;omega) (by simp;omega) (by simp;omega) (Ls.zeros hi.1 W) lX;refine⟨A1,out,_,[],false,λH a b c o0 o1 o2=>?_,s1.mono (by simp;omega),l1,by rw[n0 (by simp[zB];omega)];simp[zB],?_⟩
 ·rw[fA]
  exact Gy hk (jc (by omega) _) (f1 H)
 ·rw[hk,<-nX];exact v5 hW (by omega)
theorem HB (hk:k=6) (hv:(v.length:Int)=ins) (hc:bq ins A=0) (hA:A.length+5000<=1000000) (hw:1<=w/\w<=8) (hs:ct k=some s) (hf:ck s w n BX.length BY.length BZ.length=true) (h0:1<=BX.length/\BX.length<=8) (lX:Ls ins v A X BX) (nX:(num BX:Int)=av) (lY:Ls ins v A Y BY) (nY:(num BY:Int)=bv) :
  NS pre ins v A k w n X Y Z (cz k w av bv cv n BX.length BY.length):=by
 obtain⟨hi,_,_,_⟩:=dK hc;obtain⟨W,rfl⟩:∃W:Nat,w=W:=⟨w.toNat,by omega⟩
 rw[hk,show ct 6=some 2 from rfl] at hs;cases hs;simp[ck] at hf;have hxl:=lX.len;have hW:1<=W/\W<=8:=by omega
 have hyl:=lY.len;obtain⟨A1,out,f1,s1,l1⟩:=sZ pre (c:=1) (f:=49) (p:= .ptr true (pre.length+1) 0) (op:=(· && ·)) hv rfl (λA1 h1 h2 a b ba bb ha hb=>iI pre hv h1 h2 ha hb) hc (xs:=X) (ys:=Y) (by omega) (by omega) (by omega) lX lY;refine⟨A1,out,_,[],false,λH a b c o0 o1 o2=>?_,s1.mono (by omega),l1,by rw[lk (by omega)];omega,?_⟩
 ·rw[fA]
  exact Gz hk ip (f1 H)
 ·rw[hk,<-nX,<-nY];exact v6 hW (by omega) (by omega)
theorem HC (hk:k=7) (hv:(v.length:Int)=ins) (hc:bq ins A=0) (hA:A.length+5000<=1000000) (hw:1<=w/\w<=8) (hs:ct k=some s) (hf:ck s w n BX.length BY.length BZ.length=true) (h0:1<=BX.length/\BX.length<=8) (lX:Ls ins v A X BX) (nX:(num BX:Int)=av) (lY:Ls ins v A Y BY) (nY:(num BY:Int)=bv) :
  NS pre ins v A k w n X Y Z (cz k w av bv cv n BX.length BY.length):=by
 obtain⟨hi,_,_,_⟩:=dK hc;obtain⟨W,rfl⟩:∃W:Nat,w=W:=⟨w.toNat,by omega⟩
 rw[hk,show ct 7=some 2 from rfl] at hs;cases hs;simp[ck] at hf;have hxl:=lX.len;have hW:1<=W/\W<=8:=by omega
 have hyl:=lY.len;obtain⟨A1,out,f1,s1,l1⟩:=sZ pre (c:=1) (f:=223) (p:= .ptr true (pre.length+2) 0) (op:=(· || ·)) hv rfl (λA1 h1 h2 a b ba bb ha hb=>oj pre hv h1 h2 ha hb) hc (xs:=X) (ys:=Y) (by omega) (by omega) (by omega) lX lY;refine⟨A1,out,_,[],false,λH a b c o0 o1 o2=>?_,s1.mono (by omega),l1,by rw[lk (by omega)];omega,?_⟩
 ·rw[fA]
  exact GA hk (f1 H)
 ·rw[hk,<-nX,<-nY];exact v7 hW (by omega) (by omega)
theorem HE (hk:k=8) (hv:(v.length:Int)=ins) (hc:bq ins A=0) (hA:A.length+5000<=1000000) (hw:1<=w/\w<=8) (hs:ct k=some s) (hf:ck s w n BX.length BY.length BZ.length=true) (h0:1<=BX.length/\BX.length<=8) (lX:Ls ins v A X BX) (nX:(num BX:Int)=av) (lY:Ls ins v A Y BY) (nY:(num BY:Int)=bv) :
  NS pre ins v A k w n X Y Z (cz k w av bv cv n BX.length BY.length):=by
 obtain⟨hi,_,_,_⟩:=dK hc;obtain⟨W,rfl⟩:∃W:Nat,w=W:=⟨w.toNat,by omega⟩
 rw[hk,show ct 8=some 2 from rfl] at hs;cases hs;simp[ck] at hf;have hxl:=lX.len;have hW:1<=W/\W<=8:=by omega
 have hyl:=lY.len;obtain⟨A1,out,f1,s1,l1⟩:=sZ pre (c:=3) (f:=224) (p:= .ptr true (pre.length+2) 0) (op:=(· ^^ ·)) hv rfl (λA1 h1 h2 a b ba bb ha hb=>om pre hv h1 h2 ha hb) hc (xs:=X) (ys:=Y) (by omega) (by omega) (by omega) lX lY;refine⟨A1,out,_,[],false,λH a b c o0 o1 o2=>?_,s1.mono (by omega),l1,by rw[lk (by omega)];omega,?_⟩
 ·rw[fA]
  exact GB hk (f1 H)
 ·rw[hk,<-nX,<-nY];exact v8 hW (by omega) (by omega)
theorem HF (hk:k=9) (hv:(v.length:Int)=ins) (hc:bq ins A=0) (hA:A.length+5000<=1000000) (hw:1<=w/\w<=8) (hs:ct k=some s) (hf:ck s w n BX.length BY.length BZ.length=true) (h0:1<=BX.length/\BX.length<=8) (lX:Ls ins v A X BX) (nX:(num BX:Int)=av) (lY:Ls ins v A Y BY) (nY:(num BY:Int)=bv) :
  NS pre ins v A k w n X Y Z (cz k w av bv cv n BX.length BY.length):=by
 obtain⟨hi,_,_,_⟩:=dK hc;obtain⟨W,rfl⟩:∃W:Nat,w=W:=⟨w.toNat,by omega⟩
 rw[hk,show ct 9=some 2 from rfl] at hs;cases hs;simp[ck] at hf;have hxl:=lX.len;have hW:1<=W/\W<=8:=by omega
 have hyl:=lY.len;obtain⟨A1,out,c2,f1,s1,l1,_⟩:=ot pre hv hc (xs:=X) (ys:=Y) (c:=0) (bc:=false) (by omega) (by omega) (by omega) lX lY (mr hi.1);refine⟨A1,out,_,[],false,λH a b c o0 o1 o2=>?_,s1.mono (by omega),l1,by rw[jD (by omega)];omega,?_⟩
 ·rw[fA]
  exact GC hk (f1 H)
 ·rw[hk,<-nX,<-nY];exact v9 hW (by omega) (by omega)
theorem HG (hk:k=10) (hv:(v.length:Int)=ins) (hc:bq ins A=0) (hA:A.length+5000<=1000000) (hw:1<=w/\w<=8) (hs:ct k=some s) (hf:ck s w n BX.length BY.length BZ.length=true) (h0:1<=BX.length/\BX.length<=8) (lX:Ls ins v A X BX) (nX:(num BX:Int)=av) (lY:Ls ins v A Y BY) (nY:(num BY:Int)=bv) :
  NS pre ins v A k w n X Y Z (cz k w av bv cv n BX.length BY.length):=by
 obtain⟨hi,_,_,_⟩:=dK hc;obtain⟨W,rfl⟩:∃W:Nat,w=W:=⟨w.toNat,by omega⟩
 rw[hk,show ct 10=some 2 from rfl] at hs;cases hs;simp[ck] at hf;have hxl:=lX.len;have hW:1<=W/\W<=8:=by omega
 have hyl:=lY.len;obtain⟨A1,out,f1,s1,l1⟩:=sm pre hv hc (xs:=X) (ys:=Y) (by omega) (by omega) (by omega) lX lY;refine⟨A1,out,_,[],false,λH a b c o0 o1 o2=>?_,s1.mono (by omega),l1,by rw[n0 (by omega)];omega,?_⟩
 ·rw[fA]
  exact GF hk (f1 H)
 ·rw[hk,<-nX,<-nY];exact v10 hW (by omega) (by omega)
theorem HH (hk:k=11) (hv:(v.length:Int)=ins) (hc:bq ins A=0) (hA:A.length+5000<=1000000) (hw:1<=w/\w<=8) (hs:ct k=some s) (hf:ck s w n BX.length BY.length BZ.length=true) (h0:1<=BX.length/\BX.length<=8) (lX:Ls ins v A X BX) (nX:(num BX:Int)=av) (lY:Ls ins v A Y BY) (nY:(num BY:Int)=bv) :
  NS pre ins v A k w n X Y Z (cz k w av bv cv n BX.length BY.length):=by
 obtain⟨hi,_,_,_⟩:=dK hc;obtain⟨W,rfl⟩:∃W:Nat,w=W:=⟨w.toNat,by omega⟩
 rw[hk,show ct 11=some 2 from rfl] at hs;cases hs;simp[ck] at hf;have hxl:=lX.len;have hW:1<=W/\W<=8:=by omega
 have hyl:=lY.len;have hq:12*X.length*X.length<=96*8:=Nat.mul_le_mul (by omega) (by omega);obtain⟨A1,out,J,f1,s1,l1⟩:=F1 pre hv hc (xs:=X) (ys:=Y) (by omega) (by omega) (by omega) lX lY;refine⟨A1,out,_,J,false,λH a b c o0 o1 o2=>GG hk (f1 H),s1.mono (by omega),l1,by rw[FJ (by omega)];omega,?_⟩;rw[hk,<-nX,<-nY];exact v11 hW (by omega) (by omega)
theorem HI (hk:k=12) (hv:(v.length:Int)=ins) (hc:bq ins A=0) (hA:A.length+5000<=1000000) (hw:1<=w/\w<=8) (hs:ct k=some s) (hf:ck s w n BX.length BY.length BZ.length=true) (h0:1<=BX.length/\BX.length<=8) (lX:Ls ins v A X BX) (nX:(num BX:Int)=av) (lY:Ls ins v A Y BY) (nY:(num BY:Int)=bv) :
  NS pre ins v A k w n X Y Z (cz k w av bv cv n BX.length BY.length):=by
 obtain⟨hi,_,_,_⟩:=dK hc;obtain⟨W,rfl⟩:∃W:Nat,w=W:=⟨w.toNat,by omega⟩
 rw[hk,show ct 12=some 2 from rfl] at hs;cases hs;simp[ck] at hf;have hxl:=lX.len;have hW:1<=W/\W<=8:=by omega
 have hyl:=lY.len;have hq:21*(X.length+1)*X.length<=189*8:=Nat.mul_le_mul (by omega) (by omega);obtain⟨A1,q,r,J,f1,s1,l1,l2⟩:=wV pre hv hc (xs:=X) (ys:=Y) (by omega) (by omega) (by omega) lX lY;refine⟨A1,q,_,J,false,λH a b c o0 o1 o2=>GH hk (f1 H),s1.mono (by omega),l1,by rw[F5 (by omega)];omega,?_⟩;rw[hk,<-nX,<-nY];exact v12 hW (by omega) (by omega) _ (F7 (by omega))
theorem HJ (hk:k=13) (hv:(v.length:Int)=ins) (hc:bq ins A=0) (hA:A.length+5000<=1000000) (hw:1<=w/\w<=8) (hs:ct k=some s) (hf:ck s w n BX.length BY.length BZ.length=true) (h0:1<=BX.length/\BX.length<=8) (lX:Ls ins v A X BX) (nX:(num BX:Int)=av) (lY:Ls ins v A Y BY) (nY:(num BY:Int)=bv) :
  NS pre ins v A k w n X Y Z (cz k w av bv cv n BX.length BY.length):=by
 obtain⟨hi,_,_,_⟩:=dK hc;obtain⟨W,rfl⟩:∃W:Nat,w=W:=⟨w.toNat,by omega⟩
 rw[hk,show ct 13=some 2 from rfl] at hs;cases hs;simp[ck] at hf;have hxl:=lX.len;have hW:1<=W/\W<=8:=by omega
 have hyl:=lY.len;have hq:21*(X.length+1)*X.length<=189*8:=Nat.mul_le_mul (by omega) (by omega);obtain⟨A1,q,r,J,f1,s1,l1,l2⟩:=wV pre hv hc (xs:=X) (ys:=Y) (by omega) (by omega) (by omega) lX lY;refine⟨A1,r,_,J,false,λH a b c o0 o1 o2=>GJ hk (f1 H),s1.mono (by omega),l2,by rw[F6 (by omega)];omega,?_⟩;rw[hk,<-nX,<-nY];exact v13 hW (by omega) (by omega) _ (F8 (by omega))
theorem HK (hk:k=14) (hv:(v.length:Int)=ins) (hc:bq ins A=0) (hA:A.length+5000<=1000000) (hw:1<=w/\w<=8) (hs:ct k=some s) (hf:ck s w n BX.length BY.length BZ.length=true) (h0:1<=BX.length/\BX.length<=8) (lX:Ls ins v A X BX) (nX:(num BX:Int)=av) (lY:Ls ins v A Y BY) (nY:(num BY:Int)=bv) :
  NS pre ins v A k w n X Y Z (cz k w av bv cv n BX.length BY.length):=by
 obtain⟨hi,_,_,_⟩:=dK hc;obtain⟨W,rfl⟩:∃W:Nat,w=W:=⟨w.toNat,by omega⟩
 rw[hk,show ct 14=some 2 from rfl] at hs;cases hs;simp[ck] at hf;have hxl:=lX.len;have hW:1<=W/\W<=8:=by omega
 have hyl:=lY.len;have hq:3*X.length*Y.length<=24*8:=Nat.mul_le_mul (by omega) (by omega);obtain⟨A1,out,J,f1,s1,l1⟩:=xp pre hv (up:=true) hc (xs:=X) (ys:=Y) (by omega) (by omega) (by omega) lX lY;refine⟨A1,out,_,J,false,λH a b c o0 o1 o2=>GK hk (f1 H),s1.mono (by omega),l1,by rw[si];omega,?_⟩;rw[hk,<-nX,<-nY];exact v14 hW (by omega)
theorem HL (hk:k=15) (hv:(v.length:Int)=ins) (hc:bq ins A=0) (hA:A.length+5000<=1000000) (hw:1<=w/\w<=8) (hs:ct k=some s) (hf:ck s w n BX.length BY.length BZ.length=true) (h0:1<=BX.length/\BX.length<=8) (lX:Ls ins v A X BX) (nX:(num BX:Int)=av) (lY:Ls ins v A Y BY) (nY:(num BY:Int)=bv) :
  NS pre ins v A k w n X Y Z (cz k w av bv cv n BX.length BY.length):=by
 obtain⟨hi,_,_,_⟩:=dK hc;obtain⟨W,rfl⟩:∃W:Nat,w=W:=⟨w.toNat,by omega⟩
 rw[hk,show ct 15=some 2 from rfl] at hs;cases hs;simp[ck] at hf;have hxl:=lX.len;have hW:1<=W/\W<=8:=by omega
 have hyl:=lY.len;have hq:3*X.length*Y.length<=24*8:=Nat.mul_le_mul (by omega) (by omega);obtain⟨A1,out,J,f1,s1,l1⟩:=xp pre hv (up:=false) hc (xs:=X) (ys:=Y) (by omega) (by omega) (by omega) lX lY;refine⟨A1,out,_,J,false,λH a b c o0 o1 o2=>GL hk (f1 H),s1.mono (by omega),l1,by rw[si];omega,?_⟩;rw[hk,<-nX,<-nY];exact v15 hW (by omega)
theorem HM (hk:k=16) (hv:(v.length:Int)=ins) (hc:bq ins A=0) (hA:A.length+5000<=1000000) (hw:1<=w/\w<=8) (hs:ct k=some s) (hf:ck s w n BX.length BY.length BZ.length=true) (h0:1<=BX.length/\BX.length<=8) (lX:Ls ins v A X BX) (nX:(num BX:Int)=av) (lY:Ls ins v A Y BY) (nY:(num BY:Int)=bv) :
  NS pre ins v A k w n X Y Z (cz k w av bv cv n BX.length BY.length):=by
 obtain⟨hi,_,_,_⟩:=dK hc;obtain⟨W,rfl⟩:∃W:Nat,w=W:=⟨w.toNat,by omega⟩
 rw[hk,show ct 16=some 3 from rfl] at hs;cases hs;simp[ck] at hf;have hxl:=lX.len;have hW:1<=W/\W<=8:=by omega
 have hyl:=lY.len;obtain rfl:W=1:=by omega
 obtain⟨A1,e,f1,s1,l1⟩:=xN pre hv X Y [] [] BX BY A 1 true hc (by omega) rfl (by omega) (by simp;omega) lX lY (ms hi.1);refine⟨A1,[e],[eqB BX BY true],[],true,λH a b c o0 o1 o2=>?_,s1.mono (by omega),⟨l1,trivial⟩,rfl,?_⟩
 ·rw[fA]
  have hL:=f1 H;simp only[bI,bZ,cR,aX] at hL;exact GN hk (by rw[bC];exact hL) (qm6 (by simp))
 ·rw[hk,<-nX,<-nY];exact v16 (by omega)
theorem HN (hk:k=17) (hv:(v.length:Int)=ins) (hc:bq ins A=0) (hA:A.length+5000<=1000000) (hw:1<=w/\w<=8) (hs:ct k=some s) (hf:ck s w n BX.length BY.length BZ.length=true) (h0:1<=BX.length/\BX.length<=8) (lX:Ls ins v A X BX) (nX:(num BX:Int)=av) (lY:Ls ins v A Y BY) (nY:(num BY:Int)=bv) :
  NS pre ins v A k w n X Y Z (cz k w av bv cv n BX.length BY.length):=by
 obtain⟨hi,_,_,_⟩:=dK hc;obtain⟨W,rfl⟩:∃W:Nat,w=W:=⟨w.toNat,by omega⟩
 rw[hk,show ct 17=some 3 from rfl] at hs;cases hs;simp[ck] at hf;have hxl:=lX.len;have hW:1<=W/\W<=8:=by omega
 have hyl:=lY.len;obtain rfl:W=1:=by omega
 obtain⟨A1,e,f1,s1,l1⟩:=sn pre hv hc (xs:=X) (ys:=Y) (by omega) (by omega) (by omega) lX lY;refine⟨A1,[e],[gJ BX BY],[],true,λH a b c o0 o1 o2=>?_,s1.mono (by omega),⟨l1,trivial⟩,rfl,?_⟩
 ·rw[fA]
  exact GO hk (f1 H)
 ·rw[hk,<-nX,<-nY];exact v17 (by omega)
theorem HO (hk:k=18) (hv:(v.length:Int)=ins) (hc:bq ins A=0) (hA:A.length+5000<=1000000) (hw:1<=w/\w<=8) (hs:ct k=some s) (hf:ck s w n BX.length BY.length BZ.length=true) (h0:1<=BX.length/\BX.length<=8) (lX:Ls ins v A X BX) (nX:(num BX:Int)=av) (lY:Ls ins v A Y BY) (nY:(num BY:Int)=bv) :
  NS pre ins v A k w n X Y Z (cz k w av bv cv n BX.length BY.length):=by
 obtain⟨hi,_,_,_⟩:=dK hc;obtain⟨W,rfl⟩:∃W:Nat,w=W:=⟨w.toNat,by omega⟩
 rw[hk,show ct 18=some 3 from rfl] at hs;cases hs;simp[ck] at hf;have hxl:=lX.len;have hW:1<=W/\W<=8:=by omega
 have hyl:=lY.len;obtain rfl:W=1:=by omega
 obtain⟨m,hm⟩:∃m,X.length=m+1:=⟨X.length-1,by omega⟩
 have tx:=xO hc lX hm;have ty:=xO hc lY (m:=m) (by omega);obtain⟨A1,e,f1,s1,l1⟩:=sn pre hv hc (xs:=X.set m (dg (X.getD m 0))) (ys:=Y.set m (dg (Y.getD m 0))) (by simp;omega) (by simp;omega) (by simp;omega) tx ty;refine⟨A1,[e],[gJ (fK BX) (fK BY)],[],true,λH a b c o0 o1 o2=>?_,s1.mono (by simp;omega),⟨l1,trivial⟩,rfl,?_⟩
 ·rw[fA]
  exact GP hk (w7 hm (by omega) _) (w7 (by omega) (by omega) _) (f1 H)
 ·rw[hk,<-nX,<-nY];exact v18 (by omega) (by omega)
theorem HP (hk:k=19) (hv:(v.length:Int)=ins) (hc:bq ins A=0) (hA:A.length+5000<=1000000) (hw:1<=w/\w<=8) (hs:ct k=some s) (hf:ck s w n BX.length BY.length BZ.length=true) (h0:1<=BX.length/\BX.length<=8) (lX:Ls ins v A X BX) (nX:(num BX:Int)=av) (lY:Ls ins v A Y BY) (nY:(num BY:Int)=bv) (lZ:Ls ins v A Z BZ) (nZ:(num BZ:Int)=cv) :
  NS pre ins v A k w n X Y Z (cz k w av bv cv n BX.length BY.length):=by
 obtain⟨hi,_,_,_⟩:=dK hc;obtain⟨W,rfl⟩:∃W:Nat,w=W:=⟨w.toNat,by omega⟩
 rw[hk,show ct 19=some 4 from rfl] at hs;cases hs;simp[ck] at hf;have hxl:=lX.len;have hW:1<=W/\W<=8:=by omega
 have hyl:=lY.len;have hzl:=lZ.len;have hx0:=lX.get (k:=0) (by omega);obtain⟨A1,out,f1,s1,l1⟩:=ld pre hv hc (c:=X.getD 0 0) (xs:=Y) (ys:=Z) (by omega) (by omega) (by omega) hx0 lY lZ;refine⟨A1,out,_,pkJ pre (X.getD 0 0),false,λH a b c o0 o1 o2=>?_,s1.mono (by omega),l1,by unfold d9;split<;>omega,?_⟩
 ·refine GQ hk (q:=X.getD 0 0) ?_ (f1 H _ (.inl rfl))
  rw[aB,aM,aA (by omega)];rfl
 ·rw[hk,<-nX,<-nY,<-nZ];exact v19 hW (by omega) (by omega) (by omega)
theorem HQ (hk:k=20) (hv:(v.length:Int)=ins) (hc:bq ins A=0) (hA:A.length+5000<=1000000) (hw:1<=w/\w<=8) (hs:ct k=some s) (hf:ck s w n BX.length BY.length BZ.length=true) (h0:1<=BX.length/\BX.length<=8) (lX:Ls ins v A X BX) (nX:(num BX:Int)=av) (lY:Ls ins v A Y BY) (nY:(num BY:Int)=bv) (h1:1<=BY.length/\BY.length<=8) :
  NS pre ins v A k w n X Y Z (cz k w av bv cv n BX.length BY.length):=by
 obtain⟨hi,_,_,_⟩:=dK hc;obtain⟨W,rfl⟩:∃W:Nat,w=W:=⟨w.toNat,by omega⟩
 rw[hk,show ct 20=some 5 from rfl] at hs;cases hs;simp[ck] at hf;have hxl:=lX.len;have hW:1<=W/\W<=8:=by omega
 have hyl:=lY.len;have hwr:WI.wrap ((BX.length:Int)+BY.length)=(BX.length:Int)+BY.length:=a9 (by omega) (by omega);have hsum:BX.length+BY.length=W:=by omega
 have hm:=MB;refine⟨A,Y++X,BY++BX,[],false,λH a b c o0 o1 o2=>?_,(Stp.refl hc).mono (by omega),lY.app lX,by simp;omega,?_⟩
 ·rw[fA,bK]
  exact GR hk (xj (fB Y) (fB X) (by simp;omega))
 ·rw[hk,<-nX,<-nY];exact v20 hW (by omega)
theorem HR (hk:k=21) (hv:(v.length:Int)=ins) (hc:bq ins A=0) (hA:A.length+5000<=1000000) (hw:1<=w/\w<=8) (hs:ct k=some s) (hf:ck s w n BX.length BY.length BZ.length=true) (h0:1<=BX.length/\BX.length<=8) (lX:Ls ins v A X BX) (nX:(num BX:Int)=av) :
  NS pre ins v A k w n X Y Z (cz k w av bv cv n BX.length BY.length):=by
 obtain⟨hi,_,_,_⟩:=dK hc;obtain⟨W,rfl⟩:∃W:Nat,w=W:=⟨w.toNat,by omega⟩
 rw[hk,show ct 21=some 6 from rfl] at hs;cases hs;simp[ck] at hf;have hxl:=lX.len;have hW:1<=W/\W<=8:=by omega
 obtain⟨N,rfl⟩:∃N:Nat,n=N:=⟨n.toNat,by omega⟩
 have hwr:WI.wrap ((BX.length:Int)-W)=(BX.length:Int)-W:=a9 (by omega) (by omega);have hNW:N+W<=X.length:=by omega
 have e:(X.take (N+W)).drop N=(X.drop N).take W:=by rw[List.drop_take,Nat.add_sub_cancel_left]
 refine⟨A,(X.drop N).take W,(BX.drop N).take W,[],false,λH a b c o0 o1 o2=>?_,(Stp.refl hc).mono (by omega),(lX.drop N).take W,by simp;omega,?_⟩
 ·rw[fA,<-e,List.map_drop,List.map_take]
  exact GS hk (N:=N) (W:=W) rfl (by rw[a9 (by omega) (by omega)];omega) (by simpa using hNW)
 ·rw[hk,<-nX];exact v21 hW h0.2
theorem HS (hk:k=22) (hv:(v.length:Int)=ins) (hc:bq ins A=0) (hA:A.length+5000<=1000000) (hw:1<=w/\w<=8) (hs:ct k=some s) (hf:ck s w n BX.length BY.length BZ.length=true) (h0:1<=BX.length/\BX.length<=8) (lX:Ls ins v A X BX) (nX:(num BX:Int)=av) :
  NS pre ins v A k w n X Y Z (cz k w av bv cv n BX.length BY.length):=by
 obtain⟨hi,_,_,_⟩:=dK hc;obtain⟨W,rfl⟩:∃W:Nat,w=W:=⟨w.toNat,by omega⟩
 rw[hk,show ct 22=some 7 from rfl] at hs;cases hs;simp[ck] at hf;have hxl:=lX.len;have hW:1<=W/\W<=8:=by omega
 refine⟨A,X++List.replicate (W-X.length) 0,BX++List.replicate (W-BX.length) false,[],false,λH a b c o0 o1 o2=>?_,(Stp.refl hc).mono (by omega),lX.app (by rw[<-hxl];exact Ls.zeros hi.1 _),by simp;omega,?_⟩
 ·rw[fA]
  exact GT hk (w6 (by omega) (by omega) _)
 ·rw[hk,<-nX];exact v22 hW (by omega)
theorem HT (hk:k=23) (hv:(v.length:Int)=ins) (hc:bq ins A=0) (hA:A.length+5000<=1000000) (hw:1<=w/\w<=8) (hs:ct k=some s) (hf:ck s w n BX.length BY.length BZ.length=true) (h0:1<=BX.length/\BX.length<=8) (lX:Ls ins v A X BX) (nX:(num BX:Int)=av) :
  NS pre ins v A k w n X Y Z (cz k w av bv cv n BX.length BY.length):=by
 obtain⟨hi,_,_,_⟩:=dK hc;obtain⟨W,rfl⟩:∃W:Nat,w=W:=⟨w.toNat,by omega⟩
 rw[hk,show ct 23=some 7 from rfl] at hs;cases hs;simp[ck] at hf;have hxl:=lX.len;have hW:1<=W/\W<=8:=by omega
 obtain⟨m,hm⟩:∃m,X.length=m+1:=⟨X.length-1,by omega⟩
 have hxm:=lX.get (k:=m) (by omega);refine⟨A,X++List.replicate (W-X.length) (X.getD m 0),BX++List.replicate (W-BX.length) (BX.getD (BX.length-1) false),[],false,λH a b c o0 o1 o2=>?_,(Stp.refl hc).mono (by omega),lX.app ?_,by simp;omega,?_⟩
 ·rw[fA]
  refine GU hk (q:=X.getD m 0) (m:=m) (by simpa using hm) (by omega) ?_ (w6 (by omega) (by omega) _);rw[aB,aM,aA (by omega)];rfl
 ·rw[show BX.length-1=m by omega,show W-BX.length=W-X.length by omega]
  exact xP hxm _
 ·rw[hk,<-nX];exact v23 hW (by omega)
end
end
theorem HU {l:List PV} {i:Nat} {v:PV} (h:i<l.length):bj l i [v]=l.set i v:=by unfold bj;rw[List.set_eq_take_append_cons_drop,if_pos h];simp
def pa (bits:List (List Int)):Nat->List Int->List PV->List PV
 |_,[],C=>C
 |i,a::l,C=>pa bits (i+1) l (C.set i (LI (bits.getD a.toNat [])))
def eP (bits:List (List Int)) (t j a:Int):List Int:=if j<t then bits.getD a.toNat [] else []
def j9 (bvs:List (List Bool)) (t j a:Int):List Bool:=if j<t then bvs.getD a.toNat [] else []
section
variable {pre:List GObj} {ins:Int} {v:List Bool}
theorem HW {G:List GObj} {BS:List PV} {V:List PV} {o:Bool} {m0 m1 m2 m3 m4 c0 c1 c2:PV} {A:List PV} {k w a b c n y:Int} {t j:Nat} (hj:j<t) (ht:t<=3) (hA:A[j]?=some (I y)) (hy:0<=y)
  (hbg:G[pre.length+2]?=some (.cells [.ptr true (pre.length+1) 0,m0,m1,m2,m3,m4,.sl o 1 BS])) (hB:BS[y.toNat]?=some (.sl false 1 V)) :
  q56 pg (pre.length+2) 0 (.sl false 1 A) t j k w a b c n c0 c1 c2 G=some (.normal,⟨[(0,.ptr true (pre.length+2) 0),(3,.ptr false 0 0),(5,.ptr false 1 0),(22,.sl false 1 A),(23,I t),(24,I ((j+1:Nat):Int))],[[I k,I w,I a,I b,I c,I n],[c0,c1,c2].set j (.sl false 1 V)],G⟩):=by
 have hltI:(j:Int)<(t:Int):=by omega
 have e2:=wrS' j (by omega);have hj3:j<3:=by omega
 have hj2:j<=2:=by omega
 have hge:(0:Int)<=(j:Int):=by omega
 have hj3i:(j:Int)<3:=by omega
 have hsp:bj [c0,c1,c2] j [.sl false 1 V]=[c0,c1,c2].set j (.sl false 1 V):=HU (by simpa using hj3);simp only[q56,aG hltI,dO];simp[hA,hbg,hy,hB,hge,hj3i,hj2,e2,hsp]
theorem xQ {G:List GObj} {bits:List (List Int)} {o:Bool} {m0 m1 m2 m3 m4:PV} {k w a b c n:Int} (hbg:G[pre.length+2]?=some (.cells [.ptr true (pre.length+1) 0,m0,m1,m2,m3,m4,.sl o 1 (bits.map λl=>LI l)])) :
  ∀(rx px:List Int) (C:List PV),C.length=3->px.length+rx.length<=3->(∀y∈rx,0<=y/\y.toNat<bits.length)->
  ab pg q5u ⟨[(0,.ptr true (pre.length+2) 0),(3,.ptr false 0 0),(5,.ptr false 1 0),(22,LI (px++rx)),(23,I ((px.length+rx.length:Nat):Int)),(24,I (px.length:Int))],[[I k,I w,I a,I b,I c,I n],C],G⟩=
   some (.normal,⟨[(0,.ptr true (pre.length+2) 0),(3,.ptr false 0 0),(5,.ptr false 1 0)],[[I k,I w,I a,I b,I c,I n],pa bits px.length rx C],G⟩)
 | [],px,C,hC,_,_=>by
  match C,hC with
  |[c0,c1,c2],_=>
   have hlt:¬((px.length:Nat):Int)<((px.length+([]:List Int).length:Nat):Int):=by simp
   refine (cm (s1:=?s1) (q56_ ?h1)).trans ?r1
   case h1=>simp only[q56,aF hlt,dq];rfl
   case r1=>simp[keep,pa]
 | y::rx,px,C,hC,hl,hy=>by
  match C,hC with
  | [c0,c1,c2],_=>
   obtain⟨y0,y1⟩:=hy y (bF ..);have hB:(bits.map λl=>LI l)[y.toNat]?=some (LI (bits.getD y.toNat [])):=by rw[aB,aM,aA y1];rfl
   have hb:=HW (pre:=pre) (c0:=c0) (c1:=c1) (c2:=c2) (k:=k) (w:=w) (a:=a) (b:=b) (c:=c) (n:=n) (t:=px.length+(y::rx).length) (j:=px.length) (by simp) hl (get_at (rx:=rx) (x:=y) rfl) y0 hbg hB;refine bh (q56_ hb) ?_;simp only[bB] at hl;have hg:=xQ (k:=k) (w:=w) (a:=a) (b:=b) (c:=c) (n:=n) hbg rx (px++[y]) ([c0,c1,c2].set px.length (LI (bits.getD y.toNat []))) (by simp) (by simp;omega) (λz hz=>hy z (bG _ hz));rw[show (px++[y]).length+rx.length=px.length+(y::rx).length by simp;omega,show (px++[y]).length=px.length+1 by simp,aZ px [y] rx] at hg;exact hg
theorem HX {x:Nd} {o oR:Bool} {G G2:List GObj} {bits:List (List Int)} {m0 m1 m2 m3 m4:PV} {R:List PV}
  (hbg:G[pre.length+2]?=some (.cells [.ptr true (pre.length+1) 0,m0,m1,m2,m3,m4,.sl o 1 (bits.map λl=>LI l)]))
  (hmem:∀y∈dM x,0<=y/\y.toNat<bits.length)
  (hk:∀o0 o1 o2:Bool,ab pg q6 (nkS pre x.k x.w x.a x.b x.c x.n ((eP bits (az x.k) 0 x.a).map I) ((eP bits (az x.k) 1 x.b).map I) ((eP bits (az x.k) 2 x.c).map I) o0 o1 o2 G)=some (.ret,⟨[(4,.sl oR 1 R)],[],G2⟩)) :
  ac pg 218 [.ptr true (pre.length+2) 0,bm x] G=some (.sl false 1 R,G2):=by
 have hargs:=su x G;have hlen:(dM x).length<=3:=by unfold dM;simp;exact Nat.min_le_right _ _
 have hL:=xQ (pre:=pre) (k:=x.k) (w:=x.w) (a:=x.a) (b:=x.b) (c:=x.c) (n:=x.n) hbg (dM x) [] [.sl true 1 [],.sl true 1 [],.sl true 1 []] rfl (by simpa using hlen) hmem;simp only[bI,bZ,cR,aX] at hL;have hset:∃o0 o1 o2:Bool,pa bits 0 (dM x) [.sl true 1 [],.sl true 1 [],.sl true 1 []]=[.sl o0 1 ((eP bits (az x.k) 0 x.a).map I),.sl o1 1 ((eP bits (az x.k) 1 x.b).map I),.sl o2 1 ((eP bits (az x.k) 2 x.c).map I)]:=by
  unfold dM eP;rcases jG x.k with h|h|h|h<;>rw[h]
  ·exact⟨true,true,true,rfl⟩
  ·exact⟨false,true,true,rfl⟩
  ·exact⟨false,false,true,rfl⟩
  ·exact⟨false,false,false,rfl⟩
 obtain⟨o0,o1,o2,hset⟩:=hset;rw[hset] at hL;have hk1:=hk o0 o1 o2;unfold nkS at hk1;generalize (eP bits (az x.k) 0 x.a).map I=X at *;generalize (eP bits (az x.k) 1 x.b).map I=Y at *;generalize (eP bits (az x.k) 2 x.c).map I=Z at *;rw[dQ] at hargs ⊢;have hal:((dM x).map I).length=(dM x).length:=by simp
 unfold LI at hargs hL;generalize (dM x).map I=AL at *;refine aq (fn:=q5w) (s:=⟨[(4,.sl oR 1 R)],[],G2⟩) rfl rfl (qm8 ?h1) ?r1
 case h1=>simp[hargs,hal,hL,hk1]
 case r1=>simp[am,results,q5w,ao,au,ai]
theorem HY {x:Nd} {n:Nat} (ha:0<=x.a/\x.a.toNat<n) (hb:0<=x.b/\x.b.toNat<n) (hcc:0<=x.c/\x.c.toNat<n):∀y∈dM x,0<=y/\y.toNat<n:=by
 intro y hy;unfold dM at hy;have:=cJ hy;simp at this;rcases this with rfl|rfl|rfl
 ·exact ha
 ·exact hb
 ·exact hcc
structure BitsOk (ins:Int) (v:List Bool) (A:List (Int×Int)) (L:List Nd) (bits:List (List Int)) (bvs:List (List Bool)) (acc:List Int):Prop where
 bl:bvs.length=bits.length
 al:acc.length=bits.length
 ls:∀j,j<bits.length->Ls ins v A (bits.getD j []) (bvs.getD j [])
 wd:∀j,j<bits.length->((bvs.getD j []).length:Int)=wAt L j
 nm:∀j,j<bits.length->(num (bvs.getD j []):Int)=acc.getD j 0
theorem lp {α:Type} {d x:α} {l:List α} {j:Nat}:(l++[x]).getD j d=if j<l.length then l.getD j d else if j=l.length then x else d:=by
 simp only[aM];by_cases h:j<l.length
 ·rw[if_pos h,aJ h]
 ·rw[if_neg h,aR (by omega)]
  by_cases h2:j=l.length
  ·rw[if_pos h2,h2,Nat.sub_self];rfl
  ·rw[if_neg h2,List.getElem?_eq_none (by simp;omega)];rfl
theorem BitsOk.mono {A A':List (Int×Int)} {L:List Nd} {bits:List (List Int)} {bvs:List (List Bool)} {acc:List Int} {c:Nat} (hv:(v.length:Int)=ins) (h:BitsOk ins v A L bits bvs acc) (s:Stp ins A A' c):BitsOk ins v A' L bits bvs acc:=
 ⟨h.bl,h.al,λj hj=>(h.ls j hj).mono hv s,h.wd,h.nm⟩
theorem BitsOk.push {A:List (Int×Int)} {L:List Nd} {bits:List (List Int)} {bvs:List (List Bool)} {acc:List Int} (h:BitsOk ins v A L bits bvs acc) {out:List Int} {ob:List Bool} {val:Int} (h1:Ls ins v A out ob) (h2:(ob.length:Int)=wAt L (bits.length:Int)) (h3:(num ob:Int)=val):BitsOk ins v A L (bits++[out]) (bvs++[ob]) (acc++[val]):=by
 refine⟨by simp[h.bl],by simp[h.al],λj hj=>?_,λj hj=>?_,λj hj=>?_⟩
 all_goals rw[aW,bB,bZ] at hj
 ·rw[lp,lp,h.bl]
  by_cases hq:j<bits.length
  ·rw[if_pos hq,if_pos hq];exact h.ls j hq
  ·rw[if_neg hq,if_neg hq,if_pos (by omega),if_pos (by omega)];exact h1
 ·rw[lp,h.bl]
  by_cases hq:j<bits.length
  ·rw[if_pos hq];exact h.wd j hq
  ·rw[if_neg hq,if_pos (by omega),show j=bits.length by omega];exact h2
 ·rw[lp,lp,h.bl,h.al]
  by_cases hq:j<bits.length
  ·rw[if_pos hq,if_pos hq];exact h.nm j hq
  ·rw[if_neg hq,if_neg hq,if_pos (by omega),if_pos (by omega)];exact h3
theorem s9 {A:List (Int×Int)} {L:List Nd} {bits:List (List Int)} {bvs:List (List Bool)} {acc:List Int} (h:BitsOk ins v A L bits bvs acc) {k j a:Int} (ha:0<=a/\a.toNat<bits.length) :
  Ls ins v A (eP bits (az k) j a) (j9 bvs (az k) j a)/\((j9 bvs (az k) j a).length:Int)=wdJ L k j a/\(j<az k->(num (j9 bvs (az k) j a):Int)=acc.getD a.toNat 0):=by
 unfold eP j9 wdJ;by_cases hj:j<az k
 ·rw[if_pos hj,if_pos hj,if_pos hj]
  have:=h.wd a.toNat ha.2;rw[show ((a.toNat:Nat):Int)=a by omega] at this;exact⟨h.ls _ ha.2,this,λ_=>h.nm _ ha.2⟩
 ·rw[if_neg hj,if_neg hj,if_neg hj]
  exact⟨trivial,rfl,λh=>absurd h hj⟩
theorem HZ (pre:List GObj) (hv:(v.length:Int)=ins) {A:List (Int×Int)} {L:List Nd} {bits:List (List Int)} {bvs:List (List Bool)} {acc:List Int} {x:Nd} (h:BitsOk ins v A L bits bvs acc) (ho:lm L bits.length x) (hc:bq ins A=0) (hA:A.length+5000<=1000000) :
  NS pre ins v A x.k x.w x.n (eP bits (az x.k) 0 x.a) (eP bits (az x.k) 1 x.b) (eP bits (az x.k) 2 x.c) (jg L acc x):=by
 obtain⟨hk,hw,g0,g1,g2,s,hs,hf⟩:=la ho.fit;have ha:=ho.a;have hb:=ho.b;have hcc:=ho.c;obtain⟨lX,wX,nX⟩:=s9 h (k:=x.k) (j:=0) (a:=x.a) ⟨ha.1,by omega⟩;obtain⟨lY,wY,nY⟩:=s9 h (k:=x.k) (j:=1) (a:=x.b) ⟨hb.1,by omega⟩;obtain⟨lZ,wZ,nZ⟩:=s9 h (k:=x.k) (j:=2) (a:=x.c) ⟨hcc.1,by omega⟩;have ht:=mm hk;unfold wOk at g0 g1;rw[if_pos ht,<-wX] at g0;rw[<-wY] at g1;unfold jg;rw[<-wX,<-wY];rw[<-wX,<-wY,<-wZ] at hf;replace nX:=nX ht;generalize eP bits (az x.k) 0 x.a=X at *;generalize eP bits (az x.k) 1 x.b=Y at *;generalize eP bits (az x.k) 2 x.c=Z at *;generalize j9 bvs (az x.k) 0 x.a=BX at *
 generalize j9 bvs (az x.k) 1 x.b=BY at *;generalize j9 bvs (az x.k) 2 x.c=BZ at *;have h0:1<=BX.length/\BX.length<=8:=by omega
 clear wX wY wZ g0 g2 ha hb hcc ho h;generalize acc.getD x.a.toNat 0=av at *;generalize acc.getD x.b.toNat 0=bv at *;generalize acc.getD x.c.toNat 0=cv at *;generalize x.w=w at *;generalize x.n=n at *;generalize x.k=k at *;have hcase:k=4\/k=5\/k=6\/k=7\/k=8\/k=9\/k=10\/k=11\/k=12\/k=13\/k=14\/k=15\/k=16\/k=17\/k=18\/k=19\/k=20\/k=21\/k=22\/k=23:=by omega
 have hn1:6<=k->k<=20->(num BY:Int)=bv:=λh1 h2=>nY (by
  unfold az;repeat' split
  all_goals omega)
 rcases hcase with e|e|e|e|e|e|e|e|e|e|e|e|e|e|e|e|e|e|e|e
 ·exact Hz e hv hc hA hw hs hf h0 lX nX
 ·exact HA e hv hc hA hw hs hf h0 lX nX
 ·exact HB e hv hc hA hw hs hf h0 lX nX lY (hn1 (by omega) (by omega))
 ·exact HC e hv hc hA hw hs hf h0 lX nX lY (hn1 (by omega) (by omega))
 ·exact HE e hv hc hA hw hs hf h0 lX nX lY (hn1 (by omega) (by omega))
 ·exact HF e hv hc hA hw hs hf h0 lX nX lY (hn1 (by omega) (by omega))
 ·exact HG e hv hc hA hw hs hf h0 lX nX lY (hn1 (by omega) (by omega))
 ·exact HH e hv hc hA hw hs hf h0 lX nX lY (hn1 (by omega) (by omega))
 ·exact HI e hv hc hA hw hs hf h0 lX nX lY (hn1 (by omega) (by omega))
 ·exact HJ e hv hc hA hw hs hf h0 lX nX lY (hn1 (by omega) (by omega))
 ·exact HK e hv hc hA hw hs hf h0 lX nX lY (hn1 (by omega) (by omega))
 ·exact HL e hv hc hA hw hs hf h0 lX nX lY (hn1 (by omega) (by omega))
 ·exact HM e hv hc hA hw hs hf h0 lX nX lY (hn1 (by omega) (by omega))
 ·exact HN e hv hc hA hw hs hf h0 lX nX lY (hn1 (by omega) (by omega))
 ·exact HO e hv hc hA hw hs hf h0 lX nX lY (hn1 (by omega) (by omega))
 ·subst e
  exact HP rfl hv hc hA hw hs hf h0 lX nX lY (nY (by decide)) lZ (nZ (by decide))
 ·subst e
  rw[if_pos (by decide)] at g1;exact HQ rfl hv hc hA hw hs hf h0 lX nX lY (nY (by decide)) (by omega)
 ·exact HR e hv hc hA hw hs hf h0 lX nX
 ·exact HS e hv hc hA hw hs hf h0 lX nX
 ·exact HT e hv hc hA hw hs hf h0 lX nX
theorem H0 (pre:List GObj) {A:List (Int×Int)} {bits:List (List Int)} {x:Nd} {val:Int} (hN:NS pre ins v A x.k x.w x.n (eP bits (az x.k) 0 x.a) (eP bits (az x.k) 1 x.b) (eP bits (az x.k) 2 x.c) val)
  (hmem:∀y∈dM x,0<=y/\y.toNat<bits.length) :
  ∃A' out ob J,(∀(H:BC) (o:Bool),H.bits= .sl o 1 (bits.map λl=>LI l)->ac pg 218 [.ptr true (pre.length+2) 0,bm x] (H.g pre ins A)=some (LI out,(H.push J).g pre ins A'))/\Stp ins A A' 5000/\Ls ins v A' out ob/\(ob.length:Int)=x.w/\(num ob:Int)=val:=by
 obtain⟨A',out,ob,J,oR,h1,h2,h3,h4,h5⟩:=hN;refine⟨A',out,ob,J,λH o hH=>?_,h2,h3,h4,h5⟩;have hbg:=ip (pre:=pre) (ins:=ins) (A:=A) (H:=H);rw[hH] at hbg;exact HX hbg hmem (λo0 o1 o2=>h1 H x.a x.b x.c o0 o1 o2)
end
section
variable {N i b ol s k:Nat} {v:Int} {R:Type} {e:PV} {x:Nd}
def cw (N:Nat) (acc:List Int):List Int:=acc++List.replicate (N-acc.length) 0
theorem lq {acc:List Int} (h:acc.length<=N):(cw N acc).length=N:=by simp[cw];omega
theorem lr {acc:List Int} {a:Nat} (h:a<acc.length):(cw N acc)[a]?=some (acc.getD a 0):=by unfold cw;rw[aJ h,aM,aA h];rfl
theorem xR {acc:List Int} (h:acc.length<N):(cw N acc).set acc.length v=cw N (acc++[v]):=by
 unfold cw;rw[List.set_append_right _ _ (cQ _),Nat.sub_self,aW,List.length_singleton];obtain⟨k,hk⟩:∃k,N-acc.length=k+1:=⟨N-acc.length-1,by omega⟩
 rw[hk,show N-(acc.length+1)=k by omega,List.replicate_succ,List.set_cons_zero];simp
theorem xS {acc:List Int} (h:acc.length=N):cw N acc=acc:=by simp[cw,h]
theorem xT {l:List PV} {v:PV} (h:i<l.length):bj l i [v]=l.set i v:=by unfold bj;rw[List.set_eq_take_append_cons_drop,if_pos h];simp
def eX (gh:List GObj) (o:List Int):List GObj:=gh++[.cells (o.map I),.cells [.bs true gh.length 0 o.length 1]]
section
variable {m:Md} {gh:List GObj}
theorem xU (o:List Int):(eX gh o)[gh.length]?=some (.cells (o.map I)):=by simp[eX]
theorem xV (o:List Int):(eX gh o)[gh.length+1]?=some (.cells [.bs true gh.length 0 o.length 1]):=by simp[eX]
theorem H1 {o o2:List Int} (h:o2.length=o.length):(eX gh o).set gh.length (.cells (o2.map I))=eX gh o2:=by simp[eX,h]
theorem ta {G:List GObj} {o:List Int} {a:Int} (h1:G[b+1]?=some (.cells [.bs true b 0 o.length 1])) (h0:G[b]?=some (.cells (o.map I))) (ha:0<=a/\a.toNat<o.length) (hv:o[a.toNat]?=some v) :
  ac pg 143 [I a,.ptr true (b+1) 0] G=some (I v,G):=by
 have hg:(o.map I)[a.toNat]?=some (I v):=by simp[hv]
 have hl:(o.map I).length=o.length:=by simp
 have hlt:a<(o.length:Int):=by omega
 obtain⟨e0,e1⟩:=ha;generalize o.map I=O at *;generalize o.length=n at *;refine aq (fn:=q6q) (s:=⟨[(3,I v)],[],G⟩) rfl rfl (qmw ?h1) ?r1
 case h1=>simp[h1,h0,hg,e0,e1,hlt]
 case r1=>simp[am,results,q6q,ao,au,ai]
def tb (m:Md) (ss ks o:List Int) (i:Nat) (gh:List GObj):St:=
 ⟨[(1,LI ss),(2,LI ks),(3,.ptr false 0 0),(7,.ptr true (gh.length+1) 0),(8,.fn 143 [.ptr true (gh.length+1) 0]),(17,LN m.nodes),(18,I m.nodes.length),(19,I (i:Int))],[[LN m.nodes,LP m.inits,LP m.nexts,LI m.bads,LI m.holds]],eX gh o⟩
theorem pc {ss ks:List PV} (hi:i<=1000) {G:List GObj}:ab pg q18 ⟨[(1,.sl false 1 ss),(2,.sl false 1 ks),(3,.ptr false 0 0),(7,.ptr true (b+1) 0),(8,.fn 143 [.ptr true (b+1) 0]),(17,LN m.nodes),(18,I m.nodes.length),(19,I (i:Int))],[[LN m.nodes,LP m.inits,LP m.nexts,LI m.bads,LI m.holds]],G⟩=
  some (.normal,⟨[(1,.sl false 1 ss),(2,.sl false 1 ks),(3,.ptr false 0 0),(7,.ptr true (b+1) 0),(8,.fn 143 [.ptr true (b+1) 0]),(17,LN m.nodes),(18,I m.nodes.length),(19,I ((i+1:Nat):Int))],[[LN m.nodes,LP m.inits,LP m.nexts,LI m.bads,LI m.holds]],G⟩):=by
 have e2:WI.wrap ((i:Int)+1)=((i+1:Nat):Int):=by rw[a9 (by omega) (by omega)];omega
 refine qms ?_;simp[e2]
theorem pd {l:List Nd} (hx:(l.map bm)[i]?=some e) (f:PV->Option R):idX 6 none (degr (LN l)) (i:Int) f=f (.ep e 0):=by simp[hx,-List.getElem?_map]
theorem jK {a b c d f:PV} (L:List (List PV)) (G:List GObj) (k:PV->Option R):ldX L G true 6 (degr (.ep (.agg [a,b,c,d,e,f]) 0)) k=k (.agg [a,b,c,d,e,f]):=by simp
theorem H2 {G G2:List GObj} {O S K:List PV} (hltI:(i:Int)<(m.nodes.length:Int)) (hi:i<=1000) (hx:(m.nodes.map bm)[i]?=some (.agg [I x.k,I x.w,I x.a,I x.b,I x.c,I x.n])) (hG1:G[b+1]?=some (.cells [.bs true b 0 ol 1])) (hG0:G[b]?=some (.cells O)) (hoi:i<ol) (hml:O.length=ol) (hset:G.set b (.cells (bj O i [I v]))=G2) (hv:v=x.n) (d1:decide (x.k=1)=true) :
  qk pg (.sl false 1 (S)) (.sl false 1 (K)) (b+1) 0 (.fn 143 [.ptr true (b+1) 0]) (LN m.nodes) m.nodes.length i (LN m.nodes) (LP m.inits) (LP m.nexts) (LI m.bads) (LI m.holds) G=
   some (.normal,⟨[(1,.sl false 1 S),(2,.sl false 1 K),(3,.ptr false 0 0),(7,.ptr true (b+1) 0),(8,.fn 143 [.ptr true (b+1) 0]),(17,LN m.nodes),(18,I m.nodes.length),(19,I ((i+1:Nat):Int))],[[LN m.nodes,LP m.inits,LP m.nexts,LI m.bads,LI m.holds]],G2⟩):=by
 have hil:(i:Int)<(ol:Int):=by omega
 have hoi2:i+1<=ol:=by omega
 have hk1:=pc (m:=m) (ss:=S) (ks:=K) hi (G:=G2) (b:=b);subst hv;rw[qk,aG hltI,dO,pd hx,jK,jz];simp[d1,hG1,hG0,hil,hoi2,hml,hset,hk1,-List.getElem?_map]
theorem H3 {G G2:List GObj} {O S K:List PV} (hltI:(i:Int)<(m.nodes.length:Int)) (hi:i<=1000) (hx:(m.nodes.map bm)[i]?=some (.agg [I x.k,I x.w,I x.a,I x.b,I x.c,I x.n])) (hG1:G[b+1]?=some (.cells [.bs true b 0 ol 1])) (hG0:G[b]?=some (.cells O)) (hoi:i<ol) (hml:O.length=ol) (hset:G.set b (.cells (bj O i [I v]))=G2) (d1:decide (x.k=1)=false) (d3:decide (x.k=3)=true) :
  qk pg (.sl false 1 (I v::S)) (.sl false 1 (K)) (b+1) 0 (.fn 143 [.ptr true (b+1) 0]) (LN m.nodes) m.nodes.length i (LN m.nodes) (LP m.inits) (LP m.nexts) (LI m.bads) (LI m.holds) G=
   some (.normal,⟨[(1,.sl false 1 S),(2,.sl false 1 K),(3,.ptr false 0 0),(7,.ptr true (b+1) 0),(8,.fn 143 [.ptr true (b+1) 0]),(17,LN m.nodes),(18,I m.nodes.length),(19,I ((i+1:Nat):Int))],[[LN m.nodes,LP m.inits,LP m.nexts,LI m.bads,LI m.holds]],G2⟩):=by
 have hil:(i:Int)<(ol:Int):=by omega
 have hoi2:i+1<=ol:=by omega
 have hk1:=pc (m:=m) (ss:=S) (ks:=K) hi (G:=G2) (b:=b);rw[qk,aG hltI,dO,pd hx,jK,jz];simp[d1,d3,hG1,hG0,hil,hoi2,hml,hset,hk1,-List.getElem?_map]
theorem H4 {G G2:List GObj} {O S K:List PV} (hltI:(i:Int)<(m.nodes.length:Int)) (hi:i<=1000) (hx:(m.nodes.map bm)[i]?=some (.agg [I x.k,I x.w,I x.a,I x.b,I x.c,I x.n])) (hG1:G[b+1]?=some (.cells [.bs true b 0 ol 1])) (hG0:G[b]?=some (.cells O)) (hoi:i<ol) (hml:O.length=ol) (hset:G.set b (.cells (bj O i [I v]))=G2) (d1:decide (x.k=1)=false) (d3:decide (x.k=3)=false) (d2:decide (x.k=2)=true) :
  qk pg (.sl false 1 (S)) (.sl false 1 (I v::K)) (b+1) 0 (.fn 143 [.ptr true (b+1) 0]) (LN m.nodes) m.nodes.length i (LN m.nodes) (LP m.inits) (LP m.nexts) (LI m.bads) (LI m.holds) G=
   some (.normal,⟨[(1,.sl false 1 S),(2,.sl false 1 K),(3,.ptr false 0 0),(7,.ptr true (b+1) 0),(8,.fn 143 [.ptr true (b+1) 0]),(17,LN m.nodes),(18,I m.nodes.length),(19,I ((i+1:Nat):Int))],[[LN m.nodes,LP m.inits,LP m.nexts,LI m.bads,LI m.holds]],G2⟩):=by
 have hil:(i:Int)<(ol:Int):=by omega
 have hoi2:i+1<=ol:=by omega
 have hk1:=pc (m:=m) (ss:=S) (ks:=K) hi (G:=G2) (b:=b);rw[qk,aG hltI,dO,pd hx,jK,jz];simp[d1,d2,d3,hG1,hG0,hil,hoi2,hml,hset,hk1,-List.getElem?_map]
theorem H5 {b i ol:Nat} {G G2:List GObj} {O S K:List PV} {v:Int} {x:Nd} (hltI:(i:Int)<(m.nodes.length:Int)) (hi:i<=1000) (hx:(m.nodes.map bm)[i]?=some (.agg [I x.k,I x.w,I x.a,I x.b,I x.c,I x.n])) (hG1:G[b+1]?=some (.cells [.bs true b 0 ol 1])) (hG0:G[b]?=some (.cells O)) (hoi:i<ol) (hml:O.length=ol) (hset:G.set b (.cells (bj O i [I v]))=G2) {ya yb yc w0 w1 w2:Int} (d1:decide (x.k=1)=false) (d3:decide (x.k=3)=false) (d2:decide (x.k=2)=false)
  (ca:ac pg 143 [I x.a,.ptr true (b+1) 0] G=some (I ya,G)) (cb:ac pg 143 [I x.b,.ptr true (b+1) 0] G=some (I yb,G)) (cc:ac pg 143 [I x.c,.ptr true (b+1) 0] G=some (I yc,G))
  (hW:ac pg 104 [LN m.nodes,.agg [I x.k,I x.w,I x.a,I x.b,I x.c,I x.n]] G=some (.agg [I w0,I w1,I w2],G)) (hR:ac pg 66 [I x.k,I x.w,I ya,I yb,I yc,I x.n,.agg [I w0,I w1,I w2]] G=some (I v,G)) :
  qk pg (.sl false 1 (S)) (.sl false 1 (K)) (b+1) 0 (.fn 143 [.ptr true (b+1) 0]) (LN m.nodes) m.nodes.length i (LN m.nodes) (LP m.inits) (LP m.nexts) (LI m.bads) (LI m.holds) G=
   some (.normal,⟨[(1,.sl false 1 S),(2,.sl false 1 K),(3,.ptr false 0 0),(7,.ptr true (b+1) 0),(8,.fn 143 [.ptr true (b+1) 0]),(17,LN m.nodes),(18,I m.nodes.length),(19,I ((i+1:Nat):Int))],[[LN m.nodes,LP m.inits,LP m.nexts,LI m.bads,LI m.holds]],G2⟩):=by
 have hil:(i:Int)<(ol:Int):=by omega
 have hoi2:i+1<=ol:=by omega
 have hk1:=pc (m:=m) (ss:=S) (ks:=K) hi (G:=G2) (b:=b);rw[qk,aG hltI,dO,pd hx,jK,jz];simp[d1,d2,d3,hG1,hG0,ca,cb,cc,hW,hR,hil,hoi2,hml,hset,hk1,-List.getElem?_map]
theorem H6 (hl:m.nodes.length<=80) (hz:∀(j:Nat) (x:Nd),m.nodes[j]?=some x->dU m.nodes j x=0) {acc ss ks:List Int} (hlt:i<m.nodes.length) (hg:VGood m.nodes i acc ss ks) :
  ∃ v ss' ks',VGood m.nodes (i+1) (acc++[v]) ss' ks'/\eO m.nodes acc ss ks (m.nodes.drop i)=eO m.nodes (acc++[v]) ss' ks' (m.nodes.drop (i+1))/\
   qk pg (LI ss) (LI ks) (gh.length+1) 0 (.fn 143 [.ptr true (gh.length+1) 0]) (LN m.nodes) m.nodes.length i (LN m.nodes) (LP m.inits) (LP m.nexts) (LI m.bads) (LI m.holds) (eX gh (cw m.nodes.length acc))=
    some (.normal,tb m ss' ks' (cw m.nodes.length (acc++[v])) (i+1) gh):=by
 have hltI:(i:Int)<(m.nodes.length:Int):=by omega
 have hx0:m.nodes[i]?=some m.nodes[i]:=aA hlt;have hx:(m.nodes.map bm)[i]?=some (bm m.nodes[i]):=by simp[hx0]
 have hn:=hz i _ hx0;have hlen:=hg.len;rw[aL hlt,eO];generalize m.nodes[i]=x at *;rw[dQ x] at hx;have hol:(cw m.nodes.length acc).length=m.nodes.length:=lq (by omega);have hoi:i<(cw m.nodes.length acc).length:=by omega
 have hG0:=xU (gh:=gh) (cw m.nodes.length acc);have hG1:=xV (gh:=gh) (cw m.nodes.length acc);have hset:∀v:Int,(eX gh (cw m.nodes.length acc)).set gh.length (.cells (bj ((cw m.nodes.length acc).map I) i [I v]))=eX gh (cw m.nodes.length (acc++[v])):=λv=>by
  have e:((cw m.nodes.length acc).map I).set i (I v)=((cw m.nodes.length acc).set i v).map I:=by rw[List.map_set]
  have hlv:(cw m.nodes.length (acc++[v])).length=(cw m.nodes.length acc).length:=by rw[lq (by simp;omega),hol]
  rw[xT (by simpa using hoi),e,<-hlen,xR (by omega),H1 hlv]
 have hml:((cw m.nodes.length acc).map I).length=(cw m.nodes.length acc).length:=by simp
 by_cases h1:x.k=1
 ·rw[if_pos h1]
  have hc:=oU hn h1;exact⟨_,_,_,hg.other hx0 (by omega) (by omega) hc.1 hc.2,rfl,H2 hltI (by omega) hx hG1 hG0 hoi hml (hset x.n) rfl (aG h1)⟩
 ·rw [if_neg h1]
  by_cases h3:x.k=3
  ·rw[if_pos h3]
   obtain⟨v,ss',rfl,hg'⟩:=hg.state hx0 h3;exact⟨_,_,_,hg',rfl,H3 hltI (by omega) hx hG1 hG0 hoi hml (hset v) (aF h1) (aG h3)⟩
  ·rw[if_neg h3]
   by_cases h2:x.k=2
   ·rw[if_pos h2]
    obtain⟨v,ks',rfl,hg'⟩:=hg.input hx0 h2;exact⟨_,_,_,hg',rfl,H4 hltI (by omega) hx hG1 hG0 hoi hml (hset v) (aF h1) (aF h3) (aG h2)⟩
   ·rw[if_neg h2]
    have hk:¬x.k<=3:=by
     intro hle;unfold dU at hn;split at hn
     ·omega
     ·omega
    have ho:=oQ hx0 hn hk;have hW:=w9 (gh:=eX gh (cw m.nodes.length acc)) ho.inn;have hR:=Hw hg ho (eX gh (cw m.nodes.length acc));have ca:=ta hG1 hG0 ⟨ho.a.1,by have:=ho.a;omega⟩ (lr (by have:=ho.a;omega));have cb:=ta hG1 hG0 ⟨ho.b.1,by have:=ho.b;omega⟩ (lr (by have:=ho.b;omega));have cc:=ta hG1 hG0 ⟨ho.c.1,by have:=ho.c;omega⟩ (lr (by have:=ho.c;omega));rw[dQ] at hW;unfold iJ at hW hR;exact⟨_,_,_,hg.op hx0 h3 h2 ho,rfl,H5 hltI (by omega) hx hG1 hG0 hoi hml (hset (jg m.nodes acc x)) (aF h1) (aF h3) (aF h2) ca cb cc hW hR⟩
theorem xW (hl:m.nodes.length<=80) (hz:∀(j:Nat) (x:Nd),m.nodes[j]?=some x->dU m.nodes j x=0):∀k i acc ss ks,i+k=m.nodes.length->VGood m.nodes i acc ss ks->
  ab pg q3x (tb m ss ks (cw m.nodes.length acc) i gh)=some (.normal,⟨[(7,.ptr true (gh.length+1) 0)],[],eX gh (eO m.nodes acc ss ks (m.nodes.drop i))⟩)
 |0,i,acc,ss,ks,h,hg=>by
  rw[aQ (by omega),eO,xS (by rw[hg.len];omega)];have hlt:¬(i:Int)<(m.nodes.length:Int):=by omega
  refine (cm (s1:=?s1) (qk_ ?h1)).trans ?r1
  case h1=>simp only[qk,aF hlt,dq];rfl
  case r1=>simp[keep,co]
 |k+1,i,acc,ss,ks,h,hg=>by obtain⟨v,ss',ks',h1,h2,h3⟩:=H6 (gh:=gh) hl hz (show i<m.nodes.length by omega) hg;rw[h2];exact bh (qk_ h3) (xW hl hz k (i+1) _ _ _ (by omega) h1)
def dB (m:Md) (ss ks:List Int):List Int:=eO m.nodes [] ss ks m.nodes
theorem xX (n:Nat):List.flatMap PV.cells (List.replicate n (PV.int .i64 0))=(cw n []).map I:=by
 unfold cw;rw[bI,bZ,Nat.sub_zero,List.map_replicate]
 induction n with
 |zero=>rfl
 |succ n ih=>rw[List.replicate_succ,cO,ih];rfl
theorem mM {ss ks:List Int}:(dB m ss ks).length=m.nodes.length:=by unfold dB;rw[xL];simp
theorem H7 (xs:List Int):frz gh.length (eX gh xs) (.bs true gh.length 0 xs.length 1)=LI xs:=by
 rw[vH (xU xs) (cQ _) (by simp)];have e:∀l:List Int,(l.map I).map aa=l.map I:=λl=>by rw[List.map_map];rfl
 have e2:(((xs.map I).drop 0).take xs.length)=xs.map I:=by rw[bL];exact bM (by simp)
 rw[e2,e]
theorem H8 {ss ks:List Int} (h:cY m=0) (hg:VGood m.nodes 0 [] ss ks):ac pg 139 [e8 m,LI ss,LI ks] gh=some (LI (dB m ss ks),gh):=by
 have hl:=(gk h).len;have hlp:=xW (gh:=gh) hl (λj x hx=>ll h hx) m.nodes.length 0 [] ss ks (by omega) hg;rw[bL] at hlp;change ab pg q3x _=some (_,⟨_,_,eX gh (dB m ss ks)⟩) at hlp;have hvl:=mM (m:=m) (ss:=ss) (ks:=ks);have hfz:=H7 (gh:=gh) (dB m ss ks);have hn:=jF (dB m ss ks);have ht:(eX gh (dB m ss ks)).take gh.length=gh:=by simp[eX]
 have g1:=xV (gh:=gh) (dB m ss ks);have k2:ab pg q3y ⟨[(7,.ptr true (gh.length+1) 0)],[],eX gh (dB m ss ks)⟩=some (.ret,⟨[(6,.bs true gh.length 0 (dB m ss ks).length 1)],[],eX gh (dB m ss ks)⟩):=by refine qmt ?_;simp[g1]
 generalize dB m ss ks=V at *;have hmx:decide ((m.nodes.length:Int)*8<=(maxBytes:Int))=true:=aG (by have:=MB;omega);have hz:=xX m.nodes.length;have hol:(cw m.nodes.length []).length=m.nodes.length:=lq (by simp);unfold tb eX at hlp;rw[hol] at hlp;simp only[aX] at hlp;rw[en];refine aq (fn:=q6p) (s:=⟨[(6,.bs true gh.length 0 V.length 1)],[],eX gh V⟩) rfl rfl (qmu ?h1) ?r1
 case h1=>
  unfold eX at k2 ⊢;generalize (cw m.nodes.length []).map I=Z at *;simp[fp,hmx,hz,bj,hlp,k2]
 case r1=>simp[am,results,q6p,ao,au,ai,hfz,ht,hn]
theorem wrS (n:Nat) (h:n<=1000):WI.wrap ((n:Int)+1)=((n+1:Nat):Int):=by rw[a9 (by omega) (by omega)];omega
theorem pe {l:List Nd} (f:Nat->Option R):isC (degr (LN l)) (bg (degr (degr (LN l))) f)=f l.length:=by simp
theorem pf {l:List Nd} (x:Option R):isC (degr (LN l)) x=x:=by simp
theorem ph {l:List Nd} (hx:(l.map bm)[i]?=some e) (f:PV->Option R):idX 6 none (degr (degr (LN l))) (i:Int) f=f (.ep e 0):=by simp[hx,-List.getElem?_map]
theorem H9 {G G2:List GObj} {O S K:List PV} (hltI:(i:Int)<(m.nodes.length:Int)) (hi:i<=1000) (hs:s<=1000) (hk:k<=1000) (hx:(m.nodes.map bm)[i]?=some (.agg [I x.k,I x.w,I x.a,I x.b,I x.c,I x.n])) (hG0:G[b]?=some (.cells O)) (hoi:i<ol) (hml:O.length=ol) (hset:G.set b (.cells (bj O i [I v]))=G2) (hv:v=x.n) (d1:decide (x.k=1)=true) :
  qm pg (.sl false 1 S) (.sl false 1 K) (.bs true b 0 ol 1) s k i (LN m.nodes) (LP m.inits) (LP m.nexts) (LI m.bads) (LI m.holds) G=
   some (.normal,⟨[(1,.sl false 1 S),(2,.sl false 1 K),(3,.ptr false 0 0),(7,.bs true b 0 ol 1),(8,I ((s:Nat))),(9,I ((k:Nat))),(10,I (((i+1:Nat):Int)))],[[LN m.nodes,LP m.inits,LP m.nexts,LI m.bads,LI m.holds]],G2⟩):=by
 have hil:(i:Int)<(ol:Int):=by omega
 have hoi2:i+1<=ol:=by omega
 have hk1:ab pg qn ⟨[(1,.sl false 1 S),(2,.sl false 1 K),(3,.ptr false 0 0),(7,.bs true b 0 ol 1),(8,I ((s:Nat))),(9,I ((k:Nat))),(10,I (i))],[[LN m.nodes,LP m.inits,LP m.nexts,LI m.bads,LI m.holds]],G2⟩=some (.normal,⟨[(1,.sl false 1 S),(2,.sl false 1 K),(3,.ptr false 0 0),(7,.bs true b 0 ol 1),(8,I ((s:Nat))),(9,I ((k:Nat))),(10,I (((i+1:Nat):Int)))],[[LN m.nodes,LP m.inits,LP m.nexts,LI m.bads,LI m.holds]],G2⟩):=by refine q5g ?_;simp[wrS _ hi]
 push_cast at hk1
 subst hv;rw[qm,pe];simp only[fw,mi,aG hltI,dO,pf];rw[ph hx,jK,jz];simp[d1,hG0,hil,hoi2,hml,hset,hk1]
theorem Ia {G G2:List GObj} {O S K:List PV} (hltI:(i:Int)<(m.nodes.length:Int)) (hi:i<=1000) (hs:s<=1000) (hk:k<=1000) (hx:(m.nodes.map bm)[i]?=some (.agg [I x.k,I x.w,I x.a,I x.b,I x.c,I x.n])) (hG0:G[b]?=some (.cells O)) (hoi:i<ol) (hml:O.length=ol) (hset:G.set b (.cells (bj O i [I v]))=G2) (hK:K[k]?=some (I v)) (d1:decide (x.k=1)=false) (d2:decide (x.k=2)=true) :
  qm pg (.sl false 1 S) (.sl false 1 K) (.bs true b 0 ol 1) s k i (LN m.nodes) (LP m.inits) (LP m.nexts) (LI m.bads) (LI m.holds) G=
   some (.normal,⟨[(1,.sl false 1 S),(2,.sl false 1 K),(3,.ptr false 0 0),(7,.bs true b 0 ol 1),(8,I ((s:Nat))),(9,I (((k+1:Nat):Int))),(10,I (((i+1:Nat):Int)))],[[LN m.nodes,LP m.inits,LP m.nexts,LI m.bads,LI m.holds]],G2⟩):=by
 have hil:(i:Int)<(ol:Int):=by omega
 have hoi2:i+1<=ol:=by omega
 have hk1:ab pg qn ⟨[(1,.sl false 1 S),(2,.sl false 1 K),(3,.ptr false 0 0),(7,.bs true b 0 ol 1),(8,I ((s:Nat))),(9,I (((k+1:Nat):Int))),(10,I (i))],[[LN m.nodes,LP m.inits,LP m.nexts,LI m.bads,LI m.holds]],G2⟩=some (.normal,⟨[(1,.sl false 1 S),(2,.sl false 1 K),(3,.ptr false 0 0),(7,.bs true b 0 ol 1),(8,I ((s:Nat))),(9,I (((k+1:Nat):Int))),(10,I (((i+1:Nat):Int)))],[[LN m.nodes,LP m.inits,LP m.nexts,LI m.bads,LI m.holds]],G2⟩):=by refine q5g ?_;simp[wrS _ hi]
 push_cast at hk1
 rw[qm,pe];simp only[fw,mi,aG hltI,dO,pf];rw[ph hx,jK,jz];simp[d1,d2,hK,wrS _ hk,hG0,hil,hoi2,hml,hset,hk1]
theorem Ib {G G2:List GObj} {O S K:List PV} (hltI:(i:Int)<(m.nodes.length:Int)) (hi:i<=1000) (hs:s<=1000) (hk:k<=1000) (hx:(m.nodes.map bm)[i]?=some (.agg [I x.k,I x.w,I x.a,I x.b,I x.c,I x.n])) (hG0:G[b]?=some (.cells O)) (hoi:i<ol) (hml:O.length=ol) (hset:G.set b (.cells (bj O i [I v]))=G2) (hS:S[s]?=some (I v)) (d1:decide (x.k=1)=false) (d2:decide (x.k=2)=false) (d3:decide (x.k=3)=true) :
  qm pg (.sl false 1 S) (.sl false 1 K) (.bs true b 0 ol 1) s k i (LN m.nodes) (LP m.inits) (LP m.nexts) (LI m.bads) (LI m.holds) G=
   some (.normal,⟨[(1,.sl false 1 S),(2,.sl false 1 K),(3,.ptr false 0 0),(7,.bs true b 0 ol 1),(8,I (((s+1:Nat):Int))),(9,I ((k:Nat))),(10,I (((i+1:Nat):Int)))],[[LN m.nodes,LP m.inits,LP m.nexts,LI m.bads,LI m.holds]],G2⟩):=by
 have hil:(i:Int)<(ol:Int):=by omega
 have hoi2:i+1<=ol:=by omega
 have hk1:ab pg qn ⟨[(1,.sl false 1 S),(2,.sl false 1 K),(3,.ptr false 0 0),(7,.bs true b 0 ol 1),(8,I (((s+1:Nat):Int))),(9,I ((k:Nat))),(10,I (i))],[[LN m.nodes,LP m.inits,LP m.nexts,LI m.bads,LI m.holds]],G2⟩=some (.normal,⟨[(1,.sl false 1 S),(2,.sl false 1 K),(3,.ptr false 0 0),(7,.bs true b 0 ol 1),(8,I (((s+1:Nat):Int))),(9,I ((k:Nat))),(10,I (((i+1:Nat):Int)))],[[LN m.nodes,LP m.inits,LP m.nexts,LI m.bads,LI m.holds]],G2⟩):=by refine q5g ?_;simp[wrS _ hi]
 push_cast at hk1
 rw[qm,pe];simp only[fw,mi,aG hltI,dO,pf];rw[ph hx,jK,jz];simp[d1,d2,d3,hS,wrS _ hs,hG0,hil,hoi2,hml,hset,hk1]
theorem Ic {b i s k ol:Nat} {G G2:List GObj} {O S K:List PV} {v:Int} {x:Nd} (hltI:(i:Int)<(m.nodes.length:Int)) (hi:i<=1000) (hs:s<=1000) (hk:k<=1000) (hx:(m.nodes.map bm)[i]?=some (.agg [I x.k,I x.w,I x.a,I x.b,I x.c,I x.n])) (hG0:G[b]?=some (.cells O)) (hoi:i<ol) (hml:O.length=ol) (hset:G.set b (.cells (bj O i [I v]))=G2) {ya yb yc w0 w1 w2:Int} (d1:decide (x.k=1)=false) (d2:decide (x.k=2)=false) (d3:decide (x.k=3)=false)
  (ha:0<=x.a/\x.a<(ol:Int)) (hb:0<=x.b/\x.b<(ol:Int)) (hc:0<=x.c/\x.c<(ol:Int)) (ga:O[x.a.toNat]?=some (I ya)) (gb:O[x.b.toNat]?=some (I yb)) (gc:O[x.c.toNat]?=some (I yc))
  (hW:ac pg 102 [LN m.nodes,.agg [I x.k,I x.w,I x.a,I x.b,I x.c,I x.n]] G=some (.agg [I w0,I w1,I w2],G)) (hR:ac pg 28 [I x.k,I x.w,I ya,I yb,I yc,I x.n,.agg [I w0,I w1,I w2]] G=some (I v,G)) :
  qm pg (.sl false 1 S) (.sl false 1 K) (.bs true b 0 ol 1) s k i (LN m.nodes) (LP m.inits) (LP m.nexts) (LI m.bads) (LI m.holds) G=
   some (.normal,⟨[(1,.sl false 1 S),(2,.sl false 1 K),(3,.ptr false 0 0),(7,.bs true b 0 ol 1),(8,I ((s:Nat))),(9,I ((k:Nat))),(10,I (((i+1:Nat):Int)))],[[LN m.nodes,LP m.inits,LP m.nexts,LI m.bads,LI m.holds]],G2⟩):=by
 have hil:(i:Int)<(ol:Int):=by omega
 have hoi2:i+1<=ol:=by omega
 have hk1:ab pg qn ⟨[(1,.sl false 1 S),(2,.sl false 1 K),(3,.ptr false 0 0),(7,.bs true b 0 ol 1),(8,I ((s:Nat))),(9,I ((k:Nat))),(10,I (i))],[[LN m.nodes,LP m.inits,LP m.nexts,LI m.bads,LI m.holds]],G2⟩=some (.normal,⟨[(1,.sl false 1 S),(2,.sl false 1 K),(3,.ptr false 0 0),(7,.bs true b 0 ol 1),(8,I ((s:Nat))),(9,I ((k:Nat))),(10,I (((i+1:Nat):Int)))],[[LN m.nodes,LP m.inits,LP m.nexts,LI m.bads,LI m.holds]],G2⟩):=by refine q5g ?_;simp[wrS _ hi]
 push_cast at hk1
 obtain⟨a0,a1⟩:=ha;obtain⟨b0,b1⟩:=hb;obtain⟨c0,c1⟩:=hc;rw[qm,pe];simp only[fw,mi,aG hltI,dO,pf];rw[ph hx,jK,jz];simp[d1,d2,d3,a0,a1,b0,b1,c0,c1,ga,gb,gc,hW,hR,hG0,hil,hoi2,hml,hset,hk1,-getElem?_pos,-getElem?_neg]
def voG (gh:List GObj) (o:List Int):List GObj:=gh++[.cells (o.map I)]
theorem xY (o:List Int):(voG gh o)[gh.length]?=some (.cells (o.map I)):=by simp[voG]
theorem Ie {o o2:List Int}:(voG gh o).set gh.length (.cells (o2.map I))=voG gh o2:=by simp[voG]
def pi (m:Md) (ss ks:List Int) (o:List Int) (s k i:Nat) (gh:List GObj):St:=
 ⟨[(1,LI ss),(2,LI ks),(3,.ptr false 0 0),(7,.bs true gh.length 0 o.length 1),(8,I (s:Nat)),(9,I (k:Nat)),(10,I ((i:Nat):Int))],[[LN m.nodes,LP m.inits,LP m.nexts,LI m.bads,LI m.holds]],voG gh o⟩
theorem xZ {l:List Int} {r:List Int} (h:l.drop s=v::r):l[s]?=some v/\r=l.drop (s+1):=by
 have h1:s<l.length:=aV λh2=>by rw[aQ (by omega)] at h;cases h
 rw[aL h1] at h;cases h;exact⟨aA h1,rfl⟩
theorem If (hl:m.nodes.length<=80) (hz:∀(j:Nat) (x:Nd),m.nodes[j]?=some x->dU m.nodes j x=0) {acc ss ks:List Int} (hlt:i<m.nodes.length) (hs:s<=i) (hk:k<=i) (hg:VGood m.nodes i acc (ss.drop s) (ks.drop k)) :
  ∃ v s' k',s'<=i+1/\k'<=i+1/\VGood m.nodes (i+1) (acc++[v]) (ss.drop s') (ks.drop k')/\eO m.nodes acc (ss.drop s) (ks.drop k) (m.nodes.drop i)=eO m.nodes (acc++[v]) (ss.drop s') (ks.drop k') (m.nodes.drop (i+1))/\
   qm pg (LI ss) (LI ks) (.bs true gh.length 0 (cw m.nodes.length acc).length 1) s k i (LN m.nodes) (LP m.inits) (LP m.nexts) (LI m.bads) (LI m.holds) (voG gh (cw m.nodes.length acc))=
    some (.normal,pi m ss ks (cw m.nodes.length (acc++[v])) s' k' (i+1) gh):=by
 have hltI:(i:Int)<(m.nodes.length:Int):=by omega
 have hx0:m.nodes[i]?=some m.nodes[i]:=aA hlt;have hx:(m.nodes.map bm)[i]?=some (bm m.nodes[i]):=by simp[hx0]
 have hn:=hz i _ hx0;have hlen:=hg.len;rw[aL hlt,eO];generalize m.nodes[i]=x at *;rw[dQ x] at hx;have hol:(cw m.nodes.length acc).length=m.nodes.length:=lq (by omega);have hoi:i<(cw m.nodes.length acc).length:=by omega
 have hG0:=xY (gh:=gh) (cw m.nodes.length acc);have hlv:∀v:Int,(cw m.nodes.length (acc++[v])).length=(cw m.nodes.length acc).length:=λv=>by rw[lq (by simp;omega),hol]
 have hset:∀v:Int,(voG gh (cw m.nodes.length acc)).set gh.length (.cells (bj ((cw m.nodes.length acc).map I) i [I v]))=voG gh (cw m.nodes.length (acc++[v])):=λv=>by
  have e:((cw m.nodes.length acc).map I).set i (I v)=((cw m.nodes.length acc).set i v).map I:=by rw[List.map_set]
  rw[xT (by simpa using hoi),e,<-hlen,xR (by omega),Ie]
 have hml:((cw m.nodes.length acc).map I).length=(cw m.nodes.length acc).length:=by simp
 unfold pi;by_cases h1:x.k=1
 ·rw[if_pos h1]
  have hc:=oU hn h1;refine⟨_,s,k,by omega,by omega,hg.other hx0 (by omega) (by omega) hc.1 hc.2,rfl,?_⟩;rw[hlv];exact H9 hltI (by omega) (by omega) (by omega) hx hG0 hoi hml (hset x.n) rfl (aG h1)
 ·rw [if_neg h1]
  by_cases h3:x.k=3
  ·rw[if_pos h3]
   obtain⟨v,ss',e,hg'⟩:=hg.state hx0 h3;obtain⟨e1,e2⟩:=xZ e;rw[e,List.headD_cons,List.tail_cons,e2];rw[e2] at hg';refine⟨_,s+1,k,by omega,by omega,hg',rfl,?_⟩;rw[hlv];exact Ib hltI (by omega) (by omega) (by omega) hx hG0 hoi hml (hset v) (by simp[e1]) (aF h1) (aF (by omega)) (aG h3)
  ·rw[if_neg h3]
   by_cases h2:x.k=2
   ·rw[if_pos h2]
    obtain⟨v,ks',e,hg'⟩:=hg.input hx0 h2;obtain⟨e1,e2⟩:=xZ e;rw[e,List.headD_cons,List.tail_cons,e2];rw[e2] at hg';refine⟨_,s,k+1,by omega,by omega,hg',rfl,?_⟩;rw[hlv];exact Ia hltI (by omega) (by omega) (by omega) hx hG0 hoi hml (hset v) (by simp[e1]) (aF h1) (aG h2)
   ·rw[if_neg h2]
    have hkk:¬x.k<=3:=by
     intro hle;unfold dU at hn;split at hn
     ·omega
     ·omega
    have ho:=oQ hx0 hn hkk;have hW:=xa (gh:=voG gh (cw m.nodes.length acc)) ho.inn;have hR:=Hv hg ho (voG gh (cw m.nodes.length acc));have oa:=ho.a;have ob:=ho.b;have oc:=ho.c;have ca:((cw m.nodes.length acc).map I)[x.a.toNat]?=some (I (acc.getD x.a.toNat 0)):=by rw[aB,lr (by omega)];rfl
    have cb:((cw m.nodes.length acc).map I)[x.b.toNat]?=some (I (acc.getD x.b.toNat 0)):=by rw[aB,lr (by omega)];rfl
    have cc:((cw m.nodes.length acc).map I)[x.c.toNat]?=some (I (acc.getD x.c.toNat 0)):=by rw[aB,lr (by omega)];rfl
    rw[dQ] at hW;unfold iJ at hW hR;refine⟨_,s,k,by omega,by omega,hg.op hx0 h3 h2 ho,rfl,?_⟩;rw[hlv];exact Ic hltI (by omega) (by omega) (by omega) hx hG0 hoi hml (hset (jg m.nodes acc x)) (aF h1) (aF h2) (aF h3) ⟨oa.1,by omega⟩ ⟨ob.1,by omega⟩ ⟨oc.1,by omega⟩ ca cb cc hW hR
theorem yd (hl:m.nodes.length<=80) (hz:∀(j:Nat) (x:Nd),m.nodes[j]?=some x->dU m.nodes j x=0) {ss ks:List Int}:∀n i s k acc,i+n=m.nodes.length->s<=i->k<=i->VGood m.nodes i acc (ss.drop s) (ks.drop k)->
  ab pg q4j (pi m ss ks (cw m.nodes.length acc) s k i gh)=some (.normal,⟨[(7,.bs true gh.length 0 (eO m.nodes acc (ss.drop s) (ks.drop k) (m.nodes.drop i)).length 1)],[],voG gh (eO m.nodes acc (ss.drop s) (ks.drop k) (m.nodes.drop i))⟩)
 |0,i,s,k,acc,h,_,_,hg=>by
  rw[aQ (show m.nodes.length<=i by omega),eO,xS (by rw[hg.len];omega)];have hlt:¬i<m.nodes.length:=by omega
  refine (cm (s1:=?s1) (qm_ ?h1)).trans ?r1
  case h1=>simp[qm,hlt];rfl
  case r1=>simp[keep,co]
 |n+1,i,s,k,acc,h,hs,hk,hg=>by obtain⟨v,s',k',h1,h2,h3,h4,h5⟩:=If (gh:=gh) hl hz (show i<m.nodes.length by omega) hs hk hg;rw[h4];exact bh (qm_ h5) (yd hl hz n (i+1) s' k' _ (by omega) h1 h2 h3)
theorem Ig (xs:List Int):frz gh.length (voG gh xs) (.bs true gh.length 0 xs.length 1)=LI xs:=by
 rw[vH (xY xs) (cQ _) (by simp)];have e:∀l:List Int,(l.map I).map aa=l.map I:=λl=>by rw[List.map_map];rfl
 have e2:(((xs.map I).drop 0).take xs.length)=xs.map I:=by rw[bL];exact bM (by simp)
 rw[e2,e]
theorem ye {ss ks:List Int} (h:cY m=0) (hg:VGood m.nodes 0 [] ss ks):ac pg 132 [e8 m,LI ss,LI ks] gh=some (LI (dB m ss ks),gh):=by
 have hl:=(gk h).len;have hlp:=yd (gh:=gh) (ss:=ss) (ks:=ks) hl (λj x hx=>ll h hx) m.nodes.length 0 0 0 [] (by omega) (cQ _) (cQ _) (by simpa using hg);simp only[bL] at hlp;change ab pg q4j _=some (_,⟨[(_,.bs _ _ _ (dB m ss ks).length _)],_,voG gh (dB m ss ks)⟩) at hlp;have hfz:=Ig (gh:=gh) (dB m ss ks);have hn:=jF (dB m ss ks);have ht:(voG gh (dB m ss ks)).take gh.length=gh:=by simp[voG]
 generalize dB m ss ks=V at *;have k2:=qmx (pg:=pg) (gh:=voG gh V) (v7:= .bs true gh.length 0 V.length 1) (e:= .ret) (s:=⟨[(6,.bs true gh.length 0 V.length 1)],[],voG gh V⟩) (by simp);have hmx:decide ((m.nodes.length:Int)*8<=(maxBytes:Int))=true:=aG (by have:=MB;omega);have hz:=xX m.nodes.length;have hol:(cw m.nodes.length []).length=m.nodes.length:=lq (by simp);unfold pi at hlp;rw[hol] at hlp;simp only[aX] at hlp;rw[en];refine aq (fn:=q92) (s:=⟨[(6,.bs true gh.length 0 V.length 1)],[],voG gh V⟩) rfl rfl (qmy ?h1) ?r1
 case h1=>
  unfold voG at hlp k2 ⊢;generalize (cw m.nodes.length []).map I=Z at *;simp[fp,hmx,hz,hlp,k2]
 case r1=>simp[am,results,q92,ao,au,ai,hfz,ht,hn]
end
end
def ch:List (Int×Int)->Int->Int
 |[],_=> -1
 |p::ps,s=>if p.1=s then p.2 else ch ps s
def eQ (ps:List (Int×Int)) (s:Int):Bool:=ps.any λp=>decide (p.1=s)
theorem mN (p:Int×Int) (ps:List (Int×Int)) (s:Int):eQ (p::ps) s=(decide (p.1=s)||eQ ps s):=rfl
theorem pj:∀{ps:List (Int×Int)} {s:Int},eQ ps s=false->ch ps s= -1
 |[],_,_=>rfl
 |p::ps,s,h=>by rw[mN,Bool.or_eq_false_iff] at h;rw[ch,if_neg (by simpa using h.1)];exact pj h.2
theorem pl:∀{ps:List (Int×Int)} {s:Int},eQ ps s=true->(s,ch ps s)∈ps
 |[],_,h=>by cases h
 | p::ps,s,h=>by
  rw[ch];by_cases hp:p.1=s
  ·rw[if_pos hp,<-hp];exact bF ..
  ·rw[if_neg hp]
   rw[mN,Bool.or_eq_true] at h;rcases h with h|h
   ·exact absurd (by simpa using h) hp
   ·exact bG _ (pl h)
section
variable {m:Md} {gh:List GObj}
theorem yf {ps:List (Int×Int)} {s:Int} (hl:Sz ps.length):∀k i,i+k=ps.length->
  ab pg q95 ⟨[(0,LP ps),(1,I s),(5,I (i:Int))],[],gh⟩=if eQ (ps.drop i) s then some (.ret,⟨[(4,I (ch (ps.drop i) s))],[],gh⟩) else some (.normal,⟨[],[],gh⟩)
 |0,i,h=>by
  rw[aQ (by omega)];have hlt:¬i<ps.length:=by omega
  refine (cm (s1:=?s1) (qaz ?h1)).trans ?r1
  case h1=>simp[hlt];rfl
  case r1=>simp[keep,eQ]
 | k+1,i,h=>by
  have hlt:i<ps.length:=by omega
  have hltD:decide (i<ps.length)=true:=aG hlt;have e2:WI.wrap ((i:Int)+1)=((i+1:Nat):Int):=gg (by simp only[Sz] at hl ⊢;omega);have hg:(ps.map aj)[i]?=some (aj ps[i]):=by simp[aA hlt]
  rw[aL hlt,mN,ch];generalize ps[i]=p at *;rw[fz] at hg;by_cases hp:p.1=s
  ·have hd:decide (p.1=s)=true:=aG hp
   rw[if_pos hp,hd,Bool.true_or,if_pos rfl];refine dJ (qaz ?_);simp[hltD,hg,hd,-List.getElem?_map]
  ·have hd:decide (p.1=s)=false:=aF hp
   rw[if_neg hp,hd,Bool.false_or];refine bh (s1:=⟨[(0,LP ps),(1,I s),(5,I ((i+1:Nat):Int))],[],gh⟩) (qaz ?_) (yf hl k (i+1) (by omega));simp[hltD,hg,hd,e2,-List.getElem?_map]
theorem tc {ps:List (Int×Int)} {s:Int} (hl:Sz ps.length):ac pg 137 [LP ps,I s] gh=some (I (ch ps s),gh):=by
 have h:=yf (gh:=gh) (s:=s) hl ps.length 0 (by omega);rw[bL] at h;simp only[aX] at h;have hk:=qmz (pg:=pg) (gh:=gh) rfl;cases hh:eQ ps s with
 |true=>
  rw[hh,if_pos rfl] at h;refine aq (fn:=q2s) (s:=⟨[(4,I (ch ps s))],[],gh⟩) rfl rfl (qh6 ?h1) ?r1
  case h1=>simp[h]
  case r1=>simp[am,results,q2s,ao,au,ai]
 |false=>
  rw[hh,if_neg (by decide)] at h;rw[pj hh];refine aq (fn:=q2s) (s:=⟨[(4,I (-1))],[],gh⟩) rfl rfl (qh6 ?h2) ?r2
  case h2=>simp[h,hk]
  case r2=>simp[am,results,q2s,ao,au,ai]
theorem yg:∀{l:List (Int×Int)} {k v:Int},(∀p∈l,p.1≠k)->fI l k v=l++[(k,v)]
 |[],_,_,_=>rfl
 |(a,u)::l,k,v,h=>by rw[fI,if_neg (λe=>h (a,u) (bF ..) e.symm),yg λp hp=>h p (bG _ hp)];rfl
def fL (V:List Int) (ps:List (Int×Int)):List Int->List Int->List Int
 |s::ss,w::ws=>(if eQ ps s then V.getD (ch ps s).toNat 0 else w)::fL V ps ss ws
 |_,_=>[]
theorem mO {V:List Int} {a:Int} (h:a.toNat<V.length):(V.map I)[a.toNat]?=some (I (V.getD a.toNat 0)):=by simp[aM,aA h]
theorem yh (acc:List Int) (v:Int):(acc++[v]).map I=acc.map I++[I v]:=by simp
theorem lu {m:Md} (hm:jJ m):m.inits.length<=80/\m.nexts.length<=80:=by
 have len1:∀{l:List (Int×Int)},(l.map (·.1)).Nodup->(∀p∈l,dh m.nodes p.1)->l.length<=80:=λ{l} hd hp=>by have hs:=List.Nodup.length_le_of_subset hd (l₂:=(List.range m.nodes.length).map λ(i:Nat)=>(i:Int)) (λa ha=>by obtain⟨p,hp',rfl⟩:=List.mem_map.1 ha;have:=hp p hp';have h3:=this.1;have h4:=this.2;exact List.mem_map.2 ⟨p.1.toNat,List.mem_range.2 h4,by omega⟩);have:=hm.len;simp at hs;omega
 exact⟨len1 hm.nod1 (λp hp=>(hm.pairs p (bY.2 (.inl hp))).1),len1 hm.nod2 (λp hp=>(hm.pairs p (bY.2 (.inr hp))).1)⟩
theorem yi {L:List Nd}:∀ns:List Int,eW L ns (List.replicate ns.length 0)=0
 |[]=>rfl
 | a::ns=>by
  rw[bB,List.replicate_succ,eW,if_pos]
  ·exact yi ns
  ·have:1<=2^(wAt L a).toNat:=Nat.one_le_two_pow
   omega
theorem pm {L:List Nd} (ns:List Int):eM L ns (List.replicate ns.length 0)=0:=by unfold eM;rw[if_neg (by simp)];exact yi ns
def ka (m:Md):List Int:=List.replicate (ak m.nodes 3).length 0
def kb (m:Md):List Int:=List.replicate (ak m.nodes 2).length 0
def dI (m:Md):List Int:=dB m (ka m) (kb m)
def gO (m:Md) (wish:List Int):List Int:=fL (dI m) m.inits (ak m.nodes 3) wish
theorem jh {m:Md} (hm:jJ m) (k:Int):(ak m.nodes k).length<=80:=bW (sC _ _ _) hm.len
theorem td {m:Md}:VGood m.nodes 0 [] (ka m) (kb m):=oZ (pm _) (pm _)
theorem yj {m:Md} (hm:jJ m):∀p∈m.inits,0<=p.2/\p.2.toNat<(dI m).length:=λp hp=>by have:=(hm.pairs p (bY.2 (.inl hp))).2;unfold dI;rw[mM];exact this
theorem Ih {ps:List (Int×Int)} {s:Int} (hp:∀p∈ps,0<=p.2):decide (0<=ch ps s)=eQ ps s:=by
 cases hh:eQ ps s with
 |true=>exact aG (hp _ (pl hh))
 |false=>rw[pj hh];rfl
theorem Ii {wish st V:List Int} {A:List PV} {i:Nat} (hi:i<=1000) :
  ab pg q2r ⟨[(1,LI wish),(2,.ptr false 0 0),(5,LI st),(6,LI V),(7,.sl true 1 A),(8,I (i:Int))],[[LN m.nodes,LP m.inits,LP m.nexts,LI m.bads,LI m.holds]],gh⟩=
   some (.normal,⟨[(1,LI wish),(2,.ptr false 0 0),(5,LI st),(6,LI V),(7,.sl true 1 A),(8,I ((i+1:Nat):Int))],[[LN m.nodes,LP m.inits,LP m.nexts,LI m.bads,LI m.holds]],gh⟩):=by
 have e2:WI.wrap ((i:Int)+1)=((i+1:Nat):Int):=by rw[a9 (by omega) (by omega)];omega
 refine qn0 ?_;simp[e2]
theorem yk {V wish st:List Int} (hl:st.length<=1000) (hw:wish.length=st.length) (hs:Sz m.inits.length) (hp:∀p∈m.inits,0<=p.2/\p.2.toNat<V.length):∀k i acc,i+k=st.length->acc.length<=i->
  ab pg q4i ⟨[(1,LI wish),(2,.ptr false 0 0),(5,LI st),(6,LI V),(7,.sl true 1 (acc.map I)),(8,I (i:Int))],[[LN m.nodes,LP m.inits,LP m.nexts,LI m.bads,LI m.holds]],gh⟩=
   some (.normal,⟨[(7,.sl true 1 ((acc++fL V m.inits (st.drop i) (wish.drop i)).map I))],[],gh⟩)
 |0,i,acc,h,_=>by
  rw[aQ (by omega),aQ (show wish.length<=i by omega),fL,bH];have hlt:¬i<st.length:=by omega
  refine (cm (s1:=?s1) (qh7 ?h1)).trans ?r1
  case h1=>simp[hlt];rfl
  case r1=>simp[keep,co]
  all_goals (intros;simp_all)
 | k+1,i,acc,h,ha=>by
  have hlt:i<st.length:=by omega
  have hlw:i<wish.length:=by omega
  have hltD:decide (i<st.length)=true:=aG hlt;have hg:(st.map I)[i]?=some (I st[i]):=by simp[aA hlt]
  have hgw:(wish.map I)[i]?=some (I wish[i]):=by simp[aA hlw]
  have hmx:((acc.map I).length+1)*8<=maxBytes:=by have:=MB;simp;omega
  rw[aL hlt,aL hlw,fL,List.append_cons acc];refine bh (s1:=⟨[(1,LI wish),(2,.ptr false 0 0),(5,LI st),(6,LI V),(7,.sl true 1 ((acc++[if eQ m.inits st[i] then V.getD (ch m.inits st[i]).toNat 0 else wish[i]]).map I)),(8,I ((i+1:Nat):Int))],[[LN m.nodes,LP m.inits,LP m.nexts,LI m.bads,LI m.holds]],gh⟩) (qh7 ?_) (yk hl hw hs hp k (i+1) _ (by omega) (by simp;omega));have hc:=tc (gh:=gh) (s:=st[i]) hs;have hd:=Ih (ps:=m.inits) (s:=st[i]) (λp hq=>(hp p hq).1);rw[yh];generalize acc.map I=A at *;generalize wish[i]=w at *;generalize st[i]=a at *
  have k1:=λv=>Ii (m:=m) (gh:=gh) (wish:=wish) (st:=st) (V:=V) (A:=A++[I v]) (i:=i) (by omega)
  cases hh:eQ m.inits a with
  |true=>
   rw[if_pos rfl];have hq:=hp _ (pl hh);have hv:=mO hq.2;have h0:=hq.1;rw[hh] at hd;simp only at h0 hv;generalize V.getD (ch m.inits a).toNat 0=v at *;generalize ch m.inits a=n at *;simp[hltD,hg,hc,hd,h0,hv,hmx,k1,-List.getElem?_map]
  |false=>
   rw[if_neg (by decide)];rw[hh] at hd;generalize ch m.inits a=n at *;simp[hltD,hg,hgw,hc,hd,hmx,k1,-List.getElem?_map]
theorem Ij {wish:List Int} (h:cY m=0) (hw:wish.length=(ak m.nodes 3).length):ac pg 125 [e8 m,LI wish] gh=some (LI (gO m wish),gh):=by
 have hm:=gk h;have hl:=hm.len;have hpl:=(lu hm).1;have o3:=j8 (m:=m) (gh:=gh) (kind:=3) (by omega);have o2:=j8 (m:=m) (gh:=gh) (kind:=2) (by omega);have hmx:=MB;have l3:=jh hm 3;have l2:=jh hm 2;have hr:=ye (gh:=gh) h td;have h1:=yk (m:=m) (gh:=gh) (V:=dI m) (by omega) hw (by simp only[Sz];omega) (yj hm) (ak m.nodes 3).length 0 [] (by omega) (by simp);rw[bL,bL,bI] at h1;simp only[bR,aX] at h1;change ac pg 132 _ _=some (LI (dI m),gh) at hr;change ab pg q4i _=some (_,⟨[(_,.sl true 1 ((gO m wish).map I))],_,_⟩) at h1;have hn:=jF (gO m wish)
 have e:∀n:Nat,List.map I (List.replicate n 0)=List.replicate n (I 0):=λn=>List.map_replicate
 unfold ka kb at hr;simp only[LI,e] at hr h1 hn o3 o2 ⊢;generalize (gO m wish).map I=F at *;have b3:fp ((ak m.nodes 3).length:Int) 8 1 (I 0)=true:=by simp[fp];omega
 have b2:fp ((ak m.nodes 2).length:Int) 8 1 (I 0)=true:=by simp[fp];omega
 have q3:((ak m.nodes 3).map I).length=(ak m.nodes 3).length:=by simp
 have q2:((ak m.nodes 2).map I).length=(ak m.nodes 2).length:=by simp
 generalize (ak m.nodes 3).map I=K3 at *;generalize (ak m.nodes 2).map I=K2 at *;generalize (ak m.nodes 3).length=n3 at *;generalize (ak m.nodes 2).length=n2 at *;subst q3 q2;have k2:=qn1 (pg:=pg) (gh:=gh) (v7:= .sl true 1 F) (e:= .ret) (s:=⟨[(4,.sl false 1 F)],[],gh⟩) (by simp);rw[en] at *;refine aq (fn:=q90) (s:=⟨[(4,.sl false 1 F)],[],gh⟩) rfl rfl (qn2 ?h1) ?r1
 case h1=>simp[o3,o2,b3,b2,cx,hr,h1,k2]
 case r1=>simp[am,results,q90,ao,au,ai,hn]
theorem kc {L:List Nd} {ns vs:List Int} (h:eM L ns vs=0):vs.length=ns.length:=by
 unfold eM at h;split at h
 ·cases h
 ·omega
end
theorem pp {m:Md} (h:cY m=0):gy m (dR [] m.nodes)=0/\ir m=0:=by
 unfold cY at h;split at h
 ·contradiction
 split at h
 ·contradiction
 split at h
 ·contradiction
 split at h
 ·contradiction
 rename_i h4;exact⟨aV h4,h⟩
theorem yl {l:List Nd} {f:List Bool} {b:Bool}:∀{ps:List (Int×Int)},dr l f b ps=0->∀p∈ps,p.1∈ak l 3
 |[],_,p,hp=>by cases hp
 | q ::ps,h,p,hp=>by
  rw[dr] at h;split at h
  ·rename_i h0
   rcases List.mem_cons.1 hp with rfl|hp
   ·unfold eK at h0
    split at h0
    ·contradiction
    rename_i hn;have hi:dh l p.1:=aV λh=>hn (.inl h)
    have hk:(l.getD p.1.toNat default).k=3:=aV λh=>hn (.inr (.inr h))
    refine kindF_mem.2 ⟨p.1.toNat,hi.2,?_,?_⟩
    ·have:=hi.1;omega
    ·rw[aM,aA hi.2] at hk
     rw[aA hi.2];simpa using hk
   ·exact yl h p hp
  ·contradiction
theorem Ik {ps:List (Int×Int)} {s:Int} (h:s∈ps.map (·.1)):eQ ps s=true:=by obtain⟨p,hp,rfl⟩:=List.mem_map.1 h;exact List.any_eq_true.2 ⟨p,hp,aG rfl⟩
theorem ym {m:Md} (h:cY m=0):∀s∈ak m.nodes 3,eQ m.nexts s=true:=by
 intro s hs;refine Ik (aV λhn=>?_);obtain⟨hp,hk⟩:=pp h;have hle:(ak m.nodes 3).length<=m.nexts.length:=by
  unfold ir at hk;split at hk
  ·contradiction
  ·omega
 have hz:dr m.nodes (dR [] m.nodes) false m.nexts=0:=by
  unfold gy at hp;split at hp
  ·contradiction
  split at hp
  ·contradiction
  rename_i h2;exact aV h2
 have hd:(s::m.nexts.map (·.1)).Nodup:=List.nodup_cons.2 ⟨hn,(gk h).nod2⟩;have:=List.Nodup.length_le_of_subset hd (l₂:=ak m.nodes 3) (λa ha=>by
  rcases List.mem_cons.1 ha with rfl|ha
  ·exact hs
  ·obtain⟨p,hp,rfl⟩:=List.mem_map.1 ha
   exact yl hz p hp)
 simp at this;omega
theorem Il {m:Md} (h:cY m=0):∀a∈m.bads++m.holds,dh m.nodes a:=by
 obtain⟨-,hk⟩:=pp h;unfold ir at hk;split at hk
 ·contradiction
 split at hk
 ·contradiction
 rename_i h2;intro a ha;exact aV λhn=>h2 (List.any_eq_true.2 ⟨a,ha,by simp[hn]⟩)
theorem pq {m:Md} (h:cY m=0):m.bads.length<=8/\m.holds.length<=8:=by
 unfold cY at h;split at h
 ·contradiction
 omega
def ji (V:List Int) (ps:List (Int×Int)) (st:List Int):List Int:=st.map λs=>V.getD (ch ps s).toNat 0
def jj (m:Md) (V:List Int):List Int:=ji V m.nexts (ak m.nodes 3)
theorem te (V:List Int) (ps:List (Int×Int)) (s:Int) (st:List Int):ji V ps (s::st)=V.getD (ch ps s).toNat 0::ji V ps st:=rfl
section
variable {m:Md} {gh:List GObj}
theorem Im {m:Md} {V:List Int} (hm:jJ m) (hV:V.length=m.nodes.length):∀p∈m.nexts,0<=p.2/\p.2.toNat<V.length:=λp hp=>by have:=(hm.pairs p (bY.2 (.inr hp))).2;rw[hV];exact this
theorem yn {V st:List Int} (hl:st.length<=1000) (hs:Sz m.nexts.length) (hp:∀p∈m.nexts,0<=p.2/\p.2.toNat<V.length) (hall:∀s∈st,eQ m.nexts s=true):∀k i acc,i+k=st.length->acc.length<=i->
  ab pg q4k ⟨[(1,LI V),(2,.ptr false 0 0),(5,LI st),(6,.sl true 1 (acc.map I)),(7,I (i:Int))],[[LN m.nodes,LP m.inits,LP m.nexts,LI m.bads,LI m.holds]],gh⟩=
   some (.normal,⟨[(6,.sl true 1 ((acc++ji V m.nexts (st.drop i)).map I))],[],gh⟩)
 |0,i,acc,h,_=>by
  rw[aQ (by omega)];have hlt:¬i<st.length:=by omega
  refine (cm (s1:=?s1) (qh8 ?h1)).trans ?r1
  case h1=>simp[hlt];rfl
  case r1=>simp[keep,co,ji]
 | k+1,i,acc,h,ha=>by
  have hlt:i<st.length:=by omega
  have hltD:decide (i<st.length)=true:=aG hlt;have e2:WI.wrap ((i:Int)+1)=((i+1:Nat):Int):=by rw[a9 (by omega) (by omega)];omega
  have hg:(st.map I)[i]?=some (I st[i]):=by simp[aA hlt]
  have hmx:((acc.map I).length+1)*8<=maxBytes:=by have:=MB;simp;omega
  rw[aL hlt,te,List.append_cons acc];refine bh (s1:=⟨[(1,LI V),(2,.ptr false 0 0),(5,LI st),(6,.sl true 1 ((acc++[V.getD (ch m.nexts st[i]).toNat 0]).map I)),(7,I ((i+1:Nat):Int))],[[LN m.nodes,LP m.inits,LP m.nexts,LI m.bads,LI m.holds]],gh⟩) (qh8 ?_) (yn hl hs hp hall k (i+1) _ (by omega) (by simp;omega));have hc:=tc (gh:=gh) (s:=st[i]) hs;have hh:=hall _ (bX hlt);rw[yh];generalize acc.map I=A at *;generalize st[i]=a at *;have hq:=hp _ (pl hh);have hv:=mO hq.2;have h0:=hq.1;simp only at h0 hv;generalize V.getD (ch m.nexts a).toNat 0=v at *;generalize ch m.nexts a=n at *
  simp[hltD,hg,hc,h0,hv,hmx,e2,-List.getElem?_map]
theorem In {V:List Int} (h:cY m=0) (hV:V.length=m.nodes.length):ac pg 133 [e8 m,LI V] gh=some (LI (jj m V),gh):=by
 have hm:=gk h;have hl:=hm.len;have hpl:=(lu hm).2;have o3:=j8 (m:=m) (gh:=gh) (kind:=3) (by omega);have l3:=jh hm 3;have h1:=yn (m:=m) (gh:=gh) (V:=V) (by omega) (by simp only[Sz];omega) (Im hm hV) (ym h) (ak m.nodes 3).length 0 [] (by omega) (by simp);rw[bL,bI] at h1;simp only[bR,aX] at h1;change ab pg q4k _=some (_,⟨[(_,.sl true 1 ((jj m V).map I))],_,_⟩) at h1;have hn:=jF (jj m V);simp only[LI] at h1 o3 hn ⊢;generalize (jj m V).map I=F at *;generalize (ak m.nodes 3).map I=K3 at *;have k1:=qn3 (pg:=pg) (gh:=gh) (v6:= .sl true 1 F) (e:= .ret) (s:=⟨[(4,.sl false 1 F)],[],gh⟩) (by simp)
 rw[en] at *;refine aq (fn:=q94) (s:=⟨[(4,.sl false 1 F)],[],gh⟩) rfl rfl (qn4 ?h1) ?r1
 case h1=>simp[o3,h1,k1]
 case r1=>simp[am,results,q94,ao,au,ai,hn]
end
def cy (L:List Nd):List Int->List Int->List Bool
 |a::ns,x::vs=>cB x.toNat 0 (wAt L a).toNat++cy L ns vs
 |_,_=>[]
def iL:Nat->Nat->List Int
 |_,0=>[]
 |p,k+1=>((2*p:Nat):Int)::iL (p+1) k
section
variable {pre:List GObj} {ins:Int} {v:List Bool}
theorem yo (hv:(v.length:Int)=ins) {A:List (Int×Int)}:∀(bs:List Bool) (p:Nat) (rest:List Bool),1<=p->v.drop (p-1)=bs++rest->Ls ins v A (iL p bs.length) bs
 |[],_,_,_,_=>trivial
 | b::bs,p,rest,hp,h=>by
  have hlt:p-1<v.length:=by
   rcases Nat.lt_or_ge (p-1) v.length with h1|h1
   ·exact h1
   ·rw[aQ h1] at h;cases h
  rw[aL hlt] at h;simp only[bJ,List.cons.injEq] at h;have ih:=yo hv (A:=A) bs (p+1) rest (by omega) (by rw[show p+1-1=p-1+1 by omega];exact h.2);refine⟨⟨?_,?_⟩,ih⟩
  ·unfold dt eG;rw[aH];omega
  ·obtain⟨t,ht⟩:=j4 (false::v) A
   unfold cu;rw[ht,show (((2*p:Nat):Int)/2).toNat=p by omega,aF (by omega)];rw[aM,aJ (by simp;omega),show p=(p-1)+1 by omega,List.getElem?_cons_succ,aA hlt,h.1];cases b<;>rfl
def hH (m0 m1 m2 m3 m4 bv:PV) (nx:List (Int×Int)) (J:List GObj):BC:=⟨m0,m1,m2,m3,m4,bv,.map (ay nx)::J⟩
section
variable {m0 m1 m2 m3 m4 bv b2:PV} {nx nx2:List (Int×Int)} {J J':List GObj} {A A':List (Int×Int)}
theorem jk:((hH m0 m1 m2 m3 m4 bv nx J).g pre ins A)[pre.length+2]?=some (.cells [.ptr true (pre.length+1) 0,m0,m1,m2,m3,m4,bv]):=ip
theorem tf:((hH m0 m1 m2 m3 m4 bv nx J).g pre ins A)[pre.length+3]?=some (.map (ay nx)):=mu (j:=0) rfl
theorem pr:((hH m0 m1 m2 m3 m4 bv nx J).g pre ins A).set (pre.length+2) (.cells [.ptr true (pre.length+1) 0,m0,m1,m2,m3,m4,b2])=(hH m0 m1 m2 m3 m4 b2 nx J).g pre ins A:=by unfold BC.g hH;rw[List.set_append_right _ _ (by omega),show pre.length+2-pre.length=2 by omega];rfl
theorem Io:((hH m0 m1 m2 m3 m4 bv nx J).g pre ins A).set (pre.length+3) (.map (ay nx2))=(hH m0 m1 m2 m3 m4 bv nx2 J).g pre ins A:=by unfold BC.g hH;rw[List.set_append_right _ _ (by omega),show pre.length+3-pre.length=3 by omega];rfl
theorem pt {L:List PV} {o b:Bool}:fc ((hH m0 m1 m2 m3 m4 (.sl o 1 L) nx J).g pre ins A) (pre.length+2) 6 b=some ((hH m0 m1 m2 m3 m4 (.sl b 1 L) nx J).g pre ins A):=by
 have h2:=jk (pre:=pre) (ins:=ins) (A:=A) (m0:=m0) (m1:=m1) (m2:=m2) (m3:=m3) (m4:=m4) (bv:= .sl o 1 L) (nx:=nx) (J:=J);have h3:=pr (pre:=pre) (ins:=ins) (A:=A) (m0:=m0) (m1:=m1) (m2:=m2) (m3:=m3) (m4:=m4) (bv:= .sl o 1 L) (b2:= .sl b 1 L) (nx:=nx) (J:=J);unfold fc;rw[h2]
 show some (List.set _ _ _)=_
 rw[<-h3];rfl
theorem Ip {L:List PV} {r:PV} {cl:List GObj->Option (PV×List GObj)} (h:∀o,cl ((hH m0 m1 m2 m3 m4 (.sl o 1 L) nx J).g pre ins A)=some (r,(hH m0 m1 m2 m3 m4 (.sl o 1 L) nx J').g pre ins A')) :
  rtP cl ((hH m0 m1 m2 m3 m4 (.sl false 1 L) nx J).g pre ins A) (pre.length+2) (0+6):=
 ⟨_,_,_,_,pt,pt,h true,h false,rfl,by rw[jk,jk],by rw[jk,jk],pt,pt⟩
end
def R1 (pre:List GObj) (nI nS:Int) (L:List Nd) (m0 m1 m2 m3 m4:PV) (i:Nat) (G:List GObj):St:=
 ⟨[(1,.ptr false 0 0),(2,.ptr false 1 0),(3,I nI),(4,I nS),(5,.ptr true (pre.length+2) 0),(6,.mp (pre.length+3)),(48,LN L),(49,I L.length),(50,I (i:Int))],
  [[m0,m1,m2,m3,m4],[I 0,.sl true 2 [],I 0,I 0,.sl true 1 [],.sl true 1 [],.sl true 1 [],.sl true 1 []]],G⟩
section
variable {m0 m1 m2 m3 m4:PV} {nx:List (Int×Int)} {J J':List GObj} {A A':List (Int×Int)} {nI nS:Int} {L:List Nd} {x:Nd} {i:Nat}
theorem yp {G:List GObj} (hi:i<=1000):ab pg q1g (R1 pre nI nS L m0 m1 m2 m3 m4 i G)=some (.normal,R1 pre nI nS L m0 m1 m2 m3 m4 (i+1) G):=
 qn6 (by simp[R1,wrS' i (by omega)])
theorem Iq {BS:List PV} {out:List Int} (hi:i<L.length) (hl:L.length<=80) (hx:L[i]?=some x) (hbl:BS.length=i) (hf:fS nx x.k=none)
  (h:∀o,ac pg 218 [.ptr true (pre.length+2) 0,bm x] ((hH m0 m1 m2 m3 m4 (.sl o 1 BS) nx J).g pre ins A)=some (LI out,(hH m0 m1 m2 m3 m4 (.sl o 1 BS) nx J').g pre ins A')) :
  q1n pg nI nS (pre.length+2) 0 (.mp (pre.length+3)) (LN L) L.length i m0 m1 m2 m3 m4 0 (.sl true 2 []) 0 0 (.sl true 1 []) (.sl true 1 []) (.sl true 1 []) (.sl true 1 []) ((hH m0 m1 m2 m3 m4 (.sl true 1 BS) nx J).g pre ins A)=
   some (.normal,R1 pre nI nS L m0 m1 m2 m3 m4 (i+1) ((hH m0 m1 m2 m3 m4 (.sl true 1 (BS++[LI out])) nx J').g pre ins A')):=by
 have hltI:(i:Int)<(L.length:Int):=by omega
 have hxv:(L.map bm)[i]?=some (.agg [I x.k,I x.w,I x.a,I x.b,I x.c,I x.n]):=by rw[aB,hx];rfl
 have hmx:(i+1)*24<=maxBytes:=by have:=MB;omega
 have hk2:=yp (pre:=pre) (nI:=nI) (nS:=nS) (L:=L) (m0:=m0) (m1:=m1) (m2:=m2) (m3:=m3) (m4:=m4) (i:=i) (G:=(hH m0 m1 m2 m3 m4 (.sl true 1 (BS++[LI out])) nx J').g pre ins A') (by omega);rw[dQ] at h;have hrt:=λ(y:Option (ag×St))=>D4 (x:=y) (Ip (pre:=pre) h)
 have h0:=h false;have s1:=pr (pre:=pre) (ins:=ins) (A:=A) (m0:=m0) (m1:=m1) (m2:=m2) (m3:=m3) (m4:=m4) (bv:= .sl true 1 BS) (b2:= .sl false 1 BS) (nx:=nx) (J:=J);have s2:=pr (pre:=pre) (ins:=ins) (A:=A') (m0:=m0) (m1:=m1) (m2:=m2) (m3:=m3) (m4:=m4) (bv:= .sl false 1 BS) (b2:= .sl true 1 (BS++[LI out])) (nx:=nx) (J:=J');have g1:=jk (pre:=pre) (ins:=ins) (A:=A) (m0:=m0) (m1:=m1) (m2:=m2) (m3:=m3) (m4:=m4) (bv:= .sl true 1 BS) (nx:=nx) (J:=J);have g3:=tf (pre:=pre) (ins:=ins) (A:=A) (m0:=m0) (m1:=m1) (m2:=m2) (m3:=m3) (m4:=m4) (bv:= .sl true 1 BS) (nx:=nx) (J:=J)
 have g2:=jk (pre:=pre) (ins:=ins) (A:=A') (m0:=m0) (m1:=m1) (m2:=m2) (m3:=m3) (m4:=m4) (bv:= .sl false 1 BS) (nx:=nx) (J:=J');unfold R1 at *;unfold LI LN at *;generalize (hH m0 m1 m2 m3 m4 (.sl true 1 (BS++[.sl false 1 (out.map I)])) nx J').g pre ins A'=G4 at *;generalize (hH m0 m1 m2 m3 m4 (.sl false 1 BS) nx J').g pre ins A'=G3 at *;generalize (hH m0 m1 m2 m3 m4 (.sl false 1 BS) nx J).g pre ins A=G2 at *;generalize (hH m0 m1 m2 m3 m4 (.sl true 1 BS) nx J).g pre ins A=G1 at *;generalize out.map I=OI at *;generalize L.map bm=LV at *;simp only[q1n,aG hltI,dO]
 simp[hxv,g1,g3,hf,s1,h0,hrt,hbl,hmx,g2,s2,hk2,bj,show Nat.ble 1 2=true from rfl,show Nat.ble 2 2=true from rfl]
theorem yq {G:List GObj} {at' W:Nat} {x0 x1 x2 x3 x4 x5:Int} (hat:at'+W<=2000) (hw:W<=8):∀(k j:Nat) (acc:List Int),j+k=W->acc.length=j->
  ab pg q5l ⟨[(1,.ptr false 0 0),(2,.ptr false 1 0),(3,I nI),(4,I nS),(5,.ptr true (pre.length+2) 0),(6,.mp (pre.length+3)),(8,.ptr false 2 0),(9,I (at':Int)),(11,.sl true 1 (acc.map I)),(48,LN L),(49,I L.length),(50,I (i:Int)),(76,I (W:Int)),(77,I (j:Int))],
   [[m0,m1,m2,m3,m4],[I 0,.sl true 2 [],I 0,I 0,.sl true 1 [],.sl true 1 [],.sl true 1 [],.sl true 1 []],[I x0,I x1,I x2,I x3,I x4,I x5]],G⟩=
  some (.normal,⟨[(1,.ptr false 0 0),(2,.ptr false 1 0),(3,I nI),(4,I nS),(5,.ptr true (pre.length+2) 0),(6,.mp (pre.length+3)),(8,.ptr false 2 0),(9,I (at':Int)),(11,.sl true 1 ((acc++iL (at'+j) k).map I)),(48,LN L),(49,I L.length),(50,I (i:Int))],
   [[m0,m1,m2,m3,m4],[I 0,.sl true 2 [],I 0,I 0,.sl true 1 [],.sl true 1 [],.sl true 1 [],.sl true 1 []],[I x0,I x1,I x2,I x3,I x4,I x5]],G⟩)
 |0,j,acc,h,_=>by
  have hlt:¬((j:Nat):Int)<(W:Int):=by omega
  rw[iL,bH];refine (cm (s1:=?s1) (qh9 ?h1)).trans ?r1
  case h1=>simp only[aF hlt,dq];rfl
  case r1=>simp[keep,co]
 | k+1,j,acc,h,ha=>by
  have hlt:((j:Nat):Int)<(W:Int):=by omega
  have hal:(acc.map I).length=j:=by simpa using ha
  have hmx:(j+1)*8<=maxBytes:=by have:=MB;omega
  have e2:=wrS' j (by omega);have ex:WI.wrap (2*WI.wrap ((at':Int)+(j:Int)))=((2*(at'+j):Nat):Int):=by rw[a9 (n:=(at':Int)+j) (by omega) (by omega),a9 (by omega) (by omega)];omega
  have ih:=yq (G:=G) (x0:=x0) (x1:=x1) (x2:=x2) (x3:=x3) (x4:=x4) (x5:=x5) hat hw k (j+1) (acc++[((2*(at'+j):Nat):Int)]) (by omega) (by simp;omega);rw[aZ,bK (l₁:=acc) (l₂:=[((2*(at'+j):Nat):Int)])] at ih;refine bh (qh9 ?h2) ih
  case h2=>
   generalize acc.map I=X at *;generalize ((2*(at'+j):Nat):Int)=q at *;simp only[aG hlt,dO];simp[hal,ex,hmx,e2]
theorem Ir {G G1 G3:List GObj} {BS OUT:List PV} {at' W:Nat} {k c1 c2 c3 c4:Int} {o:Bool} (hat:at'+W<=2000) (hbl:BS.length<=80) (g3:G[pre.length+3]?=some (.map (ay nx))) (s3:G.set (pre.length+3) (.map (ay (fI nx k ((at'+W:Nat):Int))))=G1)
  (g2:G[pre.length+2]?=some (.cells [.ptr true (pre.length+1) 0,m0,m1,m2,m3,m4,.sl true 1 BS])) (hlen:pre.length+2<G1.length)
  (s4:G1.set (pre.length+2) (.cells [.ptr true (pre.length+1) 0,m0,m1,m2,m3,m4,.sl true 1 (BS++[.sl false 1 OUT])])=G3) :
  ab pg q3g ⟨[(1,.ptr false 0 0),(2,.ptr false 1 0),(3,I nI),(4,I nS),(5,.ptr true (pre.length+2) 0),(6,.mp (pre.length+3)),(8,.ptr false 2 0),(9,I (at':Int)),(11,.sl o 1 OUT),(48,LN L),(49,I L.length),(50,I (i:Int))],
   [[m0,m1,m2,m3,m4],[I 0,.sl true 2 [],I 0,I 0,.sl true 1 [],.sl true 1 [],.sl true 1 [],.sl true 1 []],[I k,I (W:Int),I c1,I c2,I c3,I c4]],G⟩=
  some (.normal,R1 pre nI nS L m0 m1 m2 m3 m4 i G3):=by
 have ew:WI.wrap ((at':Int)+(W:Int))=((at'+W:Nat):Int):=by rw[a9 (by omega) (by omega)];omega
 have hmx:(BS.length+1)*24<=maxBytes:=by have:=MB;omega
 refine qn5 ?_;unfold R1;generalize ((at'+W:Nat):Int)=q at *;simp[ew,g3,s3,g2,hlen,s4,hmx,bj,show Nat.ble 1 2=true from rfl,show Nat.ble 2 2=true from rfl]
theorem Is {BS:List PV} {at' W:Nat} (hi:i<L.length) (hl:L.length<=80) (hx:L[i]?=some x) (hbl:BS.length=i) (hf:fS nx x.k=some (at':Int)) (hw:x.w=(W:Int)) (hw8:W<=8) (hat:at'+W<=2000) :
  q1n pg nI nS (pre.length+2) 0 (.mp (pre.length+3)) (LN L) L.length i m0 m1 m2 m3 m4 0 (.sl true 2 []) 0 0 (.sl true 1 []) (.sl true 1 []) (.sl true 1 []) (.sl true 1 []) ((hH m0 m1 m2 m3 m4 (.sl true 1 BS) nx J).g pre ins A)=
   some (.normal,R1 pre nI nS L m0 m1 m2 m3 m4 (i+1) ((hH m0 m1 m2 m3 m4 (.sl true 1 (BS++[LI (iL at' W)])) (fI nx x.k ((at'+W:Nat):Int)) J).g pre ins A)):=by
 have hltI:(i:Int)<(L.length:Int):=by omega
 have hxv:(L.map bm)[i]?=some (.agg [I x.k,I x.w,I x.a,I x.b,I x.c,I x.n]):=by rw[aB,hx];rfl
 have hk2:=yp (pre:=pre) (nI:=nI) (nS:=nS) (L:=L) (m0:=m0) (m1:=m1) (m2:=m2) (m3:=m3) (m4:=m4) (i:=i) (G:=(hH m0 m1 m2 m3 m4 (.sl true 1 (BS++[LI (iL at' W)])) (fI nx x.k ((at'+W:Nat):Int)) J).g pre ins A) (by omega)
 have hk1:=Ir (pre:=pre) (nI:=nI) (nS:=nS) (L:=L) (m0:=m0) (m1:=m1) (m2:=m2) (m3:=m3) (m4:=m4) (i:=i) (c1:=x.a) (c2:=x.b) (c3:=x.c) (c4:=x.n) (o:=true) (BS:=BS) (OUT:=(iL at' W).map I) (at':=at') (W:=W) (k:=x.k) hat (by omega)
  (tf (pre:=pre) (ins:=ins) (A:=A) (m0:=m0) (m1:=m1) (m2:=m2) (m3:=m3) (m4:=m4) (bv:= .sl true 1 BS) (nx:=nx) (J:=J)) Io jk (by rw[oe];omega) pr
 have hl2:=yq (pre:=pre) (nI:=nI) (nS:=nS) (L:=L) (m0:=m0) (m1:=m1) (m2:=m2) (m3:=m3) (m4:=m4) (i:=i) (G:=(hH m0 m1 m2 m3 m4 (.sl true 1 BS) nx J).g pre ins A) (x0:=x.k) (x1:=W) (x2:=x.a) (x3:=x.b) (x4:=x.c) (x5:=x.n) hat hw8 W 0 [] (by omega) rfl;simp only[bI,bR,cA,aX] at hl2;have g3:=tf (pre:=pre) (ins:=ins) (A:=A) (m0:=m0) (m1:=m1) (m2:=m2) (m3:=m3) (m4:=m4) (bv:= .sl true 1 BS) (nx:=nx) (J:=J);rw[hw] at hxv;unfold R1 at *;unfold LI LN at *;generalize (hH m0 m1 m2 m3 m4 (.sl true 1 (BS++[.sl false 1 ((iL at' W).map I)])) (fI nx x.k ((at'+W:Nat):Int)) J).g pre ins A=G4 at *
 generalize (hH m0 m1 m2 m3 m4 (.sl true 1 BS) nx J).g pre ins A=G1 at *;generalize (iL at' W).map I=OI at *;generalize L.map bm=LV at *;simp only[q1n,aG hltI,dO];simp[hxv,g3,hf,hl2,hk1,hk2,show Nat.ble 1 2=true from rfl,show Nat.ble 2 2=true from rfl]
end
end
theorem It {L:List Nd} {i:Int} {x:Nd} (h:dU L i x=0):1<=x.k/\x.k<24:=by
 unfold dU at h;split at h
 ·omega
 ·omega
section
variable {pre:List GObj} {ins:Int} {v:List Bool}
theorem Iu {k w n:Int} {X Y Z:List Int} {A:List (Int×Int)} (hk:k=1) (hc:bq ins A=0) (hw:1<=w/\w<=8) (hn:0<=n/\n<((2^w.toNat:Nat):Int)):NS pre ins v A k w n X Y Z n:=by
 obtain⟨hi,_,_,_⟩:=dK hc;obtain⟨W,rfl⟩:∃W:Nat,w=W:=⟨w.toNat,by omega⟩
 obtain⟨N,rfl⟩:∃N:Nat,n=N:=⟨n.toNat,by omega⟩
 rw[Int.toNat_natCast] at hn;have hp:=fj (W:=W) (by omega);refine⟨A,cI N 0 W,cB N 0 W,[],false,λH a b c o0 o1 o2=>?_,(Stp.refl hc).mono (by omega),sY hi.1 N W 0,by rw[gm],?_⟩
 ·rw[fA]
  exact Hx hk rfl (by omega) (by omega)
 ·rw[sX,Nat.pow_zero,Nat.div_one,cP (by omega)]
theorem yr {x:Int} {W:Nat} (h0:0<=x) (h1:x<((2^W:Nat):Int)):(num (cB x.toNat 0 W):Int)=x:=by rw[sX,Nat.pow_zero,Nat.div_one,cP (by omega)];omega
theorem yt {kind:Int} {L:List Nd} {i:Nat} {x:Nd} (hx:L[i]?=some x):di kind i (L.drop i)=if x.k=kind then (i:Int)::di kind (i+1) (L.drop (i+1)) else di kind (i+1) (L.drop (i+1)):=by obtain⟨hlt,rfl⟩:=aD.1 hx;rw[aL hlt,di]
theorem tg {p W:Nat} {cs rest:List Bool} (hp:1<=p) (hW:cs.length=W) (h1:1<=W) (hvl:v.length<=1000) (h:v.drop (p-1)=cs++rest):p+W<=2000/\v.drop (p+W-1)=rest:=by have hl:=congrArg List.length h;rw[List.length_drop,aW,hW] at hl;refine⟨by omega,?_⟩;rw[show p+W-1=(p-1)+W by omega,<-List.drop_drop,h,<-hW,List.drop_left]
theorem th (pre:List GObj) (hv:(v.length:Int)=ins) {nI nS:Int} {L:List Nd} {m0 m1 m2 m3 m4:PV} {vS:List Bool} (hl:L.length<=80) (hz:∀(j:Nat) (x:Nd),L[j]?=some x->dU L j x=0) (hww:∀(j:Nat) (x:Nd),L[j]?=some x->1<=x.w/\x.w<=8) :
  ∀ (k i:Nat) (ss ks:List Int) (A:List (Int×Int)) (bits:List (List Int)) (bvs:List (List Bool)) (acc:List Int) (pI pS:Nat) (J:List GObj),i+k=L.length->bq ins A=0->A.length+5000*k+5000<=1000000->bits.length=i->
   BitsOk ins v A L bits bvs acc->VGood L i acc ss ks->1<=pI->1<=pS->v.drop (pI-1)=cy L (di 2 i (L.drop i)) ks++vS->v.drop (pS-1)=cy L (di 3 i (L.drop i)) ss->
   ∃ A' bits' bvs' nx' J',ab pg q1q (R1 pre nI nS L m0 m1 m2 m3 m4 i ((hH m0 m1 m2 m3 m4 (.sl true 1 (bits.map λl=>LI l)) [(2,pI),(3,pS)] J).g pre ins A))=
     some (.normal,⟨[(1,.ptr false 0 0),(2,.ptr false 1 0),(3,I nI),(4,I nS),(5,.ptr true (pre.length+2) 0)],[[m0,m1,m2,m3,m4],[I 0,.sl true 2 [],I 0,I 0,.sl true 1 [],.sl true 1 [],.sl true 1 [],.sl true 1 []]],(hH m0 m1 m2 m3 m4 (.sl true 1 (bits'.map λl=>LI l)) nx' J').g pre ins A'⟩)/\
    Stp ins A A' (5000*k)/\BitsOk ins v A' L bits' bvs' (eO L acc ss ks (L.drop i))/\bits'.length=L.length
 | 0,i,ss,ks,A,bits,bvs,acc,pI,pS,J,h,hc,_,hbl,hB,_,_,_,_,_=>by
  refine⟨A,bits,bvs,[(2,pI),(3,pS)],J,?_,Stp.refl hc,?_,by omega⟩
  ·have hlt:¬(i:Int)<(L.length:Int):=by omega
   unfold R1;refine (cm (s1:=?s1) (q1n_ ?h1)).trans ?r1
   case h1=>simp only[q1n,aF hlt,dq];rfl
   case r1=>simp[keep,co]
  ·rw[aQ (by omega)];exact hB
 | k +1,i,ss,ks,A,bits,bvs,acc,pI,pS,J,h,hc,hA,hbl,hB,hg,hpI,hpS,hdI,hdS=>by
  have hi:i<L.length:=by omega
  obtain⟨hins,_,_,_⟩:=dK hc;have hx:L[i]?=some L[i]:=aA hi;have hn:=hz i _ hx;have hw:=hww i _ hx;have hkp:=It hn;have hwA:wAt L (bits.length:Int)=(L[i]).w:=by rw[hbl];exact oO hx
  have hK2:=yt (kind:=2) hx;have hK3:=yt (kind:=3) hx;rw[aL hi,eO];generalize L[i]=x at *;have hA2:A.length+5000<=1000000:=by omega
  have hbl':(bits.map λl=>LI l).length=i:=by rw[bC,hbl]
  have hop:∀val,x.k≠2->x.k≠3->NS pre ins v A x.k x.w x.n (eP bits (az x.k) 0 x.a) (eP bits (az x.k) 1 x.b) (eP bits (az x.k) 2 x.c) val->(∀y∈dM x,0<=y/\y.toNat<bits.length)->VGood L (i+1) (acc++[val]) ss ks->
    ∃A' bits' bvs' nx' J',ab pg q1q (R1 pre nI nS L m0 m1 m2 m3 m4 i ((hH m0 m1 m2 m3 m4 (.sl true 1 (bits.map λl=>LI l)) [(2,pI),(3,pS)] J).g pre ins A))=
     some (.normal,⟨[(1,.ptr false 0 0),(2,.ptr false 1 0),(3,I nI),(4,I nS),(5,.ptr true (pre.length+2) 0)],[[m0,m1,m2,m3,m4],[I 0,.sl true 2 [],I 0,I 0,.sl true 1 [],.sl true 1 [],.sl true 1 [],.sl true 1 []]],(hH m0 m1 m2 m3 m4 (.sl true 1 (bits'.map λl=>LI l)) nx' J').g pre ins A'⟩)/\
    Stp ins A A' (5000*(k+1))/\BitsOk ins v A' L bits' bvs' (eO L (acc++[val]) ss ks (L.drop (i+1)))/\bits'.length=L.length:=by
   intro val h2 h3 hN hmem hg';obtain⟨A1,out,ob,J1,f1,s1,l1,w1,n1⟩:=H0 pre hN hmem;have b1:=s1.2.1;rw[if_neg h2] at hK2;rw[if_neg h3] at hK3;rw[hK2] at hdI;rw[hK3] at hdS;obtain⟨A2,bits',bvs',nx',J',g1,g2,g3,g4⟩:=th pre hv (nI:=nI) (nS:=nS) (m0:=m0) (m1:=m1) (m2:=m2) (m3:=m3) (m4:=m4) hl hz hww k (i+1) ss ks A1 (bits++[out]) (bvs++[ob]) (acc++[val]) pI pS (J++J1) (by omega) s1.1 (by omega) (by simp[hbl]) ((hB.mono hv s1).push l1 (by rw[w1,hwA]) n1) hg' hpI hpS hdI hdS;refine⟨A2,bits',bvs',nx',J',?_,(s1.trans g2).mono (by rw[Nat.mul_succ,Nat.add_comm];exact cQ _),g3,g4⟩
   have hst:=Iq (pre:=pre) (ins:=ins) (nI:=nI) (nS:=nS) (m0:=m0) (m1:=m1) (m2:=m2) (m3:=m3) (m4:=m4) (nx:=[(2,(pI:Int)),(3,(pS:Int))]) (J:=J) (J':=J++J1) (A:=A) (A':=A1) (BS:=bits.map λl=>LI l) (out:=out) hi hl hx hbl' (by
    show (if x.k=2 then _ else if x.k=3 then _ else none)=none
    rw[if_neg h2,if_neg h3]) (λo=>f1 (hH m0 m1 m2 m3 m4 (.sl o 1 (bits.map λl=>LI l)) [(2,pI),(3,pS)] J) o rfl)
   unfold R1 at hst g1 ⊢;refine bh (q1n_ hst) ?_;rw[bK] at g1;exact g1
  split
  ·rename_i h1
   have hcn:=oU hn h1;exact hop x.n (by omega) (by omega) (Iu h1 hc hw hcn) (λy hy=>by unfold dM at hy;rw[w8 (by omega)] at hy;cases hy) (hg.other hx (by omega) (by omega) hcn.1 hcn.2)
  ·rename_i h1
   obtain⟨W,hW⟩:∃W:Nat,x.w=W:=⟨x.w.toNat,by omega⟩
   have hwi:wAt L (i:Int)=W:=by rw[<-hbl,hwA,hW]
   have hin:∀(wv:Int) (p:Nat) (rest:List Bool) (ss' ks':List Int) (nx2:Nat×Nat),x.k=2\/x.k=3->fS [(2,(pI:Int)),(3,(pS:Int))] x.k=some (p:Int)->1<=p->v.drop (p-1)=cB wv.toNat 0 W++rest->VGood L (i+1) (acc++[wv]) ss' ks'->fI [(2,(pI:Int)),(3,(pS:Int))] x.k ((p+W:Nat):Int)=[(2,(nx2.1:Int)),(3,(nx2.2:Int))]->
     1<=nx2.1->1<=nx2.2->v.drop (nx2.1-1)=cy L (di 2 (i+1) (L.drop (i+1))) ks'++vS->v.drop (nx2.2-1)=cy L (di 3 (i+1) (L.drop (i+1))) ss'->
    ∃A' bits' bvs' nx' J',ab pg q1q (R1 pre nI nS L m0 m1 m2 m3 m4 i ((hH m0 m1 m2 m3 m4 (.sl true 1 (bits.map λl=>LI l)) [(2,pI),(3,pS)] J).g pre ins A))=
     some (.normal,⟨[(1,.ptr false 0 0),(2,.ptr false 1 0),(3,I nI),(4,I nS),(5,.ptr true (pre.length+2) 0)],[[m0,m1,m2,m3,m4],[I 0,.sl true 2 [],I 0,I 0,.sl true 1 [],.sl true 1 [],.sl true 1 [],.sl true 1 []]],(hH m0 m1 m2 m3 m4 (.sl true 1 (bits'.map λl=>LI l)) nx' J').g pre ins A'⟩)/\
    Stp ins A A' (5000*(k+1))/\BitsOk ins v A' L bits' bvs' (eO L (acc++[wv]) ss' ks' (L.drop (i+1)))/\bits'.length=L.length:=by
    intro wv p rest ss' ks' nx2 hk23 hf hp hd hg' hset hn1 hn2 hd1 hd2;obtain⟨hb1,_⟩:=tg (W:=W) hp (gm _ _ _) (by omega) (by omega) hd;have hls:=yo hv (A:=A) _ p rest hp hd;rw[gm] at hls;have hrng:=hg'.inw i (by rw[hg'.len];omega);have hgd:=lp (d:=(0:Int)) (x:=wv) (l:=acc) (j:=i);rw[if_neg (by rw[hg.len];omega),if_pos hg.len.symm] at hgd;rw[hgd,hwi,Int.toNat_natCast] at hrng
    obtain⟨A2,bits',bvs',nx',J',g1,g2,g3,g4⟩:=th pre hv (nI:=nI) (nS:=nS) (m0:=m0) (m1:=m1) (m2:=m2) (m3:=m3) (m4:=m4) hl hz hww k (i+1) ss' ks' A (bits++[iL p W]) (bvs++[cB wv.toNat 0 W]) (acc++[wv]) nx2.1 nx2.2 J (by omega) hc (by omega) (by simp[hbl]) (hB.push hls (by rw[gm,hwA,hW]) (yr hrng.1 hrng.2)) hg' hn1 hn2 hd1 hd2;refine⟨A2,bits',bvs',nx',J',?_,g2.mono (Nat.mul_le_mul_left _ (Nat.le_succ k)),g3,g4⟩
    have hst:=Is (pre:=pre) (ins:=ins) (nI:=nI) (nS:=nS) (m0:=m0) (m1:=m1) (m2:=m2) (m3:=m3) (m4:=m4) (nx:=[(2,(pI:Int)),(3,(pS:Int))]) (J:=J) (A:=A) (BS:=bits.map λl=>LI l) (at':=p) (W:=W) hi hl hx hbl' hf hW (by omega) hb1;rw[hset] at hst;unfold R1 at hst g1 ⊢;refine bh (q1n_ hst) ?_;rw[bK] at g1;exact g1
   split
   ·rename_i h3
    obtain⟨wv,ss',rfl,hg'⟩:=hg.state hx h3;rw[if_pos h3] at hK3;rw[if_neg (by omega)] at hK2;rw[hK3,cy,hwi,Int.toNat_natCast] at hdS;rw[hK2] at hdI;obtain⟨_,hd2⟩:=tg (W:=W) hpS (gm _ _ _) (by omega) (by omega) hdS;exact hin wv pS _ ss' ks (pI,pS+W) (.inr h3) (by rw[h3];rfl) hpS hdS hg' (by rw[h3];rfl) hpI (by show 1<=pS+W;omega) hdI hd2
   ·rename_i h3
    split
    ·rename_i h2
     obtain⟨wv,ks',rfl,hg'⟩:=hg.input hx h2;rw[if_pos h2] at hK2;rw[if_neg (by omega)] at hK3;rw[hK2,cy,hwi,Int.toNat_natCast,aZ] at hdI;rw[hK3] at hdS;obtain⟨_,hd1⟩:=tg (W:=W) hpI (gm _ _ _) (by omega) (by omega) hdI;exact hin wv pI _ ss ks' (pI+W,pS) (.inl h2) (by rw[h2];rfl) hpI hdI hg' (by rw[h2];rfl) (by show 1<=pI+W;omega) hpS hd1 hdS
    ·rename_i h2
     have ho:=oQ hx hn (by omega);have ha:=ho.a;have hb:=ho.b;have hcc:=ho.c;have hmem:∀y∈dM x,0<=y/\y.toNat<bits.length:=HY (by omega) (by omega) (by omega);have ho2:lm L bits.length x:=by rw[hbl];exact ho
     exact hop (jg L acc x) h2 h3 (HZ pre hv hB ho2 hc hA2) hmem (hg.op hx h3 h2 ho)
end
section
variable {R:Type}
theorem Iv (G:List GObj) (M1 M2:List (Int×Int)) (k v:Int) (f:List GObj->Option R):muX (G++[.map (ay M1),.map (ay M2)]) 0 (.mp G.length) (I k) (I v) f=f (G++[.map (ay (fI M1 k v)),.map (ay M2)]):=by simp[rG,eC]
theorem Iw (G:List GObj) (M1 M2:List (Int×Int)) (k v:Int) (f:List GObj->Option R):muX (G++[.map (ay M1),.map (ay M2)]) 0 (.mp (G.length+1)) (I k) (I v) f=f (G++[.map (ay M1),.map (ay (fI M2 k v))]):=by simp[rG,eC,List.set_append_right]
theorem yu (G:List GObj) (M1 M2:List (Int×Int)) (k:Int) (f:Option PV->Option R):lkX (G++[.map (ay M1),.map (ay M2)]) 0 (.mp G.length) (I k) f=f ((fS M1 k).map I):=by simp[vJ,eC]
theorem Ix (G:List GObj) (M1 M2:List (Int×Int)) (k:Int) (f:Option PV->Option R):lkX (G++[.map (ay M1),.map (ay M2)]) 0 (.mp (G.length+1)) (I k) f=f ((fS M2 k).map I):=by simp[vJ,eC]
theorem yv {ps:List (Int×Int)} {i:Nat} (hn:(ps.map (·.1)).Nodup) (hi:i<ps.length):fI (ps.take i) ps[i].1 ps[i].2=ps.take (i+1):=by
 rw[yg]
 ·rw[List.take_succ_eq_append_getElem hi]
 ·intro p hp
  obtain⟨j,hj,rfl⟩:=cH.1 hp;rw[cK] at hj;rw[List.getElem_take];intro e;have:j=i:=ny (l:=ps.map (·.1)) hn (by simp[aA (show j<ps.length by omega),aA hi,e]) (by simp;omega);omega
theorem pu:∀{ps:List (Int×Int)} {s:Int},fS ps s=if eQ ps s then some (ch ps s) else none
 |[],_=>rfl
 |(a,u)::ps,s=>by
  have ih:=pu (ps:=ps) (s:=s);rw[fS,mN,ch,ih];by_cases h:a=s
  ·rw[if_pos h.symm,aG h,Bool.true_or,if_pos rfl,if_pos h]
  ·rw[if_neg (λe=>h e.symm),aF h,Bool.false_or,if_neg h]
def C0:List PV:=[I 0,.sl true 2 [],I 0,I 0,.sl true 1 [],.sl true 1 [],.sl true 1 [],.sl true 1 []]
def C1 (nI nS:Int) (a b c d:List PV):List PV:=[I 0,.sl true 2 [],I nI,I nS,.sl true 1 a,.sl true 1 b,.sl true 1 c,.sl true 1 d]
section
variable {pre:List GObj} {m0 m1 m2 m3 m4:PV} {nI nS:Int} {G:List GObj} {ps P1 P2:List (Int×Int)}
theorem yw (hl:ps.length<=1000) (hn:(ps.map (·.1)).Nodup):∀k i,i+k=ps.length->
  ab pg q5m ⟨[(1,.ptr false 0 0),(2,.ptr false 1 0),(5,.ptr true (pre.length+2) 0),(13,.ptr false 2 0),(14,.mp G.length),(15,.mp (G.length+1)),(112,LP ps),(113,I ps.length),(114,I (i:Int))],[[m0,m1,m2,m3,m4],C0,C1 nI nS [] [] [] []],G++[.map (ay (ps.take i)),.map (ay P2)]⟩=
   some (.normal,⟨[(1,.ptr false 0 0),(2,.ptr false 1 0),(5,.ptr true (pre.length+2) 0),(13,.ptr false 2 0),(14,.mp G.length),(15,.mp (G.length+1))],[[m0,m1,m2,m3,m4],C0,C1 nI nS [] [] [] []],G++[.map (ay ps),.map (ay P2)]⟩)
 |0,i,h=>by
  rw[bM (by omega)];have hlt:¬(i:Int)<(ps.length:Int):=by omega
  unfold C0 C1;refine (cm (s1:=?s1) (qha ?h1)).trans ?r1
  case h1=>simp only[aF hlt,dq];rfl
  case r1=>simp[keep,co]
 | k+1,i,h=>by
  have hi:i<ps.length:=by omega
  have hlt:(i:Int)<(ps.length:Int):=by omega
  have e2:=wrS' i (by omega);have hg:(ps.map aj)[i]?=some (.agg [I ps[i].1,I ps[i].2]):=by simp[aA hi,aj]
  have hs:=yv hn hi;have ih:=yw hl hn k (i+1) (by omega);unfold C0 C1 LP at ih ⊢;refine bh (qha ?h2) ih
  case h2=>
   have hmu:=λf=>Iv (R:=ag×St) G (ps.take i) P2 ps[i].1 ps[i].2 f
   rw[hs] at hmu;generalize ps[i].1=p at *;generalize ps[i].2=q at *;generalize ps.take (i+1)=Q2 at *;generalize ps.take i=Q1 at *;generalize ps.map aj=PL at *;simp only[aG hlt,dO];simp[hg,hmu,e2,-rE,show Nat.ble 1 3=true from rfl,show Nat.ble 2 3=true from rfl,show Nat.ble 3 3=true from rfl,show Nat.ble 1 4=true from rfl,show Nat.ble 2 4=true from rfl]
theorem yx (hl:ps.length<=1000) (hn:(ps.map (·.1)).Nodup):∀k i,i+k=ps.length->
  ab pg q5n ⟨[(1,.ptr false 0 0),(2,.ptr false 1 0),(5,.ptr true (pre.length+2) 0),(13,.ptr false 2 0),(14,.mp G.length),(15,.mp (G.length+1)),(125,LP ps),(126,I ps.length),(127,I (i:Int))],[[m0,m1,m2,m3,m4],C0,C1 nI nS [] [] [] []],G++[.map (ay P1),.map (ay (ps.take i))]⟩=
   some (.normal,⟨[(1,.ptr false 0 0),(2,.ptr false 1 0),(5,.ptr true (pre.length+2) 0),(13,.ptr false 2 0),(14,.mp G.length),(15,.mp (G.length+1))],[[m0,m1,m2,m3,m4],C0,C1 nI nS [] [] [] []],G++[.map (ay P1),.map (ay ps)]⟩)
 |0,i,h=>by
  rw[bM (by omega)];have hlt:¬(i:Int)<(ps.length:Int):=by omega
  unfold C0 C1;refine (cm (s1:=?s1) (qhb ?h1)).trans ?r1
  case h1=>simp only[aF hlt,dq];rfl
  case r1=>simp[keep,co]
 | k+1,i,h=>by
  have hi:i<ps.length:=by omega
  have hlt:(i:Int)<(ps.length:Int):=by omega
  have e2:=wrS' i (by omega);have hg:(ps.map aj)[i]?=some (.agg [I ps[i].1,I ps[i].2]):=by simp[aA hi,aj]
  have hs:=yv hn hi;have ih:=yx hl hn k (i+1) (by omega);unfold C0 C1 LP at ih ⊢;refine bh (qhb ?h2) ih
  case h2=>
   have hmu:=λf=>Iw (R:=ag×St) G P1 (ps.take i) ps[i].1 ps[i].2 f
   rw[hs] at hmu;generalize ps[i].1=p at *;generalize ps[i].2=q at *;generalize ps.take (i+1)=Q2 at *;generalize ps.take i=Q1 at *;generalize ps.map aj=PL at *;simp only[aG hlt,dO];simp[hg,hmu,e2,-rE,show Nat.ble 1 3=true from rfl,show Nat.ble 2 3=true from rfl,show Nat.ble 3 3=true from rfl,show Nat.ble 1 4=true from rfl,show Nat.ble 2 4=true from rfl]
variable {g14 g15 l j:Nat} {ST:List PV} {nx bd hd:List PV}
def sE (pre:List GObj) (g14 g15:Nat) (ST:List PV) (l j:Int):List (Nat×PV):=
 [(1,.ptr false 0 0),(2,.ptr false 1 0),(5,.ptr true (pre.length+2) 0),(13,.ptr false 2 0),(14,.mp g14),(15,.mp g15),(138,.sl false 1 ST),(139,I l),(140,I j)]
theorem yy {N W:Nat} (hN:N<256) (hw:W<=8):∀(k i:Nat) (acc:List Int),i+k=W->acc.length<=1000+i->
  ab pg q5o ⟨[(1,.ptr false 0 0),(2,.ptr false 1 0),(5,.ptr true (pre.length+2) 0),(13,.ptr false 2 0),(14,.mp g14),(15,.mp g15),(24,I (N:Int)),(138,.sl false 1 ST),(139,I l),(140,I j),(182,I (W:Int)),(183,I (i:Int))],[[m0,m1,m2,m3,m4],C0,C1 nI nS (acc.map I) nx bd hd],G⟩=
   some (.normal,⟨sE pre g14 g15 ST l j,[[m0,m1,m2,m3,m4],C0,C1 nI nS ((acc++cI N i k).map I) nx bd hd],G⟩)
 |0,i,acc,h,_=>by
  have hlt:¬(i:Int)<(W:Int):=by omega
  rw[cI,bH];unfold C0 C1 sE;refine (cm (s1:=?s1) (qhc ?h1)).trans ?r1
  case h1=>simp only[aF hlt,dq];rfl
  case r1=>simp[keep,co]
 | k+1,i,acc,h,ha=>by
  have hlt:(i:Int)<(W:Int):=by omega
  have hge:(0:Int)<=(i:Int):=by omega
  have hal:(acc.map I).length=acc.length:=by simp
  have hmx:(acc.length+1)*8<=maxBytes:=by have:=MB;omega
  have e2:=wrS' i (by omega);have hdd:N/2^i<=N:=Nat.div_le_self _ _;have ex:fG .i64 (fa .i64 (N:Int) (i:Int)) 1=((N/2^i%2:Nat):Int):=by rw[j3 _ _ (by omega),show (1:Int)=((1:Nat):Int) from rfl,nN (by omega) (by omega),Nat.and_one_is_mod]
  have ih:=yy hN hw k (i+1) (acc++[((N/2^i%2:Nat):Int)]) (by omega) (by simp;omega);rw[aZ,bK (l₁:=acc) (l₂:=[((N/2^i%2:Nat):Int)])] at ih;unfold C0 C1 sE at ih ⊢;refine bh (qhc ?h2) ih
  case h2=>
   generalize acc.map I=X at *;generalize N/2^i%2=q at *;simp only[aG hlt,dO];simp[hge,hal,ex,hmx,e2]
theorem yz {W:Nat} (hw:W<=8):∀(k i:Nat) (acc:List Int),i+k=W->acc.length<=1000+i->
  ab pg q5p ⟨[(1,.ptr false 0 0),(2,.ptr false 1 0),(5,.ptr true (pre.length+2) 0),(13,.ptr false 2 0),(14,.mp g14),(15,.mp g15),(138,.sl false 1 ST),(139,I l),(140,I j),(201,I (W:Int)),(202,I (i:Int))],[[m0,m1,m2,m3,m4],C0,C1 nI nS (acc.map I) nx bd hd],G⟩=
   some (.normal,⟨sE pre g14 g15 ST l j,[[m0,m1,m2,m3,m4],C0,C1 nI nS ((acc++List.replicate k (-1)).map I) nx bd hd],G⟩)
 |0,i,acc,h,_=>by
  have hlt:¬(i:Int)<(W:Int):=by omega
  rw[List.replicate_zero,bH];unfold C0 C1 sE;refine (cm (s1:=?s1) (qhd ?h1)).trans ?r1
  case h1=>simp only[aF hlt,dq];rfl
  case r1=>simp[keep,co]
 | k+1,i,acc,h,ha=>by
  have hlt:(i:Int)<(W:Int):=by omega
  have hal:(acc.map I).length=acc.length:=by simp
  have hmx:(acc.length+1)*8<=maxBytes:=by have:=MB;omega
  have e2:=wrS' i (by omega);have ih:=yz hw k (i+1) (acc++[-1]) (by omega) (by simp;omega);rw[aZ,bK (l₁:=acc) (l₂:=[-1])] at ih;unfold C0 C1 sE at ih ⊢;refine bh (qhd ?h2) ih
  case h2=>
   generalize acc.map I=X at *;simp only[aG hlt,dO];simp[hal,hmx,e2]
theorem yA {ini:List PV} (hj:j<=1000):ab pg q17 ⟨sE pre g14 g15 ST l j,[[m0,m1,m2,m3,m4],C0,C1 nI nS ini nx bd hd],G⟩=some (.normal,⟨sE pre g14 g15 ST l ((j+1:Nat):Int),[[m0,m1,m2,m3,m4],C0,C1 nI nS ini nx bd hd],G⟩):=by unfold C0 C1 sE;exact qn8 (by simp[wrS' j (by omega)])
theorem Iy {L:List Nd} {s q:Int} {x:Nd} {W:Nat} {b:Bool} {acc:List Int} (hs:0<=s) (hx:L[s.toNat]?=some x) (hw:x.w=(W:Int)) (hw8:W<=8) (ha:acc.length<=1000) :
  ab pg q1r ⟨[(1,.ptr false 0 0),(2,.ptr false 1 0),(5,.ptr true (pre.length+2) 0),(13,.ptr false 2 0),(14,.mp g14),(15,.mp g15),(21,I s),(22,I q),(138,.sl false 1 ST),(139,I l),(140,I j),(163,.bool b)],[[LN L,m1,m2,m3,m4],C0,C1 nI nS (acc.map I) nx bd hd],G⟩=
   some (.normal,⟨sE pre g14 g15 ST l j,[[LN L,m1,m2,m3,m4],C0,C1 nI nS ((acc++List.replicate W (-1)).map I) nx bd hd],G⟩):=by
 have hl:=yz (pre:=pre) (m0:=LN L) (m1:=m1) (m2:=m2) (m3:=m3) (m4:=m4) (nI:=nI) (nS:=nS) (G:=G) (g14:=g14) (g15:=g15) (l:=l) (j:=j) (ST:=ST) (nx:=nx) (bd:=bd) (hd:=hd) hw8 W 0 acc (by omega) (by omega);simp only[aX] at hl;have hxv:(L.map bm)[s.toNat]?=some (.agg [I x.k,I x.w,I x.a,I x.b,I x.c,I x.n]):=by rw[aB,hx];rfl
 rw[hw] at hxv;unfold C0 C1 at *;refine qn7 ?_;unfold LN at *;generalize L.map bm=LV at *;generalize (acc++List.replicate W (-1)).map I=X2 at *;generalize acc.map I=X at *;simp[hs,hxv,hl]
end
end
theorem yJ:ac pg 211 [] []=some (B true,[]):=IE (n:=2000) (by kernel_rfl)
structure Ci where
 ins:Int
 ands:List (Int×Int)
 inp:Int
 st:Int
 inits:List Int
 nexts:List Int
 bads:List Int
 holds:List Int
abbrev ciV (c:Ci):PV:= .agg [I c.ins,.sl false 2 (c.ands.map aj),I c.inp,I c.st,LI c.inits,LI c.nexts,LI c.bads,LI c.holds]
def ciE (c:Ci):Int:=
 if bq c.ins c.ands=0 then
  if c.inp<0 then 4 else if c.st<0 then 4 else if WI.wrap (c.inp+c.st)=c.ins then
   if (c.inits.length:Int)=c.st then if (c.nexts.length:Int)=c.st then
    if ((mP c.inits).all (dt c.ins c.ands)&&(c.nexts.all (dt c.ins c.ands)&&(c.bads.all (dt c.ins c.ands)&&c.holds.all (dt c.ins c.ands))))=true then 0 else 5
   else 1 else 1
  else 4
 else bq c.ins c.ands
section
variable {gh:List GObj}
end
section
variable {pre:List GObj} {nI nS:Int} {G GM:List GObj} {LV a1 a2 a3 a4 BS ST V:List PV} {m0 m1 m2 m3 m4:PV} {bd hd:List PV}
theorem IF {g14 g15 l j W:Nat} {ini nx:List Int} {Vn:List Int} {s pn:Int} {L:List Nd} {x:Nd} {o:Bool} (hjl:j<l) (hl:l<=1000) (hST:ST[j]?=some (I s)) (hs:0<=s) (hx:L[s.toNat]?=some x) (hw:x.w=(W:Int)) (hw8:W<=8)
  (hb2:GM[pre.length+2]?=some (.cells [.ptr true (pre.length+1) 0,LN L,m1,m2,m3,m4,.sl o 1 BS])) (hq:∀(f:Option PV->Option (ag×St)),lkX GM 0 (.mp g15) (I s) f=f (some (I pn))) (hp:∀(f:Option PV->Option (ag×St)),lkX GM 0 (.mp g14) (I s) f=f none)
  (hpn:0<=pn) (hB:BS[pn.toNat]?=some (LI Vn)) (hn:nx.length+Vn.length<=1000) (hi:ini.length<=1000) :
  q1o pg (pre.length+2) 0 (.mp g14) (.mp g15) (.sl false 1 ST) l j (LN L) m1 m2 m3 m4 0 (.sl true 2 []) 0 0 (.sl true 1 []) (.sl true 1 []) (.sl true 1 []) (.sl true 1 []) 0 (.sl true 2 []) nI nS (.sl true 1 (ini.map I)) (.sl true 1 (nx.map I)) (.sl true 1 bd) (.sl true 1 hd) GM=
   some (.normal,⟨sE pre g14 g15 ST l ((j+1:Nat):Int),[[LN L,m1,m2,m3,m4],C0,C1 nI nS ((ini++List.replicate W (-1)).map I) ((nx++Vn).map I) bd hd],GM⟩):=by
 have hlt:(j:Int)<(l:Int):=by omega
 have hmx:(nx.length+Vn.length)*8<=maxBytes:=by have:=MB;omega
 have hk6:=Iy (pre:=pre) (m1:=m1) (m2:=m2) (m3:=m3) (m4:=m4) (nI:=nI) (nS:=nS) (G:=GM) (g14:=g14) (g15:=g15) (l:=l) (j:=j) (ST:=ST) (nx:=(nx++Vn).map I) (bd:=bd) (hd:=hd) (L:=L) (s:=s) (q:=0) (b:=false) (acc:=ini) hs hx hw hw8 hi;have hk7:=yA (pre:=pre) (m0:=LN L) (m1:=m1) (m2:=m2) (m3:=m3) (m4:=m4) (nI:=nI) (nS:=nS) (G:=GM) (g14:=g14) (g15:=g15) (l:=l) (j:=j) (ST:=ST) (ini:=(ini++List.replicate W (-1)).map I) (nx:=(nx++Vn).map I) (bd:=bd) (hd:=hd) (by omega);have e1:(nx++Vn).map I=nx.map I++Vn.map I:=by simp
 have hnl:(nx.map I).length=nx.length:=by simp
 have hvl:(Vn.map I).length=Vn.length:=by simp
 unfold LI at hB;unfold C0 C1 sE at *;rw[e1] at hk6 hk7 ⊢;generalize (ini++List.replicate W (-1)).map I=I2 at *;generalize ini.map I=I1 at *;generalize nx.map I=N1 at *;generalize Vn.map I=V1 at *;unfold LN at *;generalize L.map bm=LV at *;simp only[q1o,aG hlt,dO];simp[hST,hb2,hq,hp,hpn,hB,hnl,hvl,hmx,hk6,hk7,-vG,show Nat.ble 1 3=true from rfl,show Nat.ble 2 3=true from rfl,show Nat.ble 3 3=true from rfl]
theorem IG {g14 g15 l j W N:Nat} {ini nx:List Int} {Vn VV:List Int} {S3 S2:List PV} {s pn q0:Int} {L:List Nd} {x:Nd} {o:Bool} (hjl:j<l) (hl:l<=1000) (hST:ST[j]?=some (I s)) (hs:0<=s) (hx:L[s.toNat]?=some x) (hw:x.w=(W:Int)) (hw8:W<=8)
  (hb2:GM[pre.length+2]?=some (.cells [.ptr true (pre.length+1) 0,LN L,.sl false 2 a1,.sl false 2 a2,.sl false 1 a3,.sl false 1 a4,.sl o 1 BS])) (hq:∀(f:Option PV->Option (ag×St)),lkX GM 0 (.mp g15) (I s) f=f (some (I pn))) (hp:∀(f:Option PV->Option (ag×St)),lkX GM 0 (.mp g14) (I s) f=f (some (I q0)))
  (hpn:0<=pn) (hB:BS[pn.toNat]?=some (LI Vn)) (hn:nx.length+Vn.length<=1000) (hi:ini.length<=1000)
  (h3:ac pg 101 [.agg [LN L,.sl false 2 a1,.sl false 2 a2,.sl false 1 a3,.sl false 1 a4],I 3] GM=some (.sl false 1 S3,GM)) (h2:ac pg 101 [.agg [LN L,.sl false 2 a1,.sl false 2 a2,.sl false 1 a3,.sl false 1 a4],I 2] GM=some (.sl false 1 S2,GM)) (hS3:S3.length<=1000) (hS2:S2.length<=1000)
  (hR:ac pg 139 [.agg [LN L,.sl false 2 a1,.sl false 2 a2,.sl false 1 a3,.sl false 1 a4],.sl false 1 (List.replicate S3.length (I 0)),.sl false 1 (List.replicate S2.length (I 0))] GM=some (LI VV,GM)) (hq0:0<=q0) (hVV:(VV.map I)[q0.toNat]?=some (I (N:Int))) (hN:N<256) :
  q1o pg (pre.length+2) 0 (.mp g14) (.mp g15) (.sl false 1 ST) l j (LN L) (.sl false 2 a1) (.sl false 2 a2) (.sl false 1 a3) (.sl false 1 a4) 0 (.sl true 2 []) 0 0 (.sl true 1 []) (.sl true 1 []) (.sl true 1 []) (.sl true 1 []) 0 (.sl true 2 []) nI nS (.sl true 1 (ini.map I)) (.sl true 1 (nx.map I)) (.sl true 1 bd) (.sl true 1 hd) GM=
   some (.normal,⟨sE pre g14 g15 ST l ((j+1:Nat):Int),[[LN L,.sl false 2 a1,.sl false 2 a2,.sl false 1 a3,.sl false 1 a4],C0,C1 nI nS ((ini++cI N 0 W).map I) ((nx++Vn).map I) bd hd],GM⟩):=by
 have hlt:(j:Int)<(l:Int):=by omega
 have hmx:(nx.length+Vn.length)*8<=maxBytes:=by have:=MB;omega
 have hl6:=yy (pre:=pre) (m0:=LN L) (m1:= .sl false 2 a1) (m2:= .sl false 2 a2) (m3:= .sl false 1 a3) (m4:= .sl false 1 a4) (nI:=nI) (nS:=nS) (G:=GM) (g14:=g14) (g15:=g15) (l:=l) (j:=j) (ST:=ST) (nx:=(nx++Vn).map I) (bd:=bd) (hd:=hd) hN hw8 W 0 ini (by omega) (by omega);simp only[aX] at hl6;have hk7:=yA (pre:=pre) (m0:=LN L) (m1:= .sl false 2 a1) (m2:= .sl false 2 a2) (m3:= .sl false 1 a3) (m4:= .sl false 1 a4) (nI:=nI) (nS:=nS) (G:=GM) (g14:=g14) (g15:=g15) (l:=l) (j:=j) (ST:=ST) (ini:=(ini++cI N 0 W).map I) (nx:=(nx++Vn).map I) (bd:=bd) (hd:=hd) (by omega)
 have e1:(nx++Vn).map I=nx.map I++Vn.map I:=by simp
 have hnl:(nx.map I).length=nx.length:=by simp
 have hvl:(Vn.map I).length=Vn.length:=by simp
 have hxv:(L.map bm)[s.toNat]?=some (.agg [I x.k,I x.w,I x.a,I x.b,I x.c,I x.n]):=by rw[aB,hx];rfl
 rw[hw] at hxv;have hm3:=oq (n:=S3.length) (by omega);have hm2:=oq (n:=S2.length) (by omega);unfold LI at hB hR;unfold C0 C1 sE at *;rw[e1] at hl6 hk7 ⊢;generalize (ini++cI N 0 W).map I=I2 at *;generalize ini.map I=I1 at *;generalize nx.map I=N1 at *;generalize Vn.map I=V1 at *;generalize VV.map I=VI at *;unfold LN at *;generalize L.map bm=LV at *;simp only[q1o,aG hlt,dO];simp[hST,hb2,hq,hp,hpn,hB,hnl,hvl,hmx,h3,h2,hm3,hm2,hR,hq0,hVV,hs,hxv,hl6,hk7,cx,-vG,show Nat.ble 1 3=true from rfl,show Nat.ble 2 3=true from rfl,show Nat.ble 3 3=true from rfl]
theorem IH {l j:Nat} {ini nx bd':List PV} {hd:List PV} {MK:List PV} {a w0:Int} {Vn:List PV} {o:Bool} (hjl:j<l) (hl:l<=1000) (hM:MK[j]?=some (I a)) (ha:0<=a) (hb2:GM[pre.length+2]?=some (.cells [.ptr true (pre.length+1) 0,m0,m1,m2,m3,m4,.sl o 1 BS])) (hB:BS[a.toNat]?=some (.sl false 1 Vn)) (hV:Vn[0]?=some (I w0)) (hbl:bd'.length=j) :
  q5i pg (pre.length+2) 0 (.sl false 1 MK) l j m0 m1 m2 m3 m4 0 (.sl true 2 []) 0 0 (.sl true 1 []) (.sl true 1 []) (.sl true 1 []) (.sl true 1 []) 0 (.sl true 2 []) nI nS (.sl true 1 ini) (.sl true 1 nx) (.sl true 1 bd') (.sl true 1 hd) GM=
   some (.normal,⟨[(1,.ptr false 0 0),(2,.ptr false 1 0),(5,.ptr true (pre.length+2) 0),(13,.ptr false 2 0),(212,.sl false 1 MK),(213,I l),(214,I ((j+1:Nat):Int))],[[m0,m1,m2,m3,m4],C0,C1 nI nS ini nx (bd'++[I w0]) hd],GM⟩):=by
 have hlt:(j:Int)<(l:Int):=by omega
 have e2:=wrS' j (by omega);have hmx:(j+1)*8<=maxBytes:=by have:=MB;omega
 unfold C0 C1;simp only[q5i,aG hlt,dO];simp[hM,ha,hb2,hB,hV,hbl,hmx,e2]
theorem IJ {l j:Nat} {ini nx bd hd':List PV} {MK:List PV} {a w0:Int} {Vn:List PV} {o:Bool} (hjl:j<l) (hl:l<=1000) (hM:MK[j]?=some (I a)) (ha:0<=a) (hb2:GM[pre.length+2]?=some (.cells [.ptr true (pre.length+1) 0,m0,m1,m2,m3,m4,.sl o 1 BS])) (hB:BS[a.toNat]?=some (.sl false 1 Vn)) (hV:Vn[0]?=some (I w0)) (hbl:hd'.length=j) :
  q5j pg (pre.length+2) 0 (.sl false 1 MK) l j m0 m1 m2 m3 m4 0 (.sl true 2 []) 0 0 (.sl true 1 []) (.sl true 1 []) (.sl true 1 []) (.sl true 1 []) 0 (.sl true 2 []) nI nS (.sl true 1 ini) (.sl true 1 nx) (.sl true 1 bd) (.sl true 1 hd') GM=
   some (.normal,⟨[(2,.ptr false 1 0),(5,.ptr true (pre.length+2) 0),(13,.ptr false 2 0),(234,.sl false 1 MK),(235,I l),(236,I ((j+1:Nat):Int))],[[m0,m1,m2,m3,m4],C0,C1 nI nS ini nx bd (hd'++[I w0])],GM⟩):=by
 have hlt:(j:Int)<(l:Int):=by omega
 have e2:=wrS' j (by omega);have hmx:(j+1)*8<=maxBytes:=by have:=MB;omega
 unfold C0 C1;simp only[q5j,aG hlt,dO];simp[hM,ha,hb2,hB,hV,hbl,hmx,e2]
def cq (bits:List (List Int)) (l:List Int):List Int:=l.map λa=>(bits.getD a.toNat []).getD 0 0
theorem pC {bits:List (List Int)} {a:Int} (h:0<=a/\a.toNat<bits.length):(bits.map λl=>LI l)[a.toNat]?=some (.sl false 1 ((bits.getD a.toNat []).map I)):=by rw[aB,aM,aA h.2];rfl
theorem yK {l:List Int} (h:l≠[]):(l.map I)[0]?=some (I (l.getD 0 0)):=by
 cases l with
 |nil=>exact absurd rfl h
 |cons x l=>rfl
theorem yL {bits:List (List Int)} {o:Bool} {ini nx hd:List PV} {mk:List Int} (hl:mk.length<=1000) (hb2:GM[pre.length+2]?=some (.cells [.ptr true (pre.length+1) 0,m0,m1,m2,m3,m4,.sl o 1 (bits.map λl=>LI l)]))
  (hm:∀a∈mk,(0<=a/\a.toNat<bits.length)/\bits.getD a.toNat []≠[]):∀k j,j+k=mk.length->
  ab pg q5r ⟨[(1,.ptr false 0 0),(2,.ptr false 1 0),(5,.ptr true (pre.length+2) 0),(13,.ptr false 2 0),(212,LI mk),(213,I mk.length),(214,I (j:Int))],[[m0,m1,m2,m3,m4],C0,C1 nI nS ini nx ((cq bits (mk.take j)).map I) hd],GM⟩=
   some (.normal,⟨[(1,.ptr false 0 0),(2,.ptr false 1 0),(5,.ptr true (pre.length+2) 0),(13,.ptr false 2 0)],[[m0,m1,m2,m3,m4],C0,C1 nI nS ini nx ((cq bits mk).map I) hd],GM⟩)
 |0,j,h=>by
  rw[bM (by omega)];have hlt:¬(j:Int)<(mk.length:Int):=by omega
  unfold C0 C1;refine (cm (s1:=?s1) (q5i_ ?h1)).trans ?r1
  case h1=>simp only[q5i,aF hlt,dq];rfl
  case r1=>simp[keep,co]
 | k+1,j,h=>by
  have hj:j<mk.length:=by omega
  obtain⟨h1,h2⟩:=hm _ (bX hj);have hM:(mk.map I)[j]?=some (I mk[j]):=by rw[aB,aA hj];rfl
  have hb:=IH (nI:=nI) (nS:=nS) (ini:=ini) (nx:=nx) (hd:=hd) (bd':=(cq bits (mk.take j)).map I) hj hl hM h1.1 hb2 (pC h1) (yK h2) (by simp[cq];omega);have e1:(cq bits (mk.take j)).map I++[I ((bits.getD mk[j].toNat []).getD 0 0)]=(cq bits (mk.take (j+1))).map I:=by unfold cq;rw[List.take_succ_eq_append_getElem hj,bK,bK];rfl
  rw[e1] at hb;have ih:=yL (ini:=ini) (nx:=nx) (hd:=hd) hl hb2 hm k (j+1) (by omega);unfold C0 C1 at hb ih ⊢;exact (bh (q5i_ hb) ih)
theorem yM {bits:List (List Int)} {o:Bool} {ini nx bd:List PV} {mk:List Int} (hl:mk.length<=1000) (hb2:GM[pre.length+2]?=some (.cells [.ptr true (pre.length+1) 0,m0,m1,m2,m3,m4,.sl o 1 (bits.map λl=>LI l)]))
  (hm:∀a∈mk,(0<=a/\a.toNat<bits.length)/\bits.getD a.toNat []≠[]):∀k j,j+k=mk.length->
  ab pg q5s ⟨[(2,.ptr false 1 0),(5,.ptr true (pre.length+2) 0),(13,.ptr false 2 0),(234,LI mk),(235,I mk.length),(236,I (j:Int))],[[m0,m1,m2,m3,m4],C0,C1 nI nS ini nx bd ((cq bits (mk.take j)).map I)],GM⟩=
   some (.normal,⟨[(2,.ptr false 1 0),(5,.ptr true (pre.length+2) 0),(13,.ptr false 2 0)],[[m0,m1,m2,m3,m4],C0,C1 nI nS ini nx bd ((cq bits mk).map I)],GM⟩)
 |0,j,h=>by
  rw[bM (by omega)];have hlt:¬(j:Int)<(mk.length:Int):=by omega
  unfold C0 C1;refine (cm (s1:=?s1) (q5j_ ?h1)).trans ?r1
  case h1=>simp only[q5j,aF hlt,dq];rfl
  case r1=>simp[keep,co]
 | k+1,j,h=>by
  have hj:j<mk.length:=by omega
  obtain⟨h1,h2⟩:=hm _ (bX hj);have hM:(mk.map I)[j]?=some (I mk[j]):=by rw[aB,aA hj];rfl
  have hb:=IJ (nI:=nI) (nS:=nS) (ini:=ini) (nx:=nx) (bd:=bd) (hd':=(cq bits (mk.take j)).map I) hj hl hM h1.1 hb2 (pC h1) (yK h2) (by simp[cq];omega);have e1:(cq bits (mk.take j)).map I++[I ((bits.getD mk[j].toNat []).getD 0 0)]=(cq bits (mk.take (j+1))).map I:=by unfold cq;rw[List.take_succ_eq_append_getElem hj,bK,bK];rfl
  rw[e1] at hb;have ih:=yM (ini:=ini) (nx:=nx) (bd:=bd) hl hb2 hm k (j+1) (by omega);unfold C0 C1 at hb ih ⊢;exact (bh (q5j_ hb) ih)
end
def dS (bits:List (List Int)) (Q:List (Int×Int)) (st:List Int):List Int:=st.flatMap λs=>bits.getD (ch Q s).toNat []
def dC (L:List Nd) (P:List (Int×Int)) (V:List Int) (st:List Int):List Int:=st.flatMap λs=>if eQ P s then cI (V.getD (ch P s).toNat 0).toNat 0 (wAt L s).toNat else List.replicate (wAt L s).toNat (-1)
theorem mV (N:Nat):∀m i,(cI N i m).length=m
 |0,_=>rfl
 |m+1,i=>by rw[cI,bB,mV N m]
structure yN (L:List Nd) (P Q:List (Int×Int)) (V:List Int) (bits:List (List Int)) (s:Int):Prop where
 s0:0<=s
 s1:s.toNat<L.length
 w:1<=wAt L s/\wAt L s<=8
 hq:eQ Q s=true
 q0:0<=ch Q s
 q1:(ch Q s).toNat<bits.length
 ql:(bits.getD (ch Q s).toNat []).length<=8
 p0:eQ P s=true->0<=ch P s/\(ch P s).toNat<V.length/\0<=V.getD (ch P s).toNat 0/\V.getD (ch P s).toNat 0<256
section
variable {pre:List GObj} {nI nS:Int} {G:List GObj} {a1 a2 a3 a4 S3 S2:List PV} {bits:List (List Int)} {o:Bool} {L:List Nd} {P Q:List (Int×Int)} {V:List Int} {st:List Int}
theorem tp (hl:st.length<=80) (hb2:(G++[.map (ay P),.map (ay Q)])[pre.length+2]?=some (.cells [.ptr true (pre.length+1) 0,LN L,.sl false 2 a1,.sl false 2 a2,.sl false 1 a3,.sl false 1 a4,.sl o 1 (bits.map λl=>LI l)]))
  (h3:ac pg 101 [.agg [LN L,.sl false 2 a1,.sl false 2 a2,.sl false 1 a3,.sl false 1 a4],I 3] (G++[.map (ay P),.map (ay Q)])=some (.sl false 1 S3,(G++[.map (ay P),.map (ay Q)]))) (h2:ac pg 101 [.agg [LN L,.sl false 2 a1,.sl false 2 a2,.sl false 1 a3,.sl false 1 a4],I 2] (G++[.map (ay P),.map (ay Q)])=some (.sl false 1 S2,(G++[.map (ay P),.map (ay Q)]))) (hS3:S3.length<=1000) (hS2:S2.length<=1000)
  (hR:ac pg 139 [.agg [LN L,.sl false 2 a1,.sl false 2 a2,.sl false 1 a3,.sl false 1 a4],.sl false 1 (List.replicate S3.length (I 0)),.sl false 1 (List.replicate S2.length (I 0))] (G++[.map (ay P),.map (ay Q)])=some (LI V,(G++[.map (ay P),.map (ay Q)])))
  (hs:∀s∈st,yN L P Q V bits s):∀(k j:Nat) (ini nx:List Int),j+k=st.length->ini.length<=8*j->nx.length<=8*j->
  ab pg q5q ⟨sE pre G.length (G.length+1) (st.map I) st.length (j:Int),[[LN L,.sl false 2 a1,.sl false 2 a2,.sl false 1 a3,.sl false 1 a4],C0,C1 nI nS (ini.map I) (nx.map I) [] []],(G++[.map (ay P),.map (ay Q)])⟩=
   some (.normal,⟨[(1,.ptr false 0 0),(2,.ptr false 1 0),(5,.ptr true (pre.length+2) 0),(13,.ptr false 2 0)],[[LN L,.sl false 2 a1,.sl false 2 a2,.sl false 1 a3,.sl false 1 a4],C0,C1 nI nS ((ini++dC L P V (st.drop j)).map I) ((nx++dS bits Q (st.drop j)).map I) [] []],(G++[.map (ay P),.map (ay Q)])⟩)
 |0,j,ini,nx,h,_,_=>by
  have hd0:st.drop j=[]:=aQ (by omega);rw[hd0];have hlt:¬(j:Int)<(st.length:Int):=by omega
  unfold dC dS C0 C1 sE;rw[List.flatMap_nil,List.flatMap_nil,bH,bH];refine (cm (s1:=?s1) (q1o_ ?h1)).trans ?r1
  case h1=>simp only[q1o,aF hlt,dq];rfl
  case r1=>simp[keep,co]
 | k+1,j,ini,nx,h,h1,h4=>by
  have hj:j<st.length:=by omega
  have ho:=hs _ (bX hj);have hST:(st.map I)[j]?=some (I st[j]):=by rw[aB,aA hj];rfl
  rw[aL hj];generalize st[j]=s at *;obtain⟨x,hx,hxw⟩:∃x,L[s.toNat]?=some x/\wAt L s=x.w:=by refine⟨L[s.toNat]'(ho.s1),aA ho.s1,?_⟩;unfold wAt;rw[aM,aA ho.s1];rfl
  obtain⟨W,hW⟩:∃W:Nat,x.w=W:=⟨x.w.toNat,by have:=ho.w;omega⟩
  have hw8:W<=8:=by have:=ho.w;omega
  have hWt:(wAt L s).toNat=W:=by omega
  have hql:=ho.ql;have hlq:∀(f:Option PV->Option (ag×St)),lkX (G++[.map (ay P),.map (ay Q)]) 0 (.mp (G.length+1)) (I s) f=f (some (I (ch Q s))):=λf=>by rw[Ix,pu,ho.hq];rfl
  cases hp:eQ P s with
  | false=>
   have hlp:∀(f:Option PV->Option (ag×St)),lkX (G++[.map (ay P),.map (ay Q)]) 0 (.mp G.length) (I s) f=f none:=λf=>by rw[yu,pu,hp];rfl
   have hb:=IF (nI:=nI) (nS:=nS) (bd:=[]) (hd:=[]) (ini:=ini) (nx:=nx) hj (by omega) hST ho.s0 hx hW hw8 hb2 hlq hlp ho.q0 (pC ⟨ho.q0,ho.q1⟩) (by omega) (by omega);have ih:=tp hl hb2 h3 h2 hS3 hS2 hR hs k (j+1) (ini++List.replicate W (-1)) (nx++bits.getD (ch Q s).toNat []) (by omega) (by simp;omega) (by rw[aW];omega);have e1:ini++dC L P V (s::st.drop (j+1))=(ini++List.replicate W (-1))++dC L P V (st.drop (j+1)):=by unfold dC;rw[cO,hp,hWt,aZ];rfl
   have e2:nx++dS bits Q (s::st.drop (j+1))=(nx++bits.getD (ch Q s).toNat [])++dS bits Q (st.drop (j+1)):=by unfold dS;rw[cO,aZ]
   rw[e1,e2];unfold C0 C1 sE at hb ih ⊢;exact bh (q1o_ hb) ih
  | true=>
   obtain⟨p0,p1,p2,p3⟩:=ho.p0 hp;have hlp:∀(f:Option PV->Option (ag×St)),lkX (G++[.map (ay P),.map (ay Q)]) 0 (.mp G.length) (I s) f=f (some (I (ch P s))):=λf=>by rw[yu,pu,hp];rfl
   have hVV:(V.map I)[(ch P s).toNat]?=some (I (((V.getD (ch P s).toNat 0).toNat:Nat):Int)):=by rw[mO p1];congr 2;omega
   have hb:=IG (nI:=nI) (nS:=nS) (bd:=[]) (hd:=[]) (ini:=ini) (nx:=nx) hj (by omega) hST ho.s0 hx hW hw8 hb2 hlq hlp ho.q0 (pC ⟨ho.q0,ho.q1⟩) (by omega) (by omega) h3 h2 hS3 hS2 hR p0 hVV (by omega);have hcl:(cI (V.getD (ch P s).toNat 0).toNat 0 W).length=W:=mV _ _ _;have ih:=tp hl hb2 h3 h2 hS3 hS2 hR hs k (j+1) (ini++cI (V.getD (ch P s).toNat 0).toNat 0 W) (nx++bits.getD (ch Q s).toNat []) (by omega) (by rw[aW,hcl];omega) (by rw[aW];omega);have e1:ini++dC L P V (s::st.drop (j+1))=(ini++cI (V.getD (ch P s).toNat 0).toNat 0 W)++dC L P V (st.drop (j+1)):=by unfold dC;rw[cO,hp,hWt,aZ];rfl
   have e2:nx++dS bits Q (s::st.drop (j+1))=(nx++bits.getD (ch Q s).toNat [])++dS bits Q (st.drop (j+1)):=by unfold dS;rw[cO,aZ]
   rw[e1,e2];unfold C0 C1 sE at hb ih ⊢;exact bh (q1o_ hb) ih
variable {A:List (Int×Int)} {ins:Int} {GM:List GObj} {m0 m1 m2 m3 m4 bv:PV} {i1 n1 b1 d1:List PV}
theorem IK (hb2:GM[pre.length+2]?=some (.cells [.ptr true (pre.length+1) 0,m0,m1,m2,m3,m4,bv])) (hb1:GM[pre.length+1]?=some (.cells [I ins,.sl true 2 (A.map aj),.mp pre.length])) :
  ab pg q3h ⟨[(2,.ptr false 1 0),(5,.ptr true (pre.length+2) 0),(13,.ptr false 2 0)],[[m0,m1,m2,m3,m4],C0,C1 nI nS i1 n1 b1 d1],GM⟩=
   some (.ret,⟨[(2,.ptr false 1 0)],[[m0,m1,m2,m3,m4],[I ins,.sl false 2 (A.map aj),I nI,I nS,.sl false 1 i1,.sl false 1 n1,.sl false 1 b1,.sl false 1 d1]],GM⟩):=by
 refine qn9 ?_;generalize A.map aj=AV at *;simp[hb2,hb1]
theorem IM {hl:List Int} (hlen:hl.length<=1000) (hm:∀a∈hl,(0<=a/\a.toNat<bits.length)/\bits.getD a.toNat []≠[])
  (hb2:GM[pre.length+2]?=some (.cells [.ptr true (pre.length+1) 0,m0,m1,m2,m3,LI hl,.sl o 1 (bits.map λl=>LI l)])) (hb1:GM[pre.length+1]?=some (.cells [I ins,.sl true 2 (A.map aj),.mp pre.length])) :
  ab pg q3i ⟨[(1,.ptr false 0 0),(2,.ptr false 1 0),(5,.ptr true (pre.length+2) 0),(13,.ptr false 2 0)],[[m0,m1,m2,m3,LI hl],C0,C1 nI nS i1 n1 b1 []],GM⟩=
   some (.ret,⟨[(2,.ptr false 1 0)],[[m0,m1,m2,m3,LI hl],[I ins,.sl false 2 (A.map aj),I nI,I nS,.sl false 1 i1,.sl false 1 n1,.sl false 1 b1,LI (cq bits hl)]],GM⟩):=by
 have h9:=yM (nI:=nI) (nS:=nS) (ini:=i1) (nx:=n1) (bd:=b1) hlen hb2 hm hl.length 0 (by omega);simp only[List.take_zero,aX,show (cq bits []).map I=[] from rfl] at h9;have h10:=IK (nI:=nI) (nS:=nS) (i1:=i1) (n1:=n1) (b1:=b1) (d1:=(cq bits hl).map I) hb2 hb1;have hll:(hl.map I).length=hl.length:=by simp
 unfold C0 C1 at *;refine qna ?_;unfold LI at *;generalize (cq bits hl).map I=F at *;generalize hl.map I=H at *;simp[hll,h9,h10]
theorem IN {bl hl:List Int} (hlb:bl.length<=1000) (hmb:∀a∈bl,(0<=a/\a.toNat<bits.length)/\bits.getD a.toNat []≠[]) (hlen:hl.length<=1000) (hm:∀a∈hl,(0<=a/\a.toNat<bits.length)/\bits.getD a.toNat []≠[])
  (hb2:GM[pre.length+2]?=some (.cells [.ptr true (pre.length+1) 0,m0,m1,m2,LI bl,LI hl,.sl o 1 (bits.map λl=>LI l)])) (hb1:GM[pre.length+1]?=some (.cells [I ins,.sl true 2 (A.map aj),.mp pre.length])) :
  ab pg q3j ⟨[(1,.ptr false 0 0),(2,.ptr false 1 0),(5,.ptr true (pre.length+2) 0),(13,.ptr false 2 0)],[[m0,m1,m2,LI bl,LI hl],C0,C1 nI nS i1 n1 [] []],GM⟩=
   some (.ret,⟨[(2,.ptr false 1 0)],[[m0,m1,m2,LI bl,LI hl],[I ins,.sl false 2 (A.map aj),I nI,I nS,.sl false 1 i1,.sl false 1 n1,LI (cq bits bl),LI (cq bits hl)]],GM⟩):=by
 have h8:=yL (nI:=nI) (nS:=nS) (ini:=i1) (nx:=n1) (hd:=[]) hlb hb2 hmb bl.length 0 (by omega);simp only[List.take_zero,aX,show (cq bits []).map I=[] from rfl] at h8;have h9:=IM (nI:=nI) (nS:=nS) (i1:=i1) (n1:=n1) (b1:=(cq bits bl).map I) hlen hm hb2 hb1;have hll:(bl.map I).length=bl.length:=by simp
 unfold C0 C1 at *;refine qnb ?_;unfold LI at *;generalize (cq bits bl).map I=F at *;generalize bl.map I=H at *;simp[hll,h8,h9,co]
end
section
variable {pre:List GObj} {nI nS ins:Int} {G:List GObj} {A:List (Int×Int)} {bits:List (List Int)} {o:Bool} {m:Md}
def iM (m:Md):List PV:=[LN m.nodes,LP m.inits,LP m.nexts,LI m.bads,LI m.holds]
structure gz (m:Md) (bits:List (List Int)):Prop where
 chk:cY m=0
 bl:bits.length=m.nodes.length
 st:∀s∈ak m.nodes 3,yN m.nodes m.inits m.nexts (dI m) bits s
 mks:∀a∈m.bads++m.holds,(0<=a/\a.toNat<bits.length)/\bits.getD a.toNat []≠[]
def fW (ins:Int) (A:List (Int×Int)) (nI nS:Int) (m:Md) (bits:List (List Int)):Ci:=
 ⟨ins,A,nI,nS,dC m.nodes m.inits (dI m) (ak m.nodes 3),dS bits m.nexts (ak m.nodes 3),cq bits m.bads,cq bits m.holds⟩
def ki (c:Ci):List PV:=[I c.ins,.sl false 2 (c.ands.map aj),I c.inp,I c.st,LI c.inits,LI c.nexts,LI c.bads,LI c.holds]
theorem IP (hg:jJ m) (hr:gz m bits) (hb2:G[pre.length+2]?=some (.cells [.ptr true (pre.length+1) 0,LN m.nodes,LP m.inits,LP m.nexts,LI m.bads,LI m.holds,.sl o 1 (bits.map λl=>LI l)])) (hb1:G[pre.length+1]?=some (.cells [I ins,.sl true 2 (A.map aj),.mp pre.length])) :
  ab pg q3k ⟨[(1,.ptr false 0 0),(2,.ptr false 1 0),(5,.ptr true (pre.length+2) 0),(13,.ptr false 2 0),(14,.mp G.length),(15,.mp (G.length+1))],[iM m,C0,C1 nI nS [] [] [] []],G++[.map (ay m.inits),.map (ay m.nexts)]⟩=
   some (.ret,⟨[(2,.ptr false 1 0)],[iM m,ki (fW ins A nI nS m bits)],G++[.map (ay m.inits),.map (ay m.nexts)]⟩):=by
 have hl:=hg.len;have hk3:=jh hg 3;have hk2:=jh hg 2;have hml:=pq hr.chk;have hlt2:pre.length+2<G.length:=(aD.1 hb2).1;have gb2:(G++[.map (ay m.inits),.map (ay m.nexts)])[pre.length+2]?=some (.cells [.ptr true (pre.length+1) 0,LN m.nodes,LP m.inits,LP m.nexts,LI m.bads,LI m.holds,.sl o 1 (bits.map λl=>LI l)]):=by rw[aJ hlt2];exact hb2
 have gb1:(G++[.map (ay m.inits),.map (ay m.nexts)])[pre.length+1]?=some (.cells [I ins,.sl true 2 (A.map aj),.mp pre.length]):=by rw[aJ (by omega)];exact hb1
 have h3:=mE (m:=m) (kind:=3) (gh:=G++[.map (ay m.inits),.map (ay m.nexts)]) (by omega);have h2:=mE (m:=m) (kind:=2) (gh:=G++[.map (ay m.inits),.map (ay m.nexts)]) (by omega);have hR:=H8 (m:=m) (ss:=ka m) (ks:=kb m) (gh:=G++[.map (ay m.inits),.map (ay m.nexts)]) hr.chk td;rw[en] at h3 h2 hR;have e3:LI (ka m)= .sl false 1 (List.replicate ((ak m.nodes 3).map I).length (I 0)):=by unfold LI ka;simp
 have e2:LI (kb m)= .sl false 1 (List.replicate ((ak m.nodes 2).map I).length (I 0)):=by unfold LI kb;simp
 rw[e3,e2] at hR;change _=some (LI (dI m),_) at hR;have h5:=tp (nI:=nI) (nS:=nS) (bits:=bits) (o:=o) hk3 gb2 h3 h2 (by simp;omega) (by simp;omega) hR hr.st (ak m.nodes 3).length 0 [] [] (by omega) (by simp) (by simp);have h8:=IN (nI:=nI) (nS:=nS) (i1:=(dC m.nodes m.inits (dI m) (ak m.nodes 3)).map I) (n1:=(dS bits m.nexts (ak m.nodes 3)).map I) (bl:=m.bads) (hl:=m.holds) (by omega) (λa ha=>hr.mks a (bD _ ha)) (by omega) (λa ha=>hr.mks a (bE _ ha)) gb2 gb1;simp only[bL,bI,bR,aX] at h5;have hkl:((ak m.nodes 3).map I).length=(ak m.nodes 3).length:=by simp
 unfold iM ki fW at *;unfold C0 C1 sE at *;simp only;refine qnc ?_;generalize G++[.map (ay m.inits),.map (ay m.nexts)]=GM at *;generalize (dC m.nodes m.inits (dI m) (ak m.nodes 3))=II at *;generalize (dS bits m.nexts (ak m.nodes 3))=NN at *;unfold LI LN LP at *;generalize II.map I=II at *;generalize NN.map I=NN at *;generalize (ak m.nodes 3).map I=K3 at *;generalize (cq bits m.bads).map I=FB at *;generalize (cq bits m.holds).map I=FH at *;generalize m.nodes.map bm=LV at *;generalize m.inits.map aj=IV at *;generalize m.nexts.map aj=NV at *;generalize m.bads.map I=BV at *
 generalize m.holds.map I=HV at *;simp[h3,hkl,h5,h8]
theorem IQ (hg:jJ m) (hr:gz m bits) (hb2:G[pre.length+2]?=some (.cells [.ptr true (pre.length+1) 0,LN m.nodes,LP m.inits,LP m.nexts,LI m.bads,LI m.holds,.sl o 1 (bits.map λl=>LI l)])) (hb1:G[pre.length+1]?=some (.cells [I ins,.sl true 2 (A.map aj),.mp pre.length])) :
  ab pg q3l ⟨[(1,.ptr false 0 0),(2,.ptr false 1 0),(5,.ptr true (pre.length+2) 0),(13,.ptr false 2 0),(14,.mp G.length),(15,.mp (G.length+1))],[iM m,C0,C1 nI nS [] [] [] []],G++[.map (ay m.inits),.map (ay [])]⟩=
   some (.ret,⟨[(2,.ptr false 1 0)],[iM m,ki (fW ins A nI nS m bits)],G++[.map (ay m.inits),.map (ay m.nexts)]⟩):=by
 have h5:=IP (nI:=nI) (nS:=nS) hg hr hb2 hb1;have hpl:=lu hg;have h4:=yx (pre:=pre) (m0:=LN m.nodes) (m1:=LP m.inits) (m2:=LP m.nexts) (m3:=LI m.bads) (m4:=LI m.holds) (nI:=nI) (nS:=nS) (G:=G) (ps:=m.nexts) (P1:=m.inits) (by omega) hg.nod2 m.nexts.length 0 (by omega);rw[List.take_zero] at h4;simp only[aX] at h4;have hll:(m.nexts.map aj).length=m.nexts.length:=by simp
 unfold iM at *;generalize ki (fW ins A nI nS m bits)=CC at *;unfold C0 C1 at *;refine qnd ?_;generalize G++[.map (ay m.inits),.map (ay m.nexts)]=GM at *;generalize G++[.map (ay m.inits),.map (ay [])]=GM0 at *;unfold LI LN LP at *;generalize m.nodes.map bm=LV at *;generalize m.inits.map aj=IV at *;generalize m.nexts.map aj=NV at *;generalize m.bads.map I=BV at *;generalize m.holds.map I=HV at *;simp[hll,h4,h5]
theorem IR (hg:jJ m) (hr:gz m bits) (hb2:G[pre.length+2]?=some (.cells [.ptr true (pre.length+1) 0,LN m.nodes,LP m.inits,LP m.nexts,LI m.bads,LI m.holds,.sl o 1 (bits.map λl=>LI l)])) (hb1:G[pre.length+1]?=some (.cells [I ins,.sl true 2 (A.map aj),.mp pre.length])) :
  ab pg q3m ⟨[(1,.ptr false 0 0),(2,.ptr false 1 0),(3,I nI),(4,I nS),(5,.ptr true (pre.length+2) 0)],[iM m,C0],G⟩=
   some (.ret,⟨[(2,.ptr false 1 0)],[iM m,ki (fW ins A nI nS m bits)],G++[.map (ay m.inits),.map (ay m.nexts)]⟩):=by
 have h4:=IQ (nI:=nI) (nS:=nS) hg hr hb2 hb1;have hpl:=lu hg;have h3:=yw (pre:=pre) (m0:=LN m.nodes) (m1:=LP m.inits) (m2:=LP m.nexts) (m3:=LI m.bads) (m4:=LI m.holds) (nI:=nI) (nS:=nS) (G:=G) (ps:=m.inits) (P2:=[]) (by omega) hg.nod1 m.inits.length 0 (by omega);rw[List.take_zero] at h3;simp only[aX] at h3;have hll:(m.inits.map aj).length=m.inits.length:=by simp
 unfold iM at *;generalize ki (fW ins A nI nS m bits)=CC at *;unfold C0 C1 at *;refine qne ?_;generalize G++[.map (ay m.inits),.map (ay m.nexts)]=GM at *;generalize G++[.map (ay m.inits),.map (ay [])]=GM0 at *;rw[show ay []=[] from rfl] at h3;unfold LI LN LP at *;generalize m.nodes.map bm=LV at *;generalize m.inits.map aj=IV at *;generalize m.nexts.map aj=NV at *;generalize m.bads.map I=BV at *;generalize m.holds.map I=HV at *;simp[hll,h3,h4]
end
section
variable {m:Md} {ss ks:List Int} {ins:Int}
theorem mW {l:List Nd} {f:List Bool} {b:Bool}:∀{ps:List (Int×Int)},dr l f b ps=0->∀p∈ps,wAt l p.1=wAt l p.2
 |[],_,p,hp=>by cases hp
 | q::ps,h,p,hp=>by
  rw[dr] at h;split at h
  ·rename_i h0
   rcases List.mem_cons.1 hp with rfl|hp
   ·unfold eK at h0
    split at h0
    ·contradiction
    split at h0
    ·contradiction
    rename_i hn;exact aV hn
   ·exact mW h p hp
  ·contradiction
theorem kj:∀{ps:List (Int×Int)} {s:Int},eQ ps s=true->(s,ch ps s)∈ps
 | (a,u)::ps,s,h=>by
  rw[mN] at h;rw[ch];by_cases e:a=s
  ·rw[if_pos e,<-e];exact bF ..
  ·rw[aF e,Bool.false_or] at h
   rw[if_neg e];exact bG _ (kj h)
theorem pD (h:cY m=0):dr m.nodes (dR [] m.nodes) true m.inits=0/\dr m.nodes (dR [] m.nodes) false m.nexts=0:=by
 obtain⟨hp,_⟩:=pp h;unfold gy at hp;split at hp
 ·contradiction
 rename_i h1;split at hp
 ·contradiction
 rename_i h2;exact⟨aV h1,aV h2⟩
theorem yO (h:cY m=0):∀a∈m.bads++m.holds,wAt m.nodes a=1:=by
 obtain⟨-,hk⟩:=pp h;unfold ir at hk;split at hk
 ·contradiction
 split at hk
 ·contradiction
 split at hk
 ·contradiction
 rename_i h2;intro a ha;exact aV λhn=>h2 (List.any_eq_true.2 ⟨a,ha,by simp[hn]⟩)
def jl (L:List Nd):List Int->Nat
 |[]=>0
 |a::l=>(wAt L a).toNat+jl L l
theorem mY {L:List Nd}:∀{ns vs:List Int},vs.length=ns.length->(cy L ns vs).length=jl L ns
 |[],[],_=>rfl
 |a::ns,x::vs,h=>by rw[cy,aW,gm,jl,mY (by simpa using h)]
theorem yP {L:List Nd}:∀{ns:List Int} {s:Int},(∀a∈ns,1<=wAt L a/\wAt L a<=8)->0<=s->s+8*ns.length<=100000->ns.foldl (λs a=>WI.wrap (s+wAt L a)) s=s+jl L ns
 |[],s,_,_,_=>by simp[jl]
 |a::ns,s,h,h0,h1=>by have ha:=h a (bF ..);simp only[bB] at h1;rw[List.foldl_cons,a9 (n:=s+wAt L a) (by omega) (by omega),yP (λb hb=>h b (bG _ hb)) (by omega) (by omega),jl];omega
theorem km (h:cY m=0) (kind:Int):bu m.nodes kind=jl m.nodes (ak m.nodes kind):=by
 have hf:=ov m.nodes kind 0 m.nodes 0 rfl;have hl:=jh (gk h) kind;have hw:=mL h kind
 show (List.filter _ _).foldl j7 0=_
 rw[<-hf];have:=yP (L:=m.nodes) (ns:=ak m.nodes kind) (s:=0) (λa ha=>(hw a ha).2) (by omega) (by omega);unfold ak at this ⊢;rw[this,Int.zero_add]
theorem mZ (h:cY m=0):bu m.nodes 2<=6/\bu m.nodes 3<=10:=by
 unfold cY at h;split at h
 ·contradiction
 split at h
 ·contradiction
 split at h
 ·contradiction
 omega
def inB (m:Md) (ss ks:List Int):List Bool:=cy m.nodes (ak m.nodes 2) ks++cy m.nodes (ak m.nodes 3) ss
def inN (m:Md):Int:=bu m.nodes 2+bu m.nodes 3
theorem m7 (h:cY m=0) (hs:eM m.nodes (ak m.nodes 3) ss=0) (hk:eM m.nodes (ak m.nodes 2) ks=0):((inB m ss ks).length:Int)=inN m:=by unfold inB inN;rw[aW,mY (kc hk),mY (kc hs),km h,km h];omega
theorem pE (h:cY m=0):0<=bu m.nodes 2/\0<=bu m.nodes 3/\0<=inN m/\inN m<=16:=by have h1:=km h 2;have h2:=km h 3;have h3:=mZ h;unfold inN;omega
theorem IS (h:0<=ins/\ins<=1000):bq ins []=0:=by unfold bq;rw[if_neg (λq=>q h),if_neg (by simp),if_pos (by rfl),if_pos (by simp)]
theorem IT (h:cY m=0) {v:List Bool} {A:List (Int×Int)} {bits:List (List Int)} {bvs:List (List Bool)} {acc:List Int} (hB:BitsOk ins v A m.nodes bits bvs acc) (hbl:bits.length=m.nodes.length):gz m bits:=by
 have hg:=gk h;obtain⟨hz1,hz2⟩:=pD h;have hlen:∀a:Int,0<=a/\a.toNat<bits.length->((bits.getD a.toNat []).length:Int)=wAt m.nodes a:=λa ha=>by have h1:=hB.wd a.toNat ha.2;rw[(hB.ls a.toNat ha.2).len,show ((a.toNat:Nat):Int)=a by omega] at h1;exact h1
 have hVl:(dI m).length=m.nodes.length:=mM;have hVw:InW m.nodes (dI m):=ln (λj x hx=>ll h hx) m.nodes.length 0 [] (ka m) (kb m) (by omega) td;refine⟨h,hbl,λs hs=>?_,λa ha=>?_⟩
 ·have hw:=mL h 3 s hs
  have hq:=ym h s hs;have hqm:=kj hq;have hqn:=(hg.pairs _ (bE _ hqm)).2;have hqw:=mW hz2 _ hqm;have hql:=hlen (ch m.nexts s) ⟨hqn.1,by rw[hbl];exact hqn.2⟩;refine⟨hw.1.1,hw.1.2,hw.2,hq,hqn.1,by rw[hbl];exact hqn.2,?_,λhp=>?_⟩
  ·have:wAt m.nodes s=wAt m.nodes (ch m.nexts s):=hqw
   omega
  ·have hpm:=kj hp
   have hpn:=(hg.pairs _ (bD _ hpm)).2;have hpl:(ch m.inits s).toNat<(dI m).length:=by rw[hVl];exact hpn.2
   have hr:=hVw _ hpl;have hww:=xK h (ns:=[ch m.inits s]) (λa ha=>by simp at ha;subst ha;exact hpn) _ (List.mem_singleton.2 rfl);have hpn0:0<=ch m.inits s:=hpn.1;rw[show (((ch m.inits s).toNat:Nat):Int)=ch m.inits s by omega] at hr;have hp256:=fj (W:=(wAt m.nodes (ch m.inits s)).toNat) (by omega);exact⟨hpn0,hpl,hr.1,by omega⟩
 ·have hn:=Il h a ha
  have hw:=yO h a ha;have hr:0<=a/\a.toNat<bits.length:=⟨hn.1,by rw[hbl];exact hn.2⟩
  refine⟨hr,λe=>?_⟩;have:=hlen a hr;rw[e,hw] at this;cases this
theorem IU (h:cY m=0) (hs:eM m.nodes (ak m.nodes 3) ss=0) (hk:eM m.nodes (ak m.nodes 2) ks=0) (pre:List GObj) :
  ∃A bits bvs,ac pg 217 [e8 m] pre=some (ciV (fW (inN m) A (bu m.nodes 2) (bu m.nodes 3) m bits),pre)/\bq (inN m) A=0/\A.length<=400000/\gz m bits/\BitsOk (inN m) (inB m ss ks) A m.nodes bits bvs (dB m ss ks):=by
 have hg:=gk h;have hl:=hg.len;have hv:=m7 h hs hk;obtain⟨i2,i3,i0,i16⟩:=pE h;have hc0:=IS (ins:=inN m) ⟨i0,by omega⟩;obtain⟨nI,hnI⟩:∃n:Nat,bu m.nodes 2=n:=⟨(bu m.nodes 2).toNat,by omega⟩
 have hd2:(inB m ss ks).drop (1+nI-1)=cy m.nodes (di 3 0 (m.nodes.drop 0)) ss:=by have hb:=mY (L:=m.nodes) (kc hk);have hbs:=km h 2;unfold inB;rw[show 1+nI-1=(cy m.nodes (ak m.nodes 2) ks).length by omega,List.drop_left];rfl
 obtain⟨A,bits,bvs,nx,J,f1,s1,hB,hbl⟩:=th pre hv (nI:=bu m.nodes 2) (nS:=bu m.nodes 3) (L:=m.nodes) (m0:=LN m.nodes) (m1:=LP m.inits) (m2:=LP m.nexts) (m3:=LI m.bads) (m4:=LI m.holds) hl (λj x hx=>ll h hx) (λj x hx=>xJ h hx) m.nodes.length 0 ss ks [] [] [] [] 1 (1+nI) [] (by omega) hc0 (by simp;omega) rfl
  ⟨rfl,rfl,λj hj=>absurd hj (by simp),λj hj=>absurd hj (by simp),λj hj=>absurd hj (by simp)⟩ (oZ hs hk) (by omega) (by omega) rfl hd2
 have hr:=IT h hB hbl;refine⟨A,bits,bvs,?_,s1.1,by have:=s1.2.1;simp at this;omega,hr,hB⟩;have hk3:=IR (pre:=pre) (nI:=bu m.nodes 2) (nS:=bu m.nodes 3) (ins:=inN m) (A:=A) (o:=true) hg hr (jk (pre:=pre) (ins:=inN m) (A:=A) (m0:=LN m.nodes) (m1:=LP m.inits) (m2:=LP m.nexts) (m3:=LI m.bads) (m4:=LI m.holds) (bv:= .sl true 1 (bits.map λl=>LI l)) (nx:=nx) (J:=J)) wM;have htk:((hH (LN m.nodes) (LP m.inits) (LP m.nexts) (LI m.bads) (LI m.holds) (.sl true 1 (bits.map λl=>LI l)) nx J).g pre (inN m) A++[GObj.map (ay m.inits),GObj.map (ay m.nexts)]).take pre.length=pre:=by unfold BC.g;simp
 have hbits:=xf (m:=m) (gh:=pre) (by omega);have hnew:=Et (gh:=pre) (ins:=inN m) (ands:=[]) ⟨i0,by omega⟩ (by simp) (by simp);have hble:=mZ h;have ewi:WI.wrap (bu m.nodes 2+bu m.nodes 3)=inN m:=by unfold inN;exact a9 (by omega) (by omega)
 have ew1:WI.wrap (1+bu m.nodes 2)=((1+nI:Nat):Int):=by rw[hnI,a9 (by omega) (by omega)];omega
 have hml:(m.nodes.map bm).length=m.nodes.length:=by simp
 have hgX:(hH (LN m.nodes) (LP m.inits) (LP m.nexts) (LI m.bads) (LI m.holds) (.sl true 1 []) [(2,1),(3,((1+nI:Nat):Int))] []).g pre (inN m) []=mkG pre (inN m) [] (byL (inN m) 0 [])++[.cells [.ptr true (pre.length+1) 0,LN m.nodes,LP m.inits,LP m.nexts,LI m.bads,LI m.holds,.sl true 1 []],.map (ay [(2,1),(3,((1+nI:Nat):Int))])]:=by unfold BC.g hH mkG;simp
 have hXl:(mkG pre (inN m) [] (byL (inN m) 0 [])).length=pre.length+2:=by unfold mkG;simp
 unfold R1 at f1;simp only[bR,aX,Int.natCast_one] at f1;rw[hgX] at f1;rw[en] at hbits ⊢;unfold fq at hnew;simp only[bR] at hnew;generalize mkG pre (inN m) [] (byL (inN m) 0 [])=X at *;have hmu1:∀(C:GObj) (f:List GObj->Option (ag×St)),muX (X++[C,.map []]) 0 (.mp (pre.length+3)) (I 2) (I 1) f=f (X++[C,.map (ay [(2,1)])]):=λC f=>by have:=rH (R:=ag×St) (X++[C]) [] 2 1 f;simp only[aZ,bJ,bI,aW,bB,bZ,hXl] at this;exact this
 have hmu2:∀(C:GObj) (q:Int) (f:List GObj->Option (ag×St)),muX (X++[C,.map (ay [(2,1)])]) 0 (.mp (pre.length+3)) (I 3) (I q) f=f (X++[C,.map (ay [(2,1),(3,q)])]):=λC q f=>by have:=rH (R:=ag×St) (X++[C]) [(2,1)] 3 q f;simp only[aZ,bJ,bI,aW,bB,bZ,hXl] at this;exact this
 have hn1:=rL A;have hn2:=fB (dC m.nodes m.inits (dI m) (ak m.nodes 3));have hn3:=fB (dS bits m.nexts (ak m.nodes 3));have hn4:=fB (cq bits m.bads);have hn5:=fB (cq bits m.holds);unfold ki fW iM C0 at *;unfold LI LN LP at *;simp only at hk3
 show _=some (PV.agg [I (inN m),.sl false 2 (A.map aj),I (bu m.nodes 2),I (bu m.nodes 3),.sl false 1 ((dC m.nodes m.inits (dI m) (ak m.nodes 3)).map I),.sl false 1 ((dS bits m.nexts (ak m.nodes 3)).map I),.sl false 1 ((cq bits m.bads).map I),.sl false 1 ((cq bits m.holds).map I)],pre)
 generalize ((1+nI:Nat):Int)=q3 at *;generalize (hH (.sl false 6 (m.nodes.map bm)) (.sl false 2 (m.inits.map aj)) (.sl false 2 (m.nexts.map aj)) (.sl false 1 (m.bads.map I)) (.sl false 1 (m.holds.map I)) (.sl true 1 (bits.map λl=> .sl false 1 (l.map I))) nx J).g pre (inN m) A++[GObj.map (ay m.inits),GObj.map (ay m.nexts)]=GE at *;generalize (hH (.sl false 6 (m.nodes.map bm)) (.sl false 2 (m.inits.map aj)) (.sl false 2 (m.nexts.map aj)) (.sl false 1 (m.bads.map I)) (.sl false 1 (m.holds.map I)) (.sl true 1 (bits.map λl=> .sl false 1 (l.map I))) nx J).g pre (inN m) A=GD at *
 generalize (dC m.nodes m.inits (dI m) (ak m.nodes 3)).map I=II at *;generalize (dS bits m.nexts (ak m.nodes 3)).map I=NN at *;generalize (cq bits m.bads).map I=FB at *;generalize (cq bits m.holds).map I=FH at *;generalize A.map aj=AV at *;generalize m.nodes.map bm=LV at *;generalize m.inits.map aj=IV at *;generalize m.nexts.map aj=NV at *;generalize m.bads.map I=BV at *;generalize m.holds.map I=HV at *
 refine aq (fn:=q5t) (s:=⟨[(2,.ptr false 1 0)],[[.sl false 6 LV,.sl false 2 IV,.sl false 2 NV,.sl false 1 BV,.sl false 1 HV],[I (inN m),.sl false 2 AV,I (bu m.nodes 2),I (bu m.nodes 3),.sl false 1 II,.sl false 1 NN,.sl false 1 FB,.sl false 1 FH]],GE⟩) rfl rfl (qnf ?h1) ?r1
 case h1=>simp[hbits,ewi,hnew,hXl,hmu1,ew1,hmu2,hml,f1,hk3,-rE]
 case r1=>simp[am,results,q5t,ao,au,ai,St.cellsAt,htk,hn1,hn2,hn3,hn4,hn5]
end
end Go.Lw