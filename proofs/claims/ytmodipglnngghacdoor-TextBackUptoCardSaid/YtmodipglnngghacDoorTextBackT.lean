/-
  The texts that the proof stands on, part 20.
-/
import Derived.Test.YtmodipglnngghacDoorTextBackS
import Derived.Sort.Grow
set_option linter.unusedVariables false
set_option linter.unusedSimpArgs false
set_option linter.unnecessarySimpa false

/-! A stack of numbers, handed over as a row of cells. -/
section
namespace Go.Lw
open Go Go.Sort
section
variable {fi:FI} {M M':Mem} {w w' W:World} {P:Program}
theorem jdj {b k:Nat} (h:W.heap[b]?=w.heap[b]?):W.cell? ⟨b,k,none⟩=w.cell? ⟨b,k,none⟩:=by
 simp[World.cell?,h]
end
end Go.Lw
end

/-! The law GatesAnds, of the machine: it answers true. -/
section
namespace Go.Lw
open Go
section
variable {ins:Int} {ands:List (Int×Int)} {gh:List GObj}
end
theorem jcj {g:Bool} {bytes:Nat} {l:List CS} {p:PV} (h:csOk (.slice g bytes l) p):∃xs,p= .sl false l.length xs∧xs.length*bytes≤reachBytes∧∀e∈xs,(g=true∧∃ps,e= .agg ps∧csAll l ps)∨(g=false∧csAll l [e]):=by
 unfold csOk at h;exact h
theorem jf5:∀{xs:List PV},(∀e∈xs,(true=true∧∃ps,e= .agg ps∧csAll [.int,.int] ps)∨(true=false∧csAll [.int,.int] [e]))→∃ands,RA ands∧xs=ands.map andV
 |[],_=>⟨[],fun x h=>(by cases h),rfl⟩
 | e::xs,h=>by
  obtain⟨ands,hr,rfl⟩:=jf5 (xs:=xs) fun e he=>h e (List.mem_cons_of_mem _ he)
  rcases h e (by simp) with ⟨-,ps,rfl,hp⟩|⟨h,-⟩
  ·obtain⟨_,_,rfl,g0,hp⟩:=jax hp
   obtain⟨_,_,rfl,g1,hp⟩:=jax hp
   obtain rfl:=jc7 hp
   obtain⟨a,rfl,ha⟩:=jba g0
   obtain⟨b,rfl,hb⟩:=jba g1
   refine⟨(a,b)::ands,fun x hx=>?_,rfl⟩
   rcases List.mem_cons.1 hx with rfl|hx
   ·exact⟨ha,hb⟩
   ·exact hr x hx
  ·cases h
end Go.Lw
end

/-! The law GatesEvals, of the machine: it answers true. -/
section
namespace Go.Lw
open Go
section
variable {ins:Int} {ands:List (Int×Int)} {gh:List GObj}
end
def RI (l:List Int):Prop:=∀x∈l,-9223372036854775808≤x∧x≤9223372036854775807
theorem jf6:∀{xs:List PV},(∀e∈xs,(false=true∧∃ps,e= .agg ps∧csAll [.int] ps)∨(false=false∧csAll [.int] [e]))→∃v:List Int,RI v∧xs=v.map I
 |[],_=>⟨[],fun x h=>(by cases h),rfl⟩
 | e::xs,h=>by
  obtain⟨v,hr,rfl⟩:=jf6 (xs:=xs) fun e he=>h e (List.mem_cons_of_mem _ he)
  rcases h e (by simp) with ⟨h,-⟩|⟨-,hp⟩
  ·cases h
  ·obtain⟨_,_,e1,g0,hp⟩:=jax hp
   cases jc7 hp
   simp only[List.cons.injEq,and_true] at e1
   subst e1
   obtain⟨b,rfl,hb⟩:=jba g0
   refine⟨b::v,fun x hx=>?_,rfl⟩
   rcases List.mem_cons.1 hx with rfl|hx
   ·exact hb
   ·exact hr x hx
end Go.Lw
end

/-! Models: what must be in any case, lists compared, and models out of rows. -/
section
namespace Go.Lw
open Go
section
variable {m:Md} {gh:List GObj}
end
abbrev modelC:List CS:=[.slice true 48 [.int,.int,.int,.int,.int,.int],.slice true 16 [.int,.int],.slice true 16 [.int,.int],.slice false 8 [.int],.slice false 8 [.int]]
end Go.Lw
end

/-! The law TextPrints, of the machine: it answers true. -/
section
namespace Go.Lw
open Go Go.RowKit
theorem jik:∀{xs:List PV},(∀e∈xs,(true=true∧∃ps,e= .agg ps∧csAll [.int,.int,.int,.int,.int,.int] ps)∨(true=false∧csAll [.int,.int,.int,.int,.int,.int] [e]))→∃l:List Nd,xs=l.map nodeV∧∀x∈l,I64s [x.k,x.w,x.a,x.b,x.c,x.n]
 |[],_=>⟨[],rfl,fun x h=>by cases h⟩
 | e::xs,h=>by
  obtain⟨l,rfl,hl⟩:=jik (xs:=xs) fun e he=>h e (List.mem_cons_of_mem _ he)
  rcases h e (by simp) with ⟨-,ps,rfl,hp⟩|⟨h,-⟩
  ·obtain⟨_,_,rfl,g0,hp⟩:=jax hp
   obtain⟨_,_,rfl,g1,hp⟩:=jax hp
   obtain⟨_,_,rfl,g2,hp⟩:=jax hp
   obtain⟨_,_,rfl,g3,hp⟩:=jax hp
   obtain⟨_,_,rfl,g4,hp⟩:=jax hp
   obtain⟨_,_,rfl,g5,hp⟩:=jax hp
   obtain rfl:=jc7 hp
   obtain⟨a0,rfl,b0⟩:=jba g0
   obtain⟨a1,rfl,b1⟩:=jba g1
   obtain⟨a2,rfl,b2⟩:=jba g2
   obtain⟨a3,rfl,b3⟩:=jba g3
   obtain⟨a4,rfl,b4⟩:=jba g4
   obtain⟨a5,rfl,b5⟩:=jba g5
   refine⟨⟨a0,a1,a2,a3,a4,a5⟩::l,rfl,fun x hx=>?_⟩
   rcases List.mem_cons.1 hx with rfl|hx
   ·intro n hn
    simp only[List.mem_cons,List.not_mem_nil,or_false] at hn
    rcases hn with rfl|rfl|rfl|rfl|rfl|rfl<;>assumption
   ·exact hl x hx
  ·cases h
theorem job {p:PV} (h:argTy (true,modelC) p):∃m,p=modelV m∧(∀x∈m.nodes,I64s [x.k,x.w,x.a,x.b,x.c,x.n])∧RA m.inits∧RA m.nexts∧I64s m.bads∧I64s m.holds:=by
 obtain⟨ps,rfl,hp⟩:=jm0 h
 obtain⟨_,_,rfl,g0,hp⟩:=jax hp
 obtain⟨_,_,rfl,g1,hp⟩:=jax hp
 obtain⟨_,_,rfl,g2,hp⟩:=jax hp
 obtain⟨_,_,rfl,g3,hp⟩:=jax hp
 obtain⟨_,_,rfl,g4,hp⟩:=jax hp
 obtain rfl:=jc7 hp
 obtain⟨x0,rfl,b0,h0⟩:=jcj g0
 obtain⟨x1,rfl,b1,h1⟩:=jcj g1
 obtain⟨x2,rfl,b2,h2⟩:=jcj g2
 obtain⟨x3,rfl,b3,h3⟩:=jcj g3
 obtain⟨x4,rfl,b4,h4⟩:=jcj g4
 obtain⟨l0,rfl,r0⟩:=jik h0
 obtain⟨l1,r1,rfl⟩:=jf5 h1
 obtain⟨l2,r2,rfl⟩:=jf5 h2
 obtain⟨l3,r3,rfl⟩:=jf6 h3
 obtain⟨l4,r4,rfl⟩:=jf6 h4
 exact⟨⟨l0,l1,l2,l3,l4⟩,rfl,r0,r1,r2,r3,r4⟩
theorem joc {m:Md} {n:Nat} (hn:bulkPs [modelV m]≤n):m.inits.length≤n∧m.nexts.length≤n∧m.bads.length≤n∧m.holds.length≤n:=by
 have e1:=jc6 (m.inits.map andV)
 have e2:=jc6 (m.nexts.map andV)
 have e3:=jc6 (m.bads.map I)
 have e4:=jc6 (m.holds.map I)
 simp only[bulkPs,bulkP,List.length_map,modelV,LN,LP,LI] at hn e1 e2 e3 e4
 omega
theorem pair64 {l:List (Int×Int)} (h:RA l):∀p∈l,I64s [p.1,p.2]:=by
 intro p hp n hn
 have:=h p hp
 simp only[List.mem_cons,List.not_mem_nil,or_false] at hn
 rcases hn with rfl|rfl
 ·exact this.1
 ·exact this.2
end Go.Lw
end

/-! The law TextParses, of the machine: it answers true. -/
section
namespace Go.Lw
open Go Go.RowKit
section
variable {gh:List GObj}
theorem jil {l:List (Int×Int)} (hl:l.length≤3000000):∀k i,i+k=l.length→
  runL pg q4c ⟨[(0,LP l),(1,LP l),(5,I (i:Int))],[],gh⟩=some (.normal,⟨[],[],gh⟩)
 |0,i,h=>by
  have hlt:¬i<(l.map andV).length:=by rw[List.length_map];omega
  simp only[LP]
  generalize l.map andV=L at *
  refine (jat (s1:=⟨[(0,.sl false 2 L),(1,.sl false 2 L),(5,I (i:Int)),(14,B false)],[],gh⟩) (q60_ ?h1)).trans ?r1
  case h1=>simp[q60,hlt]
  case r1=>simp[keep]
 | k+1,i,h=>by
  have hlt:i<l.length:=by omega
  have hml:(l.map andV).length=l.length:=List.length_map _
  have hD:decide ((i:Int)<((l.map andV).length:Int))=true:=decide_eq_true (by omega)
  have hx:(l.map andV)[i]?=some (andV l[i]):=by simp[List.getElem?_eq_getElem hlt]
  have e2:IntKind.i64.wrap ((i:Int)+1)=((i+1:Nat):Int):=by rw[jas (by omega) (by omega)];omega
  have hrec:=jil hl k (i+1) (by omega)
  simp only[LP] at *
  generalize l[i]=p at *
  generalize l.map andV=L at *
  refine jai (q60_ (s:=⟨[(0,.sl false 2 L),(1,.sl false 2 L),(5,I ((i+1:Nat):Int))],[],gh⟩) ?h2) hrec
  case h2=>
   generalize ((i+1:Nat):Int)=T at *
   simp only[andV] at hx
   simp only[q60,degr,isC_sl,jgy,hD,jay]
   simp[hx,flatEq,sameCell,e2]
theorem jim {l:List (Int×Int)} (hl:l.length≤3000000):callL pg 354 [LP l,LP l] gh=some (B true,gh):=by
 have h:=jil (gh:=gh) hl l.length 0 (by omega)
 have hk:runL pg q2d ⟨[],[],gh⟩=some (.ret,⟨[(4,B true)],[],gh⟩):=qad_ rfl
 simp only[LP,Int.natCast_zero] at *
 generalize l.map andV=L at *
 refine jaf (fn:=q4d) (s:=⟨[(4,B true)],[],gh⟩) rfl rfl (q9h_ ?h1) ?r1
 case h1=>simp[q9h,h,hk]
 case r1=>simp[finish,results,q4d,resOfs,resOf,resOk]
theorem jin {l:List Nd} (hl:l.length≤3000000) {p1 p2 p3 p4 q1 q2 q3 q4:PV}:∀k i,i+k=l.length→
  runL pg q4a ⟨[(2,.ptr false 0 0),(3,.ptr false 1 0),(5,I (i:Int))],[[LN l,p1,p2,p3,p4],[LN l,q1,q2,q3,q4]],gh⟩=some (.normal,⟨[],[],gh⟩)
 |0,i,h=>by
  have hlt:¬i<(l.map nodeV).length:=by rw[List.length_map];omega
  simp only[LN]
  generalize l.map nodeV=L at *
  refine (jat (s1:=⟨[(2,.ptr false 0 0),(3,.ptr false 1 0),(5,I (i:Int)),(49,B false)],[[.sl false 6 L,p1,p2,p3,p4],[.sl false 6 L,q1,q2,q3,q4]],gh⟩) (q5y_ ?h1)).trans ?r1
  case h1=>simp[q5y,hlt]
  case r1=>simp[keep]
 | k+1,i,h=>by
  have hlt:i<l.length:=by omega
  have hml:(l.map nodeV).length=l.length:=List.length_map _
  have hD:decide ((i:Int)<((l.map nodeV).length:Int))=true:=decide_eq_true (by omega)
  have hx:(l.map nodeV)[i]?=some (nodeV l[i]):=by simp[List.getElem?_eq_getElem hlt]
  have e2:IntKind.i64.wrap ((i:Int)+1)=((i+1:Nat):Int):=by rw[jas (by omega) (by omega)];omega
  have hrec:=jin hl (p1:=p1) (p2:=p2) (p3:=p3) (p4:=p4) (q1:=q1) (q2:=q2) (q3:=q3) (q4:=q4) k (i+1) (by omega)
  simp only[LN] at *
  generalize l[i]=p at *
  generalize l.map nodeV=L at *
  refine jai (q5y_ (s:=⟨[(2,.ptr false 0 0),(3,.ptr false 1 0),(5,I ((i+1:Nat):Int))],[[.sl false 6 L,p1,p2,p3,p4],[.sl false 6 L,q1,q2,q3,q4]],gh⟩) ?h2) hrec
  case h2=>
   generalize ((i+1:Nat):Int)=T at *
   simp only[nodeV] at hx
   simp only[q5y,degr,isC_sl,jgy,hD,jay]
   simp[hx,flatEq,sameCell,e2,show Nat.ble 1 2=true from rfl,show Nat.ble 2 2=true from rfl]
theorem jod {m:Md} (h:MdZ m 3000000):callL pg 349 [modelV m,modelV m] gh=some (B true,gh):=by
 have e1:=fun G=>jim (gh:=G) h.inits
 have e2:=fun G=>jim (gh:=G) h.nexts
 have e3:=fun G=>jij (gh:=G) (v:=m.bads) (by have:=h.bads;simp only[Sz];omega)
 have e4:=fun G=>jij (gh:=G) (v:=m.holds) (by have:=h.holds;simp only[Sz];omega)
 have h5:=jin (gh:=gh) h.nodes (p1:=LP m.inits) (p2:=LP m.nexts) (p3:=LI m.bads) (p4:=LI m.holds) (q1:=LP m.inits) (q2:=LP m.nexts) (q3:=LI m.bads) (q4:=LI m.holds) m.nodes.length 0 (by omega)
 have hk:runL pg q2c ⟨[],[],gh⟩=some (.ret,⟨[(4,B true)],[],gh⟩):=qac_ rfl
 rw[jav]
 simp only[LN,LP,LI,Int.natCast_zero] at *
 generalize m.nodes.map nodeV=q0 at *
 generalize m.inits.map andV=q1 at *
 generalize m.nexts.map andV=q2 at *
 generalize m.bads.map I=q3 at *
 generalize m.holds.map I=q4 at *
 refine jaf (fn:=q4b) (s:=⟨[(4,B true)],[],gh⟩) rfl rfl (q9g_ ?h1) ?r1
 case h1=>simp[q9g,e1,e2,e3,e4,h5,hk]
 case r1=>simp[finish,results,q4b,resOfs,resOf,resOk]
end
end Go.Lw
end

/-! The law TextBack, of the machine: it answers true. -/
section
namespace Go.Lw
open Go Go.RowKit
theorem getD9 {v:List Int} (h:∀n∈v,N9 n) (j:Nat):N9 (v.getD j 0):=by
 rw[List.getD_eq_getElem?_getD]
 cases e:v[j]? with
 |none=>exact⟨by simp,by simp⟩
 |some n=>exact h n (List.mem_of_getElem? e)
theorem MdI_of {m:Md} (h:checkE m=0) (hz:MdZ m 1048576):MdI m:=by
 obtain⟨c1,c2,c3,c4,c5,c6⟩:=jf0 h
 have n9:∀a,isNo m.nodes a→ -9223372036854775808≤a∧a≤9223372036854775807:=fun a ha=>by
  unfold isNo at ha
  exact⟨by omega,by omega⟩
 refine⟨fun x hx=>?_,fun p hp n hn=>?_,fun p hp n hn=>?_,fun n hn=>n9 n (c5 n hn),fun n hn=>n9 n (c6 n hn),hz.inits,hz.nexts,hz.bads,hz.holds⟩
 ·obtain⟨j,hj⟩:=List.getElem?_of_mem hx
  have hjl:=(List.getElem?_eq_some_iff.1 hj).1
  obtain⟨h1,h2,-,h4⟩:=ji9 (jcd c2 j x hj) (by omega)
  have hg:=fun j=>getD9 h1 j
  have z9:N9 0:=⟨by omega,by omega⟩
  have hi:∀(c:Prop) [Decidable c] (j:Nat),N9 (if c then (numsN x).getD j 0 else 0):=fun c _ j=>by
   split
   ·exact hg j
   ·exact z9
  have ew:x.w=(numsN x).getD 0 0:=by rw[←h2];rw[h2];exact (congrArg Nd.w h2).symm
  have ea:=(congrArg Nd.a h2).symm
  have eb:=(congrArg Nd.b h2).symm
  have ec:=(congrArg Nd.c h2).symm
  have en:=(congrArg Nd.n h2).symm
  unfold mkNd at ea eb ec en
  simp only at ea eb ec en
  have kw:=hg 0
  have ka:=hi (0<takesOf x.k) 1
  have kb:=hi (1<takesOf x.k) 2
  have kc:=hi (2<takesOf x.k) 3
  have kn:=hi (x.k=1∨x.k=21) (wantK x.k-1).toNat
  rw[←ew] at kw
  rw[←ea] at ka
  rw[←eb] at kb
  rw[←ec] at kc
  rw[←en] at kn
  intro n hn
  simp only[List.mem_cons,List.not_mem_nil,or_false] at hn
  rcases hn with rfl|rfl|rfl|rfl|rfl|rfl
  ·exact⟨by omega,by omega⟩
  ·exact⟨by have:=kw.1;omega,by have:=kw.2;omega⟩
  ·exact⟨by have:=ka.1;omega,by have:=ka.2;omega⟩
  ·exact⟨by have:=kb.1;omega,by have:=kb.2;omega⟩
  ·exact⟨by have:=kc.1;omega,by have:=kc.2;omega⟩
  ·exact⟨by have:=kn.1;omega,by have:=kn.2;omega⟩
 ·simp only[List.mem_cons,List.not_mem_nil,or_false] at hn
  rcases hn with rfl|rfl
  ·exact n9 _ (c3 p hp).1
  ·exact n9 _ (c3 p hp).2
 ·simp only[List.mem_cons,List.not_mem_nil,or_false] at hn
  rcases hn with rfl|rfl
  ·exact n9 _ (c4 p hp).1
  ·exact n9 _ (c4 p hp).2
theorem joe (s:List UInt8):MdZ (parseE s).1 1048576:=by
 unfold parseE
 split
 ·exact MdZ_m0 _
 ·split
  ·exact MdZ_m0 _
  ·rename_i m hp
   have h:=pgo_z (MdZ_m0 0) hp
   have hsl:=jbj 10 s
   split
   ·exact jdc h (by omega)
   ·exact MdZ_m0 _
theorem jof {s:List UInt8} (hs:s.length≤2000000):runL pg qy ⟨[(1,.str (bA s))],[],[]⟩=some (.ret,⟨[(4,B true)],[],[]⟩):=by
 have hP:=ji7 (gh:=[]) hs
 refine q61_ ?_
 by_cases h0:(parseE s).2.2=0
 ·obtain⟨h1,h2⟩:=jo5 h0
  have hT:=jhw (gh:=[]) (MdI_of h1 (joe s))
  rw[if_pos h1,h1,h2] at hT
  rw[h0] at hP
  generalize (parseE s).2.1=n at *
  generalize (parseE s).1=m at *
  rw[jav] at hP hT
  simp only[LN,LP,LI] at hP hT
  generalize m.nodes.map nodeV=q0 at *
  generalize m.inits.map andV=q1 at *
  generalize m.nexts.map andV=q2 at *
  generalize m.bads.map I=q3 at *
  generalize m.holds.map I=q4 at *
  simp[q61,hP,hT]
 ·generalize (parseE s).2.2=e at *
  generalize (parseE s).2.1=n at *
  generalize (parseE s).1=m at *
  rw[jav] at hP
  simp only[LN,LP,LI] at hP
  simp[q61,hP,h0]
theorem jog {m:Md} {s:List UInt8} (hm:MdI m) (hs:s.length≤2000000):callL pg 345 [modelV m,.str (bA s)] []=some (B true,[]):=by
 have hT:=jhw (gh:=[]) hm
 have hB:=joa
 have hk:=jof hs
 have fin:runL pg q38 ⟨[(0,modelV m),(1,.str (bA s))],[],[]⟩=some (.ret,⟨[(4,B true)],[],[]⟩)→callL pg 345 [modelV m,.str (bA s)] []=some (B true,[]):=fun h=>
  jaf (fn:=q39) rfl rfl h (by simp[finish,results,q39,resOfs,resOf,resOk])
 refine fin ?_
 clear fin
 by_cases h0:checkE m=0
 ·rw[if_pos h0,h0] at hT
  by_cases hl:(modelB m).length≤10000
  ·have hP:=ji7 (gh:=[]) (s:=modelB m) (by omega)
   rw[jo0 h0 hl] at hP
   simp only at hP
   obtain⟨c1,-⟩:=jf0 h0
   have hS:=jod (gh:=[]) (m:=m) ⟨by omega,by have:=hm.szi;omega,by have:=hm.szn;omega,by have:=hm.szb;omega,by have:=hm.szh;omega⟩
   have hz:((bA (modelB m)).size:Nat)=(modelB m).length:=jbd _
   have hD:(((modelB m).length:Nat):Int)≤10000:=by omega
   rw[jav] at *
   simp only[LN,LP,LI] at *
   generalize modelB m=Z at *
   generalize m.nodes.map nodeV=q0 at *
   generalize m.inits.map andV=q1 at *
   generalize m.nexts.map andV=q2 at *
   generalize m.bads.map I=q3 at *
   generalize m.holds.map I=q4 at *
   refine q37_ ?_
   simp[q37,hB,hT,hz,hD,hP,hS,hk]
  ·have hz:((bA (modelB m)).size:Nat)=(modelB m).length:=jbd _
   have hD:¬(((modelB m).length:Nat):Int)≤10000:=by omega
   rw[jav] at *
   simp only[LN,LP,LI] at *
   generalize modelB m=Z at *
   generalize m.nodes.map nodeV=q0 at *
   generalize m.inits.map andV=q1 at *
   generalize m.nexts.map andV=q2 at *
   generalize m.bads.map I=q3 at *
   generalize m.holds.map I=q4 at *
   refine q37_ ?_
   simp[q37,hB,hT,hz,hD,hk]
 ·rw[if_neg h0] at hT
  generalize checkE m=e at *
  rw[jav] at *
  simp only[LN,LP,LI] at *
  refine q37_ ?_
  simp[q37,hB,hT,h0,hk]
abbrev insTextBack:List (Bool×List CS):=[(true,modelC),(false,[.str])]
theorem joh (qs:List PV) (h:argsTy insTextBack qs) (hn:bulkPs qs≤1048576):callL pg 345 qs []=some (B true,[]):=by
 obtain⟨_,_,rfl,h0,h⟩:=jgi h
 obtain⟨_,_,rfl,h1,h⟩:=jgi h
 obtain rfl:=jlz h
 obtain⟨m,rfl,r0,r1,r2,r3,r4⟩:=job h0
 obtain⟨q,ps,hq,h2,h3⟩:=jax h1
 cases jc7 h3
 simp only[List.cons.injEq,and_true] at hq
 subst hq
 unfold csOk at h2
 obtain⟨s,rfl,-⟩:=h2
 have hbm:bulkPs [modelV m]≤1048576:=by simp only[bulkPs] at hn ⊢;omega
 obtain⟨s1,s2,s3,s4⟩:=joc hbm
 simp only[bulkPs] at hn
 have hbs:bulkP (.str s)=s.size+1:=rfl
 have hsz:s=bA s.data.toList:=rfl
 have hl:s.data.toList.length≤1048576:=by
  have:s.data.toList.length=s.size:=rfl
  omega
 rw[hsz]
 exact jog ⟨r0,pair64 r1,pair64 r2,r3,r4,s1,s2,s3,s4⟩ (by omega)
end Go.Lw
end
