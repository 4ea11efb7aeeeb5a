/-
  The texts that the proof stands on, part 18.
-/
import Derived.Test.YtmodipglnngghacGreatDoorTextPrintsQ
import Derived.Sort.Grow
set_option linter.unusedVariables false
set_option linter.unusedSimpArgs false
set_option linter.unnecessarySimpa false

/-! A stack of numbers, handed over as a row of cells. -/
section
namespace Go.Lw
open Go Go.Sort
section
variable {fi:FI} {M M':Mem} {w w' W:World} {P:Program}
theorem jh4 {b k:Nat} (h:W.heap[b]?=w.heap[b]?):W.cell? ⟨b,k,none⟩=w.cell? ⟨b,k,none⟩:=by
 simp[World.cell?,h]
end
end Go.Lw
end

/-! The law GatesAnds, of the machine: it answers true. -/
section
namespace Go.Lw
open Go
section
variable {ins:Int} {ands:List (Int×Int)} {gh:List GObj}
end
theorem jgi {g:Bool} {bytes:Nat} {l:List CS} {p:PV} (h:csOk (.slice g bytes l) p):∃xs,p= .sl false l.length xs∧xs.length*bytes≤reachBytes∧∀e∈xs,(g=true∧∃ps,e= .agg ps∧csAll l ps)∨(g=false∧csAll l [e]):=by
 unfold csOk at h;exact h
theorem jio:∀{xs:List PV},(∀e∈xs,(true=true∧∃ps,e= .agg ps∧csAll [.int,.int] ps)∨(true=false∧csAll [.int,.int] [e]))→∃ands,RA ands∧xs=ands.map andV
 |[],_=>⟨[],fun x h=>(by cases h),rfl⟩
 | e::xs,h=>by
  obtain⟨ands,hr,rfl⟩:=jio (xs:=xs) fun e he=>h e (List.mem_cons_of_mem _ he)
  rcases h e (by simp) with ⟨-,ps,rfl,hp⟩|⟨h,-⟩
  ·obtain⟨_,_,rfl,g0,hp⟩:=jez hp
   obtain⟨_,_,rfl,g1,hp⟩:=jez hp
   obtain rfl:=jgx hp
   obtain⟨a,rfl,ha⟩:=jfh g0
   obtain⟨b,rfl,hb⟩:=jfh g1
   refine⟨(a,b)::ands,fun x hx=>?_,rfl⟩
   rcases List.mem_cons.1 hx with rfl|hx
   ·exact⟨ha,hb⟩
   ·exact hr x hx
  ·cases h
end Go.Lw
end

/-! The law GatesEvals, of the machine: it answers true. -/
section
namespace Go.Lw
open Go
section
variable {ins:Int} {ands:List (Int×Int)} {gh:List GObj}
end
def RI (l:List Int):Prop:=∀x∈l,-9223372036854775808≤x∧x≤9223372036854775807
theorem jip:∀{xs:List PV},(∀e∈xs,(false=true∧∃ps,e= .agg ps∧csAll [.int] ps)∨(false=false∧csAll [.int] [e]))→∃v:List Int,RI v∧xs=v.map I
 |[],_=>⟨[],fun x h=>(by cases h),rfl⟩
 | e::xs,h=>by
  obtain⟨v,hr,rfl⟩:=jip (xs:=xs) fun e he=>h e (List.mem_cons_of_mem _ he)
  rcases h e (by simp) with ⟨h,-⟩|⟨-,hp⟩
  ·cases h
  ·obtain⟨_,_,e1,g0,hp⟩:=jez hp
   cases jgx hp
   simp only[List.cons.injEq,and_true] at e1
   subst e1
   obtain⟨b,rfl,hb⟩:=jfh g0
   refine⟨b::v,fun x hx=>?_,rfl⟩
   rcases List.mem_cons.1 hx with rfl|hx
   ·exact hb
   ·exact hr x hx
end Go.Lw
end

/-! Models: what must be in any case, lists compared, and models out of rows. -/
section
namespace Go.Lw
open Go
section
variable {m:Md} {gh:List GObj}
end
abbrev modelC:List CS:=[.slice true 48 [.int,.int,.int,.int,.int,.int],.slice true 16 [.int,.int],.slice true 16 [.int,.int],.slice false 8 [.int],.slice false 8 [.int]]
end Go.Lw
end

/-! The law TextPrints, of the machine: it answers true. -/
section
namespace Go.Lw
open Go Go.RowKit
theorem jla:∀{xs:List PV},(∀e∈xs,(true=true∧∃ps,e= .agg ps∧csAll [.int,.int,.int,.int,.int,.int] ps)∨(true=false∧csAll [.int,.int,.int,.int,.int,.int] [e]))→∃l:List Nd,xs=l.map nodeV∧∀x∈l,I64s [x.k,x.w,x.a,x.b,x.c,x.n]
 |[],_=>⟨[],rfl,fun x h=>by cases h⟩
 | e::xs,h=>by
  obtain⟨l,rfl,hl⟩:=jla (xs:=xs) fun e he=>h e (List.mem_cons_of_mem _ he)
  rcases h e (by simp) with ⟨-,ps,rfl,hp⟩|⟨h,-⟩
  ·obtain⟨_,_,rfl,g0,hp⟩:=jez hp
   obtain⟨_,_,rfl,g1,hp⟩:=jez hp
   obtain⟨_,_,rfl,g2,hp⟩:=jez hp
   obtain⟨_,_,rfl,g3,hp⟩:=jez hp
   obtain⟨_,_,rfl,g4,hp⟩:=jez hp
   obtain⟨_,_,rfl,g5,hp⟩:=jez hp
   obtain rfl:=jgx hp
   obtain⟨a0,rfl,b0⟩:=jfh g0
   obtain⟨a1,rfl,b1⟩:=jfh g1
   obtain⟨a2,rfl,b2⟩:=jfh g2
   obtain⟨a3,rfl,b3⟩:=jfh g3
   obtain⟨a4,rfl,b4⟩:=jfh g4
   obtain⟨a5,rfl,b5⟩:=jfh g5
   refine⟨⟨a0,a1,a2,a3,a4,a5⟩::l,rfl,fun x hx=>?_⟩
   rcases List.mem_cons.1 hx with rfl|hx
   ·intro n hn
    simp only[List.mem_cons,List.not_mem_nil,or_false] at hn
    rcases hn with rfl|rfl|rfl|rfl|rfl|rfl<;>assumption
   ·exact hl x hx
  ·cases h
theorem jr3 {p:PV} (h:argTy (true,modelC) p):∃m,p=modelV m∧(∀x∈m.nodes,I64s [x.k,x.w,x.a,x.b,x.c,x.n])∧RA m.inits∧RA m.nexts∧I64s m.bads∧I64s m.holds:=by
 obtain⟨ps,rfl,hp⟩:=jop h
 obtain⟨_,_,rfl,g0,hp⟩:=jez hp
 obtain⟨_,_,rfl,g1,hp⟩:=jez hp
 obtain⟨_,_,rfl,g2,hp⟩:=jez hp
 obtain⟨_,_,rfl,g3,hp⟩:=jez hp
 obtain⟨_,_,rfl,g4,hp⟩:=jez hp
 obtain rfl:=jgx hp
 obtain⟨x0,rfl,b0,h0⟩:=jgi g0
 obtain⟨x1,rfl,b1,h1⟩:=jgi g1
 obtain⟨x2,rfl,b2,h2⟩:=jgi g2
 obtain⟨x3,rfl,b3,h3⟩:=jgi g3
 obtain⟨x4,rfl,b4,h4⟩:=jgi g4
 obtain⟨l0,rfl,r0⟩:=jla h0
 obtain⟨l1,r1,rfl⟩:=jio h1
 obtain⟨l2,r2,rfl⟩:=jio h2
 obtain⟨l3,r3,rfl⟩:=jip h3
 obtain⟨l4,r4,rfl⟩:=jip h4
 exact⟨⟨l0,l1,l2,l3,l4⟩,rfl,r0,r1,r2,r3,r4⟩
theorem jr4 {m:Md} {n:Nat} (hn:bulkPs [modelV m]≤n):m.inits.length≤n∧m.nexts.length≤n∧m.bads.length≤n∧m.holds.length≤n:=by
 have e1:=jgc (m.inits.map andV)
 have e2:=jgc (m.nexts.map andV)
 have e3:=jgc (m.bads.map I)
 have e4:=jgc (m.holds.map I)
 simp only[bulkPs,bulkP,List.length_map,modelV,LN,LP,LI] at hn e1 e2 e3 e4
 omega
theorem pair64 {l:List (Int×Int)} (h:RA l):∀p∈l,I64s [p.1,p.2]:=by
 intro p hp n hn
 have:=h p hp
 simp only[List.mem_cons,List.not_mem_nil,or_false] at hn
 rcases hn with rfl|rfl
 ·exact this.1
 ·exact this.2
theorem jr5 {m:Md} (hm:MdI m):callL pg 367 [modelV m] []=some (B true,[]):=by
 have hP:=jqj (gh:=[]) hm
 have h1:=hm.szi
 have h2:=hm.szn
 have hC:=jr2 (m:=m) (gh:=[]) (by simp only[Sz];omega) (by simp only[Sz];omega)
 have hB:=jqt
 have eE:ByteArray.empty=bA []:=rfl
 have hk:∀(Z:List UInt8) (e:Int),runL pg q1v ⟨[(3,.str (bA Z)),(4,I e),(5,I e),(6,.str (bA Z))],[],[]⟩=some (.ret,⟨[(2,B true)],[],[]⟩):=fun Z e=>by
  refine qcb_ ?_
  simp[qcb,hB]
 by_cases h0:checkE m=0
 ·have hR:=jqo (gh:=[]) hm h0
  rw[if_pos h0,h0] at hP
  rw[h0] at hC
  have hkk:=hk (modelB m) 0
  generalize modelB m=Z at *
  rw[jex] at hP hC hR ⊢
  simp only[LN,LP,LI] at hP hC hR ⊢
  refine jef (fn:=q1w) (s:=⟨[(2,B true)],[],[]⟩) rfl rfl (q7p_ ?h1) ?r1
  case h1=>simp[q7p,hP,hC,hR,hkk]
  case r1=>simp[finish,results,q1w,resOfs,resOf,resOk]
 ·rw[if_neg h0] at hP
  have hkk:=hk [] (checkE m)
  rw[←eE] at hP hkk
  generalize checkE m=e at *
  rw[jex] at hP hC ⊢
  simp only[LN,LP,LI] at hP hC ⊢
  refine jef (fn:=q1w) (s:=⟨[(2,B true)],[],[]⟩) rfl rfl (q7p_ ?h2) ?r2
  case h2=>simp[q7p,hP,hC,h0,hkk]
  case r2=>simp[finish,results,q1w,resOfs,resOf,resOk]
abbrev insTextPrints:List (Bool×List CS):=[(true,modelC)]
theorem jr6 (qs:List PV) (h:argsTy insTextPrints qs) (hn:bulkPs qs≤1048576):callL pg 367 qs []=some (B true,[]):=by
 obtain⟨_,_,rfl,h0,h⟩:=jon h
 obtain rfl:=joo h
 obtain⟨m,rfl,r0,r1,r2,r3,r4⟩:=jr3 h0
 obtain⟨s1,s2,s3,s4⟩:=jr4 hn
 exact jr5 ⟨r0,pair64 r1,pair64 r2,r3,r4,s1,s2,s3,s4⟩
end Go.Lw
end
