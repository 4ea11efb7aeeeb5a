/-
  The texts that the proof stands on, part 20.
-/
import Derived.Test.YtmodipglnngghacGreatDoorTextParsesS
import Derived.Sort.Grow
set_option linter.unusedVariables false
set_option linter.unusedSimpArgs false
set_option linter.unnecessarySimpa false

/-! A stack of numbers, handed over as a row of cells. -/
section
namespace Go.Lw
open Go Go.Sort
section
variable {fi:FI} {M M':Mem} {w w' W:World} {P:Program}
theorem jii {b k:Nat} (h:W.heap[b]?=w.heap[b]?):W.cell? ⟨b,k,none⟩=w.cell? ⟨b,k,none⟩:=by
 simp[World.cell?,h]
end
end Go.Lw
end

/-! The law TextParses, of the machine: it answers true. -/
section
namespace Go.Lw
open Go Go.RowKit
section
variable {gh:List GObj}
theorem jne {l:List (Int×Int)} (hl:l.length≤3000000):∀k i,i+k=l.length→
  runL pg q78 ⟨[(0,LP l),(1,LP l),(5,I (i:Int))],[],gh⟩=some (.normal,⟨[],[],gh⟩)
 |0,i,h=>by
  have hlt:¬i<(l.map andV).length:=by rw[List.length_map];omega
  simp only[LP]
  generalize l.map andV=L at *
  refine (jfr (s1:=⟨[(0,.sl false 2 L),(1,.sl false 2 L),(5,I (i:Int)),(14,B false)],[],gh⟩) (q92_ ?h1)).trans ?r1
  case h1=>simp[q92,hlt]
  case r1=>simp[keep]
 | k+1,i,h=>by
  have hlt:i<l.length:=by omega
  have hml:(l.map andV).length=l.length:=List.length_map _
  have hD:decide ((i:Int)<((l.map andV).length:Int))=true:=decide_eq_true (by omega)
  have hx:(l.map andV)[i]?=some (andV l[i]):=by simp[List.getElem?_eq_getElem hlt]
  have e2:IntKind.i64.wrap ((i:Int)+1)=((i+1:Nat):Int):=by rw[jfp (by omega) (by omega)];omega
  have hrec:=jne hl k (i+1) (by omega)
  simp only[LP] at *
  generalize l[i]=p at *
  generalize l.map andV=L at *
  refine jfn (q92_ (s:=⟨[(0,.sl false 2 L),(1,.sl false 2 L),(5,I ((i+1:Nat):Int))],[],gh⟩) ?h2) hrec
  case h2=>
   generalize ((i+1:Nat):Int)=T at *
   simp only[andV] at hx
   simp only[q92,degr,isC_sl,jh9,hD,jg4]
   simp[hx,flatEq,sameCell,e2]
theorem jnf {l:List (Int×Int)} (hl:l.length≤3000000):callL pg 354 [LP l,LP l] gh=some (B true,gh):=by
 have h:=jne (gh:=gh) hl l.length 0 (by omega)
 have hk:runL pg q49 ⟨[],[],gh⟩=some (.ret,⟨[(4,B true)],[],gh⟩):=qfj_ rfl
 simp only[LP,Int.natCast_zero] at *
 generalize l.map andV=L at *
 refine jfm (fn:=q79) (s:=⟨[(4,B true)],[],gh⟩) rfl rfl (qds_ ?h1) ?r1
 case h1=>simp[qds,h,hk]
 case r1=>simp[finish,results,q79,resOfs,resOf,resOk]
theorem jng {l:List Nd} (hl:l.length≤3000000) {p1 p2 p3 p4 q1 q2 q3 q4:PV}:∀k i,i+k=l.length→
  runL pg q76 ⟨[(2,.ptr false 0 0),(3,.ptr false 1 0),(5,I (i:Int))],[[LN l,p1,p2,p3,p4],[LN l,q1,q2,q3,q4]],gh⟩=some (.normal,⟨[],[],gh⟩)
 |0,i,h=>by
  have hlt:¬i<(l.map nodeV).length:=by rw[List.length_map];omega
  simp only[LN]
  generalize l.map nodeV=L at *
  refine (jfr (s1:=⟨[(2,.ptr false 0 0),(3,.ptr false 1 0),(5,I (i:Int)),(49,B false)],[[.sl false 6 L,p1,p2,p3,p4],[.sl false 6 L,q1,q2,q3,q4]],gh⟩) (q90_ ?h1)).trans ?r1
  case h1=>simp[q90,hlt]
  case r1=>simp[keep]
 | k+1,i,h=>by
  have hlt:i<l.length:=by omega
  have hml:(l.map nodeV).length=l.length:=List.length_map _
  have hD:decide ((i:Int)<((l.map nodeV).length:Int))=true:=decide_eq_true (by omega)
  have hx:(l.map nodeV)[i]?=some (nodeV l[i]):=by simp[List.getElem?_eq_getElem hlt]
  have e2:IntKind.i64.wrap ((i:Int)+1)=((i+1:Nat):Int):=by rw[jfp (by omega) (by omega)];omega
  have hrec:=jng hl (p1:=p1) (p2:=p2) (p3:=p3) (p4:=p4) (q1:=q1) (q2:=q2) (q3:=q3) (q4:=q4) k (i+1) (by omega)
  simp only[LN] at *
  generalize l[i]=p at *
  generalize l.map nodeV=L at *
  refine jfn (q90_ (s:=⟨[(2,.ptr false 0 0),(3,.ptr false 1 0),(5,I ((i+1:Nat):Int))],[[.sl false 6 L,p1,p2,p3,p4],[.sl false 6 L,q1,q2,q3,q4]],gh⟩) ?h2) hrec
  case h2=>
   generalize ((i+1:Nat):Int)=T at *
   simp only[nodeV] at hx
   simp only[q90,degr,isC_sl,jh9,hD,jg4]
   simp[hx,flatEq,sameCell,e2,show Nat.ble 1 2=true from rfl,show Nat.ble 2 2=true from rfl]
theorem jtl {m:Md} (h:MdZ m 3000000):callL pg 349 [modelV m,modelV m] gh=some (B true,gh):=by
 have e1:=fun G=>jnf (gh:=G) h.inits
 have e2:=fun G=>jnf (gh:=G) h.nexts
 have e3:=fun G=>jnd (gh:=G) (v:=m.bads) (by have:=h.bads;simp only[Sz];omega)
 have e4:=fun G=>jnd (gh:=G) (v:=m.holds) (by have:=h.holds;simp only[Sz];omega)
 have h5:=jng (gh:=gh) h.nodes (p1:=LP m.inits) (p2:=LP m.nexts) (p3:=LI m.bads) (p4:=LI m.holds) (q1:=LP m.inits) (q2:=LP m.nexts) (q3:=LI m.bads) (q4:=LI m.holds) m.nodes.length 0 (by omega)
 have hk:runL pg q48 ⟨[],[],gh⟩=some (.ret,⟨[(4,B true)],[],gh⟩):=qfi_ rfl
 rw[jg6]
 simp only[LN,LP,LI,Int.natCast_zero] at *
 generalize m.nodes.map nodeV=q0 at *
 generalize m.inits.map andV=q1 at *
 generalize m.nexts.map andV=q2 at *
 generalize m.bads.map I=q3 at *
 generalize m.holds.map I=q4 at *
 refine jfm (fn:=q77) (s:=⟨[(4,B true)],[],gh⟩) rfl rfl (qdr_ ?h1) ?r1
 case h1=>simp[qdr,e1,e2,e3,e4,h5,hk]
 case r1=>simp[finish,results,q77,resOfs,resOf,resOk]
end
theorem jtm (s:List UInt8):MdZ (parseE s).1 3000000:=by
 unfold parseE
 split
 ·exact MdZ_m0 _
 ·split
  ·exact MdZ_m0 _
  ·rename_i m hp
   have h:=pgo_z (MdZ_m0 0) hp
   have hsl:=jgr 10 s
   split
   ·exact jhe h (by omega)
   ·exact MdZ_m0 _
theorem jtn {s:List UInt8} (hs:s.length≤2000000):callL pg 369 [.str (bA s)] []=some (B true,[]):=by
 have hP:=jsz (gh:=[]) hs
 have hR:=jtf (gh:=[]) hs
 have hB:=jtk
 have hS:=jtl (gh:=[]) (jtm s)
 generalize (parseE s).2.1=n at *
 generalize (parseE s).2.2=e at *
 generalize (parseE s).1=m at *
 rw[jg6] at hP hR hS
 simp only[LN,LP,LI] at hP hR hS
 generalize m.nodes.map nodeV=q0 at *
 generalize m.inits.map andV=q1 at *
 generalize m.nexts.map andV=q2 at *
 generalize m.bads.map I=q3 at *
 generalize m.holds.map I=q4 at *
 refine jfm (fn:=q5l) (s:=⟨[(2,B true)],[],[]⟩) rfl rfl (qdt_ ?h1) ?r1
 case h1=>simp[qdt,hP,hR,hB,hS]
 case r1=>simp[finish,results,q5l,resOfs,resOf,resOk]
abbrev insTextParses:List (Bool×List CS):=[(false,[.str])]
theorem jto (qs:List PV) (h:argsTy insTextParses qs) (hn:bulkPs qs≤1048576):callL pg 369 qs []=some (B true,[]):=by
 obtain⟨_,_,rfl,h0,h⟩:=jqw h
 obtain rfl:=jqx h
 obtain⟨q,ps,hq,h2,h3⟩:=jqy h0
 cases jqz h3
 simp only[List.cons.injEq,and_true] at hq
 subst hq
 unfold csOk at h2
 obtain⟨s,rfl,-⟩:=h2
 simp only[bulkPs] at hn
 have hbs:bulkP (.str s)=s.size+1:=rfl
 have hsz:s=bA s.data.toList:=rfl
 have hl:s.data.toList.length≤1048576:=by
  have:s.data.toList.length=s.size:=rfl
  omega
 rw[hsz]
 exact jtn (by omega)
end Go.Lw
end
