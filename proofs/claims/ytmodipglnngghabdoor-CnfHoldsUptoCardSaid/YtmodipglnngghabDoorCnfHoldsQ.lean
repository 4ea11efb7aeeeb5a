/-
  The texts that the proof stands on, part 17.
-/
import Derived.Test.YtmodipglnngghabDoorCnfHoldsP
import Derived.Sort.Grow
import Derived.KernelRfl
set_option linter.unusedVariables false
set_option linter.unusedSimpArgs false
set_option linter.unnecessarySimpa false

/-! A stack of numbers, handed over as a row of cells. -/
section
namespace Go.Lw
open Go Go.Sort
section
variable {fi:FI} {M M':Mem} {w w' W:World} {P:Program}
theorem j9t {b k:Nat} (h:W.heap[b]?=w.heap[b]?):W.cell? ⟨b,k,none⟩=w.cell? ⟨b,k,none⟩:=by
 simp[World.cell?,h]
end
end Go.Lw
end

/-! The law GatesAnds, of the machine: it answers true. -/
section
namespace Go.Lw
open Go
section
variable {ins:Int} {ands:List (Int×Int)} {gh:List GObj}
end
theorem j9s {g:Bool} {bytes:Nat} {l:List CS} {p:PV} (h:csOk (.slice g bytes l) p):∃xs,p= .sl false l.length xs∧xs.length*bytes≤reachBytes∧∀e∈xs,(g=true∧∃ps,e= .agg ps∧csAll l ps)∨(g=false∧csAll l [e]):=by
 unfold csOk at h;exact h
end Go.Lw
end

/-! The law GatesEvals, of the machine: it answers true. -/
section
namespace Go.Lw
open Go
section
variable {ins:Int} {ands:List (Int×Int)} {gh:List GObj}
end
theorem jc3:∀{xs:List PV},(∀e∈xs,(false=true∧∃ps,e= .agg ps∧csAll [.bool] ps)∨(false=false∧csAll [.bool] [e]))→∃v:List Bool,xs=v.map B
 |[],_=>⟨[],rfl⟩
 | e::xs,h=>by
  obtain⟨v,rfl⟩:=jc3 (xs:=xs) fun e he=>h e (List.mem_cons_of_mem _ he)
  rcases h e (by simp) with ⟨h,-⟩|⟨-,hp⟩
  ·cases h
  ·obtain⟨_,_,e1,g0,hp⟩:=j7z hp
   cases j8o hp
   simp only[List.cons.injEq,and_true] at e1
   subst e1
   unfold csOk at g0
   obtain⟨b,rfl⟩:=g0
   exact⟨b::v,rfl⟩
def RI (l:List Int):Prop:=∀x∈l,-9223372036854775808≤x∧x≤9223372036854775807
theorem jc4:∀{xs:List PV},(∀e∈xs,(false=true∧∃ps,e= .agg ps∧csAll [.int] ps)∨(false=false∧csAll [.int] [e]))→∃v:List Int,RI v∧xs=v.map I
 |[],_=>⟨[],fun x h=>(by cases h),rfl⟩
 | e::xs,h=>by
  obtain⟨v,hr,rfl⟩:=jc4 (xs:=xs) fun e he=>h e (List.mem_cons_of_mem _ he)
  rcases h e (by simp) with ⟨h,-⟩|⟨-,hp⟩
  ·cases h
  ·obtain⟨_,_,e1,g0,hp⟩:=j7z hp
   cases j8o hp
   simp only[List.cons.injEq,and_true] at e1
   subst e1
   obtain⟨b,rfl,hb⟩:=jax g0
   refine⟨b::v,fun x hx=>?_,rfl⟩
   rcases List.mem_cons.1 hx with rfl|hx
   ·exact hb
   ·exact hr x hx
theorem jgs {c:CS} {p:PV} (h:argTy (false,[c]) p):csOk c p:=by
 obtain⟨q,ps,e,h1,h2⟩:=j7z h
 cases j8o h2
 simp only[List.cons.injEq,and_true] at e
 subst e;exact h1
theorem jgt {p:PV} (h:argTy (false,[.slice false 1 [.bool]]) p):∃v:List Bool,p=LB v∧Sz v.length:=by
 obtain⟨xs,rfl,hb,hx⟩:=j9s (jgs h)
 obtain⟨v,rfl⟩:=jc3 hx
 refine⟨v,rfl,?_⟩
 have:reachBytes=140737488351232:=rfl
 simp only[List.length_map] at hb
 simp only[Sz];omega
end Go.Lw
end

/-! ProofFollows: the law answers true. -/
section
namespace Go.Lw
open Go
def clausesC:List CS:=[.int,.slice false 24 [.slice false 8 [.int]]]
theorem jgu {xs:List PV} (h:∀e∈xs,(false=true∧∃ps,e= .agg ps∧csAll [.slice false 8 [.int]] ps)∨(false=false∧csAll [.slice false 8 [.int]] [e])):∃cls:List (List Int),xs=LLp cls∧SL cls:=by
 induction xs with
 |nil=>exact⟨[],rfl,fun l h=>by cases h⟩
 | cons x xs ih=>
  obtain⟨cls,rfl,hs⟩:=ih fun e he=>h e (List.mem_cons_of_mem _ he)
  rcases h x (List.mem_cons_self ..) with ⟨h1,_⟩|⟨_,h1⟩
  ·cases h1
  ·obtain⟨_,_,e,g0,hp⟩:=j7z h1
   injection e with e1 e2
   subst e1;subst e2
   obtain⟨ys,rfl,hb,hy⟩:=j9s g0
   obtain⟨v,_,rfl⟩:=jc4 hy
   refine⟨v::cls,rfl,fun l hl=>?_⟩
   rcases List.mem_cons.1 hl with rfl|hl
   ·have:reachBytes=140737488351232:=rfl
    simp only[List.length_map] at hb
    simp only[Sz];omega
   ·exact hs l hl
theorem jgv {p:PV} (h:argTy (true,clausesC) p):∃vars cls,p=clV vars cls∧SL cls:=by
 obtain⟨ps,rfl,hp⟩:=jfc h
 obtain⟨_,_,rfl,g0,hp⟩:=j7z hp
 obtain⟨_,_,rfl,g1,hp⟩:=j7z hp
 obtain rfl:=j8o hp
 obtain⟨vars,rfl,-⟩:=jax g0
 obtain⟨xs,rfl,hb,hx⟩:=j9s g1
 obtain⟨cls,rfl,hs⟩:=jgu hx
 exact⟨vars,cls,rfl,hs⟩
end Go.Lw
end

/-! SearchIs: the law answers true. -/
section
namespace Go.Lw
open Go
section
variable {gh:List GObj}
abbrev hoSt (vars:Int) (cls:List (List Int)) (v:List Bool) (i:Nat) (b:Bool) (k:Nat) (gh:List GObj):St:=
 ⟨[(1,LB v),(2,.ptr false 0 0),(5,I i),(6,B b),(7,I k)],[[I vars,.sl false 1 (cls.map fun l=>LI l)]],gh⟩
theorem ho_k1 {vars:Int} {cls:List (List Int)} {v:List Bool} {i:Nat} {b:Bool} {k:Nat} (hk:k≤3000000) :
  runL pg qd (hoSt vars cls v i b k gh)=some (.normal,hoSt vars cls v i b (k+1) gh):=by
 have hw:IntKind.i64.wrap ((k:Int)+1)=((k+1:Nat):Int):=j8s (by simp only[Sz];omega)
 generalize (v.map B)=V at *
 exact q65_ (by simp[q65,hw])
theorem ho_l2 {vars:Int} {cls:List (List Int)} {v:List Bool} {i:Nat} {l:List Int} (hi:cls[i]?=some l) (hn:∀n∈l,numIn n v.length) (hv:v.length≤3000000) (hl:l.length≤3000000):∀(d k:Nat) (b:Bool),k+d=l.length→
  runL pg q2w (hoSt vars cls v i b k gh)=some (.normal,⟨[(1,LB v),(2,.ptr false 0 0),(5,I i),(6,B (b||(l.drop k).any (litN v)))],[[I vars,.sl false 1 (cls.map fun l=>LI l)]],gh⟩):=by
 have hx:(cls.map fun l=>LI l)[i]?=some (LI l):=by rw[List.getElem?_map,hi];rfl
 intro d
 induction d with
 | zero=>
  intro k b hk
  rw[List.drop_eq_nil_of_le (by omega)]
  have hlt:¬k<l.length:=by omega
  refine (j7e (s1:=⟨[(1,LB v),(2,.ptr false 0 0),(5,I i),(6,B b),(7,I k),(23,B false)],[[I vars,.sl false 1 (cls.map fun l=>LI l)]],gh⟩) (q1v_ ?h1)).trans ?r1
  case h1=>
   generalize (cls.map fun l=>LI l)=C at *
   generalize (v.map B)=V at *
   simp[q1v,hx,hlt]
  case r1=>simp[keep,stays]
 | succ d ih=>
  intro k b hk
  have hlt:k<l.length:=by omega
  have hltI:(k:Int)<(l.length:Int):=by omega
  have hltL:decide (k<(l.map I).length)=true:=by rw[List.length_map];exact decide_eq_true hlt
  obtain⟨n,hne⟩:∃n,l[k]?=some n:=⟨l[k],List.getElem?_eq_getElem hlt⟩
  have hd:l.drop k=n::l.drop (k+1):=by
   rw[List.drop_eq_getElem_cons hlt]
   rw[List.getElem?_eq_getElem hlt] at hne
   rw[Option.some.inj hne]
  have hnm:n∈l:=List.mem_of_getElem? hne
  have hin:=hn n hnm
  unfold numIn at hin
  have hy:(l.map I)[k]?=some (I n):=by rw[List.getElem?_map,hne];rfl
  have k1:∀b,runL pg qd (hoSt vars cls v i b k gh)=some (.normal,hoSt vars cls v i b (k+1) gh):=fun b=>ho_k1 (by omega)
  rw[hd,List.any_cons,←Bool.or_assoc]
  refine j7d (s1:=hoSt vars cls v i (b||litN v n) (k+1) gh) (q1v_ ?h2) (ih (k+1) _ (by omega))
  case h2=>
   have hb:n≤3000000∧ -3000000≤n:=by omega
   by_cases hp:0<n
   ·have e1:IntKind.i64.wrap (n-1)=n-1:=j7c (by omega) (by omega)
    have hV:(v.map B)[(n-1).toNat]?=some (B (litN v n)):=by
     have h1:(n-1).toNat<v.length:=by omega
     have h2:n.natAbs-1=(n-1).toNat:=by omega
     have h3:v.getD (n.natAbs-1) false=v[(n-1).toNat]:=by rw[h2,List.getD_eq_getElem?_getD,List.getElem?_eq_getElem h1];rfl
     rw[List.getElem?_map,List.getElem?_eq_getElem h1]
     simp only[litN,h3,hp,decide_true,Option.map_some]
     simp
    have hV2:(v.map B)[n.toNat-1]?=some (B (litN v n)):=by rw[←hV];congr 1;omega
    have h02:1≤n:=by omega
    have h0:0≤n-1:=by omega
    simp only[hoSt] at k1 ⊢
    generalize (cls.map fun l=>LI l)=C at *
    simp only[LB,LI] at *
    generalize (v.map B)=V at *
    generalize (l.map I)=L at *
    generalize litN v n=q at *
    cases b<;>simp[q1v,hx,hltL,hy,hp,e1,hV,hV2,h0,h02,k1]<;>rfl
   ·have e1:IntKind.i64.wrap (-n)= -n:=j7c (by omega) (by omega)
    have e2:IntKind.i64.wrap (-n-1)= -n-1:=j7c (by omega) (by omega)
    have hV:(v.map B)[(-n-1).toNat]?=some (B (!litN v n)):=by
     have h1:(-n-1).toNat<v.length:=by omega
     have h2:n.natAbs-1=(-n-1).toNat:=by omega
     have h3:v.getD (n.natAbs-1) false=v[(-n-1).toNat]:=by rw[h2,List.getD_eq_getElem?_getD,List.getElem?_eq_getElem h1];rfl
     rw[List.getElem?_map,List.getElem?_eq_getElem h1]
     simp only[litN,h3,hp,decide_false,Option.map_some]
     simp
    have hV2:(v.map B)[(-n).toNat-1]?=some (B (!litN v n)):=by rw[←hV];congr 1;omega
    have h02:1≤ -n:=by omega
    have h0:0≤ -n-1:=by omega
    simp only[hoSt] at k1 ⊢
    generalize (cls.map fun l=>LI l)=C at *
    simp only[LB,LI] at *
    generalize (v.map B)=V at *
    generalize (l.map I)=L at *
    generalize litN v n=q at *
    cases b<;>simp[q1v,hx,hltL,hy,hp,e1,e2,hV,hV2,h0,h02,k1]<;>rfl
theorem ho_l1 {vars:Int} {cls:List (List Int)} {v:List Bool} (hn:∀l∈cls,∀n∈l,numIn n v.length) (hv:v.length≤3000000) (hl:∀l∈cls,l.length≤3000000) (hc:cls.length≤3000000):∀(d i:Nat),i+d=cls.length→
  runL pg q2x ⟨[(1,LB v),(2,.ptr false 0 0),(5,I i)],[[I vars,.sl false 1 (cls.map fun l=>LI l)]],gh⟩=(if holdB v (cls.drop i) then some (.normal,⟨[],[],gh⟩) else some (.ret,⟨[(4,B false)],[],gh⟩)):=by
 intro d
 induction d with
 | zero=>
  intro i hi
  rw[List.drop_eq_nil_of_le (by omega)]
  simp only[holdB,List.all_nil,if_true]
  have hlt:¬i<cls.length:=by omega
  refine (j7e (s1:=⟨[(1,LB v),(2,.ptr false 0 0),(5,I i),(13,B false)],[[I vars,.sl false 1 (cls.map fun l=>LI l)]],gh⟩) (q1w_ ?h1)).trans ?r1
  case h1=>
   have hCl:(cls.map fun l=>LI l).length=cls.length:=by simp
   generalize (cls.map fun l=>LI l)=C at *
   generalize (v.map B)=V at *
   simp[q1w,hCl,hlt]
  case r1=>simp[keep,stays]
 | succ d ih=>
  intro i hi
  have hlt:i<cls.length:=by omega
  obtain⟨l,hle⟩:∃l,cls[i]?=some l:=⟨cls[i],List.getElem?_eq_getElem hlt⟩
  have hd:cls.drop i=l::cls.drop (i+1):=by
   rw[List.drop_eq_getElem_cons hlt]
   rw[List.getElem?_eq_getElem hlt] at hle
   rw[Option.some.inj hle]
  have hlm:l∈cls:=List.mem_of_getElem? hle
  have h2:=ho_l2 (gh:=gh) (vars:=vars) hle (hn l hlm) hv (hl l hlm) l.length 0 false (by omega)
  rw[List.drop_zero,Bool.false_or] at h2
  have hw:IntKind.i64.wrap ((i:Int)+1)=((i+1:Nat):Int):=j8s (by simp only[Sz];omega)
  have hCl:(cls.map fun l=>LI l).length=cls.length:=by simp
  have hlt2:decide (i<(cls.map fun l=>LI l).length)=true:=by rw[hCl];exact decide_eq_true hlt
  have hih:=ih (i+1) (by omega)
  rw[hd,holdB,List.all_cons]
  cases hq:l.any (litN v) with
  | false=>
   simp only[Bool.false_and,Bool.false_eq_true,if_false]
   rw[hq] at h2
   refine (lp_ret (q1w_ ?h2))
   case h2=>
    have k2:runL pg q17 ⟨[(1,LB v),(2,.ptr false 0 0),(5,I i),(6,B false)],[[I vars,.sl false 1 (cls.map fun l=>LI l)]],gh⟩=some (.ret,⟨[(4,B false)],[],gh⟩):=by
     generalize (v.map B)=V at *
     exact q3q_ (by simp[q3q])
    simp only[hoSt,Int.natCast_zero] at h2
    generalize (cls.map fun l=>LI l)=C at *
    generalize (v.map B)=V at *
    simp[q1w,hlt2,h2,k2]
  | true=>
   simp only[Bool.true_and]
   rw[hq] at h2
   refine j7d (s1:=⟨[(1,LB v),(2,.ptr false 0 0),(5,I ((i+1:Nat):Int))],[[I vars,.sl false 1 (cls.map fun l=>LI l)]],gh⟩) (q1w_ ?h3) hih
   case h3=>
    have k2:runL pg q17 ⟨[(1,LB v),(2,.ptr false 0 0),(5,I i),(6,B true)],[[I vars,.sl false 1 (cls.map fun l=>LI l)]],gh⟩=some (.normal,⟨[(1,LB v),(2,.ptr false 0 0),(5,I i),(55,B false)],[[I vars,.sl false 1 (cls.map fun l=>LI l)]],gh⟩):=by
     generalize (v.map B)=V at *
     exact q3q_ (by simp[q3q])
    have k3:runL pg q18 ⟨[(1,LB v),(2,.ptr false 0 0),(5,I i),(55,B false)],[[I vars,.sl false 1 (cls.map fun l=>LI l)]],gh⟩=some (.normal,⟨[(1,LB v),(2,.ptr false 0 0),(5,I ((i+1:Nat):Int))],[[I vars,.sl false 1 (cls.map fun l=>LI l)]],gh⟩):=by
     generalize (v.map B)=V at *
     exact q66_ (by simp[q66,hw])
    simp only[hoSt,Int.natCast_zero] at h2
    generalize (cls.map fun l=>LI l)=C at *
    generalize (v.map B)=V at *
    simp[q1w,hlt2,h2,k2,k3]<;>rfl
theorem jgw {vars:Int} {cls:List (List Int)} {v:List Bool} (hn:∀l∈cls,∀n∈l,numIn n v.length) (hv:v.length≤3000000) (hl:∀l∈cls,l.length≤3000000) (hc:cls.length≤3000000) :
  callL pg 168 [clV vars cls,LB v] gh=some (B (holdB v cls),gh):=by
 have h1:=ho_l1 (gh:=gh) (vars:=vars) hn hv hl hc cls.length 0 (by omega)
 rw[List.drop_zero] at h1
 have k4:runL pg q1e ⟨[],[],gh⟩=some (.ret,⟨[(4,B true)],[],gh⟩):=q6x_ rfl
 unfold clV
 refine j70 (fn:=q2y) (s:=⟨[(4,B (holdB v cls))],[],gh⟩) rfl rfl (q67_ ?h1) ?r1
 case h1=>
  generalize (cls.map fun l=>LI l)=C at *
  generalize (v.map B)=V at *
  cases hq:holdB v cls<;>rw[hq] at h1<;>simp at h1<;>simp[q67,h1,k4]
 case r1=>simp[finish,results,q2y,resOfs,resOf,resOk,get]
theorem jgx {vars:Int} {cls:List (List Int)} {v:List Bool} (hok:clsE vars cls=0) (hv:(v.length:Int)=vars):(∀l∈cls,∀n∈l,numIn n v.length)∧v.length≤3000000∧(∀l∈cls,l.length≤3000000)∧cls.length≤3000000:=by
 obtain⟨h1,h2,h3⟩:=j8d hok
 refine⟨fun l hl n hn=>?_,by omega,fun l hl=>by have:=(h3 l hl).1;omega,by omega⟩
 have:=(h3 l hl).2 n hn
 unfold numIn
 omega
end
end Go.Lw
end

/-! CnfHolds: the law answers true. -/
section
namespace Go.Lw
open Go
section
variable {vars:Int} {cls:List (List Int)} {v:List Bool}
theorem jgy (hl:SL cls):callL pg 383 [clV vars cls,LB v] []=some (B true,[]):=by
 have hH:=jby (gh:=[]) (vars:=vars) (v:=v) hl
 have hP:=jgq (gh:=[]) (vars:=vars) hl
 have hC:=jgj (gh:=[]) (vars:=vars) (cls:=cls)
 have hK:=j8c (gh:=[]) (vars:=vars) hl
 have hB:=jgp []
 have fin:∀(s:St),s=⟨[(4,B true)],[],[]⟩→runL pg q2k ⟨[(0,clV vars cls),(1,LB v)],[],[]⟩=some (.ret,s)→callL pg 383 [clV vars cls,LB v] []=some (B true,[]):=by
  intro s hs hrun
  subst hs
  refine j70 (fn:=q2l) rfl rfl hrun ?_
  simp[finish,results,q2l,resOfs,resOf,resOk,get]
 have k3:∀(b:Bool) (w f:Int) (X:List UInt8),callL pg 59 [clV vars cls] []=some (I f,[])→
   runL pg qx ⟨[(2,.ptr false 0 0),(5,B b),(6,I w),(7,.str (bA X)),(8,I f),(9,I f),(10,I w),(11,.str (bA X)),(12,B b)],[[I vars,.sl false 1 (cls.map fun l=>LI l)]],[]⟩=some (.ret,⟨[(4,B true)],[],[]⟩):=by
  intro b w f X h
  refine q68_ ?_
  unfold clV at h
  generalize (cls.map fun l=>LI l)=C at *
  simp[q68,hB,h]
 by_cases h0:clsE vars cls=0
 ·obtain⟨h1,h2,h3⟩:=j8d h0
  have hR:=jgr (gh:=[]) (vars:=vars) (by omega) (jc2 h0)
  have k3':=fun b w=>k3 b w 0 (cnfB vars cls) (by rw[hK,h0])
  rw[h0] at hC hK hP
  rw[if_pos rfl] at hP
  unfold holdsE at hH
  rw[if_neg (fun h=>h h0)] at hH
  by_cases hv:(v.length:Int)=vars
  ·rw[if_neg (fun h=>h hv)] at hH
   obtain⟨n1,n2,n3,n4⟩:=jgx h0 hv
   have hO:=jgw (gh:=[]) (vars:=vars) n1 n2 n3 n4
   have k3c:=k3' (holdB v cls) 0
   simp only at hH
   generalize holdB v cls=h at *
   generalize cnfB vars cls=Z at *
   have hVl:(v.map B).length=v.length:=List.length_map _
   have k2:runL pg qc ⟨[(1,LB v),(2,.ptr false 0 0),(5,B h),(6,I 0),(7,.str (bA Z)),(8,I 0),(9,I 0),(10,I 0),(11,.str (bA Z)),(12,B false)],[[I vars,.sl false 1 (cls.map fun l=>LI l)]],[]⟩=some (.ret,⟨[(4,B true)],[],[]⟩):=by
    refine q1y_ ?_
    unfold clV at hO
    generalize (cls.map fun l=>LI l)=C at *
    simp only[LB] at hO ⊢
    generalize v.map B=V at *
    simp[q1y,hO,k3c]
   have k1:runL pg qj ⟨[(1,LB v),(2,.ptr false 0 0),(5,B h),(6,I 0),(7,.str (bA Z)),(8,I 0),(9,I 0),(10,I 0),(11,.str (bA Z)),(12,B false)],[[I vars,.sl false 1 (cls.map fun l=>LI l)]],[]⟩=some (.ret,⟨[(4,B true)],[],[]⟩):=by
    refine q1z_ ?_
    generalize (cls.map fun l=>LI l)=C at *
    simp only[LB] at k2 ⊢
    rw[←hVl] at hv
    generalize v.map B=V at *
    simp[q1z,k2,hv]
   refine fin _ rfl (q20_ ?h1)
   case h1=>
    unfold clV at *
    generalize (cls.map fun l=>LI l)=C at *
    simp only[LB] at *
    generalize v.map B=V at *
    simp[q20,hH,hP,hC,hR,k1]
  ·rw[if_pos hv] at hH
   have k3c:=k3' false 1
   simp only at hH
   generalize cnfB vars cls=Z at *
   have hVl:(v.map B).length=v.length:=List.length_map _
   have k2:runL pg qc ⟨[(1,LB v),(2,.ptr false 0 0),(5,B false),(6,I 1),(7,.str (bA Z)),(8,I 0),(9,I 0),(10,I 1),(11,.str (bA Z)),(12,B false)],[[I vars,.sl false 1 (cls.map fun l=>LI l)]],[]⟩=some (.ret,⟨[(4,B true)],[],[]⟩):=by
    refine q1y_ ?_
    generalize (cls.map fun l=>LI l)=C at *
    simp only[LB] at *
    generalize v.map B=V at *
    simp[q1y,k3c]
   have k1:runL pg qj ⟨[(1,LB v),(2,.ptr false 0 0),(5,B false),(6,I 1),(7,.str (bA Z)),(8,I 0),(9,I 0),(10,I 0),(11,.str (bA Z)),(12,B false)],[[I vars,.sl false 1 (cls.map fun l=>LI l)]],[]⟩=some (.ret,⟨[(4,B true)],[],[]⟩):=by
    refine q1z_ ?_
    generalize (cls.map fun l=>LI l)=C at *
    simp only[LB] at k2 ⊢
    rw[←hVl] at hv
    generalize v.map B=V at *
    simp[q1z,k2,hv]
   refine fin _ rfl (q20_ ?h2)
   case h2=>
    unfold clV at *
    generalize (cls.map fun l=>LI l)=C at *
    simp only[LB] at *
    generalize v.map B=V at *
    simp[q20,hH,hP,hC,hR,k1]
 ·have k3c:=k3 false (clsE vars cls) (clsE vars cls) [] hK
  rw[if_neg h0] at hP
  unfold holdsE at hH
  rw[if_pos h0] at hH
  simp only at hH
  generalize clsE vars cls=e at *
  have k2:runL pg qc ⟨[(1,LB v),(2,.ptr false 0 0),(5,B false),(6,I e),(7,.str (bA [])),(8,I e),(9,I e),(10,I e),(11,.str (bA [])),(12,B false)],[[I vars,.sl false 1 (cls.map fun l=>LI l)]],[]⟩=some (.ret,⟨[(4,B true)],[],[]⟩):=by
   refine q1y_ ?_
   generalize (cls.map fun l=>LI l)=C at *
   simp only[LB] at *
   generalize v.map B=V at *
   simp[q1y,h0,k3c]
  have k1:runL pg qj ⟨[(1,LB v),(2,.ptr false 0 0),(5,B false),(6,I e),(7,.str (bA [])),(8,I e),(9,I e),(10,I e),(11,.str (bA [])),(12,B false)],[[I vars,.sl false 1 (cls.map fun l=>LI l)]],[]⟩=some (.ret,⟨[(4,B true)],[],[]⟩):=by
   refine q1z_ ?_
   generalize (cls.map fun l=>LI l)=C at *
   simp only[LB] at *
   generalize v.map B=V at *
   simp[q1z,h0,k2]
  refine fin _ rfl (q20_ ?h3)
  case h3=>
   unfold clV at *
   have e0:ByteArray.empty=bA []:=rfl
   rw[←e0] at hP k1
   generalize (cls.map fun l=>LI l)=C at *
   simp only[LB] at *
   generalize v.map B=V at *
   simp[q20,hH,hP,hC,h0,k1]
end
abbrev insCnfHolds:List (Bool×List CS):=[(true,clausesC),(false,[.slice false 1 [.bool]])]
theorem jgz (qs:List PV) (h:argsTy insCnfHolds qs) (hn:bulkPs qs≤1048576):callL pg 383 qs []=some (B true,[]):=by
 obtain⟨_,_,rfl,h0,h⟩:=jaw h
 obtain⟨_,_,rfl,h1,h⟩:=jaw h
 obtain rfl:=jfb h
 obtain⟨vars,cls,rfl,hl⟩:=jgv h0
 obtain⟨v,rfl,hv⟩:=jgt h1
 exact jgy hl
end Go.Lw
end
