/-
  The texts that the proof stands on, part 15.
-/
import Derived.Test.YtmodipglnngghacGreatDoorTextParsesN
import Derived.Laws.Strings
set_option linter.unusedVariables false
set_option linter.unusedSimpArgs false
set_option linter.unnecessarySimpa false

/-! Traces as texts: read, the program's way of a line's numbers. -/
section
namespace Go.Lw
open Go
theorem strEq (x y:List UInt8):(ByteArray.toList (bA x)==ByteArray.toList (bA y))=decide (x=y):=by
 rw[ByteArray.toList_eq,ByteArray.toList_eq]
 show (x==y)=_
 by_cases h:x=y<;>simp[h]
theorem jrr {l:List UInt8} {v:Int} (h:Lib.atoiAll l= .ok v): -9223372036854775808≤v∧v≤9223372036854775807:=by
 unfold Lib.atoiAll at h
 split at h
 ·cases h
 ·simp only at h
  split at h
  ·cases h
  ·cases h
  ·split at h
   ·cases h
   ·split at h
    ·cases h
    ·injection h with h
     split at h<;>omega
theorem jgr (c:UInt8):∀l:List UInt8,1≤(splitK c l).length∧(splitK c l).length≤l.length+1
 |[]=>by simp[splitK]
 | b::r=>by
  have ih:=jgr c r
  rw[splitK]
  split
  ·simp;omega
  ·split
   ·simp
   ·rename_i x l h
    rw[h] at ih
    simp at ih ⊢;omega
theorem jjg (c:UInt8):∀l:List UInt8,∀x∈splitK c l,x.length≤l.length
 |[],x,h=>by simp[splitK] at h;simp[h]
 | b::r,x,h=>by
  have ih:=jjg c r
  rw[splitK] at h
  split at h
  ·rcases List.mem_cons.1 h with rfl|h
   ·simp
   ·have:=ih x h;simp;omega
  ·split at h
   ·simp at h;subst h;simp
   ·rename_i y l hs
    rw[hs] at ih
    rcases List.mem_cons.1 h with rfl|h
    ·have:=ih y (by simp);simp;omega
    ·have:=ih x (by simp[h]);simp;omega
section
variable {gh:List GObj}
theorem jrs {x:List UInt8} (hx:x.length≤3000000):callL pg 263 [.str (bA x)] gh=match Lib.atoiAll x with
  | .ok v=>some (.tup [I v,.nilI],gh)
  | .range=>some (.tup [I (Lib.atoiSat x),.someI],gh)
  | _ =>some (.tup [I 0,.someI],gh):=by
 have:callL pg 263 [.str (bA x)] gh=libAtoi [.str (bA x)] gh:=rfl
 have hz:(bA x).size≤281474976710656:=by simp[ByteArray.size];omega
 rw[this,libAtoi,if_pos hz]
 rfl
theorem jrt {c:UInt8} {x:List UInt8} (hx:x.length≤3000000):callL pg 262 [.str (bA x),.str (bA [c])] gh=some (.sl false 1 ((splitK c x).map fun x=> .str (bA x)),gh):=by
 have:callL pg 262 [.str (bA x),.str (bA [c])] gh=libSplit [.str (bA x),.str (bA [c])] gh:=rfl
 have hz:(bA x).size<4294967281:=by simp[ByteArray.size];omega
 rw[this,libSplit]
 exact if_pos hz
theorem jru {c:UInt8} {x:List UInt8} (hx:x.length≤3000000):callL pg 255 [.str (bA x),.str (bA [c])] gh=some (.tup [.str (bA (cutK c x).1),.str (bA (cutK c x).2.1),.bool (cutK c x).2.2],gh):=by
 have:callL pg 255 [.str (bA x),.str (bA [c])] gh=libCut [.str (bA x),.str (bA [c])] gh:=rfl
 have hz:(bA x).size<4294967281:=by simp[ByteArray.size];omega
 rw[this,libCut]
 exact if_pos hz
end
end Go.Lw
end

/-! Traces as texts: the document's Cut and Undigit. -/
section
namespace Go.Lw
open Go
theorem bA_get (s:List UInt8) (n:Nat):(bA s)[n]?=s[n]?:=by
 by_cases h:n<s.length
 ·have h2:n<(bA s).size:=by simpa [ByteArray.size] using h
  rw[getElem?_pos (bA s) n h2,List.getElem?_eq_getElem h]
  rfl
 ·have h2:¬n<(bA s).size:=by simpa [ByteArray.size] using h
  rw[getElem?_neg (bA s) n h2,List.getElem?_eq_none (by omega)]
theorem jlv (s:List UInt8) (i j:Nat):(bA s).extract i j=bA ((s.take j).drop i):=by
 apply ByteArray.ext
 rw[ByteArray.data_extract]
 simp[List.drop_take]
theorem jlw {c:UInt8}:∀{l:List UInt8},c∉l→splitK c l=[l]
 |[],_=>rfl
 |b::l,h=>by
  simp only[List.mem_cons,not_or] at h
  rw[splitK,if_neg (Ne.symm h.1),jlw h.2]
theorem jlx {c:UInt8} {q:List UInt8}:∀{p:List UInt8},c∉p→splitK c (p++c::q)=p::splitK c q
 |[],_=>by simp[splitK]
 |b::p,h=>by
  simp only[List.mem_cons,not_or] at h
  rw[List.cons_append,splitK,if_neg (Ne.symm h.1),jlx h.2]
section
variable {gh:List GObj}
abbrev SL8 (xs:List (List UInt8)):List PV:=xs.map fun x=> .str (bA x)
theorem rc_k1 {s:List UInt8} {c:Int} {out:List PV} {f i:Nat} (hi:i≤3000000) :
  runL pg q3a ⟨[(0,.str (bA s)),(1,.int .u8 c),(5,.sl true 1 out),(6,I f),(7,I i)],[],gh⟩=some (.normal,⟨[(0,.str (bA s)),(1,.int .u8 c),(5,.sl true 1 out),(6,I f),(7,I ((i+1:Nat):Int))],[],gh⟩):=by
 have hwr:IntKind.i64.wrap ((i:Int)+1)=((i+1:Nat):Int):=jg9 (by simp only[Sz];omega)
 refine qcd_ ?_
 simp only[qcd,hwr,stK_sl]
theorem jjh {s:List UInt8} {c:UInt8} (hs:s.length≤2000000):∀(q a p:List UInt8) (out:List (List UInt8)),c∉p→s=a++(p++q)→out.length≤a.length→
  ∃(out':List (List UInt8)) (f:Nat),runL pg q7c ⟨[(0,.str (bA s)),(1,.int .u8 c.toNat),(5,.sl true 1 (SL8 out)),(6,I a.length),(7,I ((a.length+p.length:Nat):Int))],[],gh⟩=
   some (.normal,⟨[(0,.str (bA s)),(5,.sl true 1 (SL8 out')),(6,I f)],[],gh⟩)∧f≤s.length∧out'.length≤s.length∧out'++[s.drop f]=out++splitK c (p++q)
 | [],a,p,out,hp,he,ho=>by
  rw[List.append_nil] at he ⊢
  have hlen:s.length=a.length+p.length:=by rw[he];simp
  have hlt:decide (((a.length+p.length:Nat):Int)<(((bA s).size:Nat):Int))=false:=decide_eq_false (by rw[jg8];omega)
  refine⟨out,a.length,?_,by omega,by omega,?_⟩
  ·refine (jfr (s1:=?s1) (q4l_ ?h1)).trans ?r1
   case h1=>simp only[q4l,hlt,jg3,stK_sl];rfl
   case r1=>simp[keep,stays]
  ·rw[jlw hp,he,List.drop_left]
 | b ::q,a,p,out,hp,he,ho=>by
  have hlen:s.length=a.length+(p.length+(q.length+1)):=by rw[he];simp
  have hlt:decide (((a.length+p.length:Nat):Int)<(((bA s).size:Nat):Int))=true:=decide_eq_true (by rw[jg8];omega)
  have hg:(bA s)[a.length+p.length]?=some b:=by
   rw[bA_get,he,←List.append_assoc,List.getElem?_append_right (by simp),List.length_append,Nat.sub_self];rfl
  have h0:decide (0≤((a.length+p.length:Nat):Int))=true:=decide_eq_true (by omega)
  by_cases hb:b=c
  ·subst hb
   have hwr:IntKind.i64.wrap (((a.length+p.length:Nat):Int)+1)=((a.length+p.length+1:Nat):Int):=jg9 (by simp only[Sz];omega)
   have hex:(bA s).extract a.length (a.length+p.length)=bA p:=by
    rw[jlv,he]
    congr 1
    rw[←List.append_assoc,List.take_left' (by simp),List.drop_left]
   have hmx:((SL8 out).length+1)*16≤maxBytes:=by
    have:maxBytes=140737488355328:=rfl
    rw[List.length_map];omega
   have hk:=rc_k1 (gh:=gh) (s:=s) (c:=(b.toNat:Int)) (out:=SL8 (out++[p])) (f:=a.length+p.length+1) (i:=a.length+p.length) (by omega)
   obtain⟨out',f,e1,e2,e3,e4⟩:=jjh (c:=b) hs q (a++p++[b]) [] (out++[p]) (by simp) (by rw[he];simp) (by simp;omega)
   refine⟨out',f,?_,e2,e3,?_⟩
   ·have ea:(a++p++[b]).length=a.length+p.length+1:=by simp;omega
    rw[ea] at e1
    rw[List.length_nil,Nat.add_zero] at e1
    rw[←e1]
    have hsn:SL8 (out++[p])=SL8 out++[.str (bA p)]:=by simp[SL8]
    rw[hsn] at hk ⊢
    have hle:decide (a.length≤a.length+p.length∧a.length+p.length≤(bA s).size)=true:=decide_eq_true ⟨by omega,by rw[jg8];omega⟩
    generalize SL8 out=O at *
    generalize hi:a.length+p.length=i at *
    obtain⟨u,hu⟩:∃u:Int,((i+1:Nat):Int)=u:=⟨_,rfl⟩
    rw[hu] at hk hwr ⊢
    refine jfn (s1:=⟨[(0,.str (bA s)),(1,.int .u8 b.toNat),(5,.sl true 1 (O++[.str (bA p)])),(6,I u),(7,I u)],[],gh⟩) (q4l_ ?h2) rfl
    case h2=>
     simp only[q4l,hlt,jgq,h0,Int.toNat_natCast,hg,jgn,jgp,beq_self_eq_true,jg4,jls,jlr,hle,hex,apX_sl,hmx,stK_sl,List.length_singleton,and_self,decide_true,hwr]
     simp[hk]
   ·rw[e4,List.nil_append,jlx hp];simp
  ·have hne:((b.toNat:Int)==(c.toNat:Int))=false:=by
    apply beq_eq_false_iff_ne.2
    intro h
    exact hb (UInt8.toNat_inj.1 (by omega))
   have hk:=rc_k1 (gh:=gh) (s:=s) (c:=(c.toNat:Int)) (out:=SL8 out) (f:=a.length) (i:=a.length+p.length) (by omega)
   obtain⟨out',f,e1,e2,e3,e4⟩:=jjh (c:=c) hs q a (p++[b]) out (by simp[hp,Ne.symm hb]) (by rw[he];simp) ho
   refine⟨out',f,?_,e2,e3,?_⟩
   ·have ea:a.length+(p++[b]).length=a.length+p.length+1:=by simp;omega
    rw[ea] at e1
    rw[←e1]
    generalize SL8 out=O at *
    generalize hi:a.length+p.length=i at *
    refine jfn (s1:=⟨[(0,.str (bA s)),(1,.int .u8 c.toNat),(5,.sl true 1 O),(6,I a.length),(7,I ((i+1:Nat):Int))],[],gh⟩) (q4l_ ?h3) rfl
    case h3=>
     simp only[q4l,hlt,jgq,h0,Int.toNat_natCast,hg,jgn,jgp,hne,jg4,jg3,stK_sl]
     simp[hk]
   ·rw[e4];simp
theorem jly {s:List UInt8} {c:UInt8} (hs:s.length≤2000000):callL pg 380 [.str (bA s),.int .u8 c.toNat] gh=some (.sl false 1 (SL8 (splitK c s)),gh):=by
 obtain⟨out',f,e1,e2,e3,e4⟩:=jjh (gh:=gh) (c:=c) hs s [] [] [] (by simp) rfl (by simp)
 simp only[List.length_nil,Nat.add_zero,Int.natCast_zero,List.nil_append,SL8,List.map_nil] at e1 e4
 have hex:(bA s).extract f (bA s).size=bA (s.drop f):=by
  rw[jlv,jg8,List.take_length]
 have hmx:((out'.map fun x=>PV.str (bA x)).length+1)*16≤maxBytes:=by
  have:maxBytes=140737488355328:=rfl
  rw[List.length_map];omega
 have hL:SL8 (splitK c s)=(out'.map fun x=>PV.str (bA x))++[.str (bA (s.drop f))]:=by
  rw[←e4];simp[SL8]
 rw[hL]
 have hnb:∀xs:List (List UInt8),noGs (xs.map fun x=>PV.str (bA x))=true:=by
  intro xs
  induction xs with
  |nil=>rfl
  |cons a l ih=>exact ih
 have hnb2:noGs ((out'.map fun x=>PV.str (bA x))++[.str (bA (s.drop f))])=true:=by
  have:=hnb (out'++[s.drop f])
  simpa using this
 have hle:decide (f≤(bA s).size∧(bA s).size≤(bA s).size)=true:=decide_eq_true ⟨by rw[jg8];omega,Nat.le_refl _⟩
 have h0:decide (0≤(f:Int))=true:=decide_eq_true (by omega)
 generalize (out'.map fun x=>PV.str (bA x))=O at *
 have hk:runL pg q4d ⟨[(0,.str (bA s)),(5,.sl true 1 O),(6,I f)],[],gh⟩=some (.ret,⟨[(4,.sl true 1 (O++[.str (bA (s.drop f))]))],[],gh⟩):=by
  refine qce_ ?_
  simp only[qce,jls,jrm,jlr,h0,jgn,Int.toNat_natCast,hle,hex,apX_sl,hmx,List.length_singleton,and_self,decide_true]
 refine jfm (fn:=q7d) (s:=?s1) rfl rfl (qcf_ ?h1) ?r1
 case h1=>simp[qcf,e1,hk];rfl
 case r1=>simp[finish,results,q7d,resOfs,resOf,resOk,hnb2]
end
end Go.Lw
end

/-! Traces as texts: the document's Undigit. -/
section
namespace Go.Lw
open Go
def undF:Int→List UInt8→Int
 |n,[]=>n
 |n,b::r=>if b.toNat<48∨57<b.toNat then -1 else undF (10*n+b.toNat-48) r
theorem jgx {n:Int} {b:UInt8} {r:List UInt8} (h:b.toNat<48∨57<b.toNat):undF n (b::r)= -1:=by rw[undF,if_pos h]
theorem jha {n:Int} {b:UInt8} {r:List UInt8} (h:¬(b.toNat<48∨57<b.toNat)):undF n (b::r)=undF (10*n+b.toNat-48) r:=by rw[undF,if_neg h]
def undK (x:List UInt8):Int:=
 if x=[]∨9<x.length∨(1<x.length∧x.head?=some 48) then -1 else undF 0 x
section
variable {gh:List GObj}
theorem jm2 {x:List UInt8} (hx:x.length≤9):∀(k i:Nat) (n:Int),i+k=x.length→0≤n→n<10^i→
  runL pg q4e ⟨[(0,.str (bA x)),(3,I n),(4,I i)],[],gh⟩=
   if undF n (x.drop i)= -1 then some (.ret,⟨[(2,I (-1))],[],gh⟩) else some (.normal,⟨[(3,I (undF n (x.drop i)))],[],gh⟩)
 |0,i,n,hk,h0,h1=>by
  have hlt:decide ((i:Int)<(((bA x).size:Nat):Int))=false:=decide_eq_false (by rw[jg8];omega)
  rw[List.drop_eq_nil_of_le (by omega),undF,if_neg (by omega)]
  refine (jfr (s1:=?s1) (q3j_ ?h1)).trans ?r1
  case h1=>simp only[q3j,hlt,jg3];rfl
  case r1=>simp[keep,stays]
 | k+1,i,n,hk,h0,h1=>by
  have hlt0:i<x.length:=by omega
  have hlt:decide ((i:Int)<(((bA x).size:Nat):Int))=true:=decide_eq_true (by rw[jg8];omega)
  have hg:(bA x)[i]?=some x[i]:=by rw[bA_get,List.getElem?_eq_getElem hlt0]
  have hz:decide (0≤(i:Int))=true:=decide_eq_true (by omega)
  rw[List.drop_eq_getElem_cons hlt0]
  have hb:=(x[i]).toNat_lt
  generalize x[i]=b at *
  by_cases hlo:b.toNat<48
  ·rw[jgx (.inl hlo),if_pos rfl]
   have hd:decide (((b.toNat:Nat):Int)<48)=true:=decide_eq_true (by omega)
   refine lp_ret (q3j_ ?h2)
   case h2=>simp only[q3j,hlt,jg4,jgq,hz,jgn,Int.toNat_natCast,hg,jgp,hd]
  by_cases hhi:57<b.toNat
  ·rw[jgx (.inr hhi),if_pos rfl]
   have hd:decide (((b.toNat:Nat):Int)<48)=false:=decide_eq_false (by omega)
   have hd2:decide (57<((b.toNat:Nat):Int))=true:=decide_eq_true (by omega)
   refine lp_ret (q3j_ ?h3)
   case h3=>simp only[q3j,hlt,jg4,jg3,jgq,hz,jgn,Int.toNat_natCast,hg,jgp,hd,hd2]
  rw[jha (by omega)]
  have hd:decide (((b.toNat:Nat):Int)<48)=false:=decide_eq_false (by omega)
  have hd2:decide (57<((b.toNat:Nat):Int))=false:=decide_eq_false (by omega)
  have hp:(10:Int)^i≤1000000000:=by
   have:∀v:Fin 10,(10:Int)^v.val≤1000000000:=by decide
   exact this ⟨i,by omega⟩
  have hp2:(10:Int)^(i+1)=10*10^i:=by rw[Int.pow_succ,Int.mul_comm]
  have w1:IntKind.i64.wrap (10*n)=10*n:=jfp (by omega) (by omega)
  have w2:IntKind.i64.wrap ((b.toNat:Nat):Int)=((b.toNat:Nat):Int):=jfp (by omega) (by omega)
  have w3:IntKind.i64.wrap (10*n+((b.toNat:Nat):Int))=10*n+((b.toNat:Nat):Int):=jfp (by omega) (by omega)
  have w4:IntKind.i64.wrap (10*n+((b.toNat:Nat):Int)-48)=10*n+((b.toNat:Nat):Int)-48:=jfp (by omega) (by omega)
  have hwr:IntKind.i64.wrap ((i:Int)+1)=((i+1:Nat):Int):=jg9 (by simp only[Sz];omega)
  have ih:=jm2 hx k (i+1) (10*n+((b.toNat:Nat):Int)-48) (by omega) (by omega) (by omega)
  rw[←ih]
  refine jfn (s1:=⟨[(0,.str (bA x)),(3,I (10*n+((b.toNat:Nat):Int)-48)),(4,I ((i+1:Nat):Int))],[],gh⟩) (q3j_ ?h4) rfl
  case h4=>simp only[q3j,hlt,jg4,jg3,jgq,hz,jgn,Int.toNat_natCast,hg,jgp,hd,hd2,w1,w2,w3,w4,hwr]
theorem jjj {x:List UInt8}:callL pg 381 [.str (bA x)] gh=some (I (undK x),gh):=by
 have he:=strEq x []
 rw[←emptyBA] at he
 unfold undK
 by_cases h1:x=[]
 ·rw[if_pos (.inl h1)]
  rw[decide_eq_true h1] at he
  refine jfm (fn:=qh) (s:=?s1) rfl rfl (q1c_ ?h1) ?r1
  case h1=>simp only[q1c,he,jg4];rfl
  case r1=>simp[finish,results,qh,resOfs,resOf,resOk]
 rw[decide_eq_false h1] at he
 by_cases h2:9<x.length
 ·rw[if_pos (.inr (.inl h2))]
  have hd:decide (9<(((bA x).size:Nat):Int))=true:=decide_eq_true (by rw[jg8];omega)
  refine jfm (fn:=qh) (s:=?s2) rfl rfl (q1c_ ?h2) ?r2
  case h2=>simp only[q1c,he,hd,jg4,jg3];rfl
  case r2=>simp[finish,results,qh,resOfs,resOf,resOk]
 have hd:decide (9<(((bA x).size:Nat):Int))=false:=decide_eq_false (by rw[jg8];omega)
 obtain⟨b,r,rfl⟩:∃b r,x=b::r:=by
  cases x with
  |nil=>exact absurd rfl h1
  |cons b r=>exact⟨b,r,rfl⟩
 have hg:(bA (b::r))[0]?=some b:=by rw[bA_get];rfl
 have hl:=jm2 (gh:=gh) (x:=b::r) (by omega) (b::r).length 0 0 (by omega) (by omega) (by decide)
 rw[List.drop_zero,Int.natCast_zero] at hl
 by_cases h3:1<(b::r).length
 ·have hd3:decide (1<(((bA (b::r)).size:Nat):Int))=true:=decide_eq_true (by rw[jg8];omega)
  by_cases h4:b=48
  ·rw[if_pos (.inr (.inr ⟨h3,by rw[h4];rfl⟩))]
   have hb:(((b.toNat:Nat):Int)==48)=true:=by rw[h4];rfl
   refine jfm (fn:=qh) (s:=?s3) rfl rfl (q1c_ ?h3) ?r3
   case h3=>simp only[q1c,he,hd,hd3,jg4,jg3,jgq,show decide ((0:Int)≤0)=true from rfl,jgn,show (0:Int).toNat=0 from rfl,hg,jgp,hb];rfl
   case r3=>simp[finish,results,qh,resOfs,resOf,resOk]
  ·rw[if_neg (by
    rintro (h|h|⟨_,h⟩)
    ·exact h1 h
    ·exact h2 h
    ·simp at h;exact h4 h)]
   have hb:(((b.toNat:Nat):Int)==48)=false:=beq_eq_false_iff_ne.2 (fun h=>h4 (UInt8.toNat_inj.1 (by show b.toNat=48;omega)))
   by_cases h5:undF 0 (b::r)= -1
   ·rw[if_pos h5] at hl
    rw[h5]
    refine jfm (fn:=qh) (s:=⟨[(2,I (-1))],[],gh⟩) rfl rfl (q1c_ ?h4) ?r4
    case h4=>simp only[q1c,he,hd,hd3,jg4,jg3,jgq,show decide ((0:Int)≤0)=true from rfl,jgn,show (0:Int).toNat=0 from rfl,hg,jgp,hb,hl,jh8,nx_ret]
    case r4=>simp[finish,results,qh,resOfs,resOf,resOk]
   ·rw[if_neg h5] at hl
    generalize undF 0 (b::r)=v at *
    have hk:runL pg q23 ⟨[(3,I v)],[],gh⟩=some (.ret,⟨[(2,I v)],[],gh⟩):=qem_ rfl
    refine jfm (fn:=qh) (s:=⟨[(2,I v)],[],gh⟩) rfl rfl (q1c_ ?h5) ?r5
    case h5=>simp only[q1c,he,hd,hd3,jg4,jg3,jgq,show decide ((0:Int)≤0)=true from rfl,jgn,show (0:Int).toNat=0 from rfl,hg,jgp,hb,hl,jh8,jjf,hk]
    case r5=>simp[finish,results,qh,resOfs,resOf,resOk]
 ·have hd3:decide (1<(((bA (b::r)).size:Nat):Int))=false:=decide_eq_false (by rw[jg8];omega)
  rw[if_neg (by
   rintro (h|h|⟨h,_⟩)
   ·exact h1 h
   ·exact h2 h
   ·exact h3 h)]
  by_cases h5:undF 0 (b::r)= -1
  ·rw[if_pos h5] at hl
   rw[h5]
   refine jfm (fn:=qh) (s:=⟨[(2,I (-1))],[],gh⟩) rfl rfl (q1c_ ?h6) ?r6
   case h6=>simp only[q1c,he,hd,hd3,jg4,jg3,hl,jh8,nx_ret]
   case r6=>simp[finish,results,qh,resOfs,resOf,resOk]
  ·rw[if_neg h5] at hl
   generalize undF 0 (b::r)=v at *
   have hk:runL pg q23 ⟨[(3,I v)],[],gh⟩=some (.ret,⟨[(2,I v)],[],gh⟩):=qem_ rfl
   refine jfm (fn:=qh) (s:=⟨[(2,I v)],[],gh⟩) rfl rfl (q1c_ ?h7) ?r7
   case h7=>simp only[q1c,he,hd,hd3,jg4,jg3,hl,jh8,jjf,hk]
   case r7=>simp[finish,results,qh,resOfs,resOf,resOk]
end
theorem jjk:∀{r:List UInt8} {n:Int},0≤n→undF n r≠ -1→n*10^r.length≤undF n r
 |[],n,h0,_=>by simp[undF]
 |b::r,n,h0,h=>by
  rw[undF] at h ⊢
  split at h
  ·exact absurd rfl h
  rename_i hb
  rw[if_neg hb]
  have ih:=jjk (r:=r) (n:=10*n+b.toNat-48) (by omega) h
  refine Int.le_trans ?_ ih
  rw[List.length_cons,Int.pow_succ,Int.mul_comm (10^r.length) 10,←Int.mul_assoc]
  exact Int.mul_le_mul_of_nonneg_right (by omega) (Int.pow_nonneg (by decide))
end Go.Lw
end

/-! Traces as texts: the program's Parse. -/
section
namespace Go.Lw
open Go
theorem jmr (c:UInt8):∀l:List UInt8,(cutK c l=(l,[],false)∧splitK c l=[l])∨∃x r,cutK c l=(x,r,true)∧splitK c l=x::splitK c r∧l=x++c::r
 |[]=> .inl ⟨rfl,rfl⟩
 | b::l=>by
  rw[cutK,splitK]
  by_cases h:b=c
  ·rw[if_pos h,if_pos h];subst h
   exact .inr ⟨[],l,rfl,rfl,rfl⟩
  ·rw[if_neg h,if_neg h]
   rcases jmr c l with ⟨h1,h2⟩|⟨x,r,h1,h2,h3⟩
   ·rw[h1,h2];exact .inl ⟨rfl,rfl⟩
   ·rw[h1,h2,h3];exact .inr ⟨b::x,r,rfl,rfl,rfl⟩
theorem jms (c:UInt8) (l:List UInt8):∃y t,splitK c l=y::t:=by
 have:=(jgr c l).1
 match h:splitK c l with
 |[]=>rw[h] at this;simp at this
 |y::t=>exact⟨y,t,rfl⟩
section
variable {gh:List GObj}
end
end Go.Lw
end

/-! Traces as texts: the program's Parse, whole. -/
section
namespace Go.Lw
open Go
section
variable {gh:List GObj}
theorem jhq (l:List Int):noGs (l.map I)=true:=by
 induction l with
 |nil=>rfl
 |cons a l ih=>exact ih
end
end Go.Lw
end

/-! slices.Clone: what it answers, shown of its code. -/
section
namespace Go.Lw
open Go Go.RowKit
section
variable {fi:FI} {M M':Mem} {w w':World} {P:Program} {s s':St} {a:Act} {cf:CallF}
theorem jub {ops:Array Oper} {Q:Exit→Act→World→Prop} {o:Oper} {rest:List Oper} (h:if Region.wanted o (yielded ops a.tmps) then o.wp P a w (wpList P ops Q rest) Q else wpList P ops Q rest (a.put o.dst undef) w):wpList P ops Q (o::rest) a w:=by
 unfold wpList
 split
 ·rename_i hw;rw[if_pos hw] at h;exact .inl h
 ·rename_i hw;rw[if_neg hw] at h;exact h
end
end Go.Lw
end
