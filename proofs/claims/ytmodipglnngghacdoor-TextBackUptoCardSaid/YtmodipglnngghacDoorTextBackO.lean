/-
  The texts that the proof stands on, part 15.
-/
import Derived.Test.YtmodipglnngghacDoorTextBackN
import Derived.Laws.Strings
set_option linter.unusedVariables false
set_option linter.unusedSimpArgs false
set_option linter.unnecessarySimpa false

/-! Traces as texts: read, the program's way of a line's numbers. -/
section
namespace Go.Lw
open Go
theorem jmr {l:List UInt8} {v:Int} (h:Lib.atoiAll l= .ok v): -9223372036854775808≤v∧v≤9223372036854775807:=by
 unfold Lib.atoiAll at h
 split at h
 ·cases h
 ·simp only at h
  split at h
  ·cases h
  ·cases h
  ·split at h
   ·cases h
   ·split at h
    ·cases h
    ·injection h with h
     split at h<;>omega
theorem jbj (c:UInt8):∀l:List UInt8,1≤(splitK c l).length∧(splitK c l).length≤l.length+1
 |[]=>by simp[splitK]
 | b::r=>by
  have ih:=jbj c r
  rw[splitK]
  split
  ·simp;omega
  ·split
   ·simp
   ·rename_i x l h
    rw[h] at ih
    simp at ih ⊢;omega
theorem jh0 (c:UInt8):∀l:List UInt8,∀x∈splitK c l,x.length≤l.length
 |[],x,h=>by simp[splitK] at h;simp[h]
 | b::r,x,h=>by
  have ih:=jh0 c r
  rw[splitK] at h
  split at h
  ·rcases List.mem_cons.1 h with rfl|h
   ·simp
   ·have:=ih x h;simp;omega
  ·split at h
   ·simp at h;subst h;simp
   ·rename_i y l hs
    rw[hs] at ih
    rcases List.mem_cons.1 h with rfl|h
    ·have:=ih y (by simp);simp;omega
    ·have:=ih x (by simp[h]);simp;omega
section
variable {gh:List GObj}
theorem jms {x:List UInt8} (hx:x.length≤3000000):callL pg 263 [.str (bA x)] gh=match Lib.atoiAll x with
  | .ok v=>some (.tup [I v,.nilI],gh)
  | .range=>some (.tup [I (Lib.atoiSat x),.someI],gh)
  | _ =>some (.tup [I 0,.someI],gh):=by
 have:callL pg 263 [.str (bA x)] gh=libAtoi [.str (bA x)] gh:=rfl
 have hz:(bA x).size≤281474976710656:=by simp[ByteArray.size];omega
 rw[this,libAtoi,if_pos hz]
 rfl
theorem jmt {c:UInt8} {x:List UInt8} (hx:x.length≤3000000):callL pg 262 [.str (bA x),.str (bA [c])] gh=some (.sl false 1 ((splitK c x).map fun x=> .str (bA x)),gh):=by
 have:callL pg 262 [.str (bA x),.str (bA [c])] gh=libSplit [.str (bA x),.str (bA [c])] gh:=rfl
 have hz:(bA x).size<4294967281:=by simp[ByteArray.size];omega
 rw[this,libSplit]
 exact if_pos hz
theorem jmu {c:UInt8} {x:List UInt8} (hx:x.length≤3000000):callL pg 255 [.str (bA x),.str (bA [c])] gh=some (.tup [.str (bA (cutK c x).1),.str (bA (cutK c x).2.1),.bool (cutK c x).2.2],gh):=by
 have:callL pg 255 [.str (bA x),.str (bA [c])] gh=libCut [.str (bA x),.str (bA [c])] gh:=rfl
 have hz:(bA x).size<4294967281:=by simp[ByteArray.size];omega
 rw[this,libCut]
 exact if_pos hz
end
end Go.Lw
end

/-! Traces as texts: the document's Cut and Undigit. -/
section
namespace Go.Lw
open Go
theorem jh1 {c:UInt8}:∀{l:List UInt8},c∉l→splitK c l=[l]
 |[],_=>rfl
 |b::l,h=>by
  simp only[List.mem_cons,not_or] at h
  rw[splitK,if_neg (Ne.symm h.1),jh1 h.2]
theorem jd2 {c:UInt8} {q:List UInt8}:∀{p:List UInt8},c∉p→splitK c (p++c::q)=p::splitK c q
 |[],_=>by simp[splitK]
 |b::p,h=>by
  simp only[List.mem_cons,not_or] at h
  rw[List.cons_append,splitK,if_neg (Ne.symm h.1),jd2 h.2]
section
variable {gh:List GObj}
abbrev SL8 (xs:List (List UInt8)):List PV:=xs.map fun x=> .str (bA x)
end
end Go.Lw
end

/-! Traces as texts: the document's Undigit. -/
section
namespace Go.Lw
open Go
def undF:Int→List UInt8→Int
 |n,[]=>n
 |n,b::r=>if b.toNat<48∨57<b.toNat then -1 else undF (10*n+b.toNat-48) r
theorem jca {n:Int} {b:UInt8} {r:List UInt8} (h:b.toNat<48∨57<b.toNat):undF n (b::r)= -1:=by rw[undF,if_pos h]
theorem jcb {n:Int} {b:UInt8} {r:List UInt8} (h:¬(b.toNat<48∨57<b.toNat)):undF n (b::r)=undF (10*n+b.toNat-48) r:=by rw[undF,if_neg h]
def undK (x:List UInt8):Int:=
 if x=[]∨9<x.length∨(1<x.length∧x.head?=some 48) then -1 else undF 0 x
section
variable {gh:List GObj}
end
theorem jei:∀{r:List UInt8} {n:Int},0≤n→undF n r≠ -1→n*10^r.length≤undF n r
 |[],n,h0,_=>by simp[undF]
 |b::r,n,h0,h=>by
  rw[undF] at h ⊢
  split at h
  ·exact absurd rfl h
  rename_i hb
  rw[if_neg hb]
  have ih:=jei (r:=r) (n:=10*n+b.toNat-48) (by omega) h
  refine Int.le_trans ?_ ih
  rw[List.length_cons,Int.pow_succ,Int.mul_comm (10^r.length) 10,←Int.mul_assoc]
  exact Int.mul_le_mul_of_nonneg_right (by omega) (Int.pow_nonneg (by decide))
end Go.Lw
end

/-! Traces as texts: the program's Parse. -/
section
namespace Go.Lw
open Go
theorem jet (c:UInt8):∀l:List UInt8,(cutK c l=(l,[],false)∧splitK c l=[l])∨∃x r,cutK c l=(x,r,true)∧splitK c l=x::splitK c r∧l=x++c::r
 |[]=> .inl ⟨rfl,rfl⟩
 | b::l=>by
  rw[cutK,splitK]
  by_cases h:b=c
  ·rw[if_pos h,if_pos h];subst h
   exact .inr ⟨[],l,rfl,rfl,rfl⟩
  ·rw[if_neg h,if_neg h]
   rcases jet c l with ⟨h1,h2⟩|⟨x,r,h1,h2,h3⟩
   ·rw[h1,h2];exact .inl ⟨rfl,rfl⟩
   ·rw[h1,h2,h3];exact .inr ⟨b::x,r,rfl,rfl,rfl⟩
theorem jcf (c:UInt8) (l:List UInt8):∃y t,splitK c l=y::t:=by
 have:=(jbj c l).1
 match h:splitK c l with
 |[]=>rw[h] at this;simp at this
 |y::t=>exact⟨y,t,rfl⟩
section
variable {gh:List GObj}
end
end Go.Lw
end

/-! Traces as texts: the program's Parse, whole. -/
section
namespace Go.Lw
open Go
section
variable {gh:List GObj}
theorem jeu (l:List Int):noGs (l.map I)=true:=by
 induction l with
 |nil=>rfl
 |cons a l ih=>exact ih
end
end Go.Lw
end

/-! slices.Clone: what it answers, shown of its code. -/
section
namespace Go.Lw
open Go Go.RowKit
section
variable {fi:FI} {M M':Mem} {w w':World} {P:Program} {s s':St} {a:Act} {cf:CallF}
theorem jp4 {ops:Array Oper} {Q:Exit→Act→World→Prop} {o:Oper} {rest:List Oper} (h:if Region.wanted o (yielded ops a.tmps) then o.wp P a w (wpList P ops Q rest) Q else wpList P ops Q rest (a.put o.dst undef) w):wpList P ops Q (o::rest) a w:=by
 unfold wpList
 split
 ·rename_i hw;rw[if_pos hw] at h;exact .inl h
 ·rename_i hw;rw[if_neg hw] at h;exact h
end
end Go.Lw
end
