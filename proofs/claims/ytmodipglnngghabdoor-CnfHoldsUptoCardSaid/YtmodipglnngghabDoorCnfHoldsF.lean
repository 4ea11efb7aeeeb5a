/-
  The texts that the proof stands on, part 6.
-/
import Derived.Test.YtmodipglnngghabDoorCnfHoldsE
set_option linter.unusedVariables false
set_option linter.unusedSimpArgs false
set_option linter.unnecessarySimpa false

/-! What follows from clauses by putting in what must be: plain lists. -/
section
namespace Go.Lw
inductive Der (L:List (List Int)) (S:List Int):Int→Prop
 |base {x:Int}:x∈S→Der L S x
 |unit {c:List Int} {x:Int}:c∈L→x∈c→(∀y∈c,y≠x→Der L S (-y))→Der L S x
structure SoOk (L:List (List Int)) (S T:List Int):Prop where
 has:∀x∈S,x∈T
 der:∀x∈T,Der L S x
 con:∀x∈T,-x∉T
 nz:∀x∈T,x≠0
theorem SoOk.add {L:List (List Int)} {S T:List Int} (h:SoOk L S T) {x:Int} (hd:Der L S x) (hn: -x∉T) (h0:x≠0):SoOk L S (T++[x]) where
 has:=fun y hy=>List.mem_append.2 (.inl (h.has y hy))
 der:=fun y hy=>by
  rcases List.mem_append.1 hy with hy|hy
  ·exact h.der y hy
  ·rw[List.mem_singleton.1 hy];exact hd
 con:=fun y hy hm=>by
  rcases List.mem_append.1 hy with hy|hy<;>rcases List.mem_append.1 hm with hm|hm
  ·exact h.con y hy hm
  ·have e:=List.mem_singleton.1 hm
   exact hn (by rw[←e,Int.neg_neg];exact hy)
  ·rw[List.mem_singleton.1 hy] at hm;exact hn hm
  ·have e1:=List.mem_singleton.1 hy
   have e2:=List.mem_singleton.1 hm
   omega
 nz:=fun y hy=>by
  rcases List.mem_append.1 hy with hy|hy
  ·exact h.nz y hy
  ·rw[List.mem_singleton.1 hy];exact h0
end Go.Lw
end

/-! What follows from clauses: the program's way, plain lists. -/
section
namespace Go.Lw
structure Kept (L:List (List Int)) (d c:List Int):Prop where
 mem:c∈L
 same:∀x,x∈d↔x∈c
 nodup:d.Nodup
end Go.Lw
end

/-! The machine, run out: what must be in any case is reckoned by the kernel. -/
section
namespace Go.Lw
open Go
end Go.Lw
end
