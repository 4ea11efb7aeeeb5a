/-
  The texts that the proof stands on, part 20.
-/
import Derived.Test.YtmodipglnngghadGreatDoorRestModelsS
import Derived.Test.YtmodipglnngghadGreatDoorRows
set_option linter.unusedVariables false
set_option linter.unusedSimpArgs false
set_option linter.unnecessarySimpa false

set_option maxRecDepth 100000
set_option maxHeartbeats 4000000
namespace Go.Lw
open Go
section
open Go.Proofs.YtmodipglnngghadGreatDoor
variable {H:Type}
mutual
theorem NR:∀d:DataW H,e7 d<=Rows.uptoBulk d
 | .lit l=>by cases l<;>simp[e7,Rows.uptoBulk]
 | .nil=>by simp[e7,Rows.uptoBulk]
 | .ptr d=>by simp[e7,Rows.uptoBulk]
 | .slice elems spare=>by have:=sA elems;simp only[e7,Rows.uptoBulk];omega
 | .agg parts=>by have:=sA parts;simp only[e7,Rows.uptoBulk];omega
 | .iface t d=>by simp[e7,Rows.uptoBulk]
 | .map entries=>by simp[e7,Rows.uptoBulk]
 | .held h=>by simp[e7,Rows.uptoBulk]
theorem sA:∀l:List (DataW H),fX l<=Rows.uptoBulkAll l
 |[]=>by simp[fX,Rows.uptoBulkAll]
 |d::r=>by have:=NR d;have:=sA r;simp only[fX,Rows.uptoBulkAll];omega
end
theorem NT {a:List (DataW H)} (h:Rows.uptoSmall H (a++[])=true):fX a<=1048576:=by
 rw[bE] at h;have:Rows.uptoBulkAll a<=1048576:=by simpa [Rows.uptoSmall] using h
 exact cC (sA a) this
end
end Go.Lw