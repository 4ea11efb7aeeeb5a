/-
  The texts that the proof stands on, part 20.
-/
import Derived.Test.YtmodipglnngghacGreatDoorExploreFindsS
import Derived.Test.YtmodipglnngghacGreatDoorRows
set_option linter.unusedVariables false
set_option linter.unusedSimpArgs false
set_option linter.unnecessarySimpa false

set_option maxRecDepth 100000
set_option maxHeartbeats 4000000
namespace Go.Lw
open Go
section
open Go.Proofs.YtmodipglnngghacGreatDoor
variable {H:Type}
mutual
theorem BA:∀d:DataW H,dy d<=Rows.uptoBulk d
 | .lit l=>by cases l<;>simp[dy,Rows.uptoBulk]
 | .nil=>by simp[dy,Rows.uptoBulk]
 | .ptr d=>by simp[dy,Rows.uptoBulk]
 | .slice elems spare=>by have:=lP elems;simp only[dy,Rows.uptoBulk];omega
 | .agg parts=>by have:=lP parts;simp only[dy,Rows.uptoBulk];omega
 | .iface t d=>by simp[dy,Rows.uptoBulk]
 | .map entries=>by simp[dy,Rows.uptoBulk]
 | .held h=>by simp[dy,Rows.uptoBulk]
theorem lP:∀l:List (DataW H),ed l<=Rows.uptoBulkAll l
 |[]=>by simp[ed,Rows.uptoBulkAll]
 |d::r=>by have:=BA d;have:=lP r;simp only[ed,Rows.uptoBulkAll];omega
end
theorem BB {ds:List (DataW H)} (h:Rows.uptoSmall H (ds++[])=true):ed ds<=1048576:=by
 rw[bH] at h;have:Rows.uptoBulkAll ds<=1048576:=by simpa [Rows.uptoSmall] using h
 exact bX (lP ds) this
end
end Go.Lw