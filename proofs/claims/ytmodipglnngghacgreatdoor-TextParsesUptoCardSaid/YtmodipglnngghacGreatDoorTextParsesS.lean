/-
  The texts that the proof stands on, part 19.
-/
import Derived.Test.YtmodipglnngghacGreatDoorTextParsesR
import Derived.Test.YtmodipglnngghacGreatDoorRows
set_option linter.unusedVariables false
set_option linter.unusedSimpArgs false
set_option linter.unnecessarySimpa false

/-! The second form's bound, told of what is opened. -/
section
namespace Go.Lw
open Go Go.Proofs.YtmodipglnngghacGreatDoor
variable {H:Type}
mutual
theorem jue:∀d:DataW H,bulk d≤Rows.uptoBulk d
 | .lit l=>by cases l<;>simp[bulk,Rows.uptoBulk]
 | .nil=>by simp[bulk,Rows.uptoBulk]
 | .ptr d=>by simp[bulk,Rows.uptoBulk]
 | .slice elems spare=>by
  have:=jim elems
  simp only[bulk,Rows.uptoBulk];omega
 | .agg parts=>by
  have:=jim parts
  simp only[bulk,Rows.uptoBulk];omega
 | .iface t d=>by simp[bulk,Rows.uptoBulk]
 | .map entries=>by simp[bulk,Rows.uptoBulk]
 | .held h=>by simp[bulk,Rows.uptoBulk]
theorem jim:∀l:List (DataW H),bulkAll l≤Rows.uptoBulkAll l
 |[]=>by simp[bulkAll,Rows.uptoBulkAll]
 |d::r=>by
  have:=jue d
  have:=jim r
  simp only[bulkAll,Rows.uptoBulkAll];omega
end
theorem juf {ds:List (DataW H)} (h:Rows.uptoSmall H (ds++[])=true):bulkAll ds≤1048576:=by
 rw[List.append_nil] at h
 have:Rows.uptoBulkAll ds≤1048576:=by simpa [Rows.uptoSmall] using h
 exact Nat.le_trans (jim ds) this
end Go.Lw
end
