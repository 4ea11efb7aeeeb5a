/-
  The texts that the proof stands on, part 18.
-/
import Derived.Test.YtmodipglnngghacGreatUnrollClausesQ
import Derived.Test.YtmodipglnngghacGreatRows
set_option linter.unusedVariables false
set_option linter.unusedSimpArgs false
set_option linter.unnecessarySimpa false

/-! The second form's bound, told of what is opened. -/
section
namespace Go.Lw
open Go Go.Proofs.YtmodipglnngghacGreat
variable {H : Type}
mutual
theorem j148 : ∀ d : DataW H, bulk d ≤ Rows.uptoBulk d
 | .lit l => by cases l <;> simp [bulk, Rows.uptoBulk]
 | .nil => by simp [bulk, Rows.uptoBulk]
 | .ptr d => by simp [bulk, Rows.uptoBulk]
 | .slice elems spare => by
  have := jsk elems
  simp only [bulk, Rows.uptoBulk]; omega
 | .agg parts => by
  have := jsk parts
  simp only [bulk, Rows.uptoBulk]; omega
 | .iface t d => by simp [bulk, Rows.uptoBulk]
 | .map entries => by simp [bulk, Rows.uptoBulk]
 | .held h => by simp [bulk, Rows.uptoBulk]
theorem jsk : ∀ l : List (DataW H), bulkAll l ≤ Rows.uptoBulkAll l
 | [] => by simp [bulkAll, Rows.uptoBulkAll]
 | d :: r => by
  have := j148 d
  have := jsk r
  simp only [bulkAll, Rows.uptoBulkAll]; omega
end
theorem j149 {ds : List (DataW H)} (h : Rows.uptoSmall H (ds ++ []) = true) : bulkAll ds ≤ 1048576 := by
 rw [List.append_nil] at h
 have : Rows.uptoBulkAll ds ≤ 1048576 := by simpa [Rows.uptoSmall] using h
 exact Nat.le_trans (jsk ds) this
end Go.Lw
end
