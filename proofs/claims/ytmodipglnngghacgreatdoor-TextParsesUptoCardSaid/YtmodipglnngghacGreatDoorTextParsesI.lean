/-
  The texts that the proof stands on, part 9.
-/
import Derived.Test.YtmodipglnngghacGreatDoorTextParsesH
import Derived.Lib.SlicesCompact
set_option linter.unusedVariables false
set_option linter.unusedSimpArgs false
set_option linter.unnecessarySimpa false

/-! slices.Sort and slices.Compact of a stack of numbers, told as they are. -/
section
namespace Go.Lw
open Go
end Go.Lw
end
