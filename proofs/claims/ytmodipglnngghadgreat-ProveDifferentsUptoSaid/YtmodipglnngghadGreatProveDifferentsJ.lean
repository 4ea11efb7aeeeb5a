/-
  The texts that the proof stands on, part 10.
-/
import Derived.Test.YtmodipglnngghadGreatProveDifferentsI
import Derived.Lib.AtoiAll
set_option linter.unusedVariables false
set_option linter.unusedSimpArgs false
set_option linter.unnecessarySimpa false

/-! Library functions of strings and numerals, as the machine has them. -/
section
namespace Go.Lw
open Go
end Go.Lw
end
