/-
  The texts that the proof stands on, part 7.
-/
import Derived.Test.YtmodipglnngghadGreatDoorRestModelsC
import Derived.Lib.SlicesCompact
set_option linter.unusedVariables false
set_option linter.unusedSimpArgs false
set_option linter.unnecessarySimpa false

set_option maxRecDepth 100000
set_option maxHeartbeats 4000000
namespace Go.Lw
open Go

end Go.Lw