/-
  The texts that the proof stands on, part 12.
-/
import Derived.Test.YtmodipglnngghadGreatDoorRestModelsK
import Derived.KernelRfl
set_option linter.unusedVariables false
set_option linter.unusedSimpArgs false
set_option linter.unnecessarySimpa false

set_option maxRecDepth 100000
set_option maxHeartbeats 4000000
namespace Go.Lw
open Go
theorem Tw:ac pg 37 [] []=some (.bool true,[]):=vN (n:=2000) (by kernel_rfl)
theorem vP:ac pg 346 [] []=some (.bool true,[]):=vN (n:=2000) (by kernel_rfl)
theorem vQ:ac pg 242 [] []=some (.bool true,[]):=vN (n:=2000) (by kernel_rfl)
theorem Tx:ac pg 5 [] []=some (.bool true,[]):=vN (n:=2000) (by kernel_rfl)
theorem Ty:ac pg 211 [] []=some (.bool true,[]):=vN (n:=2000) (by kernel_rfl)
end Go.Lw