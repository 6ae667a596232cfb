/- What is proved: contracts and plain facts that the law leans on (texts put together). Conditions: as each names them. -/
import Derived.Test.YtlfhglcccmghlaaGreatDoorM9
import Derived.Test.YtlfhglcccmghlaaGreatDoorProg
import Derived.Test.YtlfhglcccmghlaaGreatDoorRows
import Derived.JoinedCond
set_option linter.unusedSimpArgs false
set_option linter.unusedVariables false
set_option linter.unusedSectionVars false
/- What is proved: closed facts of the program. Conditions: none. -/
set_option linter.unusedVariables false
namespace Go.Proofs.YtlfhglcccmghlaaGreatDoor
open Go
set_option maxRecDepth 1000000 in
theorem laidOut_ok : laidOutB Tryz.prog = true := by kernel_rfl
set_option maxRecDepth 1000000 in
theorem mapsRowed_ok : mapsRowed Tryz.prog = true := by kernel_rfl
end Go.Proofs.YtlfhglcccmghlaaGreatDoor
