/- What is proved: contracts and plain facts that the law leans on (texts put together). Conditions: as each names them. -/
import Derived.Test.YtlfhglcccmghlaaGreatDoorM6
set_option linter.unusedSimpArgs false
set_option linter.unusedVariables false
set_option linter.unusedSectionVars false
/- What is proved: the orders of XEvDr are right of the seat's functions, part 2 (the kernel checks them). Conditions: none. -/
set_option linter.unusedVariables false
namespace Go.Proofs.YtlfhglcccmghlaaGreatDoor
open Go Go.J
set_option maxRecDepth 1000000 in
theorem ch8 : chL drT (8 * 40) ((Tryz.prog.funcs.toList.drop (8 * 40)).take 40) = true := by kernel_rfl
set_option maxRecDepth 1000000 in
theorem ch9 : chL drT (9 * 40) ((Tryz.prog.funcs.toList.drop (9 * 40)).take 40) = true := by kernel_rfl
set_option maxRecDepth 1000000 in
theorem ch10 : chL drT (10 * 40) ((Tryz.prog.funcs.toList.drop (10 * 40)).take 40) = true := by kernel_rfl
end Go.Proofs.YtlfhglcccmghlaaGreatDoor
