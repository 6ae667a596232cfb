/- What is proved: contracts and plain facts that the law leans on (texts put together). Conditions: as each names them. -/
import Derived.Test.YtlfhglcccmghlaaGreatDoorM5
set_option linter.unusedSimpArgs false
set_option linter.unusedVariables false
set_option linter.unusedSectionVars false
/- What is proved: the orders of XEvDr are right of the seat's functions, part 1 (the kernel checks them). Conditions: none. -/
set_option linter.unusedVariables false
namespace Go.Proofs.YtlfhglcccmghlaaGreatDoor
open Go Go.J
set_option maxRecDepth 1000000 in
theorem ch4 : chL drT (4 * 40) ((Tryz.prog.funcs.toList.drop (4 * 40)).take 40) = true := by kernel_rfl
set_option maxRecDepth 1000000 in
theorem ch5 : chL drT (5 * 40) ((Tryz.prog.funcs.toList.drop (5 * 40)).take 40) = true := by kernel_rfl
set_option maxRecDepth 1000000 in
theorem ch6 : chL drT (6 * 40) ((Tryz.prog.funcs.toList.drop (6 * 40)).take 40) = true := by kernel_rfl
set_option maxRecDepth 1000000 in
theorem ch7 : chL drT (7 * 40) ((Tryz.prog.funcs.toList.drop (7 * 40)).take 40) = true := by kernel_rfl
end Go.Proofs.YtlfhglcccmghlaaGreatDoor
