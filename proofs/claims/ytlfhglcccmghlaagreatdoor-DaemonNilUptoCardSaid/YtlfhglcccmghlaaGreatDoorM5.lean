/- What is proved: contracts and plain facts that the law leans on (texts put together). Conditions: as each names them. -/
import Derived.Test.YtlfhglcccmghlaaGreatDoorM4
set_option linter.unusedSimpArgs false
set_option linter.unusedVariables false
set_option linter.unusedSectionVars false
/- What is proved: the orders of XEvDr are right of the seat's functions, part 0 (the kernel checks them). Conditions: none. -/
set_option linter.unusedVariables false
namespace Go.Proofs.YtlfhglcccmghlaaGreatDoor
open Go Go.J
set_option maxRecDepth 1000000 in
theorem ch0 : chL drT (0 * 40) ((Tryz.prog.funcs.toList.drop (0 * 40)).take 40) = true := by kernel_rfl
set_option maxRecDepth 1000000 in
theorem ch1 : chL drT (1 * 40) ((Tryz.prog.funcs.toList.drop (1 * 40)).take 40) = true := by kernel_rfl
set_option maxRecDepth 1000000 in
theorem ch2 : chL drT (2 * 40) ((Tryz.prog.funcs.toList.drop (2 * 40)).take 40) = true := by kernel_rfl
set_option maxRecDepth 1000000 in
theorem ch3 : chL drT (3 * 40) ((Tryz.prog.funcs.toList.drop (3 * 40)).take 40) = true := by kernel_rfl
end Go.Proofs.YtlfhglcccmghlaaGreatDoor
