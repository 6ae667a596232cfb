/- What is proved: contracts and plain facts that the law leans on (texts put together). Conditions: as each names them. -/
import Derived.Test.YtlfhglcccmghlaaGreatDoorM10
import GoSem.ClaimGoes
set_option linter.unusedSimpArgs false
set_option linter.unusedVariables false
set_option linter.unusedSectionVars false
/- What is proved: closed facts of the law's row. Conditions: none. -/
set_option linter.unusedVariables false
namespace Go.Proofs.YtlfhglcccmghlaaGreatDoor
open Go
set_option maxRecDepth 1000000 in
theorem inPlace_ok : (Rows.daemonNilUptoRow.inPlace == Tryz.prog.inPlace 3) = true := by
  unfold Program.inPlace
  rw [clo]
  kernel_rfl
set_option maxRecDepth 1000000 in
theorem unfollowed_is : Tryz.prog.unfollowed 3 = true := by
  unfold Program.unfollowed
  rw [clo]
  kernel_rfl
theorem unfollowed_ok : (Rows.daemonNilUptoRow.unfollowed == Tryz.prog.unfollowed 3) = true := by
  rw [unfollowed_is]
  rfl
theorem recurses_ok : (Rows.daemonNilUptoRow.recurses == Tryz.prog.recurses 3) = true := by
  unfold Program.recurses
  rw [unfollowed_is, Bool.true_or]
  rfl
set_option maxRecDepth 1000000 in
theorem named_ok : (Rows.daemonNilUptoRow.named == Tryz.prog.varsNamed 3) = true := by
  unfold Program.varsNamed
  rw [clo]
  kernel_rfl
set_option maxRecDepth 1000000 in
theorem goes_is : Tryz.prog.goes 3 = false := by
  unfold Program.goes
  rw [clo, unfollowed_is]
  kernel_rfl
set_option maxRecDepth 1000000 in
theorem named_is : Tryz.prog.funcNamed "tether/tetherlaw27.DaemonNil" = some 3 := by kernel_rfl
end Go.Proofs.YtlfhglcccmghlaaGreatDoor
