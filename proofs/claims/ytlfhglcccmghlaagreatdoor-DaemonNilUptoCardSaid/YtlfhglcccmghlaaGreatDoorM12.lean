/- What is proved: contracts and plain facts that the law leans on (texts put together). Conditions: as each names them. -/
import Derived.Test.YtlfhglcccmghlaaGreatDoorM11
set_option linter.unusedSimpArgs false
set_option linter.unusedVariables false
set_option linter.unusedSectionVars false
/- What is proved: the law's row fits the program. Conditions: none. -/
set_option linter.unusedVariables false
namespace Go.Proofs.YtlfhglcccmghlaaGreatDoor
open Go
set_option maxRecDepth 1000000 in
theorem goes_ok : false = Rows.daemonNilUptoRow.goesBy Tryz.prog := by
  unfold OpenClaim.goesBy Program.goesAt Program.goesFrom
  rw [show Rows.daemonNilUptoRow.func = "tether/tetherlaw27.DaemonNil" from rfl, named_is, Option.any_some, goes_is]
  rfl
set_option maxRecDepth 1000000 in
theorem joined_ok : joinedFacts Tryz.prog 3 Tryz.f3 (Rows.OpenSpec.upto Rows.daemonNilSpec).bare Rows.daemonNilUptoRow = true := by
  unfold joinedFacts
  rw [laidOut_ok, mapsRowed_ok, inPlace_ok, unfollowed_ok, recurses_ok, named_ok]
  kernel_rfl
end Go.Proofs.YtlfhglcccmghlaaGreatDoor
