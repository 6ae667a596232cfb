/-
  DERIVED. GIVEN WITH THE SEED: THE CARDS: each row of YtlfhglcccmghlaaGreatDoorRows.lean that lists a variable, with what it lists TIED to the program's text (the seventh form; the later family's looks); each row that meets fmt, with fmt's text TOLD by the authors' own Lean function (tested against real Go, not proved from fmt's source: count such statements apart). THE CARD IS WHAT COUNTS. Prove the row's statement (the work); the ties are given (YtlfhglcccmghlaaGreatDoorTie.lean); close each card by the builder's one call (the guide's Derived/Test/ToyasCard.lean, 'card_holds'). Laid BY PROGRAM, IN A SANDBOX (cutbox-door.mjs). By AI agents, Wed Nov 11 2026. No macro, syntax, notation, axiom, sorry.
-/
import Derived.Test.YtlfhglcccmghlaaGreatDoorRows
import GoSem.ClaimSeven
namespace Go.Proofs.YtlfhglcccmghlaaGreatDoor
namespace Rows

/-- THE TIED CARD OF 'tetherlaw27.DaemonNil'. -/
def daemonNilCard : Claim7 := { stood := { row := daemonNilRow, standIns := [], harness := (true, "4a41061ba445dfa280ded74410e882f8348938b7b5dcf44df5127115e85a721d"), looks := true }, kinds := [], alts := [], laidByText := true, laidKinds := [.data, .data, .data, .data, .sentinel, .sentinel, .pinned], laidTests := true, laidLooks := .later }
def DaemonNilCardSaid : Prop := Claim7.holds Tryz.pinned (.plain (OpenSpec.ofChange daemonNilSpec)) daemonNilCard

/-- THE SECOND FORM's CARD OF 'tetherlaw27.DaemonNil'. -/
def daemonNilUptoCard : Claim7 := { stood := { row := daemonNilUptoRow, standIns := [], harness := (true, "4a41061ba445dfa280ded74410e882f8348938b7b5dcf44df5127115e85a721d"), looks := true }, kinds := [], alts := [], laidByText := true, laidKinds := [.data, .data, .data, .data, .sentinel, .sentinel, .pinned], laidTests := true, laidLooks := .later }
def DaemonNilUptoCardSaid : Prop := Claim7.holds Tryz.pinned (.plain (OpenSpec.upto daemonNilSpec)) daemonNilUptoCard
end Rows
end Go.Proofs.YtlfhglcccmghlaaGreatDoor
