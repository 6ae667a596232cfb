/-
  DERIVED. GIVEN WITH THE SEED: THE CARDS: each row of YtniacmoniaaolaaGreatDoorRows.lean that lists a variable, with what it lists TIED to the program's text (the seventh form; the later family's looks); each row that meets fmt, with fmt's text TOLD by the authors' own Lean function (tested against real Go, not proved from fmt's source: count such statements apart). THE CARD IS WHAT COUNTS. Prove the row's statement (the work); the ties are given (YtniacmoniaaolaaGreatDoorTie.lean); close each card by the builder's one call (the guide's Derived/Test/ToyasCard.lean, 'card_holds'). Laid BY PROGRAM, IN A SANDBOX (cutbox-door.mjs). By AI agents, Wed Nov 11 2026. No macro, syntax, notation, axiom, sorry.
-/
import Derived.Test.YtniacmoniaaolaaGreatDoorRows
import GoSem.ClaimSeven
namespace Go.Proofs.YtniacmoniaaolaaGreatDoor
namespace Rows

/-- THE TIED CARD OF 'tetherlaw23.SessionKeeps'. -/
def sessionKeepsCard : Claim7 := { stood := { row := sessionKeepsRow, standIns := [], harness := (true, "0298546a9b45ee9b3052d720ad7e298d3b8d9535b745b92ab7d277dd0c77eacc"), looks := false }, kinds := [], alts := [], laidByText := true, laidKinds := [.data, .data, .data, .data, .pinned], laidTests := true, laidLooks := .later }
def SessionKeepsCardSaid : Prop := Claim7.holds Tryz.pinned (.plain (OpenSpec.ofChange sessionKeepsSpec)) sessionKeepsCard

/-- THE SECOND FORM's CARD OF 'tetherlaw23.SessionKeeps'. -/
def sessionKeepsUptoCard : Claim7 := { stood := { row := sessionKeepsUptoRow, standIns := [], harness := (true, "0298546a9b45ee9b3052d720ad7e298d3b8d9535b745b92ab7d277dd0c77eacc"), looks := false }, kinds := [], alts := [], laidByText := true, laidKinds := [.data, .data, .data, .data, .pinned], laidTests := true, laidLooks := .later }
def SessionKeepsUptoCardSaid : Prop := Claim7.holds Tryz.pinned (.plain (OpenSpec.upto sessionKeepsSpec)) sessionKeepsUptoCard
end Rows
end Go.Proofs.YtniacmoniaaolaaGreatDoor
