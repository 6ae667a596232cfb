/-
  DERIVED. GIVEN WITH THE SEED: THE CARDS: each row of YtniacmoniaaolaaDoorRows.lean that lists a variable, with what it lists TIED to the program's text (the seventh form; the later family's looks); each row that meets fmt, with fmt's text TOLD by the authors' own Lean function (tested against real Go, not proved from fmt's source: count such statements apart). THE CARD IS WHAT COUNTS. Prove the row's statement (the work); the ties are given (YtniacmoniaaolaaDoorTie.lean); close each card by the builder's one call (the guide's Derived/Test/ToyasCard.lean, 'card_holds'). Laid BY PROGRAM, IN A SANDBOX (cutbox-door.mjs). By AI agents, Wed Nov 11 2026. No macro, syntax, notation, axiom, sorry.
-/
import Derived.Test.YtniacmoniaaolaaDoorRows
import GoSem.ClaimSeven
namespace Go.Proofs.YtniacmoniaaolaaDoor
namespace Rows

/-- THE TIED CARD OF 'tetherlaw23.SessionChooses'. -/
def sessionChoosesCard : Claim7 := { stood := { row := sessionChoosesRow, standIns := [], harness := (true, "1e248d23fafdf7ed99e61c894cf797d678b6bd4b42a0a32033cc9661502243c9"), looks := false }, kinds := [], alts := [], laidByText := true, laidKinds := [.data, .pinned], laidTests := true, laidLooks := .later }
def SessionChoosesCardSaid : Prop := Claim7.holds Tryd.pinned (.plain (OpenSpec.ofChange sessionChoosesSpec)) sessionChoosesCard

/-- THE TIED CARD OF 'tetherlaw23.SessionResolves'. -/
def sessionResolvesCard : Claim7 := { stood := { row := sessionResolvesRow, standIns := [], harness := (true, "1e248d23fafdf7ed99e61c894cf797d678b6bd4b42a0a32033cc9661502243c9"), looks := false }, kinds := [], alts := [], laidByText := true, laidKinds := [.data, .pinned], laidTests := true, laidLooks := .later }
def SessionResolvesCardSaid : Prop := Claim7.holds Tryd.pinned (.plain (OpenSpec.ofChange sessionResolvesSpec)) sessionResolvesCard

/-- THE TIED CARD OF 'tetherlaw23.SessionLater'. -/
def sessionLaterCard : Claim7 := { stood := { row := sessionLaterRow, standIns := [], harness := (true, "1e248d23fafdf7ed99e61c894cf797d678b6bd4b42a0a32033cc9661502243c9"), looks := false }, kinds := [], alts := [], laidByText := true, laidKinds := [.data, .pinned], laidTests := true, laidLooks := .later }
def SessionLaterCardSaid : Prop := Claim7.holds Tryd.pinned (.plain (OpenSpec.ofChange sessionLaterSpec)) sessionLaterCard

/-- THE SECOND FORM's CARD OF 'tetherlaw23.SessionChooses'. -/
def sessionChoosesUptoCard : Claim7 := { stood := { row := sessionChoosesUptoRow, standIns := [], harness := (true, "1e248d23fafdf7ed99e61c894cf797d678b6bd4b42a0a32033cc9661502243c9"), looks := false }, kinds := [], alts := [], laidByText := true, laidKinds := [.data, .pinned], laidTests := true, laidLooks := .later }
def SessionChoosesUptoCardSaid : Prop := Claim7.holds Tryd.pinned (.plain (OpenSpec.upto sessionChoosesSpec)) sessionChoosesUptoCard

/-- THE SECOND FORM's CARD OF 'tetherlaw23.SessionResolves'. -/
def sessionResolvesUptoCard : Claim7 := { stood := { row := sessionResolvesUptoRow, standIns := [], harness := (true, "1e248d23fafdf7ed99e61c894cf797d678b6bd4b42a0a32033cc9661502243c9"), looks := false }, kinds := [], alts := [], laidByText := true, laidKinds := [.data, .pinned], laidTests := true, laidLooks := .later }
def SessionResolvesUptoCardSaid : Prop := Claim7.holds Tryd.pinned (.plain (OpenSpec.upto sessionResolvesSpec)) sessionResolvesUptoCard

/-- THE SECOND FORM's CARD OF 'tetherlaw23.SessionLater'. -/
def sessionLaterUptoCard : Claim7 := { stood := { row := sessionLaterUptoRow, standIns := [], harness := (true, "1e248d23fafdf7ed99e61c894cf797d678b6bd4b42a0a32033cc9661502243c9"), looks := false }, kinds := [], alts := [], laidByText := true, laidKinds := [.data, .pinned], laidTests := true, laidLooks := .later }
def SessionLaterUptoCardSaid : Prop := Claim7.holds Tryd.pinned (.plain (OpenSpec.upto sessionLaterSpec)) sessionLaterUptoCard
end Rows
end Go.Proofs.YtniacmoniaaolaaDoor
