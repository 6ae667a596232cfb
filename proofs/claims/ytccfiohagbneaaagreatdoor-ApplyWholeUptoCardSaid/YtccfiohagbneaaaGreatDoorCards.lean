/-
  DERIVED. GIVEN WITH THE SEED: THE CARDS: each row of YtccfiohagbneaaaGreatDoorRows.lean that lists a variable, with what it lists TIED to the program's text (the seventh form; the later family's looks); each row that meets fmt, with fmt's text TOLD by the authors' own Lean function (tested against real Go, not proved from fmt's source: count such statements apart). THE CARD IS WHAT COUNTS. Prove the row's statement (the work); the ties are given (YtccfiohagbneaaaGreatDoorTie.lean); close each card by the builder's one call (the guide's Derived/Test/ToyasCard.lean, 'card_holds'). Laid BY PROGRAM, IN A SANDBOX (cutbox-door.mjs). By AI agents, Wed Nov 11 2026. No macro, syntax, notation, axiom, sorry.
-/
import Derived.Test.YtccfiohagbneaaaGreatDoorRows
import GoSem.ClaimSeven
namespace Go.Proofs.YtccfiohagbneaaaGreatDoor
namespace Rows

/-- THE TIED CARD OF 'tetherlaw06.WalPlays'. -/
def walPlaysCard : Claim7 := { stood := { row := walPlaysRow, standIns := [], harness := (true, "934160b813730fede7278fe556257da5ad6341cdac70f5cb2e729fe90c6578be"), looks := true }, kinds := [], alts := [], laidByText := true, laidKinds := [.data, .pinned], laidTests := true, laidLooks := .later }
def WalPlaysCardSaid : Prop := Claim7.holds Tryz.pinned (.plain (OpenSpec.ofChange walPlaysSpec)) walPlaysCard

/-- THE TIED CARD OF 'tetherlaw07.TablePlays'. -/
def tablePlaysCard : Claim7 := { stood := { row := tablePlaysRow, standIns := [], harness := (true, "934160b813730fede7278fe556257da5ad6341cdac70f5cb2e729fe90c6578be"), looks := true }, kinds := [], alts := [], laidByText := true, laidKinds := [.data, .pinned], laidTests := true, laidLooks := .later }
def TablePlaysCardSaid : Prop := Claim7.holds Tryz.pinned (.plain (OpenSpec.ofChange tablePlaysSpec)) tablePlaysCard

/-- THE TIED CARD OF 'tetherlaw19.ApplyOthers'. -/
def applyOthersCard : Claim7 := { stood := { row := applyOthersRow, standIns := [], harness := (true, "934160b813730fede7278fe556257da5ad6341cdac70f5cb2e729fe90c6578be"), looks := true }, kinds := [], alts := [], laidByText := true, laidKinds := [.data, .data, .data, .data, .pinned], laidTests := true, laidLooks := .later }
def ApplyOthersCardSaid : Prop := Claim7.holds Tryz.pinned (.plain (OpenSpec.ofChange applyOthersSpec)) applyOthersCard

/-- THE TIED CARD OF 'tetherlaw19.ApplyNever'. -/
def applyNeverCard : Claim7 := { stood := { row := applyNeverRow, standIns := [], harness := (true, "934160b813730fede7278fe556257da5ad6341cdac70f5cb2e729fe90c6578be"), looks := true }, kinds := [], alts := [], laidByText := true, laidKinds := [.data, .data, .data, .data, .pinned], laidTests := true, laidLooks := .later }
def ApplyNeverCardSaid : Prop := Claim7.holds Tryz.pinned (.plain (OpenSpec.ofChange applyNeverSpec)) applyNeverCard

/-- THE TIED CARD OF 'tetherlaw19.ApplyLays'. -/
def applyLaysCard : Claim7 := { stood := { row := applyLaysRow, standIns := [], harness := (true, "934160b813730fede7278fe556257da5ad6341cdac70f5cb2e729fe90c6578be"), looks := true }, kinds := [], alts := [], laidByText := true, laidKinds := [.data, .data, .data, .data, .pinned], laidTests := true, laidLooks := .later }
def ApplyLaysCardSaid : Prop := Claim7.holds Tryz.pinned (.plain (OpenSpec.ofChange applyLaysSpec)) applyLaysCard

/-- THE TIED CARD OF 'tetherlaw19.ApplyWhole'. -/
def applyWholeCard : Claim7 := { stood := { row := applyWholeRow, standIns := [], harness := (true, "934160b813730fede7278fe556257da5ad6341cdac70f5cb2e729fe90c6578be"), looks := true }, kinds := [], alts := [], laidByText := true, laidKinds := [.data, .data, .data, .data, .pinned], laidTests := true, laidLooks := .later }
def ApplyWholeCardSaid : Prop := Claim7.holds Tryz.pinned (.plain (OpenSpec.ofChange applyWholeSpec)) applyWholeCard

/-- THE SECOND FORM's CARD OF 'tetherlaw06.WalPlays'. -/
def walPlaysUptoCard : Claim7 := { stood := { row := walPlaysUptoRow, standIns := [], harness := (true, "934160b813730fede7278fe556257da5ad6341cdac70f5cb2e729fe90c6578be"), looks := true }, kinds := [], alts := [], laidByText := true, laidKinds := [.data, .pinned], laidTests := true, laidLooks := .later }
def WalPlaysUptoCardSaid : Prop := Claim7.holds Tryz.pinned (.plain (OpenSpec.upto walPlaysSpec)) walPlaysUptoCard

/-- THE SECOND FORM's CARD OF 'tetherlaw07.TablePlays'. -/
def tablePlaysUptoCard : Claim7 := { stood := { row := tablePlaysUptoRow, standIns := [], harness := (true, "934160b813730fede7278fe556257da5ad6341cdac70f5cb2e729fe90c6578be"), looks := true }, kinds := [], alts := [], laidByText := true, laidKinds := [.data, .pinned], laidTests := true, laidLooks := .later }
def TablePlaysUptoCardSaid : Prop := Claim7.holds Tryz.pinned (.plain (OpenSpec.upto tablePlaysSpec)) tablePlaysUptoCard

/-- THE SECOND FORM's CARD OF 'tetherlaw19.ApplyOthers'. -/
def applyOthersUptoCard : Claim7 := { stood := { row := applyOthersUptoRow, standIns := [], harness := (true, "934160b813730fede7278fe556257da5ad6341cdac70f5cb2e729fe90c6578be"), looks := true }, kinds := [], alts := [], laidByText := true, laidKinds := [.data, .data, .data, .data, .pinned], laidTests := true, laidLooks := .later }
def ApplyOthersUptoCardSaid : Prop := Claim7.holds Tryz.pinned (.plain (OpenSpec.upto applyOthersSpec)) applyOthersUptoCard

/-- THE SECOND FORM's CARD OF 'tetherlaw19.ApplyNever'. -/
def applyNeverUptoCard : Claim7 := { stood := { row := applyNeverUptoRow, standIns := [], harness := (true, "934160b813730fede7278fe556257da5ad6341cdac70f5cb2e729fe90c6578be"), looks := true }, kinds := [], alts := [], laidByText := true, laidKinds := [.data, .data, .data, .data, .pinned], laidTests := true, laidLooks := .later }
def ApplyNeverUptoCardSaid : Prop := Claim7.holds Tryz.pinned (.plain (OpenSpec.upto applyNeverSpec)) applyNeverUptoCard

/-- THE SECOND FORM's CARD OF 'tetherlaw19.ApplyLays'. -/
def applyLaysUptoCard : Claim7 := { stood := { row := applyLaysUptoRow, standIns := [], harness := (true, "934160b813730fede7278fe556257da5ad6341cdac70f5cb2e729fe90c6578be"), looks := true }, kinds := [], alts := [], laidByText := true, laidKinds := [.data, .data, .data, .data, .pinned], laidTests := true, laidLooks := .later }
def ApplyLaysUptoCardSaid : Prop := Claim7.holds Tryz.pinned (.plain (OpenSpec.upto applyLaysSpec)) applyLaysUptoCard

/-- THE SECOND FORM's CARD OF 'tetherlaw19.ApplyWhole'. -/
def applyWholeUptoCard : Claim7 := { stood := { row := applyWholeUptoRow, standIns := [], harness := (true, "934160b813730fede7278fe556257da5ad6341cdac70f5cb2e729fe90c6578be"), looks := true }, kinds := [], alts := [], laidByText := true, laidKinds := [.data, .data, .data, .data, .pinned], laidTests := true, laidLooks := .later }
def ApplyWholeUptoCardSaid : Prop := Claim7.holds Tryz.pinned (.plain (OpenSpec.upto applyWholeSpec)) applyWholeUptoCard
end Rows
end Go.Proofs.YtccfiohagbneaaaGreatDoor
