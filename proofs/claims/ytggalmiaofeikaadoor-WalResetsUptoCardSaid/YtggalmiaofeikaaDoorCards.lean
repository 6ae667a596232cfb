/-
  DERIVED. GIVEN WITH THE SEED: THE CARDS: each row of YtggalmiaofeikaaDoorRows.lean that lists a variable, with what it lists TIED to the program's text (the seventh form; the later family's looks); each row that meets fmt, with fmt's text TOLD by the authors' own Lean function (tested against real Go, not proved from fmt's source: count such statements apart). THE CARD IS WHAT COUNTS. Prove the row's statement (the work); the ties are given (YtggalmiaofeikaaDoorTie.lean); close each card by the builder's one call (the guide's Derived/Test/ToyasCard.lean, 'card_holds'). Laid BY PROGRAM, IN A SANDBOX (cutbox-door.mjs). By AI agents, Wed Nov 11 2026. No macro, syntax, notation, axiom, sorry.
-/
import Derived.Test.YtggalmiaofeikaaDoorRows
import GoSem.ClaimSeven
namespace Go.Proofs.YtggalmiaofeikaaDoor
namespace Rows

/-- THE TIED CARD OF 'tetherlaw06.WalNil'. -/
def walNilCard : Claim7 := { stood := { row := walNilRow, standIns := [], harness := (true, "8b49f7e87339c984d802c4d062dc7514047a7a69df30f5580770d29a86c00828"), looks := false }, kinds := [], alts := [], laidByText := true, laidKinds := [.data, .pinned], laidTests := true, laidLooks := .later }
def WalNilCardSaid : Prop := Claim7.holds Tryd.pinned (.plain (OpenSpec.ofChange walNilSpec)) walNilCard

/-- THE TIED CARD OF 'tetherlaw06.WalRots'. -/
def walRotsCard : Claim7 := { stood := { row := walRotsRow, standIns := [], harness := (true, "8b49f7e87339c984d802c4d062dc7514047a7a69df30f5580770d29a86c00828"), looks := false }, kinds := [], alts := [], laidByText := true, laidKinds := [.data, .pinned], laidTests := true, laidLooks := .later }
def WalRotsCardSaid : Prop := Claim7.holds Tryd.pinned (.plain (OpenSpec.ofChange walRotsSpec)) walRotsCard

/-- THE TIED CARD OF 'tetherlaw06.WalHolds'. -/
def walHoldsCard : Claim7 := { stood := { row := walHoldsRow, standIns := [], harness := (true, "8b49f7e87339c984d802c4d062dc7514047a7a69df30f5580770d29a86c00828"), looks := false }, kinds := [], alts := [], laidByText := true, laidKinds := [.data, .pinned], laidTests := true, laidLooks := .later }
def WalHoldsCardSaid : Prop := Claim7.holds Tryd.pinned (.plain (OpenSpec.ofChange walHoldsSpec)) walHoldsCard

/-- THE TIED CARD OF 'tetherlaw06.WalResets'. -/
def walResetsCard : Claim7 := { stood := { row := walResetsRow, standIns := [], harness := (true, "8b49f7e87339c984d802c4d062dc7514047a7a69df30f5580770d29a86c00828"), looks := false }, kinds := [], alts := [], laidByText := true, laidKinds := [.data, .pinned], laidTests := true, laidLooks := .later }
def WalResetsCardSaid : Prop := Claim7.holds Tryd.pinned (.plain (OpenSpec.ofChange walResetsSpec)) walResetsCard

/-- THE SECOND FORM's CARD OF 'tetherlaw06.WalNil'. -/
def walNilUptoCard : Claim7 := { stood := { row := walNilUptoRow, standIns := [], harness := (true, "8b49f7e87339c984d802c4d062dc7514047a7a69df30f5580770d29a86c00828"), looks := false }, kinds := [], alts := [], laidByText := true, laidKinds := [.data, .pinned], laidTests := true, laidLooks := .later }
def WalNilUptoCardSaid : Prop := Claim7.holds Tryd.pinned (.plain (OpenSpec.upto walNilSpec)) walNilUptoCard

/-- THE SECOND FORM's CARD OF 'tetherlaw06.WalRots'. -/
def walRotsUptoCard : Claim7 := { stood := { row := walRotsUptoRow, standIns := [], harness := (true, "8b49f7e87339c984d802c4d062dc7514047a7a69df30f5580770d29a86c00828"), looks := false }, kinds := [], alts := [], laidByText := true, laidKinds := [.data, .pinned], laidTests := true, laidLooks := .later }
def WalRotsUptoCardSaid : Prop := Claim7.holds Tryd.pinned (.plain (OpenSpec.upto walRotsSpec)) walRotsUptoCard

/-- THE SECOND FORM's CARD OF 'tetherlaw06.WalHolds'. -/
def walHoldsUptoCard : Claim7 := { stood := { row := walHoldsUptoRow, standIns := [], harness := (true, "8b49f7e87339c984d802c4d062dc7514047a7a69df30f5580770d29a86c00828"), looks := false }, kinds := [], alts := [], laidByText := true, laidKinds := [.data, .pinned], laidTests := true, laidLooks := .later }
def WalHoldsUptoCardSaid : Prop := Claim7.holds Tryd.pinned (.plain (OpenSpec.upto walHoldsSpec)) walHoldsUptoCard

/-- THE SECOND FORM's CARD OF 'tetherlaw06.WalResets'. -/
def walResetsUptoCard : Claim7 := { stood := { row := walResetsUptoRow, standIns := [], harness := (true, "8b49f7e87339c984d802c4d062dc7514047a7a69df30f5580770d29a86c00828"), looks := false }, kinds := [], alts := [], laidByText := true, laidKinds := [.data, .pinned], laidTests := true, laidLooks := .later }
def WalResetsUptoCardSaid : Prop := Claim7.holds Tryd.pinned (.plain (OpenSpec.upto walResetsSpec)) walResetsUptoCard
end Rows
end Go.Proofs.YtggalmiaofeikaaDoor
