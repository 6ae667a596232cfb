/-
  DERIVED. GIVEN WITH THE SEED: THE CARDS: each row of YtjmdhakndlhbhaaDoorRows.lean that lists a variable, with what it lists TIED to the program's text (the seventh form; the later family's looks); each row that meets fmt, with fmt's text TOLD by the authors' own Lean function (tested against real Go, not proved from fmt's source: count such statements apart). THE CARD IS WHAT COUNTS. Prove the row's statement (the work); the ties are given (YtjmdhakndlhbhaaDoorTie.lean); close each card by the builder's one call (the guide's Derived/Test/ToyasCard.lean, 'card_holds'). Laid BY PROGRAM, IN A SANDBOX (cutbox-door.mjs). By AI agents, Wed Nov 11 2026. No macro, syntax, notation, axiom, sorry.
-/
import Derived.Test.YtjmdhakndlhbhaaDoorRows
import GoSem.ClaimSeven
namespace Go.Proofs.YtjmdhakndlhbhaaDoor
namespace Rows

/-- THE TIED CARD OF 'tetherlaw03.PathChecks'. -/
def pathChecksCard : Claim7 := { stood := { row := pathChecksRow, standIns := [], harness := (true, "9d8ad8e0b99474238df240ea9d46c6d509c820d984165e8b78b85d555522ec94"), looks := false }, kinds := [], alts := [], laidByText := true, laidKinds := [.data, .pinned], laidTests := true, laidLooks := .later }
def PathChecksCardSaid : Prop := Claim7.holds Tryd.pinned (.plain (OpenSpec.ofChange pathChecksSpec)) pathChecksCard

/-- THE TIED CARD OF 'tetherlaw03.PathSorts'. -/
def pathSortsCard : Claim7 := { stood := { row := pathSortsRow, standIns := [], harness := (true, "9d8ad8e0b99474238df240ea9d46c6d509c820d984165e8b78b85d555522ec94"), looks := false }, kinds := [], alts := [], laidByText := true, laidKinds := [.data, .pinned], laidTests := true, laidLooks := .later }
def PathSortsCardSaid : Prop := Claim7.holds Tryd.pinned (.plain (OpenSpec.ofChange pathSortsSpec)) pathSortsCard

/-- THE TIED CARD OF 'tetherlaw03.PathParts'. -/
def pathPartsCard : Claim7 := { stood := { row := pathPartsRow, standIns := [], harness := (true, "9d8ad8e0b99474238df240ea9d46c6d509c820d984165e8b78b85d555522ec94"), looks := false }, kinds := [], alts := [], laidByText := true, laidKinds := [.data, .pinned], laidTests := true, laidLooks := .later }
def PathPartsCardSaid : Prop := Claim7.holds Tryd.pinned (.plain (OpenSpec.ofChange pathPartsSpec)) pathPartsCard

/-- THE TIED CARD OF 'tetherlaw03.PathJoins'. -/
def pathJoinsCard : Claim7 := { stood := { row := pathJoinsRow, standIns := [], harness := (true, "9d8ad8e0b99474238df240ea9d46c6d509c820d984165e8b78b85d555522ec94"), looks := false }, kinds := [], alts := [], laidByText := true, laidKinds := [.data, .pinned], laidTests := true, laidLooks := .later }
def PathJoinsCardSaid : Prop := Claim7.holds Tryd.pinned (.plain (OpenSpec.ofChange pathJoinsSpec)) pathJoinsCard

/-- THE SECOND FORM's CARD OF 'tetherlaw03.PathChecks'. -/
def pathChecksUptoCard : Claim7 := { stood := { row := pathChecksUptoRow, standIns := [], harness := (true, "9d8ad8e0b99474238df240ea9d46c6d509c820d984165e8b78b85d555522ec94"), looks := false }, kinds := [], alts := [], laidByText := true, laidKinds := [.data, .pinned], laidTests := true, laidLooks := .later }
def PathChecksUptoCardSaid : Prop := Claim7.holds Tryd.pinned (.plain (OpenSpec.upto pathChecksSpec)) pathChecksUptoCard

/-- THE SECOND FORM's CARD OF 'tetherlaw03.PathSorts'. -/
def pathSortsUptoCard : Claim7 := { stood := { row := pathSortsUptoRow, standIns := [], harness := (true, "9d8ad8e0b99474238df240ea9d46c6d509c820d984165e8b78b85d555522ec94"), looks := false }, kinds := [], alts := [], laidByText := true, laidKinds := [.data, .pinned], laidTests := true, laidLooks := .later }
def PathSortsUptoCardSaid : Prop := Claim7.holds Tryd.pinned (.plain (OpenSpec.upto pathSortsSpec)) pathSortsUptoCard

/-- THE SECOND FORM's CARD OF 'tetherlaw03.PathParts'. -/
def pathPartsUptoCard : Claim7 := { stood := { row := pathPartsUptoRow, standIns := [], harness := (true, "9d8ad8e0b99474238df240ea9d46c6d509c820d984165e8b78b85d555522ec94"), looks := false }, kinds := [], alts := [], laidByText := true, laidKinds := [.data, .pinned], laidTests := true, laidLooks := .later }
def PathPartsUptoCardSaid : Prop := Claim7.holds Tryd.pinned (.plain (OpenSpec.upto pathPartsSpec)) pathPartsUptoCard

/-- THE SECOND FORM's CARD OF 'tetherlaw03.PathJoins'. -/
def pathJoinsUptoCard : Claim7 := { stood := { row := pathJoinsUptoRow, standIns := [], harness := (true, "9d8ad8e0b99474238df240ea9d46c6d509c820d984165e8b78b85d555522ec94"), looks := false }, kinds := [], alts := [], laidByText := true, laidKinds := [.data, .pinned], laidTests := true, laidLooks := .later }
def PathJoinsUptoCardSaid : Prop := Claim7.holds Tryd.pinned (.plain (OpenSpec.upto pathJoinsSpec)) pathJoinsUptoCard
end Rows
end Go.Proofs.YtjmdhakndlhbhaaDoor
