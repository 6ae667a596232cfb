/-
  DERIVED. GIVEN WITH THE SEED: THE CARDS: each row of YtmofcalcdjoicaaGreatDoorRows.lean that lists a variable, with what it lists TIED to the program's text (the seventh form; the later family's looks); each row that meets fmt, with fmt's text TOLD by the authors' own Lean function (tested against real Go, not proved from fmt's source: count such statements apart). THE CARD IS WHAT COUNTS. Prove the row's statement (the work); the ties are given (YtmofcalcdjoicaaGreatDoorTie.lean); close each card by the builder's one call (the guide's Derived/Test/ToyasCard.lean, 'card_holds'). Laid BY PROGRAM, IN A SANDBOX (cutbox-door.mjs). By AI agents, Wed Nov 11 2026. No macro, syntax, notation, axiom, sorry.
-/
import Derived.Test.YtmofcalcdjoicaaGreatDoorRows
import GoSem.ClaimSeven
namespace Go.Proofs.YtmofcalcdjoicaaGreatDoor
namespace Rows

/-- THE TIED CARD OF 'tetherlaw07.TableRecords'. -/
def tableRecordsCard : Claim7 := { stood := { row := tableRecordsRow, standIns := [], harness := (true, "d921eabca7a1f070aa724c885af3b7b8668556f0679a0e19b4cbcea111bf8a7c"), looks := false }, kinds := [], alts := [], laidByText := true, laidKinds := [.data, .pinned], laidTests := true, laidLooks := .later }
def TableRecordsCardSaid : Prop := Claim7.holds Tryz.pinned (.plain (OpenSpec.ofChange tableRecordsSpec)) tableRecordsCard

/-- THE TIED CARD OF 'tetherlaw07.TableBack'. -/
def tableBackCard : Claim7 := { stood := { row := tableBackRow, standIns := [], harness := (true, "d921eabca7a1f070aa724c885af3b7b8668556f0679a0e19b4cbcea111bf8a7c"), looks := false }, kinds := [], alts := [], laidByText := true, laidKinds := [.data, .pinned], laidTests := true, laidLooks := .later }
def TableBackCardSaid : Prop := Claim7.holds Tryz.pinned (.plain (OpenSpec.ofChange tableBackSpec)) tableBackCard

/-- THE TIED CARD OF 'tetherlaw07.TableLeft'. -/
def tableLeftCard : Claim7 := { stood := { row := tableLeftRow, standIns := [], harness := (true, "d921eabca7a1f070aa724c885af3b7b8668556f0679a0e19b4cbcea111bf8a7c"), looks := false }, kinds := [], alts := [], laidByText := true, laidKinds := [.data, .pinned], laidTests := true, laidLooks := .later }
def TableLeftCardSaid : Prop := Claim7.holds Tryz.pinned (.plain (OpenSpec.ofChange tableLeftSpec)) tableLeftCard

/-- THE TIED CARD OF 'tetherlaw07.TableRots'. -/
def tableRotsCard : Claim7 := { stood := { row := tableRotsRow, standIns := [], harness := (true, "d921eabca7a1f070aa724c885af3b7b8668556f0679a0e19b4cbcea111bf8a7c"), looks := false }, kinds := [], alts := [], laidByText := true, laidKinds := [.data, .pinned], laidTests := true, laidLooks := .later }
def TableRotsCardSaid : Prop := Claim7.holds Tryz.pinned (.plain (OpenSpec.ofChange tableRotsSpec)) tableRotsCard

/-- THE TIED CARD OF 'tetherlaw07.TableNil'. -/
def tableNilCard : Claim7 := { stood := { row := tableNilRow, standIns := [], harness := (true, "d921eabca7a1f070aa724c885af3b7b8668556f0679a0e19b4cbcea111bf8a7c"), looks := false }, kinds := [], alts := [], laidByText := true, laidKinds := [.data, .pinned], laidTests := true, laidLooks := .later }
def TableNilCardSaid : Prop := Claim7.holds Tryz.pinned (.plain (OpenSpec.ofChange tableNilSpec)) tableNilCard

/-- THE TIED CARD OF 'tetherlaw07.TableHolds'. -/
def tableHoldsCard : Claim7 := { stood := { row := tableHoldsRow, standIns := [], harness := (true, "d921eabca7a1f070aa724c885af3b7b8668556f0679a0e19b4cbcea111bf8a7c"), looks := false }, kinds := [], alts := [], laidByText := true, laidKinds := [.data, .pinned], laidTests := true, laidLooks := .later }
def TableHoldsCardSaid : Prop := Claim7.holds Tryz.pinned (.plain (OpenSpec.ofChange tableHoldsSpec)) tableHoldsCard

/-- THE TIED CARD OF 'tetherlaw07.TablePlays'. -/
def tablePlaysCard : Claim7 := { stood := { row := tablePlaysRow, standIns := [], harness := (true, "d921eabca7a1f070aa724c885af3b7b8668556f0679a0e19b4cbcea111bf8a7c"), looks := false }, kinds := [], alts := [], laidByText := true, laidKinds := [.data, .pinned], laidTests := true, laidLooks := .later }
def TablePlaysCardSaid : Prop := Claim7.holds Tryz.pinned (.plain (OpenSpec.ofChange tablePlaysSpec)) tablePlaysCard

/-- THE SECOND FORM's CARD OF 'tetherlaw07.TableRecords'. -/
def tableRecordsUptoCard : Claim7 := { stood := { row := tableRecordsUptoRow, standIns := [], harness := (true, "d921eabca7a1f070aa724c885af3b7b8668556f0679a0e19b4cbcea111bf8a7c"), looks := false }, kinds := [], alts := [], laidByText := true, laidKinds := [.data, .pinned], laidTests := true, laidLooks := .later }
def TableRecordsUptoCardSaid : Prop := Claim7.holds Tryz.pinned (.plain (OpenSpec.upto tableRecordsSpec)) tableRecordsUptoCard

/-- THE SECOND FORM's CARD OF 'tetherlaw07.TableBack'. -/
def tableBackUptoCard : Claim7 := { stood := { row := tableBackUptoRow, standIns := [], harness := (true, "d921eabca7a1f070aa724c885af3b7b8668556f0679a0e19b4cbcea111bf8a7c"), looks := false }, kinds := [], alts := [], laidByText := true, laidKinds := [.data, .pinned], laidTests := true, laidLooks := .later }
def TableBackUptoCardSaid : Prop := Claim7.holds Tryz.pinned (.plain (OpenSpec.upto tableBackSpec)) tableBackUptoCard

/-- THE SECOND FORM's CARD OF 'tetherlaw07.TableLeft'. -/
def tableLeftUptoCard : Claim7 := { stood := { row := tableLeftUptoRow, standIns := [], harness := (true, "d921eabca7a1f070aa724c885af3b7b8668556f0679a0e19b4cbcea111bf8a7c"), looks := false }, kinds := [], alts := [], laidByText := true, laidKinds := [.data, .pinned], laidTests := true, laidLooks := .later }
def TableLeftUptoCardSaid : Prop := Claim7.holds Tryz.pinned (.plain (OpenSpec.upto tableLeftSpec)) tableLeftUptoCard

/-- THE SECOND FORM's CARD OF 'tetherlaw07.TableRots'. -/
def tableRotsUptoCard : Claim7 := { stood := { row := tableRotsUptoRow, standIns := [], harness := (true, "d921eabca7a1f070aa724c885af3b7b8668556f0679a0e19b4cbcea111bf8a7c"), looks := false }, kinds := [], alts := [], laidByText := true, laidKinds := [.data, .pinned], laidTests := true, laidLooks := .later }
def TableRotsUptoCardSaid : Prop := Claim7.holds Tryz.pinned (.plain (OpenSpec.upto tableRotsSpec)) tableRotsUptoCard

/-- THE SECOND FORM's CARD OF 'tetherlaw07.TableNil'. -/
def tableNilUptoCard : Claim7 := { stood := { row := tableNilUptoRow, standIns := [], harness := (true, "d921eabca7a1f070aa724c885af3b7b8668556f0679a0e19b4cbcea111bf8a7c"), looks := false }, kinds := [], alts := [], laidByText := true, laidKinds := [.data, .pinned], laidTests := true, laidLooks := .later }
def TableNilUptoCardSaid : Prop := Claim7.holds Tryz.pinned (.plain (OpenSpec.upto tableNilSpec)) tableNilUptoCard

/-- THE SECOND FORM's CARD OF 'tetherlaw07.TableHolds'. -/
def tableHoldsUptoCard : Claim7 := { stood := { row := tableHoldsUptoRow, standIns := [], harness := (true, "d921eabca7a1f070aa724c885af3b7b8668556f0679a0e19b4cbcea111bf8a7c"), looks := false }, kinds := [], alts := [], laidByText := true, laidKinds := [.data, .pinned], laidTests := true, laidLooks := .later }
def TableHoldsUptoCardSaid : Prop := Claim7.holds Tryz.pinned (.plain (OpenSpec.upto tableHoldsSpec)) tableHoldsUptoCard

/-- THE SECOND FORM's CARD OF 'tetherlaw07.TablePlays'. -/
def tablePlaysUptoCard : Claim7 := { stood := { row := tablePlaysUptoRow, standIns := [], harness := (true, "d921eabca7a1f070aa724c885af3b7b8668556f0679a0e19b4cbcea111bf8a7c"), looks := false }, kinds := [], alts := [], laidByText := true, laidKinds := [.data, .pinned], laidTests := true, laidLooks := .later }
def TablePlaysUptoCardSaid : Prop := Claim7.holds Tryz.pinned (.plain (OpenSpec.upto tablePlaysSpec)) tablePlaysUptoCard
end Rows
end Go.Proofs.YtmofcalcdjoicaaGreatDoor
