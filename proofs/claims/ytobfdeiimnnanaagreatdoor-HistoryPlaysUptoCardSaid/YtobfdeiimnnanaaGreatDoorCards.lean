/-
  DERIVED. GIVEN WITH THE SEED: THE CARDS: each row of YtobfdeiimnnanaaGreatDoorRows.lean that lists a variable, with what it lists TIED to the program's text (the seventh form; the later family's looks); each row that meets fmt, with fmt's text TOLD by the authors' own Lean function (tested against real Go, not proved from fmt's source: count such statements apart). THE CARD IS WHAT COUNTS. Prove the row's statement (the work); the ties are given (YtobfdeiimnnanaaGreatDoorTie.lean); close each card by the builder's one call (the guide's Derived/Test/ToyasCard.lean, 'card_holds'). Laid BY PROGRAM, IN A SANDBOX (cutbox-door.mjs). By AI agents, Wed Nov 11 2026. No macro, syntax, notation, axiom, sorry.
-/
import Derived.Test.YtobfdeiimnnanaaGreatDoorRows
import GoSem.ClaimSeven
namespace Go.Proofs.YtobfdeiimnnanaaGreatDoor
namespace Rows

/-- THE TIED CARD OF 'tetherlaw21.HistoryBefore'. -/
def historyBeforeCard : Claim7 := { stood := { row := historyBeforeRow, standIns := [], harness := (true, "6faf8a228e106bf7590f1b8ad65f755cf08452cfbb7e0404d7a08062e761bb69"), looks := true }, kinds := [], alts := [], laidByText := true, laidKinds := [.data, .data, .data, .data, .pinned], laidTests := true, laidLooks := .later }
def HistoryBeforeCardSaid : Prop := Claim7.holds Tryz.pinned (.plain (OpenSpec.ofChange historyBeforeSpec)) historyBeforeCard

/-- THE TIED CARD OF 'tetherlaw16.ArchiveRoom'. -/
def archiveRoomCard : Claim7 := { stood := { row := archiveRoomRow, standIns := [], harness := (true, "6faf8a228e106bf7590f1b8ad65f755cf08452cfbb7e0404d7a08062e761bb69"), looks := true }, kinds := [], alts := [], laidByText := true, laidKinds := [.data, .data, .data, .data, .sentinel, .sentinel, .pinned], laidTests := true, laidLooks := .later }
def ArchiveRoomCardSaid : Prop := Claim7.holds Tryz.pinned (.plain (OpenSpec.ofChange archiveRoomSpec)) archiveRoomCard

/-- THE TIED CARD OF 'tetherlaw16.ArchiveBits'. -/
def archiveBitsCard : Claim7 := { stood := { row := archiveBitsRow, standIns := [], harness := (true, "6faf8a228e106bf7590f1b8ad65f755cf08452cfbb7e0404d7a08062e761bb69"), looks := true }, kinds := [], alts := [], laidByText := true, laidKinds := [.data, .data, .data, .data, .sentinel, .sentinel, .pinned], laidTests := true, laidLooks := .later }
def ArchiveBitsCardSaid : Prop := Claim7.holds Tryz.pinned (.plain (OpenSpec.ofChange archiveBitsSpec)) archiveBitsCard

/-- THE TIED CARD OF 'tetherlaw16.ArchivePlays'. -/
def archivePlaysCard : Claim7 := { stood := { row := archivePlaysRow, standIns := [], harness := (true, "6faf8a228e106bf7590f1b8ad65f755cf08452cfbb7e0404d7a08062e761bb69"), looks := true }, kinds := [], alts := [], laidByText := true, laidKinds := [.data, .data, .data, .data, .sentinel, .sentinel, .pinned], laidTests := true, laidLooks := .later }
def ArchivePlaysCardSaid : Prop := Claim7.holds Tryz.pinned (.plain (OpenSpec.ofChange archivePlaysSpec)) archivePlaysCard

/-- THE TIED CARD OF 'tetherlaw21.HistoryHolds'. -/
def historyHoldsCard : Claim7 := { stood := { row := historyHoldsRow, standIns := [], harness := (true, "6faf8a228e106bf7590f1b8ad65f755cf08452cfbb7e0404d7a08062e761bb69"), looks := true }, kinds := [], alts := [], laidByText := true, laidKinds := [.data, .data, .data, .data, .sentinel, .sentinel, .pinned], laidTests := true, laidLooks := .later }
def HistoryHoldsCardSaid : Prop := Claim7.holds Tryz.pinned (.plain (OpenSpec.ofChange historyHoldsSpec)) historyHoldsCard

/-- THE TIED CARD OF 'tetherlaw21.HistoryRoom'. -/
def historyRoomCard : Claim7 := { stood := { row := historyRoomRow, standIns := [], harness := (true, "6faf8a228e106bf7590f1b8ad65f755cf08452cfbb7e0404d7a08062e761bb69"), looks := true }, kinds := [], alts := [], laidByText := true, laidKinds := [.data, .data, .data, .data, .sentinel, .sentinel, .pinned], laidTests := true, laidLooks := .later }
def HistoryRoomCardSaid : Prop := Claim7.holds Tryz.pinned (.plain (OpenSpec.ofChange historyRoomSpec)) historyRoomCard

/-- THE TIED CARD OF 'tetherlaw21.HistoryPlays'. -/
def historyPlaysCard : Claim7 := { stood := { row := historyPlaysRow, standIns := [], harness := (true, "6faf8a228e106bf7590f1b8ad65f755cf08452cfbb7e0404d7a08062e761bb69"), looks := true }, kinds := [], alts := [], laidByText := true, laidKinds := [.data, .data, .data, .data, .sentinel, .sentinel, .pinned], laidTests := true, laidLooks := .later }
def HistoryPlaysCardSaid : Prop := Claim7.holds Tryz.pinned (.plain (OpenSpec.ofChange historyPlaysSpec)) historyPlaysCard

/-- THE SECOND FORM's CARD OF 'tetherlaw21.HistoryBefore'. -/
def historyBeforeUptoCard : Claim7 := { stood := { row := historyBeforeUptoRow, standIns := [], harness := (true, "6faf8a228e106bf7590f1b8ad65f755cf08452cfbb7e0404d7a08062e761bb69"), looks := true }, kinds := [], alts := [], laidByText := true, laidKinds := [.data, .data, .data, .data, .pinned], laidTests := true, laidLooks := .later }
def HistoryBeforeUptoCardSaid : Prop := Claim7.holds Tryz.pinned (.plain (OpenSpec.upto historyBeforeSpec)) historyBeforeUptoCard

/-- THE SECOND FORM's CARD OF 'tetherlaw16.ArchiveRoom'. -/
def archiveRoomUptoCard : Claim7 := { stood := { row := archiveRoomUptoRow, standIns := [], harness := (true, "6faf8a228e106bf7590f1b8ad65f755cf08452cfbb7e0404d7a08062e761bb69"), looks := true }, kinds := [], alts := [], laidByText := true, laidKinds := [.data, .data, .data, .data, .sentinel, .sentinel, .pinned], laidTests := true, laidLooks := .later }
def ArchiveRoomUptoCardSaid : Prop := Claim7.holds Tryz.pinned (.plain (OpenSpec.upto archiveRoomSpec)) archiveRoomUptoCard

/-- THE SECOND FORM's CARD OF 'tetherlaw16.ArchiveBits'. -/
def archiveBitsUptoCard : Claim7 := { stood := { row := archiveBitsUptoRow, standIns := [], harness := (true, "6faf8a228e106bf7590f1b8ad65f755cf08452cfbb7e0404d7a08062e761bb69"), looks := true }, kinds := [], alts := [], laidByText := true, laidKinds := [.data, .data, .data, .data, .sentinel, .sentinel, .pinned], laidTests := true, laidLooks := .later }
def ArchiveBitsUptoCardSaid : Prop := Claim7.holds Tryz.pinned (.plain (OpenSpec.upto archiveBitsSpec)) archiveBitsUptoCard

/-- THE SECOND FORM's CARD OF 'tetherlaw16.ArchivePlays'. -/
def archivePlaysUptoCard : Claim7 := { stood := { row := archivePlaysUptoRow, standIns := [], harness := (true, "6faf8a228e106bf7590f1b8ad65f755cf08452cfbb7e0404d7a08062e761bb69"), looks := true }, kinds := [], alts := [], laidByText := true, laidKinds := [.data, .data, .data, .data, .sentinel, .sentinel, .pinned], laidTests := true, laidLooks := .later }
def ArchivePlaysUptoCardSaid : Prop := Claim7.holds Tryz.pinned (.plain (OpenSpec.upto archivePlaysSpec)) archivePlaysUptoCard

/-- THE SECOND FORM's CARD OF 'tetherlaw21.HistoryHolds'. -/
def historyHoldsUptoCard : Claim7 := { stood := { row := historyHoldsUptoRow, standIns := [], harness := (true, "6faf8a228e106bf7590f1b8ad65f755cf08452cfbb7e0404d7a08062e761bb69"), looks := true }, kinds := [], alts := [], laidByText := true, laidKinds := [.data, .data, .data, .data, .sentinel, .sentinel, .pinned], laidTests := true, laidLooks := .later }
def HistoryHoldsUptoCardSaid : Prop := Claim7.holds Tryz.pinned (.plain (OpenSpec.upto historyHoldsSpec)) historyHoldsUptoCard

/-- THE SECOND FORM's CARD OF 'tetherlaw21.HistoryRoom'. -/
def historyRoomUptoCard : Claim7 := { stood := { row := historyRoomUptoRow, standIns := [], harness := (true, "6faf8a228e106bf7590f1b8ad65f755cf08452cfbb7e0404d7a08062e761bb69"), looks := true }, kinds := [], alts := [], laidByText := true, laidKinds := [.data, .data, .data, .data, .sentinel, .sentinel, .pinned], laidTests := true, laidLooks := .later }
def HistoryRoomUptoCardSaid : Prop := Claim7.holds Tryz.pinned (.plain (OpenSpec.upto historyRoomSpec)) historyRoomUptoCard

/-- THE SECOND FORM's CARD OF 'tetherlaw21.HistoryPlays'. -/
def historyPlaysUptoCard : Claim7 := { stood := { row := historyPlaysUptoRow, standIns := [], harness := (true, "6faf8a228e106bf7590f1b8ad65f755cf08452cfbb7e0404d7a08062e761bb69"), looks := true }, kinds := [], alts := [], laidByText := true, laidKinds := [.data, .data, .data, .data, .sentinel, .sentinel, .pinned], laidTests := true, laidLooks := .later }
def HistoryPlaysUptoCardSaid : Prop := Claim7.holds Tryz.pinned (.plain (OpenSpec.upto historyPlaysSpec)) historyPlaysUptoCard
end Rows
end Go.Proofs.YtobfdeiimnnanaaGreatDoor
