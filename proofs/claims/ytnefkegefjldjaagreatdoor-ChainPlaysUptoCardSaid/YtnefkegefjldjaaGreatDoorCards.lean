/-
  DERIVED. GIVEN WITH THE SEED: THE CARDS: each row of YtnefkegefjldjaaGreatDoorRows.lean that lists a variable, with what it lists TIED to the program's text (the seventh form; the later family's looks); each row that meets fmt, with fmt's text TOLD by the authors' own Lean function (tested against real Go, not proved from fmt's source: count such statements apart). THE CARD IS WHAT COUNTS. Prove the row's statement (the work); the ties are given (YtnefkegefjldjaaGreatDoorTie.lean); close each card by the builder's one call (the guide's Derived/Test/ToyasCard.lean, 'card_holds'). Laid BY PROGRAM, IN A SANDBOX (cutbox-door.mjs). By AI agents, Wed Nov 11 2026. No macro, syntax, notation, axiom, sorry.
-/
import Derived.Test.YtnefkegefjldjaaGreatDoorRows
import GoSem.ClaimSeven
namespace Go.Proofs.YtnefkegefjldjaaGreatDoor
namespace Rows

/-- THE TIED CARD OF 'tetherlaw10.ChainHolds'. -/
def chainHoldsCard : Claim7 := { stood := { row := chainHoldsRow, standIns := [], harness := (true, "549269ef759dcae029515ee701ffb1f5a760a812fa9f3b1c249677c4825f6cca"), looks := true }, kinds := [], alts := [], laidByText := true, laidKinds := [.data, .data, .data, .data, .sentinel, .sentinel, .pinned], laidTests := true, laidLooks := .later }
def ChainHoldsCardSaid : Prop := Claim7.holds Tryz.pinned (.plain (OpenSpec.ofChange chainHoldsSpec)) chainHoldsCard

/-- THE TIED CARD OF 'tetherlaw10.ChainSmall'. -/
def chainSmallCard : Claim7 := { stood := { row := chainSmallRow, standIns := [], harness := (true, "549269ef759dcae029515ee701ffb1f5a760a812fa9f3b1c249677c4825f6cca"), looks := true }, kinds := [], alts := [], laidByText := true, laidKinds := [.data, .data, .data, .data, .sentinel, .sentinel, .pinned], laidTests := true, laidLooks := .later }
def ChainSmallCardSaid : Prop := Claim7.holds Tryz.pinned (.plain (OpenSpec.ofChange chainSmallSpec)) chainSmallCard

/-- THE TIED CARD OF 'tetherlaw10.ChainPlays'. -/
def chainPlaysCard : Claim7 := { stood := { row := chainPlaysRow, standIns := [], harness := (true, "549269ef759dcae029515ee701ffb1f5a760a812fa9f3b1c249677c4825f6cca"), looks := true }, kinds := [], alts := [], laidByText := true, laidKinds := [.data, .data, .data, .data, .sentinel, .sentinel, .pinned], laidTests := true, laidLooks := .later }
def ChainPlaysCardSaid : Prop := Claim7.holds Tryz.pinned (.plain (OpenSpec.ofChange chainPlaysSpec)) chainPlaysCard

/-- THE SECOND FORM's CARD OF 'tetherlaw10.ChainHolds'. -/
def chainHoldsUptoCard : Claim7 := { stood := { row := chainHoldsUptoRow, standIns := [], harness := (true, "549269ef759dcae029515ee701ffb1f5a760a812fa9f3b1c249677c4825f6cca"), looks := true }, kinds := [], alts := [], laidByText := true, laidKinds := [.data, .data, .data, .data, .sentinel, .sentinel, .pinned], laidTests := true, laidLooks := .later }
def ChainHoldsUptoCardSaid : Prop := Claim7.holds Tryz.pinned (.plain (OpenSpec.upto chainHoldsSpec)) chainHoldsUptoCard

/-- THE SECOND FORM's CARD OF 'tetherlaw10.ChainSmall'. -/
def chainSmallUptoCard : Claim7 := { stood := { row := chainSmallUptoRow, standIns := [], harness := (true, "549269ef759dcae029515ee701ffb1f5a760a812fa9f3b1c249677c4825f6cca"), looks := true }, kinds := [], alts := [], laidByText := true, laidKinds := [.data, .data, .data, .data, .sentinel, .sentinel, .pinned], laidTests := true, laidLooks := .later }
def ChainSmallUptoCardSaid : Prop := Claim7.holds Tryz.pinned (.plain (OpenSpec.upto chainSmallSpec)) chainSmallUptoCard

/-- THE SECOND FORM's CARD OF 'tetherlaw10.ChainPlays'. -/
def chainPlaysUptoCard : Claim7 := { stood := { row := chainPlaysUptoRow, standIns := [], harness := (true, "549269ef759dcae029515ee701ffb1f5a760a812fa9f3b1c249677c4825f6cca"), looks := true }, kinds := [], alts := [], laidByText := true, laidKinds := [.data, .data, .data, .data, .sentinel, .sentinel, .pinned], laidTests := true, laidLooks := .later }
def ChainPlaysUptoCardSaid : Prop := Claim7.holds Tryz.pinned (.plain (OpenSpec.upto chainPlaysSpec)) chainPlaysUptoCard
end Rows
end Go.Proofs.YtnefkegefjldjaaGreatDoor
