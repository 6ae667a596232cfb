/-
  DERIVED. GIVEN WITH THE SEED: THE CARDS: each row of YtcegmpijknpgeaaDoorRows.lean that lists a variable, with what it lists TIED to the program's text (the seventh form; the later family's looks); each row that meets fmt, with fmt's text TOLD by the authors' own Lean function (tested against real Go, not proved from fmt's source: count such statements apart). THE CARD IS WHAT COUNTS. Prove the row's statement (the work); the ties are given (YtcegmpijknpgeaaDoorTie.lean); close each card by the builder's one call (the guide's Derived/Test/ToyasCard.lean, 'card_holds'). Laid BY PROGRAM, IN A SANDBOX (cutbox-door.mjs). By AI agents, Wed Nov 11 2026. No macro, syntax, notation, axiom, sorry.
-/
import Derived.Test.YtcegmpijknpgeaaDoorRows
import GoSem.ClaimSeven
namespace Go.Proofs.YtcegmpijknpgeaaDoor
namespace Rows

/-- THE TIED CARD OF 'tetherlaw25.CommandParses'. -/
def commandParsesCard : Claim7 := { stood := { row := commandParsesRow, standIns := [], harness := (true, "6f6b78379cda59dc59dc25fa6b2aa67740a36f78dec8e6994e08ff2f4470afcf"), looks := true }, kinds := [], alts := [], laidByText := true, laidKinds := [.data, .data, .data, .data, .sentinel, .sentinel, .pinned], laidTests := true, laidLooks := .later }
def CommandParsesCardSaid : Prop := Claim7.holds Tryd.pinned (.plain (OpenSpec.ofChange commandParsesSpec)) commandParsesCard

/-- THE TIED CARD OF 'tetherlaw25.CommandGives'. -/
def commandGivesCard : Claim7 := { stood := { row := commandGivesRow, standIns := [], harness := (true, "6f6b78379cda59dc59dc25fa6b2aa67740a36f78dec8e6994e08ff2f4470afcf"), looks := true }, kinds := [], alts := [], laidByText := true, laidKinds := [.data, .data, .data, .data, .sentinel, .sentinel, .pinned], laidTests := true, laidLooks := .later }
def CommandGivesCardSaid : Prop := Claim7.holds Tryd.pinned (.plain (OpenSpec.ofChange commandGivesSpec)) commandGivesCard

/-- THE TIED CARD OF 'tetherlaw25.CommandPrints'. -/
def commandPrintsCard : Claim7 := { stood := { row := commandPrintsRow, standIns := [], harness := (true, "6f6b78379cda59dc59dc25fa6b2aa67740a36f78dec8e6994e08ff2f4470afcf"), looks := true }, kinds := [], alts := [], laidByText := true, laidKinds := [.data, .data, .data, .data, .sentinel, .sentinel, .pinned], laidTests := true, laidLooks := .later }
def CommandPrintsCardSaid : Prop := Claim7.holds Tryd.pinned (.plain (OpenSpec.ofChange commandPrintsSpec)) commandPrintsCard

/-- THE TIED CARD OF 'tetherlaw25.CommandBack'. -/
def commandBackCard : Claim7 := { stood := { row := commandBackRow, standIns := [], harness := (true, "6f6b78379cda59dc59dc25fa6b2aa67740a36f78dec8e6994e08ff2f4470afcf"), looks := true }, kinds := [], alts := [], laidByText := true, laidKinds := [.data, .data, .data, .data, .sentinel, .sentinel, .pinned], laidTests := true, laidLooks := .later }
def CommandBackCardSaid : Prop := Claim7.holds Tryd.pinned (.plain (OpenSpec.ofChange commandBackSpec)) commandBackCard

/-- THE SECOND FORM's CARD OF 'tetherlaw25.CommandParses'. -/
def commandParsesUptoCard : Claim7 := { stood := { row := commandParsesUptoRow, standIns := [], harness := (true, "6f6b78379cda59dc59dc25fa6b2aa67740a36f78dec8e6994e08ff2f4470afcf"), looks := true }, kinds := [], alts := [], laidByText := true, laidKinds := [.data, .data, .data, .data, .sentinel, .sentinel, .pinned], laidTests := true, laidLooks := .later }
def CommandParsesUptoCardSaid : Prop := Claim7.holds Tryd.pinned (.plain (OpenSpec.upto commandParsesSpec)) commandParsesUptoCard

/-- THE SECOND FORM's CARD OF 'tetherlaw25.CommandGives'. -/
def commandGivesUptoCard : Claim7 := { stood := { row := commandGivesUptoRow, standIns := [], harness := (true, "6f6b78379cda59dc59dc25fa6b2aa67740a36f78dec8e6994e08ff2f4470afcf"), looks := true }, kinds := [], alts := [], laidByText := true, laidKinds := [.data, .data, .data, .data, .sentinel, .sentinel, .pinned], laidTests := true, laidLooks := .later }
def CommandGivesUptoCardSaid : Prop := Claim7.holds Tryd.pinned (.plain (OpenSpec.upto commandGivesSpec)) commandGivesUptoCard

/-- THE SECOND FORM's CARD OF 'tetherlaw25.CommandPrints'. -/
def commandPrintsUptoCard : Claim7 := { stood := { row := commandPrintsUptoRow, standIns := [], harness := (true, "6f6b78379cda59dc59dc25fa6b2aa67740a36f78dec8e6994e08ff2f4470afcf"), looks := true }, kinds := [], alts := [], laidByText := true, laidKinds := [.data, .data, .data, .data, .sentinel, .sentinel, .pinned], laidTests := true, laidLooks := .later }
def CommandPrintsUptoCardSaid : Prop := Claim7.holds Tryd.pinned (.plain (OpenSpec.upto commandPrintsSpec)) commandPrintsUptoCard

/-- THE SECOND FORM's CARD OF 'tetherlaw25.CommandBack'. -/
def commandBackUptoCard : Claim7 := { stood := { row := commandBackUptoRow, standIns := [], harness := (true, "6f6b78379cda59dc59dc25fa6b2aa67740a36f78dec8e6994e08ff2f4470afcf"), looks := true }, kinds := [], alts := [], laidByText := true, laidKinds := [.data, .data, .data, .data, .sentinel, .sentinel, .pinned], laidTests := true, laidLooks := .later }
def CommandBackUptoCardSaid : Prop := Claim7.holds Tryd.pinned (.plain (OpenSpec.upto commandBackSpec)) commandBackUptoCard
end Rows
end Go.Proofs.YtcegmpijknpgeaaDoor
