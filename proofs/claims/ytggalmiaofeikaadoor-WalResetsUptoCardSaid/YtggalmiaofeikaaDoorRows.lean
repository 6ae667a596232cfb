/-
  NARROWER THAN 'FOR EVERY INPUT', by the rows' own cells (each row's printed sentence says how): WalNil: laid · WalRots: laid · WalHolds: laid · WalResets: laid.
  DERIVED. THE GIVEN ROWS OF THIS SEAT. 4 by the template 'for every input the law returns true; each argument reads behind the call as it read before'; 0 by the template 'total and deterministic' (their statements: YtggalmiaofeikaaDoorTotals.lean).
  GIVEN WITH THE SEED: the statements are not yours to turn. If you find one false, say at which input.
  Laid BY PROGRAM, IN A SANDBOX (cutbox-rows.mjs): the forced cells as the released guide's own fill.sh prints them over the translation 3cfd389654ebb838… (all of the seat's roots in one cut). By AI agents, Wed Nov 11 2026. No macro, syntax, notation, axiom, sorry.
-/
import Derived.Test.YtggalmiaofeikaaDoorChecked
import GoSem.PinnedTables
import GoSem.Claim
import GoSem.ClaimJoined
import GoSem.ClaimMapViews
import Derived.JoinedTies
import Derived.KernelRfl
namespace Go.Proofs.YtggalmiaofeikaaDoor
/- THE CELL 'sum', in the pinned program and in every row, IS THE sha256 OF THE DUMP (.gsa) THAT YtggalmiaofeikaaDoorProg.lean LOADS. Nothing in Lean hashes anything: it is a label: what it is worth is what the hold of that sum in a sandbox is worth. -/
noncomputable def Tryd.pinned : Pinned := { name := "ytggalmiaofeikaadoor", sum := "3cfd389654ebb8385b9dcdc695df127b4b321f60b8b8841155749d5b6e70715a", checked := Tryd.checked }
namespace Rows
def none {H : Type} : Left H := { results := [], args := [] }

/- WHAT THE LISTED PACKAGE-LEVEL VARIABLES READ AS WHEN THE CALL BEGINS. Each datum BY PROGRAM (the guide's laid-datum.mjs) off the statement by which the dump's own 'gosem.cut.vars' lays the variable. In a bare row this is a premise. The card (YtggalmiaofeikaaDoorCards.lean) ties it to the program's text. -/
def laid_unicode_utf8_acceptRanges {H : Type} : DataW H := .agg [.agg [.lit (.int .u8 128), .lit (.int .u8 191)], .agg [.lit (.int .u8 160), .lit (.int .u8 191)], .agg [.lit (.int .u8 128), .lit (.int .u8 159)], .agg [.lit (.int .u8 144), .lit (.int .u8 191)], .agg [.lit (.int .u8 128), .lit (.int .u8 143)], .agg [.lit (.int .u8 0), .lit (.int .u8 0)], .agg [.lit (.int .u8 0), .lit (.int .u8 0)], .agg [.lit (.int .u8 0), .lit (.int .u8 0)], .agg [.lit (.int .u8 0), .lit (.int .u8 0)], .agg [.lit (.int .u8 0), .lit (.int .u8 0)], .agg [.lit (.int .u8 0), .lit (.int .u8 0)], .agg [.lit (.int .u8 0), .lit (.int .u8 0)], .agg [.lit (.int .u8 0), .lit (.int .u8 0)], .agg [.lit (.int .u8 0), .lit (.int .u8 0)], .agg [.lit (.int .u8 0), .lit (.int .u8 0)], .agg [.lit (.int .u8 0), .lit (.int .u8 0)]]
/-- One of Go's own tables, pinned by name: the form's constant. -/
def laid_unicode_utf8_first : DataW Unit := Go.Pinned.utf8First

/-- 'tetherlaw06.WalNil': WHATEVER THE INPUT: true; the input reads as it did. -/
def walNilSpec : ChangeSpec := { name := "walNil", fn := fun _ => fun
  | [d1, d2] => { results := [.lit (.bool true)], args := [d1, d2] }
  | _ => none }
def walNilRow : OpenClaim := { program := "ytggalmiaofeikaadoor", sum := "3cfd389654ebb8385b9dcdc695df127b4b321f60b8b8841155749d5b6e70715a", func := "tether/tetherlaw06.WalNil", spec := "walNil", inPlace := ["internal/bytealg.CountString", "internal/bytealg.IndexByteString", "internal/bytealg.IndexString", "internal/abi.NoEscape"], unfollowed := true, recurses := true, named := ["unicode/utf8.first", "unicode/utf8.acceptRanges", "internal/bytealg.MaxLen"], apart := false, laid := [("unicode/utf8.acceptRanges", laid_unicode_utf8_acceptRanges), ("unicode/utf8.first", laid_unicode_utf8_first)] }
def WalNilSaid : Prop := walNilRow.holds Tryd.pinned (OpenSpec.ofChange walNilSpec)

/-- ITS FALSE NEIGHBOUR: 'it returns false'. Refute it at one input. -/
def walNilWrong : ChangeSpec := { name := "walNil", fn := fun _ => fun
  | [d1, d2] => { results := [.lit (.bool false)], args := [d1, d2] }
  | _ => none }
def WalNilWrongFalsely : Prop := walNilRow.holds Tryd.pinned (OpenSpec.ofChange walNilWrong)

/-- 'tetherlaw06.WalRots': WHATEVER THE INPUT: true; the input reads as it did. -/
def walRotsSpec : ChangeSpec := { name := "walRots", fn := fun _ => fun
  | [d1, d2, d3] => { results := [.lit (.bool true)], args := [d1, d2, d3] }
  | _ => none }
def walRotsRow : OpenClaim := { program := "ytggalmiaofeikaadoor", sum := "3cfd389654ebb8385b9dcdc695df127b4b321f60b8b8841155749d5b6e70715a", func := "tether/tetherlaw06.WalRots", spec := "walRots", inPlace := ["internal/bytealg.CountString", "internal/bytealg.IndexByteString", "internal/bytealg.IndexString", "internal/abi.NoEscape"], unfollowed := true, recurses := true, named := ["unicode/utf8.first", "unicode/utf8.acceptRanges", "internal/bytealg.MaxLen"], apart := false, laid := [("unicode/utf8.acceptRanges", laid_unicode_utf8_acceptRanges), ("unicode/utf8.first", laid_unicode_utf8_first)] }
def WalRotsSaid : Prop := walRotsRow.holds Tryd.pinned (OpenSpec.ofChange walRotsSpec)

/-- ITS FALSE NEIGHBOUR: 'it returns false'. Refute it at one input. -/
def walRotsWrong : ChangeSpec := { name := "walRots", fn := fun _ => fun
  | [d1, d2, d3] => { results := [.lit (.bool false)], args := [d1, d2, d3] }
  | _ => none }
def WalRotsWrongFalsely : Prop := walRotsRow.holds Tryd.pinned (OpenSpec.ofChange walRotsWrong)

/-- 'tetherlaw06.WalHolds': WHATEVER THE INPUT: true; the input reads as it did. -/
def walHoldsSpec : ChangeSpec := { name := "walHolds", fn := fun _ => fun
  | [d1, d2, d3] => { results := [.lit (.bool true)], args := [d1, d2, d3] }
  | _ => none }
def walHoldsRow : OpenClaim := { program := "ytggalmiaofeikaadoor", sum := "3cfd389654ebb8385b9dcdc695df127b4b321f60b8b8841155749d5b6e70715a", func := "tether/tetherlaw06.WalHolds", spec := "walHolds", inPlace := ["internal/bytealg.CountString", "internal/bytealg.IndexByteString", "internal/bytealg.IndexString", "internal/abi.NoEscape"], unfollowed := true, recurses := true, named := ["unicode/utf8.first", "unicode/utf8.acceptRanges", "internal/bytealg.MaxLen"], apart := false, laid := [("unicode/utf8.acceptRanges", laid_unicode_utf8_acceptRanges), ("unicode/utf8.first", laid_unicode_utf8_first)] }
def WalHoldsSaid : Prop := walHoldsRow.holds Tryd.pinned (OpenSpec.ofChange walHoldsSpec)

/-- ITS FALSE NEIGHBOUR: 'it returns false'. Refute it at one input. -/
def walHoldsWrong : ChangeSpec := { name := "walHolds", fn := fun _ => fun
  | [d1, d2, d3] => { results := [.lit (.bool false)], args := [d1, d2, d3] }
  | _ => none }
def WalHoldsWrongFalsely : Prop := walHoldsRow.holds Tryd.pinned (OpenSpec.ofChange walHoldsWrong)

/-- 'tetherlaw06.WalResets': WHATEVER THE INPUT: true; the input reads as it did. -/
def walResetsSpec : ChangeSpec := { name := "walResets", fn := fun _ => fun
  | [d1, d2, d3] => { results := [.lit (.bool true)], args := [d1, d2, d3] }
  | _ => none }
def walResetsRow : OpenClaim := { program := "ytggalmiaofeikaadoor", sum := "3cfd389654ebb8385b9dcdc695df127b4b321f60b8b8841155749d5b6e70715a", func := "tether/tetherlaw06.WalResets", spec := "walResets", inPlace := ["internal/bytealg.CountString", "internal/bytealg.IndexByteString", "internal/bytealg.IndexString", "internal/abi.NoEscape"], unfollowed := true, recurses := true, named := ["unicode/utf8.first", "unicode/utf8.acceptRanges", "internal/bytealg.MaxLen"], apart := false, laid := [("unicode/utf8.acceptRanges", laid_unicode_utf8_acceptRanges), ("unicode/utf8.first", laid_unicode_utf8_first)] }
def WalResetsSaid : Prop := walResetsRow.holds Tryd.pinned (OpenSpec.ofChange walResetsSpec)

/-- ITS FALSE NEIGHBOUR: 'it returns false'. Refute it at one input. -/
def walResetsWrong : ChangeSpec := { name := "walResets", fn := fun _ => fun
  | [d1, d2, d3] => { results := [.lit (.bool false)], args := [d1, d2, d3] }
  | _ => none }
def WalResetsWrongFalsely : Prop := walResetsRow.holds Tryd.pinned (OpenSpec.ofChange walResetsWrong)

/- THE SECOND FORM. 'bulk': how many values and letters a reading holds, each counted each time it is reached (what is shared counts as often as it is met; a slice's spare places count too). A statement '..UptoSaid' is the law's where the arguments, and the package variables that the reading takes, are together of bulk at most 1048576: NARROWER than '..Said'. Prove '..Said' where nothing that the law and all that it calls make is longer than what came in: it says more and counts as full. Else prove '..UptoSaid'. A law counts once. -/
mutual
def uptoBulk {H : Type} : DataW H → Nat
  | .lit (.string bytes) => bytes.length + 1
  | .lit _ => 1
  | .nil => 1
  | .ptr d => uptoBulk d + 1
  | .slice elems spare => uptoBulkAll elems + uptoBulkAll spare + 1
  | .agg parts => uptoBulkAll parts + 1
  | .iface _ d => uptoBulk d + 1
  | .map entries => uptoBulkEntries entries + 1
  | .held _ => 1
def uptoBulkAll {H : Type} : List (DataW H) → Nat
  | [] => 0
  | d :: r => uptoBulk d + uptoBulkAll r
def uptoBulkEntries {H : Type} : List (Lit × DataW H) → Nat
  | [] => 0
  | x :: r => uptoBulkEntry x + uptoBulkEntries r
def uptoBulkEntry {H : Type} : Lit × DataW H → Nat
  | (.string bytes, d) => bytes.length + uptoBulk d + 1
  | (_, d) => uptoBulk d + 1
 end
def uptoSmall : (H : Type) → List (DataW H) → Bool := fun _ ds => decide (uptoBulkAll ds ≤ 1048576)
def OpenSpec.upto (s : _root_.Go.ChangeSpec) : _root_.Go.OpenSpec := { _root_.Go.OpenSpec.ofChange s with cond := some uptoSmall }

/-- 'tetherlaw06.WalNil', WHERE WHAT IT READS IS OF BULK AT MOST 1048576: true; the input reads as it did. -/
def walNilUptoRow : OpenClaim := { program := "ytggalmiaofeikaadoor", sum := "3cfd389654ebb8385b9dcdc695df127b4b321f60b8b8841155749d5b6e70715a", func := "tether/tetherlaw06.WalNil", spec := "walNil", inPlace := ["internal/bytealg.CountString", "internal/bytealg.IndexByteString", "internal/bytealg.IndexString", "internal/abi.NoEscape"], unfollowed := true, recurses := true, named := ["unicode/utf8.first", "unicode/utf8.acceptRanges", "internal/bytealg.MaxLen"], apart := false, laid := [("unicode/utf8.acceptRanges", laid_unicode_utf8_acceptRanges), ("unicode/utf8.first", laid_unicode_utf8_first)], narrowed := true }
def WalNilUptoSaid : Prop := walNilUptoRow.holds Tryd.pinned (OpenSpec.upto walNilSpec)

/-- 'tetherlaw06.WalRots', WHERE WHAT IT READS IS OF BULK AT MOST 1048576: true; the input reads as it did. -/
def walRotsUptoRow : OpenClaim := { program := "ytggalmiaofeikaadoor", sum := "3cfd389654ebb8385b9dcdc695df127b4b321f60b8b8841155749d5b6e70715a", func := "tether/tetherlaw06.WalRots", spec := "walRots", inPlace := ["internal/bytealg.CountString", "internal/bytealg.IndexByteString", "internal/bytealg.IndexString", "internal/abi.NoEscape"], unfollowed := true, recurses := true, named := ["unicode/utf8.first", "unicode/utf8.acceptRanges", "internal/bytealg.MaxLen"], apart := false, laid := [("unicode/utf8.acceptRanges", laid_unicode_utf8_acceptRanges), ("unicode/utf8.first", laid_unicode_utf8_first)], narrowed := true }
def WalRotsUptoSaid : Prop := walRotsUptoRow.holds Tryd.pinned (OpenSpec.upto walRotsSpec)

/-- 'tetherlaw06.WalHolds', WHERE WHAT IT READS IS OF BULK AT MOST 1048576: true; the input reads as it did. -/
def walHoldsUptoRow : OpenClaim := { program := "ytggalmiaofeikaadoor", sum := "3cfd389654ebb8385b9dcdc695df127b4b321f60b8b8841155749d5b6e70715a", func := "tether/tetherlaw06.WalHolds", spec := "walHolds", inPlace := ["internal/bytealg.CountString", "internal/bytealg.IndexByteString", "internal/bytealg.IndexString", "internal/abi.NoEscape"], unfollowed := true, recurses := true, named := ["unicode/utf8.first", "unicode/utf8.acceptRanges", "internal/bytealg.MaxLen"], apart := false, laid := [("unicode/utf8.acceptRanges", laid_unicode_utf8_acceptRanges), ("unicode/utf8.first", laid_unicode_utf8_first)], narrowed := true }
def WalHoldsUptoSaid : Prop := walHoldsUptoRow.holds Tryd.pinned (OpenSpec.upto walHoldsSpec)

/-- 'tetherlaw06.WalResets', WHERE WHAT IT READS IS OF BULK AT MOST 1048576: true; the input reads as it did. -/
def walResetsUptoRow : OpenClaim := { program := "ytggalmiaofeikaadoor", sum := "3cfd389654ebb8385b9dcdc695df127b4b321f60b8b8841155749d5b6e70715a", func := "tether/tetherlaw06.WalResets", spec := "walResets", inPlace := ["internal/bytealg.CountString", "internal/bytealg.IndexByteString", "internal/bytealg.IndexString", "internal/abi.NoEscape"], unfollowed := true, recurses := true, named := ["unicode/utf8.first", "unicode/utf8.acceptRanges", "internal/bytealg.MaxLen"], apart := false, laid := [("unicode/utf8.acceptRanges", laid_unicode_utf8_acceptRanges), ("unicode/utf8.first", laid_unicode_utf8_first)], narrowed := true }
def WalResetsUptoSaid : Prop := walResetsUptoRow.holds Tryd.pinned (OpenSpec.upto walResetsSpec)

end Rows
end Go.Proofs.YtggalmiaofeikaaDoor
