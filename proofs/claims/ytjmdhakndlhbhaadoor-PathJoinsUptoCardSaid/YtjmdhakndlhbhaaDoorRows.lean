/-
  NARROWER THAN 'FOR EVERY INPUT', by the rows' own cells (each row's printed sentence says how): PathChecks: laid · PathSorts: laid · PathParts: laid · PathJoins: laid.
  DERIVED. THE GIVEN ROWS OF THIS SEAT. 4 by the template 'for every input the law returns true; each argument reads behind the call as it read before'; 0 by the template 'total and deterministic' (their statements: YtjmdhakndlhbhaaDoorTotals.lean).
  GIVEN WITH THE SEED: the statements are not yours to turn. If you find one false, say at which input.
  Laid BY PROGRAM, IN A SANDBOX (cutbox-rows.mjs): the forced cells as the released guide's own fill.sh prints them over the translation 69e8f4e118bc75d0… (all of the seat's roots in one cut). By AI agents, Wed Nov 11 2026. No macro, syntax, notation, axiom, sorry.
-/
import Derived.Test.YtjmdhakndlhbhaaDoorChecked
import GoSem.PinnedTables
import GoSem.Claim
import GoSem.ClaimJoined
import GoSem.ClaimMapViews
import Derived.JoinedTies
import Derived.KernelRfl
namespace Go.Proofs.YtjmdhakndlhbhaaDoor
/- THE CELL 'sum', in the pinned program and in every row, IS THE sha256 OF THE DUMP (.gsa) THAT YtjmdhakndlhbhaaDoorProg.lean LOADS. Nothing in Lean hashes anything: it is a label: what it is worth is what the hold of that sum in a sandbox is worth. -/
noncomputable def Tryd.pinned : Pinned := { name := "ytjmdhakndlhbhaadoor", sum := "69e8f4e118bc75d076a5b9d24ed4b13edafac4e89440340ee51358d7fa205bc1", checked := Tryd.checked }
namespace Rows
def none {H : Type} : Left H := { results := [], args := [] }

/- WHAT THE LISTED PACKAGE-LEVEL VARIABLES READ AS WHEN THE CALL BEGINS. Each datum BY PROGRAM (the guide's laid-datum.mjs) off the statement by which the dump's own 'gosem.cut.vars' lays the variable. In a bare row this is a premise. The card (YtjmdhakndlhbhaaDoorCards.lean) ties it to the program's text. -/
def laid_unicode_utf8_acceptRanges {H : Type} : DataW H := .agg [.agg [.lit (.int .u8 128), .lit (.int .u8 191)], .agg [.lit (.int .u8 160), .lit (.int .u8 191)], .agg [.lit (.int .u8 128), .lit (.int .u8 159)], .agg [.lit (.int .u8 144), .lit (.int .u8 191)], .agg [.lit (.int .u8 128), .lit (.int .u8 143)], .agg [.lit (.int .u8 0), .lit (.int .u8 0)], .agg [.lit (.int .u8 0), .lit (.int .u8 0)], .agg [.lit (.int .u8 0), .lit (.int .u8 0)], .agg [.lit (.int .u8 0), .lit (.int .u8 0)], .agg [.lit (.int .u8 0), .lit (.int .u8 0)], .agg [.lit (.int .u8 0), .lit (.int .u8 0)], .agg [.lit (.int .u8 0), .lit (.int .u8 0)], .agg [.lit (.int .u8 0), .lit (.int .u8 0)], .agg [.lit (.int .u8 0), .lit (.int .u8 0)], .agg [.lit (.int .u8 0), .lit (.int .u8 0)], .agg [.lit (.int .u8 0), .lit (.int .u8 0)]]
/-- One of Go's own tables, pinned by name: the form's constant. -/
def laid_unicode_utf8_first : DataW Unit := Go.Pinned.utf8First

/-- 'tetherlaw03.PathChecks': WHATEVER THE INPUT: true; the input reads as it did. -/
def pathChecksSpec : ChangeSpec := { name := "pathChecks", fn := fun _ => fun
  | [d1, d2] => { results := [.lit (.bool true)], args := [d1, d2] }
  | _ => none }
def pathChecksRow : OpenClaim := { program := "ytjmdhakndlhbhaadoor", sum := "69e8f4e118bc75d076a5b9d24ed4b13edafac4e89440340ee51358d7fa205bc1", func := "tether/tetherlaw03.PathChecks", spec := "pathChecks", inPlace := ["internal/bytealg.CountString", "internal/bytealg.IndexByteString", "internal/bytealg.IndexString"], named := ["unicode/utf8.first", "unicode/utf8.acceptRanges", "internal/bytealg.MaxLen"], apart := false, laid := [("unicode/utf8.acceptRanges", laid_unicode_utf8_acceptRanges), ("unicode/utf8.first", laid_unicode_utf8_first)] }
def PathChecksSaid : Prop := pathChecksRow.holds Tryd.pinned (OpenSpec.ofChange pathChecksSpec)

/-- ITS FALSE NEIGHBOUR: 'it returns false'. Refute it at one input. -/
def pathChecksWrong : ChangeSpec := { name := "pathChecks", fn := fun _ => fun
  | [d1, d2] => { results := [.lit (.bool false)], args := [d1, d2] }
  | _ => none }
def PathChecksWrongFalsely : Prop := pathChecksRow.holds Tryd.pinned (OpenSpec.ofChange pathChecksWrong)

/-- 'tetherlaw03.PathSorts': WHATEVER THE INPUT: true; the input reads as it did. -/
def pathSortsSpec : ChangeSpec := { name := "pathSorts", fn := fun _ => fun
  | [d1, d2, d3] => { results := [.lit (.bool true)], args := [d1, d2, d3] }
  | _ => none }
def pathSortsRow : OpenClaim := { program := "ytjmdhakndlhbhaadoor", sum := "69e8f4e118bc75d076a5b9d24ed4b13edafac4e89440340ee51358d7fa205bc1", func := "tether/tetherlaw03.PathSorts", spec := "pathSorts", inPlace := ["internal/bytealg.CountString", "internal/bytealg.IndexByteString", "internal/bytealg.IndexString"], named := ["unicode/utf8.first", "unicode/utf8.acceptRanges", "internal/bytealg.MaxLen"], apart := false, laid := [("unicode/utf8.acceptRanges", laid_unicode_utf8_acceptRanges), ("unicode/utf8.first", laid_unicode_utf8_first)] }
def PathSortsSaid : Prop := pathSortsRow.holds Tryd.pinned (OpenSpec.ofChange pathSortsSpec)

/-- ITS FALSE NEIGHBOUR: 'it returns false'. Refute it at one input. -/
def pathSortsWrong : ChangeSpec := { name := "pathSorts", fn := fun _ => fun
  | [d1, d2, d3] => { results := [.lit (.bool false)], args := [d1, d2, d3] }
  | _ => none }
def PathSortsWrongFalsely : Prop := pathSortsRow.holds Tryd.pinned (OpenSpec.ofChange pathSortsWrong)

/-- 'tetherlaw03.PathParts': WHATEVER THE INPUT: true; the input reads as it did. -/
def pathPartsSpec : ChangeSpec := { name := "pathParts", fn := fun _ => fun
  | [d1, d2] => { results := [.lit (.bool true)], args := [d1, d2] }
  | _ => none }
def pathPartsRow : OpenClaim := { program := "ytjmdhakndlhbhaadoor", sum := "69e8f4e118bc75d076a5b9d24ed4b13edafac4e89440340ee51358d7fa205bc1", func := "tether/tetherlaw03.PathParts", spec := "pathParts", inPlace := ["internal/bytealg.CountString", "internal/bytealg.IndexByteString", "internal/bytealg.IndexString"], named := ["unicode/utf8.first", "unicode/utf8.acceptRanges", "internal/bytealg.MaxLen"], apart := false, laid := [("unicode/utf8.acceptRanges", laid_unicode_utf8_acceptRanges), ("unicode/utf8.first", laid_unicode_utf8_first)] }
def PathPartsSaid : Prop := pathPartsRow.holds Tryd.pinned (OpenSpec.ofChange pathPartsSpec)

/-- ITS FALSE NEIGHBOUR: 'it returns false'. Refute it at one input. -/
def pathPartsWrong : ChangeSpec := { name := "pathParts", fn := fun _ => fun
  | [d1, d2] => { results := [.lit (.bool false)], args := [d1, d2] }
  | _ => none }
def PathPartsWrongFalsely : Prop := pathPartsRow.holds Tryd.pinned (OpenSpec.ofChange pathPartsWrong)

/-- 'tetherlaw03.PathJoins': WHATEVER THE INPUT: true; the input reads as it did. -/
def pathJoinsSpec : ChangeSpec := { name := "pathJoins", fn := fun _ => fun
  | [d1, d2, d3, d4] => { results := [.lit (.bool true)], args := [d1, d2, d3, d4] }
  | _ => none }
def pathJoinsRow : OpenClaim := { program := "ytjmdhakndlhbhaadoor", sum := "69e8f4e118bc75d076a5b9d24ed4b13edafac4e89440340ee51358d7fa205bc1", func := "tether/tetherlaw03.PathJoins", spec := "pathJoins", inPlace := ["internal/bytealg.CountString", "internal/bytealg.IndexByteString", "internal/bytealg.IndexString"], named := ["unicode/utf8.first", "unicode/utf8.acceptRanges", "internal/bytealg.MaxLen"], apart := false, laid := [("unicode/utf8.acceptRanges", laid_unicode_utf8_acceptRanges), ("unicode/utf8.first", laid_unicode_utf8_first)] }
def PathJoinsSaid : Prop := pathJoinsRow.holds Tryd.pinned (OpenSpec.ofChange pathJoinsSpec)

/-- ITS FALSE NEIGHBOUR: 'it returns false'. Refute it at one input. -/
def pathJoinsWrong : ChangeSpec := { name := "pathJoins", fn := fun _ => fun
  | [d1, d2, d3, d4] => { results := [.lit (.bool false)], args := [d1, d2, d3, d4] }
  | _ => none }
def PathJoinsWrongFalsely : Prop := pathJoinsRow.holds Tryd.pinned (OpenSpec.ofChange pathJoinsWrong)

/- THE SECOND FORM. 'bulk': how many values and letters a reading holds, each counted each time it is reached (what is shared counts as often as it is met; a slice's spare places count too). A statement '..UptoSaid' is the law's where the arguments, and the package variables that the reading takes, are together of bulk at most 1048576: NARROWER than '..Said'. Prove '..Said' where nothing that the law and all that it calls make is longer than what came in: it says more and counts as full. Else prove '..UptoSaid'. A law counts once. -/
mutual
def uptoBulk {H : Type} : DataW H → Nat
  | .lit (.string bytes) => bytes.length + 1
  | .lit _ => 1
  | .nil => 1
  | .ptr d => uptoBulk d + 1
  | .slice elems spare => uptoBulkAll elems + uptoBulkAll spare + 1
  | .agg parts => uptoBulkAll parts + 1
  | .iface _ d => uptoBulk d + 1
  | .map entries => uptoBulkEntries entries + 1
  | .held _ => 1
def uptoBulkAll {H : Type} : List (DataW H) → Nat
  | [] => 0
  | d :: r => uptoBulk d + uptoBulkAll r
def uptoBulkEntries {H : Type} : List (Lit × DataW H) → Nat
  | [] => 0
  | x :: r => uptoBulkEntry x + uptoBulkEntries r
def uptoBulkEntry {H : Type} : Lit × DataW H → Nat
  | (.string bytes, d) => bytes.length + uptoBulk d + 1
  | (_, d) => uptoBulk d + 1
 end
def uptoSmall : (H : Type) → List (DataW H) → Bool := fun _ ds => decide (uptoBulkAll ds ≤ 1048576)
def OpenSpec.upto (s : _root_.Go.ChangeSpec) : _root_.Go.OpenSpec := { _root_.Go.OpenSpec.ofChange s with cond := some uptoSmall }

/-- 'tetherlaw03.PathChecks', WHERE WHAT IT READS IS OF BULK AT MOST 1048576: true; the input reads as it did. -/
def pathChecksUptoRow : OpenClaim := { program := "ytjmdhakndlhbhaadoor", sum := "69e8f4e118bc75d076a5b9d24ed4b13edafac4e89440340ee51358d7fa205bc1", func := "tether/tetherlaw03.PathChecks", spec := "pathChecks", inPlace := ["internal/bytealg.CountString", "internal/bytealg.IndexByteString", "internal/bytealg.IndexString"], named := ["unicode/utf8.first", "unicode/utf8.acceptRanges", "internal/bytealg.MaxLen"], apart := false, laid := [("unicode/utf8.acceptRanges", laid_unicode_utf8_acceptRanges), ("unicode/utf8.first", laid_unicode_utf8_first)], narrowed := true }
def PathChecksUptoSaid : Prop := pathChecksUptoRow.holds Tryd.pinned (OpenSpec.upto pathChecksSpec)

/-- 'tetherlaw03.PathSorts', WHERE WHAT IT READS IS OF BULK AT MOST 1048576: true; the input reads as it did. -/
def pathSortsUptoRow : OpenClaim := { program := "ytjmdhakndlhbhaadoor", sum := "69e8f4e118bc75d076a5b9d24ed4b13edafac4e89440340ee51358d7fa205bc1", func := "tether/tetherlaw03.PathSorts", spec := "pathSorts", inPlace := ["internal/bytealg.CountString", "internal/bytealg.IndexByteString", "internal/bytealg.IndexString"], named := ["unicode/utf8.first", "unicode/utf8.acceptRanges", "internal/bytealg.MaxLen"], apart := false, laid := [("unicode/utf8.acceptRanges", laid_unicode_utf8_acceptRanges), ("unicode/utf8.first", laid_unicode_utf8_first)], narrowed := true }
def PathSortsUptoSaid : Prop := pathSortsUptoRow.holds Tryd.pinned (OpenSpec.upto pathSortsSpec)

/-- 'tetherlaw03.PathParts', WHERE WHAT IT READS IS OF BULK AT MOST 1048576: true; the input reads as it did. -/
def pathPartsUptoRow : OpenClaim := { program := "ytjmdhakndlhbhaadoor", sum := "69e8f4e118bc75d076a5b9d24ed4b13edafac4e89440340ee51358d7fa205bc1", func := "tether/tetherlaw03.PathParts", spec := "pathParts", inPlace := ["internal/bytealg.CountString", "internal/bytealg.IndexByteString", "internal/bytealg.IndexString"], named := ["unicode/utf8.first", "unicode/utf8.acceptRanges", "internal/bytealg.MaxLen"], apart := false, laid := [("unicode/utf8.acceptRanges", laid_unicode_utf8_acceptRanges), ("unicode/utf8.first", laid_unicode_utf8_first)], narrowed := true }
def PathPartsUptoSaid : Prop := pathPartsUptoRow.holds Tryd.pinned (OpenSpec.upto pathPartsSpec)

/-- 'tetherlaw03.PathJoins', WHERE WHAT IT READS IS OF BULK AT MOST 1048576: true; the input reads as it did. -/
def pathJoinsUptoRow : OpenClaim := { program := "ytjmdhakndlhbhaadoor", sum := "69e8f4e118bc75d076a5b9d24ed4b13edafac4e89440340ee51358d7fa205bc1", func := "tether/tetherlaw03.PathJoins", spec := "pathJoins", inPlace := ["internal/bytealg.CountString", "internal/bytealg.IndexByteString", "internal/bytealg.IndexString"], named := ["unicode/utf8.first", "unicode/utf8.acceptRanges", "internal/bytealg.MaxLen"], apart := false, laid := [("unicode/utf8.acceptRanges", laid_unicode_utf8_acceptRanges), ("unicode/utf8.first", laid_unicode_utf8_first)], narrowed := true }
def PathJoinsUptoSaid : Prop := pathJoinsUptoRow.holds Tryd.pinned (OpenSpec.upto pathJoinsSpec)

end Rows
end Go.Proofs.YtjmdhakndlhbhaaDoor
