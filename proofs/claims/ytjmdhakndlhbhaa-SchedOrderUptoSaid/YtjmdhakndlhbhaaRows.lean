/-
  No cell of these rows narrows 'for every input' (looked for: loops, veiled, ifaces, maps, wideKeys, modest, calm, conditions, laid).
  DERIVED. THE GIVEN ROWS OF THIS SEAT. 8 by the template 'for every input the law returns true; each argument reads behind the call as it read before'; 0 by the template 'total and deterministic' (their statements: YtjmdhakndlhbhaaTotals.lean).
  GIVEN WITH THE SEED: the statements are not yours to turn. If you find one false, say at which input.
  Laid BY PROGRAM, IN A SANDBOX (cutbox-rows.mjs): the forced cells as the released guide's own fill.sh prints them over the translation be60a5edac1e068b… (all of the seat's roots in one cut). By AI agents, Wed Nov 11 2026. No macro, syntax, notation, axiom, sorry.
-/
import Derived.Test.YtjmdhakndlhbhaaChecked
import GoSem.Claim
import GoSem.ClaimJoined
import GoSem.ClaimMapViews
import Derived.JoinedTies
import Derived.KernelRfl
namespace Go.Proofs.Ytjmdhakndlhbhaa
/- THE CELL 'sum', in the pinned program and in every row, IS THE sha256 OF THE DUMP (.gsa) THAT YtjmdhakndlhbhaaProg.lean LOADS. Nothing in Lean hashes anything: it is a label: what it is worth is what the hold of that sum in a sandbox is worth. -/
noncomputable def Try.pinned : Pinned := { name := "ytjmdhakndlhbhaa", sum := "be60a5edac1e068b2db0b9857fe419affc77a558f9aa4cafcda33726fa0a37ff", checked := Try.checked }
namespace Rows
def none {H : Type} : Left H := { results := [], args := [] }

/-- 'tetherlaw20.RetainKeeps': WHATEVER THE INPUT: true; the input reads as it did. -/
def retainKeepsSpec : ChangeSpec := { name := "retainKeeps", fn := fun _ => fun
  | [d1, d2, d3, d4] => { results := [.lit (.bool true)], args := [d1, d2, d3, d4] }
  | _ => none }
def retainKeepsRow : OpenClaim := { program := "ytjmdhakndlhbhaa", sum := "be60a5edac1e068b2db0b9857fe419affc77a558f9aa4cafcda33726fa0a37ff", func := "tether/tetherlaw20.RetainKeeps", spec := "retainKeeps", apart := false }
def RetainKeepsSaid : Prop := retainKeepsRow.holds Try.pinned (OpenSpec.ofChange retainKeepsSpec)

/-- ITS FALSE NEIGHBOUR: 'it returns false'. Refute it at one input. -/
def retainKeepsWrong : ChangeSpec := { name := "retainKeeps", fn := fun _ => fun
  | [d1, d2, d3, d4] => { results := [.lit (.bool false)], args := [d1, d2, d3, d4] }
  | _ => none }
def RetainKeepsWrongFalsely : Prop := retainKeepsRow.holds Try.pinned (OpenSpec.ofChange retainKeepsWrong)

/-- 'tetherlaw20.RetainRest': WHATEVER THE INPUT: true; the input reads as it did. -/
def retainRestSpec : ChangeSpec := { name := "retainRest", fn := fun _ => fun
  | [d1, d2, d3, d4] => { results := [.lit (.bool true)], args := [d1, d2, d3, d4] }
  | _ => none }
def retainRestRow : OpenClaim := { program := "ytjmdhakndlhbhaa", sum := "be60a5edac1e068b2db0b9857fe419affc77a558f9aa4cafcda33726fa0a37ff", func := "tether/tetherlaw20.RetainRest", spec := "retainRest", apart := false }
def RetainRestSaid : Prop := retainRestRow.holds Try.pinned (OpenSpec.ofChange retainRestSpec)

/-- ITS FALSE NEIGHBOUR: 'it returns false'. Refute it at one input. -/
def retainRestWrong : ChangeSpec := { name := "retainRest", fn := fun _ => fun
  | [d1, d2, d3, d4] => { results := [.lit (.bool false)], args := [d1, d2, d3, d4] }
  | _ => none }
def RetainRestWrongFalsely : Prop := retainRestRow.holds Try.pinned (OpenSpec.ofChange retainRestWrong)

/-- 'tetherlaw20.RetainGrows': WHATEVER THE INPUT: true; the input reads as it did. -/
def retainGrowsSpec : ChangeSpec := { name := "retainGrows", fn := fun _ => fun
  | [d1, d2, d3, d4] => { results := [.lit (.bool true)], args := [d1, d2, d3, d4] }
  | _ => none }
def retainGrowsRow : OpenClaim := { program := "ytjmdhakndlhbhaa", sum := "be60a5edac1e068b2db0b9857fe419affc77a558f9aa4cafcda33726fa0a37ff", func := "tether/tetherlaw20.RetainGrows", spec := "retainGrows", apart := false }
def RetainGrowsSaid : Prop := retainGrowsRow.holds Try.pinned (OpenSpec.ofChange retainGrowsSpec)

/-- ITS FALSE NEIGHBOUR: 'it returns false'. Refute it at one input. -/
def retainGrowsWrong : ChangeSpec := { name := "retainGrows", fn := fun _ => fun
  | [d1, d2, d3, d4] => { results := [.lit (.bool false)], args := [d1, d2, d3, d4] }
  | _ => none }
def RetainGrowsWrongFalsely : Prop := retainGrowsRow.holds Try.pinned (OpenSpec.ofChange retainGrowsWrong)

/-- 'tetherlaw26.SchedDue': WHATEVER THE INPUT: true; the input reads as it did. -/
def schedDueSpec : ChangeSpec := { name := "schedDue", fn := fun _ => fun
  | [d1, d2] => { results := [.lit (.bool true)], args := [d1, d2] }
  | _ => none }
def schedDueRow : OpenClaim := { program := "ytjmdhakndlhbhaa", sum := "be60a5edac1e068b2db0b9857fe419affc77a558f9aa4cafcda33726fa0a37ff", func := "tether/tetherlaw26.SchedDue", spec := "schedDue", apart := false }
def SchedDueSaid : Prop := schedDueRow.holds Try.pinned (OpenSpec.ofChange schedDueSpec)

/-- ITS FALSE NEIGHBOUR: 'it returns false'. Refute it at one input. -/
def schedDueWrong : ChangeSpec := { name := "schedDue", fn := fun _ => fun
  | [d1, d2] => { results := [.lit (.bool false)], args := [d1, d2] }
  | _ => none }
def SchedDueWrongFalsely : Prop := schedDueRow.holds Try.pinned (OpenSpec.ofChange schedDueWrong)

/-- 'tetherlaw26.SchedOften': WHATEVER THE INPUT: true; the input reads as it did. -/
def schedOftenSpec : ChangeSpec := { name := "schedOften", fn := fun _ => fun
  | [d1, d2, d3] => { results := [.lit (.bool true)], args := [d1, d2, d3] }
  | _ => none }
def schedOftenRow : OpenClaim := { program := "ytjmdhakndlhbhaa", sum := "be60a5edac1e068b2db0b9857fe419affc77a558f9aa4cafcda33726fa0a37ff", func := "tether/tetherlaw26.SchedOften", spec := "schedOften", apart := false }
def SchedOftenSaid : Prop := schedOftenRow.holds Try.pinned (OpenSpec.ofChange schedOftenSpec)

/-- ITS FALSE NEIGHBOUR: 'it returns false'. Refute it at one input. -/
def schedOftenWrong : ChangeSpec := { name := "schedOften", fn := fun _ => fun
  | [d1, d2, d3] => { results := [.lit (.bool false)], args := [d1, d2, d3] }
  | _ => none }
def SchedOftenWrongFalsely : Prop := schedOftenRow.holds Try.pinned (OpenSpec.ofChange schedOftenWrong)

/-- 'tetherlaw26.SchedPlays': WHATEVER THE INPUT: true; the input reads as it did. -/
def schedPlaysSpec : ChangeSpec := { name := "schedPlays", fn := fun _ => fun
  | [d] => { results := [.lit (.bool true)], args := [d] }
  | _ => none }
def schedPlaysRow : OpenClaim := { program := "ytjmdhakndlhbhaa", sum := "be60a5edac1e068b2db0b9857fe419affc77a558f9aa4cafcda33726fa0a37ff", func := "tether/tetherlaw26.SchedPlays", spec := "schedPlays", apart := false }
def SchedPlaysSaid : Prop := schedPlaysRow.holds Try.pinned (OpenSpec.ofChange schedPlaysSpec)

/-- ITS FALSE NEIGHBOUR: 'it returns false'. Refute it at one input. -/
def schedPlaysWrong : ChangeSpec := { name := "schedPlays", fn := fun _ => fun
  | [d] => { results := [.lit (.bool false)], args := [d] }
  | _ => none }
def SchedPlaysWrongFalsely : Prop := schedPlaysRow.holds Try.pinned (OpenSpec.ofChange schedPlaysWrong)

/-- 'tetherlaw26.SchedOrder': WHATEVER THE INPUT: true; the input reads as it did. -/
def schedOrderSpec : ChangeSpec := { name := "schedOrder", fn := fun _ => fun
  | [d1, d2] => { results := [.lit (.bool true)], args := [d1, d2] }
  | _ => none }
def schedOrderRow : OpenClaim := { program := "ytjmdhakndlhbhaa", sum := "be60a5edac1e068b2db0b9857fe419affc77a558f9aa4cafcda33726fa0a37ff", func := "tether/tetherlaw26.SchedOrder", spec := "schedOrder", apart := false }
def SchedOrderSaid : Prop := schedOrderRow.holds Try.pinned (OpenSpec.ofChange schedOrderSpec)

/-- ITS FALSE NEIGHBOUR: 'it returns false'. Refute it at one input. -/
def schedOrderWrong : ChangeSpec := { name := "schedOrder", fn := fun _ => fun
  | [d1, d2] => { results := [.lit (.bool false)], args := [d1, d2] }
  | _ => none }
def SchedOrderWrongFalsely : Prop := schedOrderRow.holds Try.pinned (OpenSpec.ofChange schedOrderWrong)

/-- 'tetherlaw26.SchedNil': WHATEVER THE INPUT: true; the input reads as it did. -/
def schedNilSpec : ChangeSpec := { name := "schedNil", fn := fun _ => fun
  | [d] => { results := [.lit (.bool true)], args := [d] }
  | _ => none }
def schedNilRow : OpenClaim := { program := "ytjmdhakndlhbhaa", sum := "be60a5edac1e068b2db0b9857fe419affc77a558f9aa4cafcda33726fa0a37ff", func := "tether/tetherlaw26.SchedNil", spec := "schedNil", apart := false }
def SchedNilSaid : Prop := schedNilRow.holds Try.pinned (OpenSpec.ofChange schedNilSpec)

/-- ITS FALSE NEIGHBOUR: 'it returns false'. Refute it at one input. -/
def schedNilWrong : ChangeSpec := { name := "schedNil", fn := fun _ => fun
  | [d] => { results := [.lit (.bool false)], args := [d] }
  | _ => none }
def SchedNilWrongFalsely : Prop := schedNilRow.holds Try.pinned (OpenSpec.ofChange schedNilWrong)

/- THE SECOND FORM. 'bulk': how many values and letters a reading holds, each counted each time it is reached (what is shared counts as often as it is met; a slice's spare places count too). A statement '..UptoSaid' is the law's where the arguments, and the package variables that the reading takes, are together of bulk at most 1048576: NARROWER than '..Said'. Prove '..Said' where nothing that the law and all that it calls make is longer than what came in: it says more and counts as full. Else prove '..UptoSaid'. A law counts once. -/
mutual
def uptoBulk {H : Type} : DataW H → Nat
  | .lit (.string bytes) => bytes.length + 1
  | .lit _ => 1
  | .nil => 1
  | .ptr d => uptoBulk d + 1
  | .slice elems spare => uptoBulkAll elems + uptoBulkAll spare + 1
  | .agg parts => uptoBulkAll parts + 1
  | .iface _ d => uptoBulk d + 1
  | .map entries => uptoBulkEntries entries + 1
  | .held _ => 1
def uptoBulkAll {H : Type} : List (DataW H) → Nat
  | [] => 0
  | d :: r => uptoBulk d + uptoBulkAll r
def uptoBulkEntries {H : Type} : List (Lit × DataW H) → Nat
  | [] => 0
  | x :: r => uptoBulkEntry x + uptoBulkEntries r
def uptoBulkEntry {H : Type} : Lit × DataW H → Nat
  | (.string bytes, d) => bytes.length + uptoBulk d + 1
  | (_, d) => uptoBulk d + 1
 end
def uptoSmall : (H : Type) → List (DataW H) → Bool := fun _ ds => decide (uptoBulkAll ds ≤ 1048576)
def OpenSpec.upto (s : _root_.Go.ChangeSpec) : _root_.Go.OpenSpec := { _root_.Go.OpenSpec.ofChange s with cond := some uptoSmall }

/-- 'tetherlaw20.RetainKeeps', WHERE WHAT IT READS IS OF BULK AT MOST 1048576: true; the input reads as it did. -/
def retainKeepsUptoRow : OpenClaim := { program := "ytjmdhakndlhbhaa", sum := "be60a5edac1e068b2db0b9857fe419affc77a558f9aa4cafcda33726fa0a37ff", func := "tether/tetherlaw20.RetainKeeps", spec := "retainKeeps", apart := false, narrowed := true }
def RetainKeepsUptoSaid : Prop := retainKeepsUptoRow.holds Try.pinned (OpenSpec.upto retainKeepsSpec)

/-- 'tetherlaw20.RetainRest', WHERE WHAT IT READS IS OF BULK AT MOST 1048576: true; the input reads as it did. -/
def retainRestUptoRow : OpenClaim := { program := "ytjmdhakndlhbhaa", sum := "be60a5edac1e068b2db0b9857fe419affc77a558f9aa4cafcda33726fa0a37ff", func := "tether/tetherlaw20.RetainRest", spec := "retainRest", apart := false, narrowed := true }
def RetainRestUptoSaid : Prop := retainRestUptoRow.holds Try.pinned (OpenSpec.upto retainRestSpec)

/-- 'tetherlaw20.RetainGrows', WHERE WHAT IT READS IS OF BULK AT MOST 1048576: true; the input reads as it did. -/
def retainGrowsUptoRow : OpenClaim := { program := "ytjmdhakndlhbhaa", sum := "be60a5edac1e068b2db0b9857fe419affc77a558f9aa4cafcda33726fa0a37ff", func := "tether/tetherlaw20.RetainGrows", spec := "retainGrows", apart := false, narrowed := true }
def RetainGrowsUptoSaid : Prop := retainGrowsUptoRow.holds Try.pinned (OpenSpec.upto retainGrowsSpec)

/-- 'tetherlaw26.SchedDue', WHERE WHAT IT READS IS OF BULK AT MOST 1048576: true; the input reads as it did. -/
def schedDueUptoRow : OpenClaim := { program := "ytjmdhakndlhbhaa", sum := "be60a5edac1e068b2db0b9857fe419affc77a558f9aa4cafcda33726fa0a37ff", func := "tether/tetherlaw26.SchedDue", spec := "schedDue", apart := false, narrowed := true }
def SchedDueUptoSaid : Prop := schedDueUptoRow.holds Try.pinned (OpenSpec.upto schedDueSpec)

/-- 'tetherlaw26.SchedOften', WHERE WHAT IT READS IS OF BULK AT MOST 1048576: true; the input reads as it did. -/
def schedOftenUptoRow : OpenClaim := { program := "ytjmdhakndlhbhaa", sum := "be60a5edac1e068b2db0b9857fe419affc77a558f9aa4cafcda33726fa0a37ff", func := "tether/tetherlaw26.SchedOften", spec := "schedOften", apart := false, narrowed := true }
def SchedOftenUptoSaid : Prop := schedOftenUptoRow.holds Try.pinned (OpenSpec.upto schedOftenSpec)

/-- 'tetherlaw26.SchedPlays', WHERE WHAT IT READS IS OF BULK AT MOST 1048576: true; the input reads as it did. -/
def schedPlaysUptoRow : OpenClaim := { program := "ytjmdhakndlhbhaa", sum := "be60a5edac1e068b2db0b9857fe419affc77a558f9aa4cafcda33726fa0a37ff", func := "tether/tetherlaw26.SchedPlays", spec := "schedPlays", apart := false, narrowed := true }
def SchedPlaysUptoSaid : Prop := schedPlaysUptoRow.holds Try.pinned (OpenSpec.upto schedPlaysSpec)

/-- 'tetherlaw26.SchedOrder', WHERE WHAT IT READS IS OF BULK AT MOST 1048576: true; the input reads as it did. -/
def schedOrderUptoRow : OpenClaim := { program := "ytjmdhakndlhbhaa", sum := "be60a5edac1e068b2db0b9857fe419affc77a558f9aa4cafcda33726fa0a37ff", func := "tether/tetherlaw26.SchedOrder", spec := "schedOrder", apart := false, narrowed := true }
def SchedOrderUptoSaid : Prop := schedOrderUptoRow.holds Try.pinned (OpenSpec.upto schedOrderSpec)

/-- 'tetherlaw26.SchedNil', WHERE WHAT IT READS IS OF BULK AT MOST 1048576: true; the input reads as it did. -/
def schedNilUptoRow : OpenClaim := { program := "ytjmdhakndlhbhaa", sum := "be60a5edac1e068b2db0b9857fe419affc77a558f9aa4cafcda33726fa0a37ff", func := "tether/tetherlaw26.SchedNil", spec := "schedNil", apart := false, narrowed := true }
def SchedNilUptoSaid : Prop := schedNilUptoRow.holds Try.pinned (OpenSpec.upto schedNilSpec)

end Rows
end Go.Proofs.Ytjmdhakndlhbhaa
