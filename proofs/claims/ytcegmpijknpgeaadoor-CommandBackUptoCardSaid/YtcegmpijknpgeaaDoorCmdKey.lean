/- What is proved: the key of CommandBack: with the table laid, the law answers true. Conditions: the statement's own bound on the bulk. -/
import Derived.Test.YtcegmpijknpgeaaDoorCmdArg
import Derived.Lib.LaidTab
import Derived.Stop.LaidErr
set_option linter.unusedSimpArgs false
set_option linter.unusedVariables false
namespace Go.Proofs.YtcegmpijknpgeaaDoor
open Go Go.J Go.RowKit

set_option maxRecDepth 100000 in
theorem pow_of_laid (W : World) (h : laidMet Tryd.prog Rows.commandBackUptoRow.laid W) : powT W := by
  obtain ⟨a, b, r, he⟩ : ∃ a b r, Rows.commandBackUptoRow.laid = a :: b :: ("internal/strconv.uint64pow10", Lib.tabData .u64 Lib.pow10Tab) :: r := ⟨_, _, _, rfl⟩
  rw [he] at h
  have h1 := laidMet.tail (laidMet.tail h)
  exact Lib.tabIs_of_head (g := 3) (t := 101) (e := 80) (n := 20) (by kernel_rfl) (by kernel_rfl) (by kernel_rfl) (by kernel_rfl) (by kernel_rfl) (by kernel_rfl) h1
theorem commandBack.key_commandBack (W : World) (hL : laidMet Tryd.prog Rows.commandBackUptoRow.laid W) (v0 v1 : Value) (y0 : List UInt8) (y1 : Cmd) (b0 b1 : Nat) (h0 : AStr W v0 y0) (h1 : AAgg cCmd W v1 y1) (q0 : QStr y0 b0) (q1 : CmdSmall y1 b1) (hb : b0 + b1 ≤ 1048576) :
    Cal Tryd.prog 6 [v0, v1] W (fun v W' => Upd [] W W' ∧ v = .bool true) := by
  obtain rfl := h0
  obtain ⟨cs, rfl, h1⟩ := h1
  have h1 : cs = cmdV y1 := h1
  subst h1
  have q0 : y0.length + 1 ≤ b0 := q0
  exact commandBack_c y0 y1 W (pow_of_laid W hL) (by omega) (q1.mono (by omega))
end Go.Proofs.YtcegmpijknpgeaaDoor
