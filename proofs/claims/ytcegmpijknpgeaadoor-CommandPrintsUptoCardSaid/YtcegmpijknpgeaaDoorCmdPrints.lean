/- What is proved: the law CommandPrints answers true, where the library's table of powers is laid. Conditions: the statement's own bound on the bulk. -/
import Derived.Test.YtcegmpijknpgeaaDoorCmdRPrint
import Derived.Test.YtcegmpijknpgeaaDoorCmdArg
import Derived.Lib.LaidTab
import Derived.Stop.LaidErr
set_option linter.unusedSimpArgs false
set_option linter.unusedVariables false
namespace Go.Proofs.YtcegmpijknpgeaaDoor
open Go Go.J Go.RowKit

set_option maxHeartbeats 4000000 in
set_option maxRecDepth 100000 in
theorem commandPrints_c (c : Cmd) (w0 : World) (ht : powT w0) (hc : CmdSmall c 1048576) : Cal Tryd.prog 5 [.agg ⟨cmdV c⟩] w0 (fun v w' => Upd [] w0 w' ∧ v = .bool true) := by
  refine Cal.mk' (by kernel_rfl) Tryd.func5 rfl rfl fun hS => ?_
  have hp := fun w hu => printAt_c c _ rfl hc w0 w ht hu
  have hr := fun w => rprint_c c w hc.word hc.path hc.data hc.a hc.b
  generalize (printE c).1 = t at *
  generalize (printE c).2 = e at *
  clear hc
  obtain ⟨c1, c2, c3, c4, c5, c6⟩ := c
  repeat' (first
    | (show WL _ _ _ _ _ _ _; first
      | refine WL.pure rfl rfl rfl rfl ?_
      | refine WL.nil ?_
      | refine WL.load hS rfl rfl (LdOk.box (by repeat (first | exact List.Mem.head _ | apply List.Mem.tail)) rfl) rfl rfl rfl ?_
      | (refine WL.calls hS rfl rfl (awake_c _) rfl rfl rfl ?_; rintro v w rfl hS)
      | (refine WL.calls hS rfl rfl (hp _ hS.upd) rfl rfl rfl ?_; rintro v w rfl hS)
      | (refine WL.calls hS rfl rfl (hr _) rfl rfl rfl ?_; rintro v w rfl hS)
      | (refine WL.box hS rfl rfl rfl rfl rfl ?_; intro w b hS)
      | ((fail_if_success (refine WL.wanted rfl ?_)); refine WL.guard rfl rfl rfl (fun h => ?_) (fun h => ?_) <;> (try simp only [Classical.not_not, Bool.not_eq_true', Bool.not_eq_false', Bool.not_eq_eq_eq_not, Bool.not_true, Bool.not_false, beq_iff_eq, beq_eq_false_iff_ne, ne_eq, decide_eq_decide, decide_eq_true_eq, decide_eq_false_iff_not, Bool.and_eq_true, Bool.or_eq_true, Bool.and_eq_false_iff, Bool.or_eq_false_iff] at h) <;> (try (exfalso; first | omega | contradiction))))
    | (show WC _ _ _ _ _ _; first
      | refine WC.seq ?_
      | refine WC.region ?_
      | refine WC.ret ?_)
    | refine seqQ_n ?_)
  all_goals first
    | exact fin1r rfl rfl ⟨hS.upd, vbool (by simp)⟩
    | (exfalso; simp at h; done)
set_option maxRecDepth 100000 in
theorem pow_of_laidP (W : World) (h : laidMet Tryd.prog Rows.commandPrintsUptoRow.laid W) : powT W := by
  obtain ⟨a, b, r, he⟩ : ∃ a b r, Rows.commandPrintsUptoRow.laid = a :: b :: ("internal/strconv.uint64pow10", Lib.tabData .u64 Lib.pow10Tab) :: r := ⟨_, _, _, rfl⟩
  rw [he] at h
  have h1 := laidMet.tail (laidMet.tail h)
  exact Lib.tabIs_of_head (g := 3) (t := 101) (e := 80) (n := 20) (by kernel_rfl) (by kernel_rfl) (by kernel_rfl) (by kernel_rfl) (by kernel_rfl) (by kernel_rfl) h1
theorem commandPrints.key_commandPrints (W : World) (hL : laidMet Tryd.prog Rows.commandPrintsUptoRow.laid W) (v0 : Value) (y0 : Cmd) (b0 : Nat) (h0 : AAgg cCmd W v0 y0) (q0 : CmdSmall y0 b0) (hb : b0 ≤ 1048576) :
    Cal Tryd.prog 5 [v0] W (fun v W' => Upd [] W W' ∧ v = .bool true) := by
  obtain ⟨cs, rfl, h0⟩ := h0
  have h0 : cs = cmdV y0 := h0
  subst h0
  exact commandPrints_c y0 W (pow_of_laidP W hL) (q0.mono hb)
end Go.Proofs.YtcegmpijknpgeaaDoor
