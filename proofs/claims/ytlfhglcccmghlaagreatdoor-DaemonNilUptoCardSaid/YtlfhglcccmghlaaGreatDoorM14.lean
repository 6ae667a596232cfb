/- What is proved: contracts and plain facts that the law leans on (texts put together). Conditions: as each names them. -/
import Derived.Test.YtlfhglcccmghlaaGreatDoorM13
set_option linter.unusedSimpArgs false
set_option linter.unusedVariables false
set_option linter.unusedSectionVars false
/- What is proved: awake answers true (the kernel runs it). Conditions: none. -/
set_option linter.unusedSimpArgs false
set_option linter.unusedVariables false
namespace Go.Proofs.YtlfhglcccmghlaaGreatDoor
open Go Go.J Go.RowKit
def H0 : AH := ⟨.e, 0, []⟩
theorem rl0 (w : World) : Rl (fun _ => none) H0 w w := ⟨.refl [] w, fun _ _ => rfl, fun b o e => (by cases e), fun b c o p L e => (by cases e)⟩
def okB : Rs (Value × AH) → Bool
  | .ok (.bool true, _) => true
  | _ => false
theorem okB_ok {r : Rs (Value × AH)} (h : okB r = true) : ∃ H', r = .ok (.bool true, H') := by
  unfold okB at h
  split at h
  · exact ⟨_, rfl⟩
  · cases h
theorem evA_ok : ∀ n, ClOk Tryz.prog (evF Tryz.prog drT bkT biT xtT n) := evF_ok (by kernel_rfl) ch_ok bk_ok bi_ok xt_ok
set_option maxRecDepth 1000000 in
theorem awake_run : okB (evF Tryz.prog drT bkT biT xtT 3000 6 [] H0) = true := by kernel_rfl
theorem awake_c (w0 : World) : Cal Tryz.prog 6 [] w0 (fun v w' => Upd [] w0 w' ∧ v = .bool true) := by
  obtain ⟨H', e⟩ := okB_ok awake_run
  exact ((evA_ok 3000).out e .nil (rl0 w0)).mono fun v w' ⟨ρ', _, hv, hR, _⟩ => ⟨hR.upd, hv.bool⟩
end Go.Proofs.YtlfhglcccmghlaaGreatDoor
