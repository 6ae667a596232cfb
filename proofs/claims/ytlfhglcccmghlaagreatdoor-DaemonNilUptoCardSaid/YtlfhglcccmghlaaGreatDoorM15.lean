/- What is proved: contracts and plain facts that the law leans on (texts put together). Conditions: as each names them. -/
import Derived.Test.YtlfhglcccmghlaaGreatDoorM14
set_option linter.unusedSimpArgs false
set_option linter.unusedVariables false
set_option linter.unusedSectionVars false
/- What is proved: DaemonNil at numbers of spokes that may be (the kernel runs it). Conditions: none. -/
set_option linter.unusedSimpArgs false
set_option linter.unusedVariables false
namespace Go.Proofs.YtlfhglcccmghlaaGreatDoor
open Go Go.J Go.RowKit
/-- what is known by heart, awake too -/
def biN : CallF := fun fid args H => match Nat.beq fid 6, args with
  | true, [] => .ok (.bool true, H)
  | _, _ => biT fid args H
theorem biN_ok : ClOk Tryz.prog biN where
  wr := fun {fid args H v H'} h => by
    unfold biN at h
    split at h
    · cases h; exact fun _ h => h
    · exact bi_ok.wr h
  out := fun {fid args H v H'} h {ρ args' w0 w} ha hR => by
    unfold biN at h
    split at h
    · rename_i e
      have := Nat.eq_of_beq_eq_true e
      subst this
      have e := Rs.ok.inj h
      simp only [Prod.mk.injEq] at e
      obtain ⟨rfl, rfl⟩ := e
      cases ha
      refine (awake_c w).mono fun v' w' ⟨hup, ev⟩ => ?_
      subst ev
      obtain ⟨k1, k2⟩ := hR.upd0 hup
      exact ⟨ρ, .refl _, .same rfl, k1, k2⟩
    · exact bi_ok.out h ha hR
theorem evN_ok : ∀ n, ClOk Tryz.prog (evF Tryz.prog drT bkT biN xtT n) := evF_ok (by kernel_rfl) ch_ok bk_ok biN_ok xt_ok
noncomputable abbrev nilK (k : Nat) : Bool := okB (evF Tryz.prog drT bkT biN xtT 3000 3 [.int .i64 (k : Int), unk] H0)
set_option maxRecDepth 1000000 in
theorem nil1 : nilK 1 = true := by kernel_rfl
set_option maxRecDepth 1000000 in
theorem nil2 : nilK 2 = true := by kernel_rfl
set_option maxRecDepth 1000000 in
theorem nil3 : nilK 3 = true := by kernel_rfl
set_option maxRecDepth 1000000 in
theorem nil4 : nilK 4 = true := by kernel_rfl
set_option maxRecDepth 1000000 in
theorem nil5 : nilK 5 = true := by kernel_rfl
set_option maxRecDepth 1000000 in
theorem nil6 : nilK 6 = true := by kernel_rfl
theorem nilK_c {k : Nat} (h : nilK k = true) (s : Value) (w0 : World) : Cal Tryz.prog 3 [.int .i64 (k : Int), s] w0 (fun v w' => Upd [] w0 w' ∧ v = .bool true) := by
  obtain ⟨H', e⟩ := okB_ok h
  exact ((evN_ok 3000).out e (.cons (.same rfl) (.cons .any .nil)) (rl0 w0)).mono fun v w' ⟨ρ', _, hv, hR, _⟩ => ⟨hR.upd, hv.bool⟩
end Go.Proofs.YtlfhglcccmghlaaGreatDoor
