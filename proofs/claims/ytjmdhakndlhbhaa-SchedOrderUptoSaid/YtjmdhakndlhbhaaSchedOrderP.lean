/- What is proved: SchedOrderUptoSaid. Conditions: the statement's own bound on the bulk. -/
import Derived.Test.YtjmdhakndlhbhaaSchedOr
import Derived.Test.YtjmdhakndlhbhaaClose
set_option linter.unusedSimpArgs false
set_option linter.unusedVariables false
namespace Go.Proofs.Ytjmdhakndlhbhaa.schedOrder
open Go Go.J Go.ChangeShapes Go.WideShapes Go.ChangeAt Go.RowKit

theorem listn {α : Type} {l : List α} (h : l.length = 2) : ∃ a0 a1, l = [a0, a1] := by match l, h with | [a0, a1], _ => exact ⟨a0, a1, rfl⟩
set_option maxHeartbeats 1000000 in
theorem contract (H : Type) (enc : TypeId × Value → H) (W : World) (base : Nat) (args : Array Value) (ds gs : List (DataW H)) (before : List MemPlace)
    (hval : ∀ (j : Nat) t v, Try.f9.params[j]? = some t → args[j]? = some v → Value.okWide Try.prog W .any base t v)
    (hW : DataW.Whole enc Try.prog Try.f9.params.toList Rows.schedOrderSpec.vars false W args.toList ds gs before) (hk : Rows.uptoSmall H (ds ++ gs) = true) :
    Calls Try.prog 9 args W fun e W' => ∃ v, e = .returned v ∧ Rows.schedOrderSpec.post enc Try.prog Try.f9 false true false false W args v W' := by
  have hW' := hW
  obtain ⟨p, q, hA0, hV, rfl, hfz, hnd⟩ := hW
  have hA : DataW.TrodAll enc Try.prog W 0 (fun _ => true) true Try.f9.params.toList args.toList ds p := hA0
  rw [Try.params9] at hA hval
  obtain ⟨v0, vs0, d0, ds0, p0, q0, hargs, rfl, rfl, h0, r0⟩ := trodAll_cons hA
  obtain ⟨v1, vs1, d1, ds1, p1, q1, rfl, rfl, rfl, h1, r1⟩ := trodAll_cons r0
  obtain ⟨rfl, rfl, rfl⟩ := trodAll_nil r1
  obtain rfl : args = #[v0, v1] := by cases args; simp_all
  obtain ⟨rfl, rfl⟩ := trodVars_none hV
  obtain ⟨y0, a0, b0⟩ := arg_ints enc W base v0 d0 p0 (hval 0 33 v0 rfl rfl) h0
  obtain ⟨y1, a1, b1⟩ := arg_ints enc W base v1 d1 p1 (hval 1 33 v1 rfl rfl) h1
  have hbk : Rows.uptoBulk d0 + Rows.uptoBulk d1 ≤ 1048576 := by
    have h : Rows.uptoBulkAll _ ≤ 1048576 := of_decide_eq_true hk
    simp only [List.cons_append, Rows.uptoBulkAll] at h
    omega
  exact ((key_schedOrder W v0 v1 y0 y1 _ _ a0 a1 b0 b1  hbk).calls).mono fun e W' ⟨v, he, hu, hv⟩ => by
    subst he
    subst hv
    exact ⟨_, rfl, law_post laid Try.underlying4 (by kernel_rfl) (by kernel_rfl) rfl (fun ds h => by obtain ⟨a0, a1, rfl⟩ := listn (h.trans (by kernel_rfl)); exact ⟨rfl, rfl, rfl⟩) hW' hu⟩

set_option maxRecDepth 100000 in
theorem lifted (os : Os) (started : os.Started) (H : Type) (enc : TypeId × Value → H) (F : Stop.Interp) :
    ReturnsInHanded {} Try.checked os 9 .any ((Rows.OpenSpec.upto Rows.schedOrderSpec).pre6 enc Try.prog Try.f9 Rows.schedOrderUptoRow.domain false) (((Rows.OpenSpec.upto Rows.schedOrderSpec).at F).post enc Try.prog Try.f9 false true false false) := by
  refine returnsInHanded_of_cond (C := Try.checked) (s := Rows.OpenSpec.upto Rows.schedOrderSpec) (k := Rows.uptoSmall) rfl own started (by kernel_rfl) Try.func9
    (OpenSpec.witness (enc := enc) (C := Try.checked) (s := Rows.OpenSpec.upto Rows.schedOrderSpec) (k := Rows.uptoSmall) rfl false ⟨#[], #[.slice none 0 0, .slice none 0 0], []⟩ 8 (by kernel_rfl) (by kernel_rfl) (by kernel_rfl)
      (x := ([.nil, .nil], [], [])) (by kernel_rfl) rfl (by kernel_rfl)) ?_
  intro W base args ds gs before hval hW _ hk _
  exact contract H enc W base args ds gs before hval hW hk

theorem proved : Rows.SchedOrderUptoSaid :=
  OpenClaim.holds_of_cond 9 Try.f9 rfl rfl rfl rfl rfl rfl rfl ⟨rfl, rfl, rfl, rfl, rfl⟩ rfl rfl rfl rfl rfl (by kernel_rfl) Try.func9 (by kernel_rfl)
    (of_decide_eq_true (by kernel_rfl)) (by unfold Func.isWrapper; first | (rw [if_pos (by decide +kernel)]; kernel_rfl) | (rw [if_neg (by decide +kernel)]; exact ⟨rfl, rfl⟩))
    (fun os started H enc _ F => lifted os started H enc F)
end Go.Proofs.Ytjmdhakndlhbhaa.schedOrder
