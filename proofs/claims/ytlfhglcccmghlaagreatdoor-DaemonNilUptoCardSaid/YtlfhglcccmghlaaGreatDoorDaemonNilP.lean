/- What is proved: DaemonNilUptoSaid. Conditions: the statement's own bound on the bulk. -/
import Derived.Test.YtlfhglcccmghlaaGreatDoorM16
import Derived.Test.YtlfhglcccmghlaaGreatDoorCards
import Derived.Test.YtlfhglcccmghlaaGreatDoorTie
import Derived.Deep.DeepHandedRow
import Derived.Lib.LaidTab
set_option linter.unusedSimpArgs false
set_option linter.unusedVariables false
namespace Go.Proofs.YtlfhglcccmghlaaGreatDoor.daemonNil
open Go Go.J Go.ChangeShapes Go.WideShapes Go.ChangeAt Go.RowKit

theorem listn {α : Type} {l : List α} (h : l.length = 2) : ∃ a0 a1, l = [a0, a1] := by match l, h with | [a0, a1], _ => exact ⟨a0, a1, rfl⟩
set_option maxHeartbeats 1000000 in
set_option maxRecDepth 100000 in
theorem contract (H : Type) (enc : TypeId × Value → H) (W : World) (base : Nat) (args : Array Value) (ds gs : List (DataW H)) (before : List MemPlace)
    (hval : ∀ (j : Nat) t v, Tryz.f3.params[j]? = some t → args[j]? = some v → Value.okWide Tryz.prog W .any base t v)
    (hW : DataW.Whole enc Tryz.prog Tryz.f3.params.toList Rows.daemonNilSpec.vars false W args.toList ds gs before) (hk : Rows.uptoSmall H (ds ++ gs) = true) :
    Calls Tryz.prog 3 args W fun e W' => ∃ v, e = .returned v ∧ Rows.daemonNilSpec.post enc Tryz.prog Tryz.f3 false true false false W args v W' := by
  have hW' := hW
  obtain ⟨p, q, hA0, hV, rfl, hfz, hnd⟩ := hW
  have hA : DataW.TrodAll enc Tryz.prog W 0 (fun _ => true) true Tryz.f3.params.toList args.toList ds p := hA0
  rw [Tryz.params3] at hA hval
  obtain ⟨v0, vs0, d0, ds0, p0, q0, hargs, rfl, rfl, h0, r0⟩ := trodAll_cons hA
  obtain ⟨v1, vs1, d1, ds1, p1, q1, rfl, rfl, rfl, h1, r1⟩ := trodAll_cons r0
  obtain ⟨rfl, rfl, rfl⟩ := trodAll_nil r1
  obtain rfl : args = #[v0, v1] := by cases args; simp_all
  obtain ⟨rfl, rfl⟩ := trodVars_none hV
  obtain ⟨y0, a0, b0⟩ := (Arg.int Tryz.underlying3) enc W base v0 d0 p0 (hval 0 3 v0 rfl rfl) h0
  obtain ⟨y1, a1, b1⟩ := (Arg.str Tryz.underlying9) enc W base v1 d1 p1 (hval 1 9 v1 rfl rfl) h1
  have hbk : Rows.uptoBulk d0 + Rows.uptoBulk d1 ≤ 1048576 := by
    have h : Rows.uptoBulkAll _ ≤ 1048576 := of_decide_eq_true hk
    simp only [List.cons_append, Rows.uptoBulkAll] at h
    omega
  exact ((key_daemonNil W v0 v1 y0 y1 _ _ a0 a1 b0 b1  hbk).calls).mono fun e W' ⟨v, he, hu, hv⟩ => by
    subst he
    subst hv
    exact ⟨_, rfl, law_post laid Tryz.underlying4 (by kernel_rfl) (by kernel_rfl) rfl (fun ds h => by obtain ⟨a0, a1, rfl⟩ := listn (h.trans (by kernel_rfl)); exact ⟨rfl, rfl, rfl⟩) hW' hu⟩

/-- a table's cells, as its datum says them -/
def dcells {H : Type} : Nat → DataW H → List Value
  | 0, _ => []
  | _ + 1, .lit (.int k i) => [.int k i]
  | n + 1, .agg ps => ps.flatMap (dcells n)
  | _, _ => []
/-- a world for the witness: the settled one, the tables laid (each sentinel: a block of its own behind it) -/
noncomputable def low : Nat := (World.holding Tryz.prog default ⟨#[], #[], []⟩).heap.size
noncomputable def laidWorld (os : Os) : World :=
  { World.holding Tryz.prog os ⟨#[.cells #[.string ⟨#[118, 97, 108, 117, 101, 32, 111, 117, 116, 32, 111, 102, 32, 114, 97, 110, 103, 101]⟩] 432, .cells #[.string ⟨#[105, 110, 118, 97, 108, 105, 100, 32, 115, 121, 110, 116, 97, 120]⟩] 432], #[], []⟩ with heap := ((((((((World.holding Tryz.prog os ⟨#[.cells #[.string ⟨#[118, 97, 108, 117, 101, 32, 111, 117, 116, 32, 111, 102, 32, 114, 97, 110, 103, 101]⟩] 432, .cells #[.string ⟨#[105, 110, 118, 97, 108, 105, 100, 32, 115, 121, 110, 116, 97, 120]⟩] 432], #[], []⟩).heap.modify 6 fun | .cells _ t fr => .cells ⟨dcells 9 (Rows.laid_math_bits_deBruijn32tab (H := Unit))⟩ t fr | o => o).modify 7 fun | .cells _ t fr => .cells ⟨dcells 9 (Rows.laid_math_bits_deBruijn64tab (H := Unit))⟩ t fr | o => o).modify 3 fun | .cells _ t fr => .cells ⟨dcells 9 (Rows.laid_internal_strconv_uint64pow10 (H := Unit))⟩ t fr | o => o).modify 5 fun | .cells _ t fr => .cells ⟨dcells 9 (Rows.laid_unicode_utf8_acceptRanges (H := Unit))⟩ t fr | o => o).modify 2 fun | .cells _ t fr => .cells #[.iface 430 (.pointer (some ⟨low + 0, 0, none⟩))] t fr | o => o).modify 1 fun | .cells _ t fr => .cells #[.iface 430 (.pointer (some ⟨low + 1, 0, none⟩))] t fr | o => o).modify 4 fun | .cells _ t fr => .cells ⟨dcells 9 Rows.laid_unicode_utf8_first⟩ t fr | o => o) }
set_option maxRecDepth 100000 in
theorem laid_met (os : Os) : laidMet Tryz.prog Rows.daemonNilUptoRow.laid ((laidWorld os).forCall (fun _ _ => 0) ⟨#[], #[.int .i64 0, .string ⟨#[]⟩], []⟩).memory := laidMet_of_run' 8 (by kernel_rfl) (by kernel_rfl)
set_option maxRecDepth 100000 in
theorem reads (os : Os) {H : Type} (enc : TypeId × Value → H) : ∃ places, DataW.whole enc Tryz.prog ((laidWorld os).forCall (fun _ _ => 0) ⟨#[], #[.int .i64 0, .string ⟨#[]⟩], []⟩).memory Tryz.f3.params.toList Rows.daemonNilSpec.vars false (#[.int .i64 0, .string ⟨#[]⟩] : Array Value).toList 8 = some ([.lit (.int .i64 0), .lit (.string [])], [], places) := ⟨[], by kernel_rfl⟩
set_option maxRecDepth 100000 in
theorem lifted (os : Os) (started : os.Started) (H : Type) (enc : TypeId × Value → H) (F : Stop.Interp) :
    ReturnsInHanded {} Tryz.checked os 3 .any ((Rows.OpenSpec.upto Rows.daemonNilSpec).preRow enc Tryz.prog Tryz.f3 Rows.daemonNilUptoRow.domain false Rows.daemonNilUptoRow.laid) (((Rows.OpenSpec.upto Rows.daemonNilSpec).at F).post enc Tryz.prog Tryz.f3 false true false false) := by
  obtain ⟨places, hx⟩ := reads os enc
  refine returnsInHanded_of_row (C := Tryz.checked) (s := Rows.OpenSpec.upto Rows.daemonNilSpec) own started (by kernel_rfl) Tryz.func3
    (witness_row_at (enc := enc) (C := Tryz.checked) false (laidWorld os) #[.int .i64 0, .string ⟨#[]⟩] rfl (by kernel_rfl) (by kernel_rfl) (by kernel_rfl)
      (OpenSpec.preRow_of_cond 8 hx (by kernel_rfl) (fun k hk => by cases hk; kernel_rfl) (by kernel_rfl) (laid_met os))) ?_
  intro W base args ds gs before hval hW _ hcond _ hL _ _
  exact contract H enc W base args ds gs before hval hW (hcond _ rfl)

theorem saidUpto : Rows.DaemonNilUptoSaid :=
  OpenClaim.holds_of_cond 3 Tryz.f3 rfl rfl rfl rfl rfl rfl rfl ⟨rfl, rfl, rfl, rfl, rfl⟩ rfl rfl rfl rfl rfl named_is Tryz.func3 joined_ok
    (of_decide_eq_true (by kernel_rfl)) (by unfold Func.isWrapper; first | (rw [if_pos (by decide +kernel)]; kernel_rfl) | (rw [if_neg (by decide +kernel)]; exact ⟨rfl, rfl⟩))
    (fun os started H enc _ F => by rw [OpenClaim.pre_eq_preRow]; exact lifted os started H enc F)
theorem plain (f : FuncId) (fn : Func) (hf : Tryz.pinned.checked.prog.funcNamed "tether/tetherlaw27.DaemonNil" = some f) (hfn : Tryz.pinned.checked.prog.funcs[f]? = some fn) :
    true = Tryz.pinned.checked.prog.looks [] ∧ ∀ (j : Nat) t, fn.params[j]? = some t → Tryz.pinned.checked.prog.wantsStandIn t = false := by
  obtain rfl : f = 3 := Option.some.inj ((show Tryz.prog.funcNamed "tether/tetherlaw27.DaemonNil" = some 3 by kernel_rfl).symm.trans hf) |>.symm
  obtain rfl : fn = Tryz.f3 := (Option.some.inj (Tryz.func3.symm.trans hfn)).symm
  refine ⟨by kernel_rfl, fun j t ht => ?_⟩
  rw [Tryz.params3] at ht
  have hm : t = 3 ∨ t = 9 := by simpa using Array.mem_of_getElem? ht
  rcases hm with rfl | rfl
  · exact (show Tryz.prog.wantsStandIn 3 = false by kernel_rfl)
  · exact (show Tryz.prog.wantsStandIn 9 = false by kernel_rfl)
theorem proved : Rows.DaemonNilUptoCardSaid :=
  Claim7.holds_tied_plain_at .later [] _ _ _ _ saidUpto (fun _ h => by cases h) (by kernel_rfl) (fun _ h => by cases h) daemonNilUpto_row_tie rfl ⟨rfl, rfl⟩ (by kernel_rfl) rfl plain goes_ok
end Go.Proofs.YtlfhglcccmghlaaGreatDoor.daemonNil
