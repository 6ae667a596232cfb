/- What is proved: how an argument that is a command opens to plain data. Conditions: none. -/
import Derived.Test.YtcegmpijknpgeaaDoorCmdBack
set_option linter.unusedSimpArgs false
set_option linter.unusedVariables false
namespace Go.Proofs.YtcegmpijknpgeaaDoor
open Go Go.J Go.RowKit Go.ChangeShapes Go.WideShapes Go.ChangeAt Go.Deep

def cCmd : Cod Cmd where
  sz := 6
  rd _ _ cs c := cs = cmdV c
  len := fun e => by rw [e]; rfl
  loc := fun h _ => h
  mono := fun h _ => h
theorem list6 {α : Type} {l : List α} (h : l.length = 6) : ∃ a b c d e f, l = [a, b, c, d, e, f] := by match l, h with | [a, b, c, d, e, f], _ => exact ⟨a, b, c, d, e, f, rfl⟩
set_option maxRecDepth 100000 in
theorem open_cmd : Opens Tryd.prog 23 cCmd (fun c b => CmdSmall c b) := by
  intro H enc W fuel cs x h
  obtain ⟨xs, n, _, rfl, hlen, hxl, hf⟩ := DataW.trod_struct Tryd.underlying23 h
  obtain ⟨x0, x1, x2, x3, x4, x5, rfl⟩ := list6 hxl
  obtain ⟨c0, c1, c2, c3, c4, c5, rfl⟩ := list6 (hlen.trans (by kernel_rfl))
  obtain ⟨s0, e0, q0⟩ := Opens.str Tryd.underlying9 enc W n [c0] x0 (hf 0 _ rfl)
  obtain ⟨n1, e1, q1⟩ := Opens.int Tryd.underlying3 enc W n [c1] x1 (hf 1 _ rfl)
  obtain ⟨n2, e2, q2⟩ := Opens.int Tryd.underlying3 enc W n [c2] x2 (hf 2 _ rfl)
  obtain ⟨s3, e3, q3⟩ := Opens.str Tryd.underlying9 enc W n [c3] x3 (hf 3 _ rfl)
  obtain ⟨s4, e4, q4⟩ := Opens.str Tryd.underlying9 enc W n [c4] x4 (hf 4 _ rfl)
  obtain ⟨n5, e5, q5⟩ := Opens.int Tryd.underlying3 enc W n [c5] x5 (hf 5 _ rfl)
  have e0 : [c0] = [str s0] := e0
  have e1 : [c1] = [.int .i64 n1] := e1
  have e2 : [c2] = [.int .i64 n2] := e2
  have e3 : [c3] = [str s3] := e3
  have e4 : [c4] = [str s4] := e4
  have e5 : [c5] = [.int .i64 n5] := e5
  simp only [List.cons.injEq, and_true] at e0 e1 e2 e3 e4 e5
  subst e0 e1 e2 e3 e4 e5
  refine ⟨⟨s0, n1, n2, s3, s4, n5⟩, rfl, ?_⟩
  constructor
  all_goals (simp [Rows.uptoBulk, Rows.uptoBulkAll] at *; omega)
set_option maxRecDepth 100000 in
theorem arg_cmd : Arg Tryd.prog 23 (AAgg cCmd) (fun c b => CmdSmall c b) := Arg.agg Tryd.underlying23 open_cmd
end Go.Proofs.YtcegmpijknpgeaaDoor
