/- What is proved: the walk's rule for a value that goes nowhere, and for a key struck from a map so. Conditions: as each rule names them. -/
import Derived.Test.YtggalmiaofeikaaDoorJV
set_option linter.unusedSimpArgs false
set_option linter.unusedVariables false
namespace Go.J
open Go Go.RowKit

section
variable {P : Program} {N : Nat} {f : Fr} {w w0 : World} {Q : Post} {ops l : List Oper} {o : Oper} {M : List Nat} {H H' : List Chunk} {Z : List Snap}
theorem WL.val0 (hg : wants ops f o = true) (hd : o.dst = none) {v : Value} {w' : World} (hr : (execOp (ev f) o).run P w = .ok (.value v) w')
    (h : WL P N ops l f w' Q) : WL P N ops (o :: l) f w Q := by
  refine ⟨fun a ha => wpList_step fun K hK => ?_⟩
  rw [if_pos ((wanted_eq ha o).trans hg)]
  simp only [Oper.wp, ha.eval, hr, Oper.upon]
  exact hK _ _ (h.out _ (by rw [hd]; exact ha))
theorem WL.mdel0 {t k t2 : TypeId} {z : Value} {x i : Operand} {b : Nat} {m : KV} {s : List UInt8} (hS : St w0 M w H Z) (ho : o.op = .call ⟨.builtin .delete, ⟨[x, i]⟩, ⟨[t, t2]⟩⟩) (ht : mapOf P t = some (k, z)) (hx : ev f x = .map (some b)) (hi : ev f i = str s)
    (hr : Repl (mapC b m) (mapC b (Go.J.mdel m s)) H H') (hg : wants ops f o = true) (hd : o.dst = none) (h : ∀ w', St w0 M w' H' Z → WL P N ops l f w' Q) : WL P N ops (o :: l) f w Q := by
  obtain ⟨ob, h1, h2⟩ := run_delete (t2 := t2) (ty := o.type) (s := s) ht (hS.holds _ hr.mem).1
  have hrun : (execOp (ev f) o).run P w = .ok (.value (.tuple #[])) { w with heap := w.heap.setIfInBounds b ob } := by
    simp [execOp, ho, resolve, invoke, builtin, hx, hi, Sem.run_bind, h1]
  exact .val0 hg hd hrun (h _ (hS.setMap hr h2))
end
end Go.J
