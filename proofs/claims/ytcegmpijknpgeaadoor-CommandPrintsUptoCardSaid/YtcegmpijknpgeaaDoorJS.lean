/- What is proved: what list[n:] answers, and that the shorter list reads as the rest of the data. Conditions: n within the list. -/
import Derived.Test.YtcegmpijknpgeaaDoorJC
set_option linter.unusedSimpArgs false
set_option linter.unusedVariables false
namespace Go.J
open Go Go.RowKit

theorem run_sliceLow {P : Program} {o : Oper} {w : World} {ρ : Operand → Value} {t e : TypeId} {size : Nat} {x y : Operand} {A : Option Addr} {n cap j : Nat} {k : IntKind} (ho : o.op = .slice t x (some y) none none) (he : elemOf P t = some (e, size))
    (hx : ρ x = .slice A n cap) (hy : ρ y = .int k (Int.ofNat j)) (hj : j ≤ n) :
    (execOp ρ o).run P w = .ok (.value (.slice (if cap = j then A else A.map (·.add (j * size))) (n - j) (cap - j))) w := by
  unfold elemOf at he
  split at he
  · rename_i e' hu
    split at he
    · rename_i n' hn
      simp only [Option.some.injEq, Prod.mk.injEq] at he
      obtain ⟨rfl, rfl⟩ := he
      simp [execOp, ho, hx, hy, Instr.sliceAt, Instr.slice, Instr.sliceBounds, Instr.sliceBound, asIntOf, Sem.run_bind, run_underlying hu, run_sizeOf hn, hj]
    · cases he
  · cases he
theorem WL.sliceLow {P : Program} {N : Nat} {ops l : List Oper} {o : Oper} {f : Nat → Value} {w : World} {Q} {t e : TypeId} {size : Nat} {x y : Operand} {A : Option Addr} {n cap j : Nat} {k : IntKind} (ho : o.op = .slice t x (some y) none none) (he : elemOf P t = some (e, size))
    (hx : ev f x = .slice A n cap) (hy : ev f y = .int k (Int.ofNat j)) (hj : j ≤ n)
    (hg : wants ops f o = true) {d : Nat} (hd : o.dst = some d) (hn : Nat.blt d N = true) (h : WL P N ops l (up f d (.slice (if cap = j then A else A.map (·.add (j * size))) (n - j) (cap - j))) w Q) : WL P N ops (o :: l) f w Q :=
  .val hg hd hn (run_sliceLow ho he hx hy hj) h
theorem SlAt.drop {α : Type} {c : Cod α} {F : Nat → Prop} {w : World} {A : Option Addr} {xs : List α} (h : SlAt c F w A xs) {n cap : Nat} (hc : xs.length ≤ cap) :
    SlAt c F w (if cap = n then A else A.map (·.add (n * c.sz))) (xs.drop n) := by
  intro k hk
  rw [List.length_drop] at hk
  obtain ⟨b, o, es, rfl, hF, hr, hx⟩ := h (n + k) (by omega)
  rw [if_neg (by omega)]
  refine ⟨b, o + n * c.sz, es, by simp [Addr.add_mid], hF, ?_, by rw [List.getElem_drop]; exact hx⟩
  rw [Nat.add_mul, ← Nat.add_assoc] at hr
  exact hr
theorem pred_ofNat (m : Nat) : ((m + 1 : Nat) : Int) - 1 = Int.ofNat m := by
  rw [Int.natCast_add]; exact Int.add_sub_cancel _ _
end Go.J
