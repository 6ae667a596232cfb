/- What is proved: rules that cut a walk where ways meet again. Conditions: none. -/
import Derived.Test.YtcegmpijknpgeaaDoorJN
set_option linter.unusedSimpArgs false
set_option linter.unusedVariables false
namespace Go.J
open Go Go.RowKit

/-- what holds where a block is left: the slots that are named, and those that are kept -/
def cutQ {σ : Type} (id : Nat) (keep : List Nat) (lv : σ → List (Nat × Value)) (I : σ → World → Prop) (f : Fr) (Q : Post) : Post
  | .exit i, f', w' => match Nat.beq i id with
    | true => ∃ s, I s w' ∧ agree f' (lv s) ∧ agreeK f' f keep
    | false => Q (.exit i) f' w'
  | e, f', w' => Q e f' w'
/-- what holds behind a piece of code -/
def endQ {σ : Type} (keep : List Nat) (lv : σ → List (Nat × Value)) (I : σ → World → Prop) (f : Fr) (Q : Post) : Post
  | .normal, f', w' => ∃ s, I s w' ∧ agree f' (lv s) ∧ agreeK f' f keep
  | e, f', w' => Q e f' w'
section
variable {P : Program} {N : Nat} {f f' : Fr} {w : World} {Q : Post} {x y : Code} {σ : Type} {id : Nat} {keep : List Nat} {lv : σ → List (Nat × Value)} {I : σ → World → Prop}
theorem cutQ_hit (s : σ) (h1 : I s w) (h2 : agree f' (lv s)) (h3 : agreeK f' f keep) : cutQ id keep lv I f Q (.exit id) f' w := by
  have hb : Nat.beq id id = true := by simp
  show (match Nat.beq id id with | true => _ | false => _)
  rw [hb]; exact ⟨s, h1, h2, h3⟩
theorem cutQ_miss {i : Nat} (e : Nat.beq i id = false) (h : Q (.exit i) f' w) : cutQ id keep lv I f Q (.exit i) f' w := by
  show (match Nat.beq i id with | true => _ | false => _)
  rw [e]; exact h
theorem cutQ_n (h : Q .normal f' w) : cutQ id keep lv I f Q .normal f' w := h
theorem cutQ_r (h : Q .ret f' w) : cutQ id keep lv I f Q .ret f' w := h
theorem cutQ_p {c : List PanicEntry} (h : Q (.panic c) f' w) : cutQ id keep lv I f Q (.panic c) f' w := h
theorem endQ_n (s : σ) (h1 : I s w) (h2 : agree f' (lv s)) (h3 : agreeK f' f keep) : endQ keep lv I f Q .normal f' w := ⟨s, h1, h2, h3⟩
theorem endQ_x {i : Nat} (h : Q (.exit i) f' w) : endQ keep lv I f Q (.exit i) f' w := h
theorem endQ_r (h : Q .ret f' w) : endQ keep lv I f Q .ret f' w := h
theorem endQ_p {c : List PanicEntry} (h : Q (.panic c) f' w) : endQ keep lv I f Q (.panic c) f' w := h
/-- all ways that leave the block meet -/
theorem WC.cutX (id : Nat) (keep : List Nat) (lv : σ → List (Nat × Value)) (I : σ → World → Prop) (h1 : WC P N x f w (cutQ id keep lv I f Q)) (h2 : ∀ s g w, I s w → Q (.exit id) (lf keep (lv s) f g) w) : WC P N x f w Q := by
  refine h1.mono fun e f' w' h => ?_
  cases e with
  | exit i =>
    change (match Nat.beq i id with | true => _ | false => _) at h
    split at h
    · rename_i hb
      have := Nat.eq_of_beq_eq_true hb
      subst this
      obtain ⟨s, hI, ha, hk⟩ := h
      rw [lf_eq ha hk]
      exact h2 s f' w' hI
    · exact h
  | normal => exact h
  | panic c => exact h
  | goto l => exact h
  | ret => exact h
  | outgrown => exact h
/-- all ways through x meet -/
theorem WC.cutS (keep : List Nat) (lv : σ → List (Nat × Value)) (I : σ → World → Prop) (h1 : WC P N x f w (endQ keep lv I f Q)) (h2 : ∀ s g w, I s w → WC P N y (lf keep (lv s) f g) w Q) : WC P N (.seq x y) f w Q := by
  refine WC.seq (h1.mono fun e f' w' h => ?_)
  cases e with
  | normal =>
    obtain ⟨s, hI, ha, hk⟩ := h
    rw [lf_eq ha hk]
    exact seqQ_n (h2 s f' w' hI)
  | exit i => exact seqQ_x h
  | panic c => exact seqQ_p h
  | goto l => unfold seqQ; exact h
  | ret => exact seqQ_r h
  | outgrown => unfold seqQ; exact h
end
attribute [irreducible] cutQ endQ
end Go.J
