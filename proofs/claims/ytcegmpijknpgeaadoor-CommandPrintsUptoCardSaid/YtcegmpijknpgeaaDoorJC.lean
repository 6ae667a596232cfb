/- What is proved: how Go values read as plain data (numbers, texts, structs, slices), and that such a reading stays while its memory does. Conditions: none. -/
import Derived.Test.YtcegmpijknpgeaaDoorJM
set_option linter.unusedSimpArgs false
set_option linter.unusedVariables false
namespace Go.J
open Go Go.RowKit

/-- how cells read as an α, through blocks that F names -/
structure Cod (α : Type) where
  sz : Nat
  rd : (Nat → Prop) → World → List Value → α → Prop
  len : ∀ {F w cs x}, rd F w cs x → cs.length = sz
  loc : ∀ {F w w' cs x}, rd F w cs x → (∀ b, F b → w'.heap[b]? = w.heap[b]?) → rd F w' cs x
  mono : ∀ {F F' w cs x}, rd F w cs x → (∀ b, F b → F' b) → rd F' w cs x

/-- cells that say all by themselves -/
def Cod.flat {α : Type} (enc : α → List Value) (n : Nat) (h : ∀ x, (enc x).length = n) : Cod α where
  sz := n
  rd _ _ cs x := cs = enc x
  len e := by rw [e]; exact h _
  loc e _ := e
  mono e _ := e
def cInt : Cod Int := .flat (fun n => [.int .i64 n]) 1 fun _ => rfl
def cBool : Cod Bool := .flat (fun b => [.bool b]) 1 fun _ => rfl
def cStr : Cod (List UInt8) := .flat (fun s => [str s]) 1 fun _ => rfl

def SlAt {α : Type} (c : Cod α) (F : Nat → Prop) (w : World) (A : Option Addr) (xs : List α) : Prop :=
  ∀ k (h : k < xs.length), ∃ b o es, A = some ⟨b, o, none⟩ ∧ F b ∧ w.rangeAt b (o + k * c.sz) es ∧ c.rd F w es xs[k]
theorem SlAt.loc {α : Type} {c : Cod α} {F : Nat → Prop} {w w' : World} {A : Option Addr} {xs : List α} (h : SlAt c F w A xs) (hs : ∀ b, F b → w'.heap[b]? = w.heap[b]?) : SlAt c F w' A xs := fun k hk => by
  obtain ⟨b, o, es, rfl, hF, hr, hx⟩ := h k hk
  exact ⟨b, o, es, rfl, hF, fun j v hv => (World.cell?_of_block (hs b hF)).trans (hr j v hv), c.loc hx hs⟩
theorem SlAt.mono {α : Type} {c : Cod α} {F F' : Nat → Prop} {w : World} {A : Option Addr} {xs : List α} (h : SlAt c F w A xs) (hs : ∀ b, F b → F' b) : SlAt c F' w A xs := fun k hk => by
  obtain ⟨b, o, es, rfl, hF, hr, hx⟩ := h k hk
  exact ⟨b, o, es, rfl, hs b hF, hr, c.mono hx hs⟩
def cSl {α : Type} (c : Cod α) : Cod (List α) where
  sz := 1
  rd F w cs xs := ∃ A cap, cs = [.slice A xs.length cap] ∧ xs.length ≤ cap ∧ SlAt c F w A xs
  len := fun ⟨_, _, e, _⟩ => by rw [e]; rfl
  loc := fun ⟨A, cap, e, hc, h⟩ hs => ⟨A, cap, e, hc, h.loc hs⟩
  mono := fun ⟨A, cap, e, hc, h⟩ hs => ⟨A, cap, e, hc, h.mono hs⟩

theorem SlAt.at_ {α : Type} {c : Cod α} {F : Nat → Prop} {w : World} {A : Option Addr} {xs : List α} (h : SlAt c F w A xs) {k : Nat} (hk : k < xs.length) :
    ∃ b o es, A = some ⟨b, o, none⟩ ∧ F b ∧ w.rangeAt b (o + k * c.sz) es ∧ c.rd F w es xs[k] := h k hk

section
variable {α : Type} {c : Cod α} {w0 w : World} {M : List Nat} {H : List Chunk} {Z : List Snap} {z : Snap} {cs : List Value} {x : α}
/-- what read so at a snapshot reads so now, as a callee wants it -/
theorem St.rdO (hS : St w0 M w H Z) (hz : z ∈ Z) (h : c.rd z.F z.w cs x) : c.rd (Old w) w cs x := c.mono (c.loc h fun b hb => (hS.snap z hz b hb).2.1) fun b hb => (hS.snap z hz b hb).1
theorem St.slO (hS : St w0 M w H Z) (hz : z ∈ Z) {A : Option Addr} {xs : List α} (h : SlAt c z.F z.w A xs) : SlAt c (Old w) w A xs := (h.loc fun b hb => (hS.snap z hz b hb).2.1).mono fun b hb => (hS.snap z hz b hb).1
/-- what read so at a snapshot reads so now -/
theorem St.rd (hS : St w0 M w H Z) (hz : z ∈ Z) (h : c.rd z.F z.w cs x) : c.rd z.F w cs x := c.loc h fun b hb => (hS.snap z hz b hb).2.1
theorem St.sl (hS : St w0 M w H Z) (hz : z ∈ Z) {A : Option Addr} {xs : List α} (h : SlAt c z.F z.w A xs) : SlAt c z.F w A xs := h.loc fun b hb => (hS.snap z hz b hb).2.1
end
end Go.J
