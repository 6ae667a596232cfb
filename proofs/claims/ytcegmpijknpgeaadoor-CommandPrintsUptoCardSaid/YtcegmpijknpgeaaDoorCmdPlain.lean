/- What is proved: plain facts on lines of words: what a line's command is. Conditions: none. -/
import Derived.Test.YtcegmpijknpgeaaDoorPathPlain
set_option linter.unusedSimpArgs false
set_option linter.unusedVariables false
namespace Go.J
open Go

/-- a text ahead of the first c, and behind it -/
def cutC (c : UInt8) : List UInt8 → Option (List UInt8 × List UInt8)
  | [] => none
  | x :: r => if x = c then some ([], r) else match cutC c r with
    | some (a, b) => some (x :: a, b)
    | none => none
/-- .. cut so n times at the most -/
def wordsC (c : UInt8) : Nat → List UInt8 → List (List UInt8)
  | 0, s => [s]
  | n + 1, s => match cutC c s with
    | some (a, b) => a :: wordsC c n b
    | none => [s]
theorem cutC_some {c : UInt8} : ∀ {s a b : List UInt8}, cutC c s = some (a, b) → s = a ++ c :: b ∧ a.count c = 0
  | x :: r, a, b, h => by
    unfold cutC at h
    by_cases e : x = c
    · rw [if_pos e] at h
      simp only [Option.some.injEq, Prod.mk.injEq] at h
      obtain ⟨rfl, rfl⟩ := h
      exact ⟨by rw [e]; rfl, rfl⟩
    · rw [if_neg e] at h
      cases h2 : cutC c r with
      | none => rw [h2] at h; cases h
      | some p =>
        obtain ⟨a', b'⟩ := p
        rw [h2] at h
        simp only [Option.some.injEq, Prod.mk.injEq] at h
        obtain ⟨rfl, rfl⟩ := h
        obtain ⟨h3, h4⟩ := cutC_some h2
        exact ⟨by rw [h3]; rfl, by rw [List.count_cons]; simp [h4, e]⟩
theorem cutC_app {c : UInt8} : ∀ {a b : List UInt8}, a.count c = 0 → cutC c (a ++ c :: b) = some (a, b)
  | [], b, _ => by simp [cutC]
  | x :: a, b, h => by
    rw [List.count_cons] at h
    have hx : ¬ x = c := fun e => by simp [e] at h
    have ih := cutC_app (c := c) (a := a) (b := b) (by omega)
    rw [List.cons_append]
    unfold cutC
    rw [if_neg hx, ih]
theorem cutC_none {c : UInt8} : ∀ {s : List UInt8}, s.count c = 0 → cutC c s = none
  | [], _ => rfl
  | x :: r, h => by
    rw [List.count_cons] at h
    have hx : ¬ x = c := fun e => by simp [e] at h
    unfold cutC
    rw [if_neg hx, cutC_none (by omega)]
theorem cutC_count {c : UInt8} {s a b : List UInt8} (h : cutC c s = some (a, b)) : s.count c = b.count c + 1 := by
  obtain ⟨rfl, h2⟩ := cutC_some h
  rw [List.count_append, h2, List.count_cons]; simp
theorem cutC_no {c : UInt8} {s : List UInt8} (h : cutC c s = none) : s.count c = 0 := by
  rcases Nat.eq_zero_or_pos (s.count c) with h0 | h0
  · exact h0
  · obtain ⟨j, h1, h2, h3, h4⟩ := indexByte_spec s c h0
    have : s = s.take j ++ c :: s.drop (j + 1) := by
      have hj : s[j] = c := by rw [List.getElem?_eq_getElem h2] at h4; exact Option.some.inj h4
      conv => lhs; rw [← List.take_append_drop j s, List.drop_eq_getElem_cons h2, hj]
    rw [this, cutC_app h3] at h; cases h
theorem wordsC_len (c : UInt8) : ∀ (n : Nat) (s : List UInt8), (wordsC c n s).length = min n (s.count c) + 1
  | 0, s => by simp [wordsC]
  | n + 1, s => by
    unfold wordsC
    cases h : cutC c s with
    | none => rw [cutC_no h]; simp
    | some p =>
      obtain ⟨a, b⟩ := p
      have := wordsC_len c n b
      have h2 := cutC_count h
      show (a :: wordsC c n b).length = _
      rw [List.length_cons, this]; omega
theorem wordsC_all (c : UInt8) : ∀ (n m : Nat) (s : List UInt8), s.count c ≤ n → s.count c ≤ m → wordsC c n s = wordsC c m s
  | 0, 0, s, _, _ => rfl
  | 0, m + 1, s, h, _ => by unfold wordsC; rw [cutC_none (by omega)]
  | n + 1, 0, s, _, h => by unfold wordsC; rw [cutC_none (by omega)]
  | n + 1, m + 1, s, h1, h2 => by
    unfold wordsC
    cases h : cutC c s with
    | none => rfl
    | some p =>
      obtain ⟨a, b⟩ := p
      have h3 := cutC_count h
      show a :: wordsC c n b = a :: wordsC c m b
      rw [wordsC_all c n m b (by omega) (by omega)]
abbrev w_history : List UInt8 := [104, 105, 115, 116, 111, 114, 121]
abbrev w_status : List UInt8 := [115, 116, 97, 116, 117, 115]
abbrev w_pack : List UInt8 := [112, 97, 99, 107]
abbrev w_sync : List UInt8 := [115, 121, 110, 99]
abbrev w_conflicts : List UInt8 := [99, 111, 110, 102, 108, 105, 99, 116, 115]
abbrev w_commit : List UInt8 := [99, 111, 109, 109, 105, 116]
abbrev w_abort : List UInt8 := [97, 98, 111, 114, 116]
abbrev w_undo : List UInt8 := [117, 110, 100, 111]
abbrev w_tick : List UInt8 := [116, 105, 99, 107]
abbrev w_choose : List UInt8 := [99, 104, 111, 111, 115, 101]
abbrev w_give : List UInt8 := [103, 105, 118, 101]
abbrev w_show : List UInt8 := [115, 104, 111, 119]
abbrev w_get : List UInt8 := [103, 101, 116]
abbrev w_set : List UInt8 := [115, 101, 116]
abbrev w_later : List UInt8 := [108, 97, 116, 101, 114]
abbrev w_hub : List UInt8 := [104, 117, 98]
abbrev w_spoke : List UInt8 := [115, 112, 111, 107, 101]
abbrev w_merge : List UInt8 := [109, 101, 114, 103, 101]
abbrev w_quota : List UInt8 := [113, 117, 111, 116, 97]
abbrev w_age : List UInt8 := [97, 103, 101]
abbrev w_period : List UInt8 := [112, 101, 114, 105, 111, 100]
abbrev w_room : List UInt8 := [114, 111, 111, 109]
/-- what stands behind a command's word -/
def shapeE (w : List UInt8) : Option (List UInt8) :=
  if w = w_history ∨ w = w_status ∨ w = w_pack then some []
  else if w = w_sync ∨ w = w_conflicts ∨ w = w_commit ∨ w = w_abort ∨ w = w_undo ∨ w = w_tick then some [110]
  else if w = w_choose then some [110, 112, 99]
  else if w = w_give then some [110, 112, 116]
  else if w = w_show then some [110, 112]
  else if w = w_get then some [110, 110, 112]
  else if w = w_set then some [119, 110, 110]
  else none
structure Cmd where
  word : List UInt8
  a : Int
  b : Int
  path : List UInt8
  data : List UInt8
  choice : Int
abbrev Cmd0 : Cmd := ⟨[], 0, 0, [], [], 0⟩
def digB (c : UInt8) : Bool := decide (48 ≤ c.toNat ∧ c.toNat ≤ 57)
def valE (s : List UInt8) : Nat := s.foldl (fun n c => 10 * n + (c.toNat - 48)) 0
/-- the number of a text of digits -/
def numE (s : List UInt8) : Int × Bool :=
  if s = [] ∨ 13 < s.length ∨ (s.head? = some 48 ∧ s ≠ [48]) then (0, false) else if s.all digB then ((valE s : Int), decide (valE s ≤ 1099511627776)) else (0, false)
def choiceE (s : List UInt8) : Option Int := if s = w_later then some 0 else if s = w_hub then some 1 else if s = w_spoke then some 2 else if s = w_merge then some 3 else none
def settB (s : List UInt8) : Bool := decide (s = w_quota ∨ s = w_age ∨ s = w_period ∨ s = w_room)
def Cmd.num (c : Cmd) (i : Nat) (n : Int) : Cmd := if i = 0 then { c with a := n } else { c with b := n }
/-- what stands behind the word, from the left -/
def fillE : List UInt8 → List (List UInt8) → Nat → Cmd → Cmd × Int
  | k :: ks, p :: ps, i, c =>
    if k = 110 then (if (numE p).2 then fillE ks ps (i + 1) (c.num i (numE p).1) else (Cmd0, 20))
    else if k = 112 then (if checkE p 5 = 0 then fillE ks ps i { c with path := p } else (Cmd0, 10))
    else if k = 99 then (match choiceE p with
      | some n => fillE ks ps i { c with choice := n }
      | none => (Cmd0, 20))
    else if k = 119 then (if settB p then fillE ks ps i { c with data := p } else (Cmd0, 20))
    else fillE ks ps i { c with data := p, choice := 4 }
  | _, _, _, c => (c, 0)
def lineW (line : List UInt8) : List UInt8 × List UInt8 × Bool := match cutC 32 line with
  | some (a, b) => (a, b, true)
  | none => (line, [], false)
/-- the command of a line -/
def parseE (line : List UInt8) : Cmd × Int :=
  if 5000 < line.length then (Cmd0, 4) else match shapeE (lineW line).1 with
    | none => (Cmd0, 20)
    | some form => if (lineW line).2.2 ≠ decide (form ≠ []) then (Cmd0, 20)
      else if form = [] then (⟨(lineW line).1, 0, 0, [], [], 0⟩, 0)
      else if (wordsC 32 (if form = [110, 112, 116] then 2 else (lineW line).2.1.count 32) (lineW line).2.1).length ≠ form.length then (Cmd0, 20)
      else fillE form (wordsC 32 (if form = [110, 112, 116] then 2 else (lineW line).2.1.count 32) (lineW line).2.1) 0 ⟨(lineW line).1, 0, 0, [], [], 0⟩
end Go.J
