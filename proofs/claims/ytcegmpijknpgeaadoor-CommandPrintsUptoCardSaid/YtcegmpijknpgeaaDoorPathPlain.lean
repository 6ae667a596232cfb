/- What is proved: plain facts on texts cut at strokes, on names and on paths. Conditions: none. -/
import Derived.Test.YtcegmpijknpgeaaDoorJX
set_option linter.unusedSimpArgs false
set_option linter.unusedVariables false
namespace Go.J
open Go

/-- a text cut at each stroke; 'one' is what stands ahead -/
def splitA (one : List UInt8) : List UInt8 → List (List UInt8)
  | [] => [one]
  | c :: s => if c = 47 then one :: splitA [] s else splitA (one ++ [c]) s
def splitL (s : List UInt8) : List (List UInt8) := splitA [] s
theorem splitA_len (s : List UInt8) : ∀ one, (splitA one s).length = s.count 47 + 1 := by
  induction s with
  | nil => intro one; simp [splitA]
  | cons c s ih =>
    intro one
    by_cases h : c = 47
    · subst h; simp [splitA, ih]
    · simp [splitA, h, ih, List.count_cons]
theorem splitA_none (s : List UInt8) (h : s.count 47 = 0) : ∀ one, splitA one s = [one ++ s] := by
  induction s with
  | nil => intro one; simp [splitA]
  | cons c s ih =>
    intro one
    rw [List.count_cons] at h
    have hc : c ≠ 47 := by rintro rfl; simp at h
    have h0 : s.count 47 = 0 := by omega
    simp [splitA, hc, ih h0]
/-- where the first stroke stands -/
theorem indexByte_spec (s : List UInt8) (c : UInt8) (h : 0 < s.count c) : ∃ j : Nat, Lib.indexByte s c = (j : Int) ∧ j < s.length ∧ (s.take j).count c = 0 ∧ s[j]? = some c := by
  induction s with
  | nil => simp at h
  | cons b s ih =>
    by_cases hb : b = c
    · exact ⟨0, by simp [Lib.indexByte, hb], by simp, by simp, by simp [hb]⟩
    · rw [List.count_cons] at h
      have h0 : 0 < s.count c := by simpa [hb] using h
      obtain ⟨j, h1, h2, h3, h4⟩ := ih h0
      refine ⟨j + 1, ?_, by simp; omega, ?_, by simpa using h4⟩
      · unfold Lib.indexByte
        have : (b == c) = false := by simpa using hb
        rw [this, h1]
        have h2 : (((j : Nat) : Int) == -1) = false := by rw [beq_eq_false_iff_ne]; omega
        rw [h2]; simp
      · rw [List.take_succ_cons, List.count_cons, h3]; simp [hb]
theorem splitA_first (s : List UInt8) : ∀ (one : List UInt8) (j : Nat), (s.take j).count 47 = 0 → s[j]? = some 47 → splitA one s = (one ++ s.take j) :: splitA [] (s.drop (j + 1)) := by
  induction s with
  | nil => intro one j _ h; simp at h
  | cons c s ih =>
    intro one j h1 h2
    cases j with
    | zero =>
      simp only [List.getElem?_cons_zero, Option.some.injEq] at h2
      subst h2
      simp [splitA]
    | succ j =>
      rw [List.take_succ_cons, List.count_cons] at h1
      have hc : c ≠ 47 := by rintro rfl; simp at h1
      have h0 : (s.take j).count 47 = 0 := by omega
      simp only [List.getElem?_cons_succ] at h2
      simp only [splitA, if_neg hc]
      rw [ih (one ++ [c]) j h0 h2]
      simp
theorem count_first (s : List UInt8) (j : Nat) (h1 : (s.take j).count 47 = 0) (h2 : s[j]? = some 47) : s.count 47 = (s.drop (j + 1)).count 47 + 1 := by
  have hlt : j < s.length := (List.getElem?_eq_some_iff.1 h2).1
  have hj : s[j] = 47 := (List.getElem?_eq_some_iff.1 h2).2
  have e : s = s.take j ++ s[j] :: s.drop (j + 1) := by rw [← List.drop_eq_getElem_cons hlt]; exact (List.take_append_drop j s).symm
  conv => lhs; rw [e]
  rw [List.count_append, List.count_cons, h1, hj]; simp

/-- letters of names -/
def okC (c : UInt8) : Bool := decide (97 ≤ c.toNat ∧ c.toNat ≤ 122 ∨ 48 ≤ c.toNat ∧ c.toNat ≤ 57 ∨ c.toNat = 95)
def nameB (s : List UInt8) : Bool := decide (1 ≤ s.length ∧ s.length ≤ 12) && s.all okC
theorem nameB_no (s : List UInt8) (k : Nat) (h : k < s.length) (hc : okC s[k] = false) : nameB s = false := by
  unfold nameB
  have : s.all okC = false := by
    rw [List.all_eq_false]
    exact ⟨s[k], List.getElem_mem h, by rw [hc]; decide⟩
  rw [this, Bool.and_false]
theorem nameB_len (s : List UInt8) (h : ¬ (1 ≤ s.length ∧ s.length ≤ 12)) : nameB s = false := by
  unfold nameB
  rw [decide_eq_false h, Bool.false_and]
theorem nameB_yes (s : List UInt8) (h : 1 ≤ s.length ∧ s.length ≤ 12) (ha : ∀ k (h : k < s.length), okC s[k] = true) : nameB s = true := by
  unfold nameB
  rw [decide_eq_true h, Bool.true_and, List.all_eq_true]
  intro x hx
  obtain ⟨k, hk, rfl⟩ := List.mem_iff_getElem.1 hx
  exact ha k hk

/-- the answer of a check -/
def checkE (p : List UInt8) (deep : Int) : Int := if deep < ((splitL p).length : Int) then 10 else if (splitL p).all nameB then 0 else 10
theorem checkE_deep (p : List UInt8) (deep : Int) (h : deep < ((splitL p).length : Int)) : checkE p deep = 10 := by unfold checkE; rw [if_pos h]
theorem checkE_no (p : List UInt8) (deep : Int) (k : Nat) (h : k < (splitL p).length) (hn : nameB (splitL p)[k] = false) : checkE p deep = 10 := by
  unfold checkE
  have : (splitL p).all nameB = false := by
    rw [List.all_eq_false]
    exact ⟨_, List.getElem_mem h, by rw [hn]; decide⟩
  rw [this]; simp
theorem checkE_yes (p : List UInt8) (deep : Int) (h : ¬ deep < ((splitL p).length : Int)) (ha : ∀ k (h : k < (splitL p).length), nameB (splitL p)[k] = true) : checkE p deep = 0 := by
  unfold checkE
  rw [if_neg h, if_pos]
  rw [List.all_eq_true]
  intro x hx
  obtain ⟨k, hk, rfl⟩ := List.mem_iff_getElem.1 hx
  exact ha k hk
theorem splitL_pos (p : List UInt8) : 0 < (splitL p).length := by unfold splitL; rw [splitA_len]; omega
theorem checkE_empty (deep : Int) : checkE [] deep = 10 := by
  unfold checkE splitL splitA
  split
  · rfl
  · simp [nameB]

/-- where the last stroke of the first k letters stands; -1 -/
def lastL (s : List UInt8) : Nat → Int
  | 0 => -1
  | k + 1 => if s[k]? = some 47 then (k : Int) else lastL s k
theorem lastL_ge (s : List UInt8) (k : Nat) : -1 ≤ lastL s k ∧ lastL s k < k := by
  induction k with
  | zero => simp [lastL]
  | succ k ih => simp only [lastL]; split <;> omega
def lastE (s : List UInt8) : Int := lastL s s.length
theorem lastE_ge (s : List UInt8) : -1 ≤ lastE s ∧ lastE s < s.length := lastL_ge s s.length
def parentE (s : List UInt8) : List UInt8 := s.take (lastE s).toNat
def baseE (s : List UInt8) : List UInt8 := s.drop (lastE s + 1).toNat
def joinE (a b : List UInt8) : List UInt8 := if a = [] then b else if b = [] then a else a ++ [47] ++ b
def underB (p top : List UInt8) : Bool := decide (top = []) || decide (p = top) || decide (p.take (top.length + 1) = top ++ [47])
def deepE (p : List UInt8) : Int := if p = [] then 0 else (p.count 47 : Nat) + 1
end Go.J
