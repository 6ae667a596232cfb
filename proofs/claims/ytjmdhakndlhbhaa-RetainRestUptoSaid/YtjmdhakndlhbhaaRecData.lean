/- What is proved: records, changes and nodes as plain data, and how much a record takes of the quota. Conditions: none. -/
import Derived.Test.YtjmdhakndlhbhaaJC
set_option linter.unusedSimpArgs false
set_option linter.unusedVariables false
namespace Go.J
open Go

structure Nd where
  kind : Int
  data : List UInt8
structure Chg where
  path : List UInt8
  spoke : Int
  o0 : Nd
  o1 : Nd
  o2 : Nd
  n0 : Nd
  n1 : Nd
  n2 : Nd
structure Rec where
  id : Int
  tick : Int
  spoke : Int
  chgs : List Chg
def Chg.cells (c : Chg) : List Value := [str c.path, .int .i64 c.spoke, .int .i64 c.o0.kind, str c.o0.data, .int .i64 c.o1.kind, str c.o1.data, .int .i64 c.o2.kind, str c.o2.data,
  .int .i64 c.n0.kind, str c.n0.data, .int .i64 c.n1.kind, str c.n1.data, .int .i64 c.n2.kind, str c.n2.data]
def cChg : Cod Chg := .flat Chg.cells 14 fun _ => rfl
def cRec : Cod Rec where
  sz := 4
  rd F w cs r := ∃ A cap, cs = [.int .i64 r.id, .int .i64 r.tick, .int .i64 r.spoke, .slice A r.chgs.length cap] ∧ r.chgs.length ≤ cap ∧ SlAt cChg F w A r.chgs
  len := fun ⟨_, _, e, _⟩ => by rw [e]; rfl
  loc := fun ⟨A, cap, e, hc, h⟩ hs => ⟨A, cap, e, hc, h.loc hs⟩
  mono := fun ⟨A, cap, e, hc, h⟩ hs => ⟨A, cap, e, hc, h.mono hs⟩

def ndEq (a b : Nd) : Bool := a.kind == b.kind && a.data == b.data
def chgSize (c : Chg) : Nat := 16 + c.path.length + (if ndEq c.o0 c.n0 then 0 else c.o0.data.length) + (if ndEq c.o1 c.n1 then 0 else c.o1.data.length)
def chgsSize : List Chg → Nat
  | [] => 64
  | c :: r => chgSize c + chgsSize r
def recSize (r : Rec) : Nat := chgsSize r.chgs
theorem chgs_take (l : List Chg) (k : Nat) (h : k < l.length) : chgsSize (l.take (k + 1)) = chgsSize (l.take k) + chgSize l[k] := by
  induction l generalizing k with
  | nil => simp at h
  | cons c r ih =>
    cases k with
    | zero => simp [chgsSize]; omega
    | succ k => simp only [List.take_succ_cons, chgsSize, List.getElem_cons_succ]; rw [ih k (by simpa using h)]; omega
theorem chgs_take_le (l : List Chg) (k : Nat) : chgsSize (l.take k) ≤ chgsSize l := by
  induction l generalizing k with
  | nil => simp
  | cons c r ih =>
    cases k with
    | zero => simp [chgsSize]; have := ih 0; simp [chgsSize] at this; omega
    | succ k => simp only [List.take_succ_cons, chgsSize]; have := ih k; omega
theorem chgs_len (l : List Chg) : 16 * l.length + 64 ≤ chgsSize l := by
  induction l with
  | nil => simp [chgsSize]
  | cons c r ih => simp only [chgsSize, List.length_cons, chgSize]; omega
theorem chgSize_tt {c : Chg} (h0 : ndEq c.o0 c.n0 = true) (h1 : ndEq c.o1 c.n1 = true) : chgSize c = 16 + c.path.length := by simp [chgSize, h0, h1]
theorem chgSize_tf {c : Chg} (h0 : ndEq c.o0 c.n0 = true) (h1 : ndEq c.o1 c.n1 = false) : chgSize c = 16 + c.path.length + c.o1.data.length := by simp [chgSize, h0, h1]
theorem chgSize_ft {c : Chg} (h0 : ndEq c.o0 c.n0 = false) (h1 : ndEq c.o1 c.n1 = true) : chgSize c = 16 + c.path.length + c.o0.data.length := by simp [chgSize, h0, h1]
theorem chgSize_ff {c : Chg} (h0 : ndEq c.o0 c.n0 = false) (h1 : ndEq c.o1 c.n1 = false) : chgSize c = 16 + c.path.length + c.o0.data.length + c.o1.data.length := by simp [chgSize, h0, h1]
/-- how much records take -/
def sumSz : List Rec → Nat
  | [] => 0
  | r :: l => recSize r + sumSz l
def dropsL (clock quota age : Int) : List Rec → Nat
  | [] => 0
  | r :: l => if quota < (sumSz (r :: l) : Int) ∨ (0 < age ∧ age < clock - r.tick) then dropsL clock quota age l + 1 else 0
theorem sumSz_drop (l : List Rec) (k : Nat) (h : k < l.length) : sumSz (l.drop k) = recSize l[k] + sumSz (l.drop (k + 1)) := by
  rw [List.drop_eq_getElem_cons h]; rfl
theorem sumSz_drop_le (l : List Rec) (k : Nat) : sumSz (l.drop k) ≤ sumSz l := by
  induction l generalizing k with
  | nil => simp
  | cons r l ih =>
    cases k with
    | zero => simp
    | succ k => simp only [List.drop_succ_cons, sumSz]; have := ih k; omega
theorem sumSz_take (l : List Rec) (k : Nat) (h : k < l.length) : sumSz (l.take (k + 1)) = sumSz (l.take k) + recSize l[k] := by
  induction l generalizing k with
  | nil => simp at h
  | cons c r ih =>
    cases k with
    | zero => simp [sumSz]
    | succ k => simp only [List.take_succ_cons, sumSz, List.getElem_cons_succ]; rw [ih k (by simpa using h)]; omega
theorem sumSz_take_le (l : List Rec) (k : Nat) : sumSz (l.take k) ≤ sumSz l := by
  induction l generalizing k with
  | nil => simp
  | cons r l ih =>
    cases k with
    | zero => simp [sumSz]
    | succ k => simp only [List.take_succ_cons, sumSz]; have := ih k; omega
theorem sumSz_len (l : List Rec) : 64 * l.length ≤ sumSz l := by
  induction l with
  | nil => simp [sumSz]
  | cons r l ih => simp only [sumSz, List.length_cons, recSize]; have := chgs_len r.chgs; omega
theorem recSize_le_sum (l : List Rec) (k : Nat) (h : k < l.length) : recSize l[k] ≤ sumSz l := by
  have h1 := sumSz_drop l k h
  have h2 := sumSz_drop_le l k
  omega
theorem dropsL_end (clock quota age : Int) (l : List Rec) (k : Nat) (h : l.length ≤ k) : dropsL clock quota age (l.drop k) = 0 := by
  rw [List.drop_eq_nil_of_le h]; rfl
theorem dropsL_go (clock quota age : Int) (l : List Rec) (k : Nat) (h : k < l.length) (hc : quota < (sumSz (l.drop k) : Int) ∨ (0 < age ∧ age < clock - l[k].tick)) :
    dropsL clock quota age (l.drop k) = dropsL clock quota age (l.drop (k + 1)) + 1 := by
  rw [List.drop_eq_getElem_cons h] at hc ⊢
  rw [dropsL, if_pos hc]
theorem dropsL_stop (clock quota age : Int) (l : List Rec) (k : Nat) (h : k < l.length) (hc : ¬(quota < (sumSz (l.drop k) : Int) ∨ (0 < age ∧ age < clock - l[k].tick))) :
    dropsL clock quota age (l.drop k) = 0 := by
  rw [List.drop_eq_getElem_cons h] at hc ⊢
  rw [dropsL, if_neg hc]
end Go.J
