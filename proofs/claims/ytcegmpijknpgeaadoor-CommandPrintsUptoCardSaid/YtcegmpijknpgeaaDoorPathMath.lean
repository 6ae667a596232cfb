/- What is proved: plain facts on joined paths and on the order of paths as texts. Conditions: none. -/
import Derived.Test.YtcegmpijknpgeaaDoorPathPlain
set_option linter.unusedSimpArgs false
set_option linter.unusedVariables false
namespace Go.J
open Go

theorem splitA_app (q : List UInt8) : ∀ (p one : List UInt8), splitA one (p ++ 47 :: q) = splitA one p ++ splitA [] q
  | [], one => by simp [splitA]
  | c :: p, one => by
    by_cases h : c = 47
    · subst h; simp [splitA, splitA_app q p]
    · simp [splitA, h, splitA_app q p]
theorem checkE_iff (p : List UInt8) (d : Int) : checkE p d = 0 ↔ ((splitL p).length : Int) ≤ d ∧ (splitL p).all nameB = true := by
  unfold checkE
  by_cases h : d < ((splitL p).length : Int)
  · rw [if_pos h]; constructor
    · intro h; cases h
    · intro h2; omega
  · rw [if_neg h]
    by_cases h2 : (splitL p).all nameB = true
    · rw [if_pos h2]; exact ⟨fun _ => ⟨by omega, h2⟩, fun _ => rfl⟩
    · rw [if_neg h2]; constructor
      · intro h; cases h
      · intro h3; exact absurd h3.2 h2
theorem checkE_ten (p : List UInt8) (d : Int) (h : checkE p d ≠ 0) : checkE p d = 10 := by
  unfold checkE at *
  split
  · rfl
  · rename_i h1
    rw [if_neg h1] at h
    split
    · rename_i h2; rw [if_pos h2] at h; exact absurd rfl h
    · rfl
theorem names_ne {p : List UInt8} (h : (splitL p).all nameB = true) : p ≠ [] := by
  rintro rfl
  simp [splitL, splitA, nameB] at h
theorem splitL_app (p q : List UInt8) : splitL (p ++ [47] ++ q) = splitL p ++ splitL q := by
  unfold splitL; rw [List.append_assoc]; exact splitA_app q p []
theorem lastL_no (s : List UInt8) : ∀ (k : Nat), k ≤ s.length → ∀ i : Nat, lastL s k < (i : Int) → i < k → s[i]? ≠ some 47
  | 0, _, i, _, hi => absurd hi (Nat.not_lt_zero _)
  | k + 1, hk, i, h, hi => by
    simp only [lastL] at h
    split at h
    · omega
    · rename_i hne
      by_cases e : i = k
      · subst e; exact hne
      · exact lastL_no s k (by omega) i h (by omega)
theorem lastL_at (s : List UInt8) : ∀ (k m : Nat), lastL s k = (m : Int) → s[m]? = some 47
  | 0, m, h => by simp only [lastL] at h; omega
  | k + 1, m, h => by
    simp only [lastL] at h
    split at h
    · rename_i h2; have : k = m := by omega
      subst this; exact h2
    · exact lastL_at s k m h
theorem count_none (s : List UInt8) (h : ∀ i, i < s.length → s[i]? ≠ some 47) : s.count 47 = 0 := by
  rw [List.count_eq_zero]
  intro hm
  obtain ⟨i, hi, he⟩ := List.mem_iff_getElem.1 hm
  exact h i hi (by rw [List.getElem?_eq_getElem hi, he])

/-- a path is its parent and its last name -/
theorem parts (p : List UInt8) (h : (splitL p).all nameB = true) : joinE (parentE p) (baseE p) = p ∧ nameB (baseE p) = true ∧ underB p (parentE p) = true := by
  have hg := lastE_ge p
  by_cases h0 : lastE p < 0
  · have e1 : lastE p = -1 := by omega
    have e2 : parentE p = [] := by unfold parentE; rw [e1]; rfl
    have e3 : baseE p = p := by unfold baseE; rw [e1]; rfl
    have hn : p.count 47 = 0 := count_none p fun i hi => lastL_no p p.length (Nat.le_refl _) i (by show lastE p < _; omega) hi
    rw [e2, e3]
    refine ⟨by simp [joinE], ?_, by simp [underB]⟩
    unfold splitL at h
    rw [splitA_none p hn] at h
    simpa using h
  · obtain ⟨m, hm⟩ := Int.eq_ofNat_of_zero_le (show 0 ≤ lastE p by omega)
    have hat := lastL_at p p.length m hm
    have hlt : m < p.length := (List.getElem?_eq_some_iff.1 hat).1
    have hpm : p[m] = 47 := (List.getElem?_eq_some_iff.1 hat).2
    have e2 : parentE p = p.take m := by unfold parentE; rw [hm]; rfl
    have e3 : baseE p = p.drop (m + 1) := by unfold baseE; rw [hm]; rfl
    have hp : p = p.take m ++ [47] ++ p.drop (m + 1) := by
      rw [List.append_assoc]
      show p = p.take m ++ 47 :: p.drop (m + 1)
      rw [← hpm, ← List.drop_eq_getElem_cons hlt]; exact (List.take_append_drop m p).symm
    have hn : (p.drop (m + 1)).count 47 = 0 := count_none _ fun i hi => by
      rw [List.getElem?_drop]
      simp only [List.length_drop] at hi
      exact lastL_no p p.length (Nat.le_refl _) (m + 1 + i) (by show lastE p < _; omega) (by omega)
    have hs : splitL p = splitL (p.take m) ++ [p.drop (m + 1)] := by
      conv => lhs; rw [hp]
      rw [splitL_app]
      congr 1
      unfold splitL
      rw [splitA_none _ hn]; rfl
    rw [hs, List.all_append, Bool.and_eq_true] at h
    have hne := names_ne h.1
    have hb : nameB (p.drop (m + 1)) = true := by simpa using h.2
    have hbn : p.drop (m + 1) ≠ [] := by intro e; rw [e] at hb; simp [nameB] at hb
    rw [e2, e3]
    refine ⟨?_, hb, ?_⟩
    · unfold joinE
      rw [if_neg hne, if_neg hbn]; exact hp.symm
    · unfold underB
      have hl : (p.take m).length = m := by simp; omega
      have : p.take ((p.take m).length + 1) = p.take m ++ [47] := by rw [hl, List.take_succ_eq_append_getElem hlt, hpm]
      rw [decide_eq_true this, Bool.or_true]
theorem joinE_ne {p q : List UInt8} (hp : p ≠ []) (hq : q ≠ []) : joinE p q = p ++ [47] ++ q := by unfold joinE; rw [if_neg hp, if_neg hq]
theorem under_join {p q : List UInt8} (hp : p ≠ []) (hq : q ≠ []) : underB (joinE p q) p = true ∧ underB p (joinE p q) = false ∧ underB p p = true := by
  rw [joinE_ne hp hq]
  refine ⟨?_, ?_, by simp [underB]⟩
  · unfold underB
    have : (p ++ [47] ++ q).take (p.length + 1) = p ++ [47] := by
      rw [List.take_append_of_le_length (by simp), List.take_of_length_le (by simp)]
    rw [decide_eq_true this, Bool.or_true]
  · unfold underB
    rw [decide_eq_false (by simp), decide_eq_false (by intro e; have := congrArg List.length e; simp at this), decide_eq_false (by intro e; have := congrArg List.length e; simp at this; omega)]
    rfl
theorem deep_join {p q : List UInt8} (hp : p ≠ []) (hq : q ≠ []) : deepE (joinE p q) = deepE p + deepE q := by
  rw [joinE_ne hp hq]
  unfold deepE
  rw [if_neg hp, if_neg hq, if_neg (by simp)]
  rw [List.count_append, List.count_append]
  simp
  omega
theorem deep_len {p : List UInt8} (hp : p ≠ []) : deepE p = ((splitL p).length : Int) := by
  unfold deepE splitL
  rw [if_neg hp, splitA_len]; omega

/-! ## the order -/
theorem less_app (b r : List UInt8) (c : UInt8) (top : List UInt8) : Op.bytesLess top (top ++ c :: r) = true := by
  induction top with
  | nil => rfl
  | cons a t ih => simp [Op.bytesLess, ih]
theorem names_ge {p : List UInt8} : ∀ (one : List UInt8), (splitA one p).all nameB = true → ∀ c ∈ p, 47 ≤ c.toNat
  | one, h => by
    induction p generalizing one with
    | nil => simp
    | cons a p ih =>
      intro c hc
      simp only [splitA] at h
      by_cases ha : a = 47
      · rw [if_pos ha, List.all_cons, Bool.and_eq_true] at h
        rcases List.mem_cons.1 hc with rfl | hc
        · rw [ha]; decide
        · exact ih [] h.2 c hc
      · rw [if_neg ha] at h
        rcases List.mem_cons.1 hc with rfl | hc
        · have key : ∀ (p one : List UInt8) (a : UInt8), a ∈ one → (splitA one p).all nameB = true → okC a = true := by
            intro p
            induction p with
            | nil =>
              intro one a h1 h2
              simp only [splitA, List.all_cons, List.all_nil, Bool.and_true] at h2
              unfold nameB at h2
              rw [Bool.and_eq_true, List.all_eq_true] at h2
              exact h2.2 a h1
            | cons b p ih =>
              intro one a h1 h2
              simp only [splitA] at h2
              split at h2
              · rw [List.all_cons, Bool.and_eq_true] at h2
                have h2 := h2.1
                unfold nameB at h2
                rw [Bool.and_eq_true, List.all_eq_true] at h2
                exact h2.2 a h1
              · exact ih _ a (by simp [h1]) h2
          have := key p (one ++ [c]) c (by simp) h
          unfold okC at this
          have := of_decide_eq_true this
          omega
        · exact ih _ h c hc
theorem sorts (below : List UInt8) : ∀ (top other : List UInt8), (∀ c ∈ other, 47 ≤ c.toNat) → other ≠ top → other.take (top.length + 1) ≠ top ++ [47] → Op.bytesLess other top = false →
    Op.bytesLess other (top ++ 47 :: below) = false ∧ other ≠ top ++ 47 :: below
  | [], other, hc, h1, h2, h3 => by
    rcases other with _ | ⟨c, r⟩
    · exact absurd rfl h1
    · have h0 := hc c (by simp)
      have hne : c ≠ 47 := by rintro rfl; simp at h2
      have hlt : ¬ c < 47 := by rw [UInt8.lt_iff_toNat_lt]; show ¬ c.toNat < 47; omega
      refine ⟨?_, ?_⟩
      · simp [Op.bytesLess, hlt, hne]
      · intro e; simp at e; exact hne e.1
  | a :: t, other, hc, h1, h2, h3 => by
    rcases other with _ | ⟨b, o⟩
    · simp [Op.bytesLess] at h3
    · simp only [Op.bytesLess, Bool.or_eq_false_iff, Bool.and_eq_false_iff] at h3
      by_cases hb : b = a
      · subst hb
        have h4 : Op.bytesLess o t = false := by
          rcases h3.2 with h | h
          · simp at h
          · exact h
        have := sorts below t o (fun c h => hc c (by simp [h])) (by rintro rfl; exact h1 rfl) (by
          intro e; apply h2; simp [e]) h4
        refine ⟨?_, ?_⟩
        · simp only [List.cons_append, Op.bytesLess, this.1, Bool.and_false, Bool.or_false]; exact h3.1
        · intro e; simp at e; exact this.2 (by simpa using e)
      · refine ⟨?_, ?_⟩
        · simp only [List.cons_append, Op.bytesLess, h3.1, Bool.false_or]; simp [hb]
        · intro e; simp at e; exact hb e.1
end Go.J
