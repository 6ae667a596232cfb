/- What is proved: plain facts on lines and commands: they are one to one. Conditions: none. -/
import Derived.Test.YtcegmpijknpgeaaDoorCmdPlain
import Derived.Test.YtcegmpijknpgeaaDoorPathMath
import Derived.Lib.ItoaNum
set_option linter.unusedSimpArgs false
set_option linter.unusedVariables false
namespace Go.J
open Go Go.Lib

theorem decDigits_small {n : Nat} (h : n < 10) : decDigits n = [UInt8.ofNat (48 + n)] := by rw [decDigits, dif_pos h]
theorem decDigits_big {n : Nat} (h : ¬ n < 10) : decDigits n = decDigits (n / 10) ++ [UInt8.ofNat (48 + n % 10)] := by rw [decDigits, dif_neg h]
theorem valE_snoc (s : List UInt8) (c : UInt8) : valE (s ++ [c]) = 10 * valE s + (c.toNat - 48) := by unfold valE; rw [List.foldl_append]; rfl
theorem ofNat_nat {n : Nat} (h : n < 256) : (UInt8.ofNat n).toNat = n := by simp; omega
theorem decDigits_ne (n : Nat) : decDigits n ≠ [] := by
  by_cases h : n < 10
  · rw [decDigits_small h]; simp
  · rw [decDigits_big h]; simp
/-- digits, what they are worth, and that no nought leads -/
theorem decDigits_spec : ∀ (m n : Nat), n ≤ m → valE (decDigits n) = n ∧ (decDigits n).all digB = true ∧ (0 < n → (decDigits n).head? ≠ some 48) ∧ ∀ k, n < 10 ^ (k + 1) → (decDigits n).length ≤ k + 1
  | m, n, hm => by
    by_cases h : n < 10
    · rw [decDigits_small h]
      have hc : (UInt8.ofNat (48 + n)).toNat = 48 + n := ofNat_nat (by omega)
      refine ⟨by simp only [valE, List.foldl_cons, List.foldl_nil, hc]; omega, by simp only [List.all_cons, List.all_nil, Bool.and_true, digB, hc, decide_eq_true_eq]; omega, fun h0 => ?_, fun k _ => by simp⟩
      simp only [List.head?_cons, ne_eq, Option.some.injEq]
      intro e
      have := congrArg UInt8.toNat e
      rw [hc] at this
      have h48 : (48 : UInt8).toNat = 48 := rfl
      omega
    · cases m with
      | zero => omega
      | succ m =>
        obtain ⟨h1, h2, h3, h4⟩ := decDigits_spec m (n / 10) (by omega)
        have hc : (UInt8.ofNat (48 + n % 10)).toNat = 48 + n % 10 := ofNat_nat (by omega)
        rw [decDigits_big h]
        refine ⟨by rw [valE_snoc, h1, hc]; omega, by rw [List.all_append, h2, Bool.true_and]; simp only [List.all_cons, List.all_nil, Bool.and_true, digB, hc, decide_eq_true_eq]; omega, fun _ => ?_, fun k hk => ?_⟩
        · cases hd : decDigits (n / 10) with
          | nil => exact absurd hd (decDigits_ne _)
          | cons a l =>
            have := h3 (by omega)
            rw [hd] at this
            simpa using this
        · cases k with
          | zero => omega
          | succ k =>
            have := h4 k (by rw [Nat.pow_succ] at hk; omega)
            rw [List.length_append, List.length_singleton]; omega
/-- digits that are told from what they are worth -/
theorem val_dec : ∀ (m : Nat) (s : List UInt8), s.length ≤ m → s ≠ [] → s.all digB = true → (s.head? = some 48 → s = [48]) → decDigits (valE s) = s
  | 0, s, hm, hne, _, _ => absurd (List.eq_nil_of_length_eq_zero (by omega)) hne
  | m + 1, s, hm, hne, hall, hh => by
    rcases List.eq_nil_or_concat s with h | ⟨t, c, h⟩
    · exact absurd h hne
    · rw [List.concat_eq_append] at h
      subst h
      rw [List.all_append, Bool.and_eq_true] at hall
      have hc : 48 ≤ c.toNat ∧ c.toNat ≤ 57 := by simpa [digB] using hall.2
      have hcc : UInt8.ofNat c.toNat = c := by simp
      rw [valE_snoc]
      cases ht : t with
      | nil =>
        have : valE [] = 0 := rfl
        rw [this, decDigits_small (by omega), show 48 + (10 * 0 + (c.toNat - 48)) = c.toNat by omega, hcc]
        rfl
      | cons a r =>
        rw [← ht]
        have hta : a ≠ 48 := fun e => by
          have := hh (by rw [ht]; simp [e])
          rw [ht] at this; simp at this
        have ih := val_dec m t (by rw [List.length_append, List.length_singleton] at hm; omega) (by rw [ht]; simp) hall.1 (fun h => by rw [ht] at h; simp at h; exact absurd h hta)
        have hpos : 0 < valE t := by
          rcases Nat.eq_zero_or_pos (valE t) with h0 | h0
          · rw [h0] at ih
            rw [decDigits_small (by omega), ht] at ih
            simp only [List.cons.injEq] at ih
            exact absurd ih.1.symm hta
          · exact h0
        rw [decDigits_big (by omega), show (10 * valE t + (c.toNat - 48)) / 10 = valE t by omega, ih, show 48 + (10 * valE t + (c.toNat - 48)) % 10 = c.toNat by omega, hcc]
theorem numE_val {s : List UInt8} (h : (numE s).2 = true) : itoa (numE s).1 = s ∧ (numE s).1 = ((valE s : Nat) : Int) := by
  unfold numE at h ⊢
  by_cases h1 : s = [] ∨ 13 < s.length ∨ (s.head? = some 48 ∧ s ≠ [48])
  · rw [if_pos h1] at h; cases h
  · rw [if_neg h1] at h ⊢
    by_cases h2 : s.all digB = true
    · rw [if_pos h2] at h ⊢
      refine ⟨?_, rfl⟩
      unfold itoa
      rw [if_neg (by simp)]
      simp only [Int.toNat_natCast]
      exact val_dec s.length s (Nat.le_refl _) (fun e => h1 (.inl e)) h2 (fun e => Classical.byContradiction fun e2 => h1 (.inr (.inr ⟨e, e2⟩)))
    · rw [if_neg h2] at h; cases h
theorem numE_dec {n : Nat} (h : n ≤ 1099511627776) : numE (decDigits n) = ((n : Int), true) := by
  obtain ⟨h1, h2, h3, h4⟩ := decDigits_spec n n (Nat.le_refl _)
  have hl := h4 12 (by omega)
  unfold numE
  rw [if_neg ?_, if_pos h2, h1]
  · simp [h]
  · rintro (e | e | ⟨e, e2⟩)
    · exact decDigits_ne _ e
    · omega
    · rcases Nat.eq_zero_or_pos n with h0 | h0
      · subst h0; exact e2 (by rw [decDigits_small (by omega)]; rfl)
      · exact h3 h0 e
theorem cutC_join {c : UInt8} {s a b : List UInt8} (h : cutC c s = some (a, b)) : s = a ++ c :: b := (cutC_some h).1
theorem words1 {c : UInt8} {n : Nat} {s p : List UInt8} (h : wordsC c n s = [p]) : s = p := by
  cases n with
  | zero => simpa [wordsC] using h
  | succ n =>
    unfold wordsC at h
    cases e : cutC c s with
    | none => rw [e] at h; simpa using h
    | some x =>
      obtain ⟨a, b⟩ := x
      rw [e] at h
      have h : a :: wordsC c n b = [p] := h
      have hl := congrArg List.length h
      rw [List.length_cons, wordsC_len] at hl
      simp at hl
theorem words_cons {c : UInt8} {n : Nat} {s p q : List UInt8} {l : List (List UInt8)} (h : wordsC c n s = p :: q :: l) : ∃ b, s = p ++ c :: b ∧ wordsC c (n - 1) b = q :: l ∧ p.count c = 0 := by
  cases n with
  | zero => simp [wordsC] at h
  | succ n =>
    unfold wordsC at h
    cases e : cutC c s with
    | none => rw [e] at h; simp at h
    | some x =>
      obtain ⟨a, b⟩ := x
      rw [e] at h
      have h : a :: wordsC c n b = p :: q :: l := h
      simp only [List.cons.injEq] at h
      obtain ⟨rfl, h⟩ := h
      obtain ⟨h1, h2⟩ := cutC_some e
      exact ⟨b, h1, by simpa using h, h2⟩
/-- the words of choices -/
def choiceW (n : Int) : Option (List UInt8) := if n = 0 then some w_later else if n = 1 then some w_hub else if n = 2 then some w_spoke else if n = 3 then some w_merge else none
def Cmd.getN (c : Cmd) (i : Nat) : Int := if i = 0 then c.a else c.b
def outE : List UInt8 → Nat → Cmd → List UInt8 → Option (List UInt8)
  | [], _, _, acc => some acc
  | k :: ks, i, c, acc =>
    if k = 110 then outE ks (i + 1) c (acc ++ [32] ++ itoa (c.getN i))
    else if k = 112 then outE ks i c (acc ++ [32] ++ c.path)
    else if k = 99 then (match choiceW c.choice with
      | some w => outE ks i c (acc ++ [32] ++ w)
      | none => none)
    else outE ks i c (acc ++ [32] ++ c.data)
def Cmd.same (c d : Cmd) : Bool := decide (c.word = d.word) && (decide (c.a = d.a) && (decide (c.b = d.b) && (decide (c.path = d.path) && (decide (c.data = d.data) && decide (c.choice = d.choice)))))
theorem Cmd.same_iff {c d : Cmd} : c.same d = true ↔ c = d := by
  obtain ⟨a1, a2, a3, a4, a5, a6⟩ := c
  obtain ⟨b1, b2, b3, b4, b5, b6⟩ := d
  simp [Cmd.same]
/-- the line of a command, if it is read as it -/
def printE (c : Cmd) : List UInt8 × Int := match shapeE c.word with
  | none => ([], 1)
  | some form => match outE form 0 c c.word with
    | none => ([], 1)
    | some out => if (parseE out).2 = 0 ∧ (parseE out).1.same c = true then (out, 0) else ([], 1)
theorem print_parse {c : Cmd} {t : List UInt8} (h : printE c = (t, 0)) : parseE t = (c, 0) := by
  unfold printE at h
  split at h
  · simp at h
  · split at h
    · simp at h
    · split at h
      · rename_i out _ hh
        simp only [Prod.mk.injEq, and_true] at h
        subst h
        exact Prod.ext (Cmd.same_iff.1 hh.2) hh.1
      · simp at h
theorem print_no {c : Cmd} (h : (printE c).2 ≠ 0) : printE c = ([], 1) := by
  unfold printE at h ⊢
  split
  · rfl
  · split
    · rfl
    · split
      · rename_i h1 _ _ h2 h3
        rw [h1] at h; dsimp only at h; rw [h2] at h; dsimp only at h; rw [if_pos h3] at h; exact absurd rfl h
      · rfl
theorem choice_word {s : List UInt8} {n : Int} (h : choiceE s = some n) : choiceW n = some s := by
  unfold choiceE at h
  split at h
  · rename_i e; simp only [Option.some.injEq] at h; subst h; subst e; rfl
  · split at h
    · rename_i e; simp only [Option.some.injEq] at h; subst h; subst e; rfl
    · split at h
      · rename_i e; simp only [Option.some.injEq] at h; subst h; subst e; rfl
      · split at h
        · rename_i e; simp only [Option.some.injEq] at h; subst h; subst e; rfl
        · cases h
theorem shape_forms {w form : List UInt8} (h : shapeE w = some form) : form = [] ∨ form = [110] ∨ form = [110, 112, 99] ∨ form = [110, 112, 116] ∨ form = [110, 112] ∨ form = [110, 110, 112] ∨ form = [119, 110, 110] := by
  unfold shapeE at h
  repeat' split at h
  all_goals simp only [Option.some.injEq, reduceCtorEq] at h
  all_goals subst h; simp
theorem print_of {d : Cmd} {line form : List UInt8} (hs : shapeE d.word = some form) (ho : outE form 0 d d.word = some line) (hp : parseE line = (d, 0)) : printE d = (line, 0) := by
  unfold printE
  rw [hs]
  dsimp only
  rw [ho]
  dsimp only
  rw [if_pos ⟨by rw [hp], by rw [hp]; exact Cmd.same_iff.2 rfl⟩]
theorem len1 {α : Type} {l : List α} (h : l.length = 1) : ∃ a, l = [a] := by match l, h with | [a], _ => exact ⟨a, rfl⟩
theorem len2 {α : Type} {l : List α} (h : l.length = 2) : ∃ a b, l = [a, b] := by match l, h with | [a, b], _ => exact ⟨a, b, rfl⟩
theorem len3 {α : Type} {l : List α} (h : l.length = 3) : ∃ a b c, l = [a, b, c] := by match l, h with | [a, b, c], _ => exact ⟨a, b, c, rfl⟩
/-- what a line that is a command is made of -/
theorem parse_form {line : List UInt8} {d : Cmd} (h : parseE line = (d, 0)) : (shapeE line = some [] ∧ d = ⟨line, 0, 0, [], [], 0⟩) ∨
    ∃ w rest form n, cutC 32 line = some (w, rest) ∧ shapeE w = some form ∧ form ≠ [] ∧ (wordsC 32 n rest).length = form.length ∧ fillE form (wordsC 32 n rest) 0 ⟨w, 0, 0, [], [], 0⟩ = (d, 0) := by
  cases hc : cutC 32 line with
  | none =>
    have hl : lineW line = (line, [], false) := by unfold lineW; rw [hc]
    unfold parseE at h
    rw [hl] at h
    dsimp only at h
    split at h
    · simp at h
    · cases hs : shapeE line with
      | none => rw [hs] at h; simp at h
      | some form =>
        rw [hs] at h
        dsimp only at h
        by_cases h0 : form = []
        · subst h0
          rw [if_neg (by decide), if_pos rfl] at h
          simp only [Prod.mk.injEq, and_true] at h
          exact .inl ⟨rfl, h.symm⟩
        · rw [if_pos (by simp [h0])] at h; simp at h
  | some p =>
    obtain ⟨w, rest⟩ := p
    have hl : lineW line = (w, rest, true) := by unfold lineW; rw [hc]
    unfold parseE at h
    rw [hl] at h
    dsimp only at h
    split at h
    · simp at h
    · cases hs : shapeE w with
      | none => rw [hs] at h; simp at h
      | some form =>
        rw [hs] at h
        dsimp only at h
        by_cases h0 : form = []
        · rw [if_pos (by simp [h0])] at h; simp at h
        · rw [if_neg (by simp [h0]), if_neg h0] at h
          generalize (if form = [110, 112, 116] then 2 else rest.count 32) = n at h
          by_cases hn : (wordsC 32 n rest).length = form.length
          · rw [if_neg (fun hh => hh hn)] at h
            exact .inr ⟨w, rest, form, n, rfl, hs, h0, hn, h⟩
          · rw [if_pos hn] at h; simp at h
theorem fill_n {ks : List UInt8} {p : List UInt8} {ps : List (List UInt8)} {i : Nat} {c d : Cmd} (h : fillE (110 :: ks) (p :: ps) i c = (d, 0)) : (numE p).2 = true ∧ fillE ks ps (i + 1) (c.num i (numE p).1) = (d, 0) := by
  simp only [fillE, if_true] at h
  split at h
  · rename_i hn; exact ⟨hn, h⟩
  · simp at h
theorem fill_p {ks : List UInt8} {p : List UInt8} {ps : List (List UInt8)} {i : Nat} {c d : Cmd} (h : fillE (112 :: ks) (p :: ps) i c = (d, 0)) : checkE p 5 = 0 ∧ fillE ks ps i { c with path := p } = (d, 0) := by
  unfold fillE at h
  rw [if_neg (by decide), if_pos rfl] at h
  split at h
  · rename_i hn; exact ⟨hn, h⟩
  · simp at h
theorem fill_c {ks : List UInt8} {p : List UInt8} {ps : List (List UInt8)} {i : Nat} {c d : Cmd} (h : fillE (99 :: ks) (p :: ps) i c = (d, 0)) : ∃ n, choiceE p = some n ∧ fillE ks ps i { c with choice := n } = (d, 0) := by
  unfold fillE at h
  rw [if_neg (by decide), if_neg (by decide), if_pos rfl] at h
  split at h
  · rename_i n hn; exact ⟨n, hn, h⟩
  · simp at h
theorem fill_w {ks : List UInt8} {p : List UInt8} {ps : List (List UInt8)} {i : Nat} {c d : Cmd} (h : fillE (119 :: ks) (p :: ps) i c = (d, 0)) : settB p = true ∧ fillE ks ps i { c with data := p } = (d, 0) := by
  unfold fillE at h
  rw [if_neg (by decide), if_neg (by decide), if_neg (by decide), if_pos rfl] at h
  split at h
  · rename_i hn; exact ⟨hn, h⟩
  · simp at h
theorem fill_t {ks : List UInt8} {p : List UInt8} {ps : List (List UInt8)} {i : Nat} {c d : Cmd} (h : fillE (116 :: ks) (p :: ps) i c = (d, 0)) : fillE ks ps i { c with data := p, choice := 4 } = (d, 0) := by
  unfold fillE at h
  rw [if_neg (by decide), if_neg (by decide), if_neg (by decide), if_neg (by decide)] at h
  exact h
theorem fill_0 {i : Nat} {c d : Cmd} (h : fillE [] [] i c = (d, 0)) : c = d := by simpa [fillE] using h
theorem parse_print {line : List UInt8} {d : Cmd} (h : parseE line = (d, 0)) : printE d = (line, 0) := by
  rcases parse_form h with ⟨hs, rfl⟩ | ⟨w, rest, form, n, hc, hs, h0, hl, hf⟩
  · exact print_of hs rfl h
  · have hj := cutC_join hc
    rcases shape_forms hs with rfl | rfl | rfl | rfl | rfl | rfl | rfl
    · exact absurd rfl h0
    · obtain ⟨p0, hp⟩ := len1 hl
      rw [hp] at hf
      have hr := words1 hp
      obtain ⟨n0, hf⟩ := fill_n hf
      obtain rfl := fill_0 hf
      exact print_of (form := [110]) hs (by simp [outE, Cmd.num, Cmd.getN, (numE_val n0).1, hj, hr]) h
    · obtain ⟨p0, p1, p2, hp⟩ := len3 hl
      rw [hp] at hf
      obtain ⟨r1, e1, hp1, _⟩ := words_cons hp
      obtain ⟨r2, e2, hp2, _⟩ := words_cons hp1
      have hr := words1 hp2
      obtain ⟨n0, hf⟩ := fill_n hf
      obtain ⟨_, hf⟩ := fill_p hf
      obtain ⟨m, hm, hf⟩ := fill_c hf
      obtain rfl := fill_0 hf
      exact print_of (form := [110, 112, 99]) hs (by simp [outE, Cmd.num, Cmd.getN, (numE_val n0).1, choice_word hm, hj, e1, e2, hr]) h
    · obtain ⟨p0, p1, p2, hp⟩ := len3 hl
      rw [hp] at hf
      obtain ⟨r1, e1, hp1, _⟩ := words_cons hp
      obtain ⟨r2, e2, hp2, _⟩ := words_cons hp1
      have hr := words1 hp2
      obtain ⟨n0, hf⟩ := fill_n hf
      obtain ⟨_, hf⟩ := fill_p hf
      have hf := fill_t hf
      obtain rfl := fill_0 hf
      exact print_of (form := [110, 112, 116]) hs (by simp [outE, Cmd.num, Cmd.getN, (numE_val n0).1, hj, e1, e2, hr]) h
    · obtain ⟨p0, p1, hp⟩ := len2 hl
      rw [hp] at hf
      obtain ⟨r1, e1, hp1, _⟩ := words_cons hp
      have hr := words1 hp1
      obtain ⟨n0, hf⟩ := fill_n hf
      obtain ⟨_, hf⟩ := fill_p hf
      obtain rfl := fill_0 hf
      exact print_of (form := [110, 112]) hs (by simp [outE, Cmd.num, Cmd.getN, (numE_val n0).1, hj, e1, hr]) h
    · obtain ⟨p0, p1, p2, hp⟩ := len3 hl
      rw [hp] at hf
      obtain ⟨r1, e1, hp1, _⟩ := words_cons hp
      obtain ⟨r2, e2, hp2, _⟩ := words_cons hp1
      have hr := words1 hp2
      obtain ⟨n0, hf⟩ := fill_n hf
      obtain ⟨n1, hf⟩ := fill_n hf
      obtain ⟨_, hf⟩ := fill_p hf
      obtain rfl := fill_0 hf
      exact print_of (form := [110, 110, 112]) hs (by simp [outE, Cmd.num, Cmd.getN, (numE_val n0).1, (numE_val n1).1, hj, e1, e2, hr]) h
    · obtain ⟨p0, p1, p2, hp⟩ := len3 hl
      rw [hp] at hf
      obtain ⟨r1, e1, hp1, _⟩ := words_cons hp
      obtain ⟨r2, e2, hp2, _⟩ := words_cons hp1
      have hr := words1 hp2
      obtain ⟨_, hf⟩ := fill_w hf
      obtain ⟨n0, hf⟩ := fill_n hf
      obtain ⟨n1, hf⟩ := fill_n hf
      obtain rfl := fill_0 hf
      exact print_of (form := [119, 110, 110]) hs (by simp [outE, Cmd.num, Cmd.getN, (numE_val n0).1, (numE_val n1).1, hj, e1, e2, hr]) h
theorem parse_word {line : List UInt8} {d : Cmd} (h : parseE line = (d, 0)) : d.word ≠ [] := by
  intro e
  have h2 := print_parse (parse_print h)
  have h3 := parse_print h
  unfold printE at h3
  rw [e, show shapeE [] = none from by decide] at h3
  simp at h3
theorem fill_no : ∀ (ks : List UInt8) (ps : List (List UInt8)) (i : Nat) (c : Cmd), (fillE ks ps i c).2 ≠ 0 → (fillE ks ps i c).1 = Cmd0
  | [], ps, i, c => by cases ps <;> exact fun h => absurd rfl h
  | k :: ks, [], i, c => fun h => absurd rfl h
  | k :: ks, p :: ps, i, c => by
    unfold fillE
    repeat' split
    all_goals first
      | exact fun _ => rfl
      | exact fill_no _ _ _ _
theorem parse_no (line : List UInt8) : (parseE line).2 ≠ 0 → (parseE line).1 = Cmd0 := by
  unfold parseE
  repeat' split
  all_goals first
    | exact fun _ => rfl
    | exact fill_no _ _ _ _
    | exact fun h => absurd rfl h
/-- any text may be given at any path -/
theorem names_no32 {p : List UInt8} (h : checkE p 5 = 0) : p.count 32 = 0 := by
  have hall : (splitL p).all nameB = true := ((checkE_iff p 5).1 h).2
  rw [List.count_eq_zero]
  intro hm
  have := names_ge (p := p) [] hall 32 hm
  have h32 : (32 : UInt8).toNat = 32 := rfl
  omega
theorem fillF_n {ks : List UInt8} {p : List UInt8} {ps : List (List UInt8)} {i : Nat} {c : Cmd} (h : (numE p).2 = true) : fillE (110 :: ks) (p :: ps) i c = fillE ks ps (i + 1) (c.num i (numE p).1) := by
  show (if (110 : UInt8) = 110 then _ else _) = _
  rw [if_pos rfl, if_pos h]
theorem fillF_p {ks : List UInt8} {p : List UInt8} {ps : List (List UInt8)} {i : Nat} {c : Cmd} (h : checkE p 5 = 0) : fillE (112 :: ks) (p :: ps) i c = fillE ks ps i { c with path := p } := by
  show (if (112 : UInt8) = 110 then _ else if (112 : UInt8) = 112 then _ else _) = _
  rw [if_neg (by decide), if_pos rfl, if_pos h]
theorem fillF_t {ks : List UInt8} {p : List UInt8} {ps : List (List UInt8)} {i : Nat} {c : Cmd} : fillE (116 :: ks) (p :: ps) i c = fillE ks ps i { c with data := p, choice := 4 } := by
  show (if (116 : UInt8) = 110 then _ else if (116 : UInt8) = 112 then _ else if (116 : UInt8) = 99 then _ else if (116 : UInt8) = 119 then _ else _) = _
  rw [if_neg (by decide), if_neg (by decide), if_neg (by decide), if_neg (by decide)]
theorem parse_gives {p text : List UInt8} (h : checkE p 5 = 0) (hl : p.length + text.length + 8 ≤ 5000) :
    parseE ([103, 105, 118, 101, 32, 49, 32] ++ p ++ [32] ++ text) = (⟨w_give, 1, 0, p, text, 4⟩, 0) := by
  have hp := names_no32 h
  have hc : cutC 32 ([103, 105, 118, 101, 32, 49, 32] ++ p ++ [32] ++ text) = some (w_give, [49, 32] ++ p ++ [32] ++ text) := by
    have := cutC_app (c := 32) (a := w_give) (b := [49, 32] ++ p ++ [32] ++ text) (by decide)
    simpa using this
  have hw : wordsC 32 2 ([49, 32] ++ p ++ [32] ++ text) = [[49], p, text] := by
    have h1 := cutC_app (c := 32) (a := [49]) (b := p ++ [32] ++ text) (by decide)
    have h2 := cutC_app (c := 32) (a := p) (b := text) hp
    have e1 : [49, 32] ++ p ++ [32] ++ text = [49] ++ 32 :: (p ++ [32] ++ text) := by simp
    have e2 : p ++ [32] ++ text = p ++ 32 :: text := by simp
    rw [e1]
    simp only [wordsC]
    rw [h1, e2]
    dsimp only
    rw [h2]
  have hlw : lineW ([103, 105, 118, 101, 32, 49, 32] ++ p ++ [32] ++ text) = (w_give, [49, 32] ++ p ++ [32] ++ text, true) := by unfold lineW; rw [hc]
  unfold parseE
  rw [if_neg (by simp; omega), hlw]
  dsimp only
  rw [show shapeE w_give = some [110, 112, 116] from by decide]
  dsimp only
  rw [if_neg (by decide), if_neg (by decide), if_pos rfl, hw, if_neg (show ¬ ([[49], p, text] : List (List UInt8)).length ≠ ([110, 112, 116] : List UInt8).length from fun h => h rfl), fillF_n (by decide), fillF_p h, fillF_t]
  rfl
theorem parse_long {line : List UInt8} (h : 5000 < line.length) : parseE line = (Cmd0, 4) := by unfold parseE; rw [if_pos h]
end Go.J
