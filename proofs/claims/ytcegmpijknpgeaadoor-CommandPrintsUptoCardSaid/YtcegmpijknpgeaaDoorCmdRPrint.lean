/- What is proved: what the reference's Print answers: the line of a command, as the program's. Conditions: texts of bounded length, numbers that an int holds. -/
import Derived.Test.YtcegmpijknpgeaaDoorCmdBack
import Derived.Test.YtcegmpijknpgeaaDoorCmdRParse
set_option linter.unusedSimpArgs false
set_option linter.unusedVariables false
namespace Go.Proofs.YtcegmpijknpgeaaDoor
open Go Go.J Go.RowKit

def Rng (n : Int) : Prop := 0 ≤ n ∧ n ≤ 1099511627776
theorem numE_rng (s : List UInt8) (h : (numE s).2 = true) : Rng (numE s).1 := by
  unfold numE at *
  split at h
  · cases h
  · split at h
    · rename_i h1 h2
      rw [if_neg h1, if_pos h2]
      have := of_decide_eq_true h
      unfold Rng
      dsimp only
      omega
    · cases h
theorem fillE_rng : ∀ (ks : List UInt8) (ps : List (List UInt8)) (i : Nat) (c : Cmd), Rng c.a ∧ Rng c.b → (fillE ks ps i c).2 = 0 → Rng (fillE ks ps i c).1.a ∧ Rng (fillE ks ps i c).1.b
  | [], ps, i, c, hc, h => by unfold fillE; exact hc
  | k :: ks, [], i, c, hc, h => by unfold fillE; exact hc
  | k :: ks, p :: ps, i, c, hc, h => by
    unfold fillE at h ⊢
    split
    · rename_i h1
      rw [if_pos h1] at h
      split
      · rename_i h2
        rw [if_pos h2] at h
        have hn := numE_rng p h2
        refine fillE_rng ks ps _ _ ?_ h
        unfold Cmd.num
        split
        · exact ⟨hn, hc.2⟩
        · exact ⟨hc.1, hn⟩
      · rename_i h2
        rw [if_neg h2] at h
        cases h
    · rename_i h1
      rw [if_neg h1] at h
      split
      · rename_i h2
        rw [if_pos h2] at h
        split
        · rename_i h3
          rw [if_pos h3] at h
          exact fillE_rng ks ps _ _ hc h
        · rename_i h3
          rw [if_neg h3] at h
          cases h
      · rename_i h2
        rw [if_neg h2] at h
        split
        · rename_i h3
          rw [if_pos h3] at h
          cases hch : choiceE p with
          | none => rw [hch] at h; cases h
          | some m => rw [hch] at h; exact fillE_rng ks ps _ _ hc h
        · rename_i h3
          rw [if_neg h3] at h
          split
          · rename_i h4
            rw [if_pos h4] at h
            split
            · rename_i h5
              rw [if_pos h5] at h
              exact fillE_rng ks ps _ _ hc h
            · rename_i h5
              rw [if_neg h5] at h
              cases h
          · rename_i h4
            rw [if_neg h4] at h
            exact fillE_rng ks ps _ _ hc h
theorem parse_rng {line : List UInt8} {d : Cmd} (h : parseE line = (d, 0)) : Rng d.a ∧ Rng d.b := by
  have z : Rng 0 := ⟨by decide, by decide⟩
  rcases parse_form h with ⟨_, rfl⟩ | ⟨w, rest, form, n, _, _, _, _, h2⟩
  · exact ⟨z, z⟩
  · have := fillE_rng form (wordsC 32 n rest) 0 ⟨w, 0, 0, [], [], 0⟩ ⟨z, z⟩ (by rw [h2])
    rw [h2] at this
    exact this
theorem print_rng {c : Cmd} (h : ¬ (Rng c.a ∧ Rng c.b)) : printE c = ([], 1) :=
  print_no fun e => h (parse_rng (print_parse (Prod.ext rfl e : printE c = ((printE c).1, 0))))
theorem print_out {c : Cmd} {t : List UInt8} (h : printE c = (t, 0)) : ∃ form, shapeE c.word = some form ∧ outE form 0 c c.word = some t := by
  unfold printE at h
  cases hs : shapeE c.word with
  | none => rw [hs] at h; cases h
  | some form =>
    rw [hs] at h
    dsimp only at h
    cases ho : outE form 0 c c.word with
    | none => rw [ho] at h; cases h
    | some out =>
      rw [ho] at h
      dsimp only at h
      split at h
      · simp only [Prod.mk.injEq, and_true] at h; exact ⟨form, rfl, by rw [ho, h]⟩
      · cases h
theorem print_tail {c : Cmd} {s : List UInt8} (hs : ∀ form t, shapeE c.word = some form → outE form 0 c c.word = some t → t = s) : printE c = if (parseE s).2 = 0 ∧ (parseE s).1.same c = true then (s, 0) else ([], 1) := by
  by_cases h : (parseE s).2 = 0 ∧ (parseE s).1.same c = true
  · rw [if_pos h]
    exact parse_print (Prod.ext (Cmd.same_iff.1 h.2) h.1)
  · rw [if_neg h]
    refine print_no fun e => h ?_
    have h1 : printE c = ((printE c).1, 0) := Prod.ext rfl e
    obtain ⟨form, h2, h3⟩ := print_out h1
    have h4 := hs form _ h2 h3
    rw [h4] at h1
    have h5 := print_parse h1
    rw [h5]
    exact ⟨rfl, Cmd.same_iff.2 rfl⟩
theorem itoa_nat (n : Nat) : Lib.itoa (n : Int) = Lib.decDigits n := by
  unfold Lib.itoa
  rw [if_neg (by omega)]
  rfl
theorem getN0 (c : Cmd) : c.getN 0 = c.a := rfl
theorem getN1 (c : Cmd) (i : Nat) : c.getN (i + 1) = c.b := rfl
set_option maxHeartbeats 32000000 in
set_option maxRecDepth 100000 in
theorem rprint_c (c : Cmd) (w0 : World) (hw : c.word.length ≤ 1048576) (hp : c.path.length ≤ 1048576) (hd : c.data.length ≤ 1048576) (ha : -9223372036854775808 ≤ c.a ∧ c.a ≤ 9223372036854775807) (hb : -9223372036854775808 ≤ c.b ∧ c.b ≤ 9223372036854775807) :
    Cal Tryd.prog 14 [.agg ⟨cmdV c⟩] w0 (fun v w' => Upd [] w0 w' ∧ v = .tuple #[str (printE c).1, .int .i64 (printE c).2]) := by
  refine Cal.mk' (by kernel_rfl) Tryd.func14 rfl rfl fun hS => ?_
  by_cases hr : Rng c.a ∧ Rng c.b
  rotate_left
  · rw [print_rng hr]
    unfold Rng at hr
    rcases Int.lt_or_le c.a 0 with h1 | h1
    · clear hr
      repeat' (first
        | (show WL _ _ _ _ _ _ _; first
          | refine WL.pure rfl rfl rfl rfl ?_
          | refine WL.nil ?_
          | refine WL.load hS rfl rfl (LdOk.box (by repeat (first | exact List.Mem.head _ | apply List.Mem.tail)) rfl) rfl rfl rfl ?_
          | (refine WL.box hS rfl rfl rfl rfl rfl ?_; intro w b hS)
          | refine WL.skip rfl rfl rfl ?_
          | ((fail_if_success (refine WL.wanted rfl ?_)); refine WL.guard rfl rfl rfl (fun h => ?_) (fun h => ?_) <;> (try simp only [Classical.not_not, Bool.not_eq_true', Bool.not_eq_false', Bool.not_eq_eq_eq_not, Bool.not_true, Bool.not_false, beq_iff_eq, beq_eq_false_iff_ne, ne_eq, decide_eq_decide, decide_eq_true_eq, decide_eq_false_iff_not, Bool.and_eq_true, Bool.or_eq_true, Bool.and_eq_false_iff, Bool.or_eq_false_iff] at h) <;> (try (exfalso; first | omega | contradiction))))
        | (show WC _ _ _ _ _ _; first
          | refine WC.seq ?_
          | refine WC.region ?_
          | refine WC.ret ?_
          | refine WC.condT rfl (by with_reducible rfl) ?_)
        | refine seqQ_n ?_
        | refine seqQ_r ?_)
      exact fin2r rfl rfl rfl ⟨hS.upd, rfl⟩
    · rcases Int.lt_or_le c.b 0 with h2 | h2
      · clear hr
        repeat' (first
          | (show WL _ _ _ _ _ _ _; first
            | refine WL.pure rfl rfl rfl rfl ?_
            | refine WL.nil ?_
            | refine WL.load hS rfl rfl (LdOk.box (by repeat (first | exact List.Mem.head _ | apply List.Mem.tail)) rfl) rfl rfl rfl ?_
            | (refine WL.box hS rfl rfl rfl rfl rfl ?_; intro w b hS)
            | refine WL.skip rfl rfl rfl ?_
            | ((fail_if_success (refine WL.wanted rfl ?_)); refine WL.guard rfl rfl rfl (fun h => ?_) (fun h => ?_) <;> (try simp only [Classical.not_not, Bool.not_eq_true', Bool.not_eq_false', Bool.not_eq_eq_eq_not, Bool.not_true, Bool.not_false, beq_iff_eq, beq_eq_false_iff_ne, ne_eq, decide_eq_decide, decide_eq_true_eq, decide_eq_false_iff_not, Bool.and_eq_true, Bool.or_eq_true, Bool.and_eq_false_iff, Bool.or_eq_false_iff] at h) <;> (try (exfalso; first | omega | contradiction))))
          | (show WC _ _ _ _ _ _; first
            | refine WC.seq ?_
            | refine WC.region ?_
            | refine WC.ret ?_
            | refine WC.condT rfl (by with_reducible rfl) ?_)
          | refine seqQ_n ?_
          | refine seqQ_r ?_)
        exact fin2r rfl rfl rfl ⟨hS.upd, rfl⟩
      · rcases Int.lt_or_le 1099511627776 c.a with h3 | h3
        · clear hr
          repeat' (first
            | (show WL _ _ _ _ _ _ _; first
              | refine WL.pure rfl rfl rfl rfl ?_
              | refine WL.nil ?_
              | refine WL.load hS rfl rfl (LdOk.box (by repeat (first | exact List.Mem.head _ | apply List.Mem.tail)) rfl) rfl rfl rfl ?_
              | (refine WL.box hS rfl rfl rfl rfl rfl ?_; intro w b hS)
              | refine WL.skip rfl rfl rfl ?_
              | ((fail_if_success (refine WL.wanted rfl ?_)); refine WL.guard rfl rfl rfl (fun h => ?_) (fun h => ?_) <;> (try simp only [Classical.not_not, Bool.not_eq_true', Bool.not_eq_false', Bool.not_eq_eq_eq_not, Bool.not_true, Bool.not_false, beq_iff_eq, beq_eq_false_iff_ne, ne_eq, decide_eq_decide, decide_eq_true_eq, decide_eq_false_iff_not, Bool.and_eq_true, Bool.or_eq_true, Bool.and_eq_false_iff, Bool.or_eq_false_iff] at h) <;> (try (exfalso; first | omega | contradiction))))
            | (show WC _ _ _ _ _ _; first
              | refine WC.seq ?_
              | refine WC.region ?_
              | refine WC.ret ?_
              | refine WC.condT rfl (by with_reducible rfl) ?_)
            | refine seqQ_n ?_
            | refine seqQ_r ?_)
          exact fin2r rfl rfl rfl ⟨hS.upd, rfl⟩
        · have h4 : 1099511627776 < c.b := Int.lt_of_not_ge fun h => hr ⟨⟨h1, h3⟩, h2, h⟩
          clear hr
          repeat' (first
            | (show WL _ _ _ _ _ _ _; first
              | refine WL.pure rfl rfl rfl rfl ?_
              | refine WL.nil ?_
              | refine WL.load hS rfl rfl (LdOk.box (by repeat (first | exact List.Mem.head _ | apply List.Mem.tail)) rfl) rfl rfl rfl ?_
              | (refine WL.box hS rfl rfl rfl rfl rfl ?_; intro w b hS)
              | ((fail_if_success (refine WL.wanted rfl ?_)); refine WL.guard rfl rfl rfl (fun h => ?_) (fun h => ?_) <;> (try simp only [Classical.not_not, Bool.not_eq_true', Bool.not_eq_false', Bool.not_eq_eq_eq_not, Bool.not_true, Bool.not_false, beq_iff_eq, beq_eq_false_iff_ne, ne_eq, decide_eq_decide, decide_eq_true_eq, decide_eq_false_iff_not, Bool.and_eq_true, Bool.or_eq_true, Bool.and_eq_false_iff, Bool.or_eq_false_iff] at h) <;> (try (exfalso; first | omega | contradiction))))
            | (show WC _ _ _ _ _ _; first
              | refine WC.seq ?_
              | refine WC.region ?_
              | refine WC.ret ?_
              | refine WC.condT rfl (decide_eq_true (by first | with_reducible assumption | omega)) ?_)
            | refine seqQ_n ?_
            | refine seqQ_r ?_)
          exact fin2r rfl rfl rfl ⟨hS.upd, rfl⟩
  obtain ⟨⟨ha0, ha1⟩, hb0, hb1⟩ := hr
  obtain ⟨word, na, nz, path, data, choice⟩ := c
  dsimp only at hw hp hd ha hb ha0 ha1 hb0 hb1
  obtain ⟨na, rfl⟩ : ∃ n : Nat, na = (n : Int) := ⟨na.toNat, by omega⟩
  obtain ⟨nz, rfl⟩ : ∃ n : Nat, nz = (n : Int) := ⟨nz.toNat, by omega⟩
  have hda := fun w0 => decimal_c na na w0 (Nat.le_refl _) (by omega)
  have hdb := fun w0 => decimal_c nz nz w0 (Nat.le_refl _) (by omega)
  have hla : (Lib.decDigits na).length ≤ 13 := (decDigits_spec na na (Nat.le_refl _)).2.2.2 12 (by omega)
  have hlb : (Lib.decDigits nz).length ≤ 13 := (decDigits_spec nz nz (Nat.le_refl _)).2.2.2 12 (by omega)
  have hga := itoa_nat na
  have hgb := itoa_nat nz
  have hwd := fun w0 => words_c word w0
  generalize Lib.decDigits na = sa at *
  generalize Lib.decDigits nz = sb at *
  have htail := fun s h => @print_tail ⟨word, na, nz, path, data, choice⟩ s h
  generalize hPE : printE ⟨word, na, nz, path, data, choice⟩ = PE at htail ⊢
  dsimp only at htail
  have l1 : ([32] : List UInt8).length = 1 := rfl
  repeat' (first
    | (show WL _ _ _ _ _ _ _; first
      | refine WL.pure rfl rfl rfl rfl ?_
      | refine WL.nil ?_
      | refine WL.load hS rfl rfl (LdOk.box (by repeat (first | exact List.Mem.head _ | apply List.Mem.tail)) rfl) rfl rfl rfl ?_
      | (refine WL.box hS rfl rfl rfl rfl rfl ?_; intro w b hS)
      | ((fail_if_success (refine WL.wanted rfl ?_)); refine WL.guard rfl rfl rfl (fun h => ?_) (fun h => ?_) <;> (try simp only [Classical.not_not, Bool.not_eq_true', Bool.not_eq_false', Bool.not_eq_eq_eq_not, Bool.not_true, Bool.not_false, beq_iff_eq, beq_eq_false_iff_ne, ne_eq, decide_eq_decide, decide_eq_true_eq, decide_eq_false_iff_not, Bool.and_eq_true, Bool.or_eq_true, Bool.and_eq_false_iff, Bool.or_eq_false_iff] at h) <;> (try (exfalso; first | omega | contradiction))))
    | (show WC _ _ _ _ _ _; first
      | (show WC _ _ (Code.seq (Code.seq (Code.region 5 _ _) _) _) _ _ _; refine WC.cutS (σ := List UInt8) [1] (fun s => [(6, str s)]) (fun s w => PE = (if (parseE s).2 = 0 ∧ (parseE s).1.same ⟨word, na, nz, path, data, choice⟩ = true then (s, 0) else ([], 1)) ∧ s.length ≤ 8000000 ∧ St w0 [] w [.box b 23 (cmdV ⟨word, na, nz, path, data, choice⟩)] [⟨w0, Old w0⟩]) ?_ ?_)
      | refine WC.seq ?_
      | refine WC.region ?_
      | refine WC.skip ?_
      | (show WC _ _ (Code.region _ (List.toArray [_, _, _, _, _, _, _, _]) true) _ _ _; refine WC.drawS hS [0,1,3,4,6,7] [0,1,3,4,2,5,6,7] (by kernel_rfl) (by kernel_rfl) ?_; clear hS; intro w hS hM)
      | refine WC.condF rfl (by first | (simp; done) | (simp; omega)) ?_)
    | (show WD _ _ _ _ _ _ _ _ _; first
      | refine WD.pure rfl rfl rfl rfl rfl ?_
      | refine WD.nil ?_
      | refine WD.load rfl rfl (LdOk.box (by repeat (first | exact List.Mem.head _ | apply List.Mem.tail)) rfl) rfl rfl rfl rfl ?_
      | (refine WD.calls hS hM rfl rfl (hda _) rfl rfl rfl rfl rfl ?_; clear hS; rintro v w rfl hS)
      | (refine WD.calls hS hM rfl rfl (hdb _) rfl rfl rfl rfl rfl ?_; clear hS; rintro v w rfl hS))
    | refine seqQ_n ?_)
  -- behind the switch: the line is read again
  rotate_left
  · rintro s g w ⟨hPE2, hsl, hS⟩
    rw [hPE2]
    have hpar := fun w0 => rparse_c s w0 (by omega)
    unfold parseV at hpar
    clear hPE2 hPE htail hda hdb hwd
    generalize (parseE s).1 = d at *
    generalize (parseE s).2 = e at *
    by_cases he : e = 0
    · subst he
      by_cases hdc : d.same ⟨word, na, nz, path, data, choice⟩ = true
      · rw [if_pos ⟨rfl, hdc⟩]
        obtain rfl := Cmd.same_iff.1 hdc
        repeat' (first
          | (show WL _ _ _ _ _ _ _; first
            | (refine WL.alloc (t := 23) hS rfl rfl rfl rfl rfl rfl ?_; intro w xb hS)
            | refine WL.pure rfl rfl rfl rfl ?_
            | refine WL.nil ?_
            | refine WL.load hS rfl rfl (LdOk.box (by repeat (first | exact List.Mem.head _ | apply List.Mem.tail)) rfl) rfl rfl rfl ?_
            | (refine WL.calls hS rfl rfl (hpar _) rfl rfl rfl ?_; rintro v w rfl hS)
            | (refine WL.store hS rfl rfl rfl (by repeat (first | exact StB.here rfl | apply StB.there)) rfl rfl rfl ?_; intro w hS)
            | refine WL.neS rfl rfl rfl rfl (by kernel_rfl) rfl rfl rfl ?_)
          | (show WC _ _ _ _ _ _; first
            | refine WC.seq ?_
            | refine WC.region ?_
            | refine WC.skip ?_
            | refine WC.ret ?_
            | refine WC.condF rfl (by first | (simp; done) | (simp; omega)) ?_)
          | refine seqQ_n ?_)
        all_goals first
          | exact fin2r rfl rfl rfl ⟨hS.upd, rfl⟩
          | (exfalso; simp at h; done)
      · rw [if_neg (fun h => hdc h.2)]
        obtain ⟨d1, d2, d3, d4, d5, d6⟩ := d
        repeat' (first
          | (show WL _ _ _ _ _ _ _; first
            | (refine WL.alloc (t := 23) hS rfl rfl rfl rfl rfl rfl ?_; intro w xb hS)
            | refine WL.pure rfl rfl rfl rfl ?_
            | refine WL.nil ?_
            | refine WL.load hS rfl rfl (LdOk.box (by repeat (first | exact List.Mem.head _ | apply List.Mem.tail)) rfl) rfl rfl rfl ?_
            | (refine WL.calls hS rfl rfl (hpar _) rfl rfl rfl ?_; rintro v w rfl hS)
            | (refine WL.store hS rfl rfl rfl (by repeat (first | exact StB.here rfl | apply StB.there)) rfl rfl rfl ?_; intro w hS)
            | refine WL.neS rfl rfl rfl rfl (by kernel_rfl) rfl rfl rfl ?_)
          | (show WC _ _ _ _ _ _; first
            | refine WC.seq ?_
            | refine WC.region ?_
            | refine WC.skip ?_
            | refine WC.ret ?_
            | (refine WC.cond rfl (fun h => ?_) (fun h => ?_) <;> (try simp only [Classical.not_not, Bool.not_eq_true', Bool.not_eq_false', Bool.not_eq_eq_eq_not, Bool.not_true, Bool.not_false, beq_iff_eq, beq_eq_false_iff_ne, ne_eq, decide_eq_decide, decide_eq_true_eq, decide_eq_false_iff_not, Bool.and_eq_true, Bool.or_eq_true, Bool.and_eq_false_iff, Bool.or_eq_false_iff] at h) <;> (try (exfalso; first | omega | contradiction))))
          | refine seqQ_n ?_
          | refine seqQ_r ?_)
        all_goals first
          | exact fin2r rfl rfl rfl ⟨hS.upd, rfl⟩
          | (exfalso; exact hdc (by simpa [Cmd.same] using h))
          | (exfalso; apply hdc; simp [Cmd.same]; simp_all)
    · rw [if_neg (fun h => he h.1)]
      repeat' (first
        | (show WL _ _ _ _ _ _ _; first
          | (refine WL.alloc (t := 23) hS rfl rfl rfl rfl rfl rfl ?_; intro w xb hS)
          | refine WL.pure rfl rfl rfl rfl ?_
          | refine WL.nil ?_
          | (refine WL.calls hS rfl rfl (hpar _) rfl rfl rfl ?_; rintro v w rfl hS)
          | (refine WL.store hS rfl rfl rfl (by repeat (first | exact StB.here rfl | apply StB.there)) rfl rfl rfl ?_; intro w hS)
          | refine WL.skip rfl rfl rfl ?_
          | ((fail_if_success (refine WL.wanted rfl ?_)); refine WL.guard rfl rfl rfl (fun h => ?_) (fun h => ?_) <;> (try simp only [Classical.not_not, Bool.not_eq_true', Bool.not_eq_false', Bool.not_eq_eq_eq_not, Bool.not_true, Bool.not_false, beq_iff_eq, beq_eq_false_iff_ne, ne_eq, decide_eq_decide, decide_eq_true_eq, decide_eq_false_iff_not, Bool.and_eq_true, Bool.or_eq_true, Bool.and_eq_false_iff, Bool.or_eq_false_iff] at h) <;> (try (exfalso; first | omega | contradiction))))
        | (show WC _ _ _ _ _ _; first
          | refine WC.seq ?_
          | refine WC.region ?_
          | refine WC.ret ?_
          | refine WC.condT rfl (by with_reducible rfl) ?_)
        | refine seqQ_n ?_
        | refine seqQ_r ?_)
      exact fin2r rfl rfl rfl ⟨hS.upd, rfl⟩
  unfold wordsN at hwd
  clear hda hdb
  rcases hs : shapeE word with _ | form
  · rw [hs] at hwd htail
    have hwd : ∀ w0, Cal Tryd.prog 22 [str word] w0 (fun v w' => Upd [] w0 w' ∧ v = .int .i64 (-1)) := hwd
    have htl := htail word (fun form t h => by cases h)
    clear htail hPE
    repeat' (first
      | (show WL _ _ _ _ _ _ _; first
        | refine WL.pure rfl rfl rfl rfl ?_
        | refine WL.nil ?_
        | (refine WL.calls hS rfl rfl (hwd _) rfl rfl rfl ?_; rintro v w rfl hS))
      | (show WC _ _ _ _ _ _; first
        | refine WC.seq ?_
        | refine WC.region ?_
        | refine WC.block ?_
        | refine WC.skip ?_
        | refine WC.condF rfl (by decide) ?_)
      | refine seqQ_n ?_
      | refine blkQ_n ?_)
    exact endQ_n word ⟨htl, (by first | omega | (simp only [List.length_append, List.length_cons, List.length_nil]; omega)), hS⟩ ⟨rfl, trivial⟩ ⟨rfl, trivial⟩
  rw [hs] at hwd htail
  have hwd : ∀ w0, Cal Tryd.prog 22 [str word] w0 (fun v w' => Upd [] w0 w' ∧ v = .int .i64 (form.length : Int)) := hwd
  have hga0 : ∀ x y z u v, Lib.itoa (Cmd.getN ⟨x, na, y, z, u, v⟩ 0) = sa := fun x y z u v => hga
  have hgb1 : ∀ i x y z u v, Lib.itoa (Cmd.getN ⟨x, y, nz, z, u, v⟩ (i + 1)) = sb := fun i x y z u v => hgb
  rcases shapeE_forms hs with rfl | rfl | rfl | rfl | rfl | rfl | rfl
  · -- nothing
    have hwd : ∀ w0, Cal Tryd.prog 22 [str word] w0 (fun v w' => Upd [] w0 w' ∧ v = .int .i64 0) := hwd
    have htl := htail word (fun form t h1 h2 => by cases h1; exact (Option.some.inj h2).symm)
    clear htail hPE hs
    repeat' (first
      | (show WL _ _ _ _ _ _ _; first
        | refine WL.pure rfl rfl rfl rfl ?_
        | refine WL.nil ?_
        | (refine WL.calls hS rfl rfl (hwd _) rfl rfl rfl ?_; rintro v w rfl hS))
      | (show WC _ _ _ _ _ _; first
        | refine WC.seq ?_
        | refine WC.region ?_
        | refine WC.block ?_
        | refine WC.skip ?_
        | refine WC.condF rfl (by decide) ?_)
      | refine seqQ_n ?_
      | refine blkQ_n ?_)
    exact endQ_n word ⟨htl, (by first | omega | (simp only [List.length_append, List.length_cons, List.length_nil]; omega)), hS⟩ ⟨rfl, trivial⟩ ⟨rfl, trivial⟩
  · -- a number
    have hwd : ∀ w0, Cal Tryd.prog 22 [str word] w0 (fun v w' => Upd [] w0 w' ∧ v = .int .i64 1) := hwd
    have htl := htail (word ++ [32] ++ sa) (fun form t h1 h2 => by cases h1; rw [out_n, hga0] at h2; exact (Option.some.inj h2).symm)
    clear htail hPE hs
    repeat' (first
      | (show WL _ _ _ _ _ _ _; first
        | refine WL.pure rfl rfl rfl rfl ?_
        | refine WL.nil ?_
        | (refine WL.calls hS rfl rfl (hwd _) rfl rfl rfl ?_; rintro v w rfl hS)
        | (refine WL.cat rfl rfl rfl (by simp only [List.length_append, List.length_cons, List.length_nil]; omega) rfl rfl rfl ?_))
      | (show WC _ _ _ _ _ _; first
        | refine WC.seq ?_
        | refine WC.region ?_
        | refine WC.block ?_
        | refine WC.condT rfl (by decide) ?_)
      | refine seqQ_n ?_
      | refine blkQ_n ?_)
    exact endQ_n _ ⟨htl, (by first | omega | (simp only [List.length_append, List.length_cons, List.length_nil]; omega)), hS⟩ ⟨rfl, trivial⟩ ⟨rfl, trivial⟩
  · -- a choice
    obtain rfl := shapeE_c hs
    have hwd : ∀ w0, Cal Tryd.prog 22 [str w_choose] w0 (fun v w' => Upd [] w0 w' ∧ v = .int .i64 3) := hwd
    have hs0 := hs
    clear hs
    rcases choiceW_or choice with ⟨hc, hlo | ⟨hlo, hhi⟩⟩ | ⟨j, hj, hcj, cw, hc, hcl, hpt⟩
    · have hPE : ([], 1) = PE := by
        rw [← hPE]; unfold printE
        dsimp only
        rw [hs0]
        dsimp only
        rw [out_n, out_p, out_c, hc]
      clear htail
      subst hPE
      repeat' (first
        | (show WL _ _ _ _ _ _ _; first
          | refine WL.pure rfl rfl rfl rfl ?_
          | refine WL.nil ?_
          | refine WL.load hS rfl rfl (LdOk.box (by repeat (first | exact List.Mem.head _ | apply List.Mem.tail)) rfl) rfl rfl rfl ?_
          | (refine WL.calls hS rfl rfl (hwd _) rfl rfl rfl ?_; rintro v w rfl hS)
          | refine WL.skip rfl rfl rfl ?_
          | ((fail_if_success (refine WL.wanted rfl ?_)); refine WL.guard rfl rfl rfl (fun h => ?_) (fun h => ?_) <;> (try simp only [Classical.not_not, Bool.not_eq_true', Bool.not_eq_false', Bool.not_eq_eq_eq_not, Bool.not_true, Bool.not_false, beq_iff_eq, beq_eq_false_iff_ne, ne_eq, decide_eq_decide, decide_eq_true_eq, decide_eq_false_iff_not, Bool.and_eq_true, Bool.or_eq_true, Bool.and_eq_false_iff, Bool.or_eq_false_iff] at h) <;> (try (exfalso; first | omega | contradiction))))
        | (show WC _ _ _ _ _ _; first
          | refine WC.seq ?_
          | refine WC.region ?_
          | refine WC.block ?_
          | refine WC.ret ?_
          | refine WC.condT rfl (by with_reducible rfl) ?_
          | refine WC.condT rfl (by decide) ?_
          | refine WC.condF rfl (by decide) ?_
          | refine WC.condF rfl (by first | (simp; done) | (simp; omega)) ?_)
        | refine seqQ_n ?_
        | refine seqQ_r ?_
        | refine blkQ_r ?_
        | refine endQ_r ?_)
      exact fin2r rfl rfl rfl ⟨hS.upd, rfl⟩
    · have hPE : ([], 1) = PE := by
        rw [← hPE]; unfold printE
        dsimp only
        rw [hs0]
        dsimp only
        rw [out_n, out_p, out_c, hc]
      clear htail
      subst hPE
      have hhi : 3 < choice := by omega
      repeat' (first
        | (show WL _ _ _ _ _ _ _; first
          | refine WL.pure rfl rfl rfl rfl ?_
          | refine WL.nil ?_
          | refine WL.load hS rfl rfl (LdOk.box (by repeat (first | exact List.Mem.head _ | apply List.Mem.tail)) rfl) rfl rfl rfl ?_
          | (refine WL.calls hS rfl rfl (hwd _) rfl rfl rfl ?_; rintro v w rfl hS)
          | ((fail_if_success (refine WL.wanted rfl ?_)); refine WL.guard rfl rfl rfl (fun h => ?_) (fun h => ?_) <;> (try simp only [Classical.not_not, Bool.not_eq_true', Bool.not_eq_false', Bool.not_eq_eq_eq_not, Bool.not_true, Bool.not_false, beq_iff_eq, beq_eq_false_iff_ne, ne_eq, decide_eq_decide, decide_eq_true_eq, decide_eq_false_iff_not, Bool.and_eq_true, Bool.or_eq_true, Bool.and_eq_false_iff, Bool.or_eq_false_iff] at h) <;> (try (exfalso; first | omega | contradiction))))
        | (show WC _ _ _ _ _ _; first
          | refine WC.seq ?_
          | refine WC.region ?_
          | refine WC.block ?_
          | refine WC.ret ?_
          | refine WC.condT rfl (by decide) ?_
          | refine WC.condF rfl (by decide) ?_
          | refine WC.condT rfl (decide_eq_true (by first | with_reducible assumption | omega)) ?_
          | refine WC.condF rfl (by first | (simp; done) | (simp; omega)) ?_)
        | refine seqQ_n ?_
        | refine seqQ_r ?_
        | refine blkQ_r ?_
        | refine endQ_r ?_)
      exact fin2r rfl rfl rfl ⟨hS.upd, rfl⟩
    · have htl := htail (w_choose ++ [32] ++ sa ++ [32] ++ path ++ [32] ++ cw) (fun form t h1 h2 => by cases h1; rw [out_n, out_p, out_c, hga0, hc] at h2; exact (Option.some.inj h2).symm)
      clear htail hPE hc
      have hlo : 0 ≤ choice := by rw [hcj]; exact Int.natCast_nonneg j
      have hhi : ¬ 3 < choice := by rw [hcj]; show ¬ (3 : Int) < (j : Int); omega
      have hcv : Value.int .i64 choice = .int .i64 (Int.ofNat j) := by rw [hcj]
      have hpt : ([str w_later, str w_hub, str w_spoke, str w_merge] : List Value)[0 + j * 1]? = some (str cw) := by
        rcases j with _ | _ | _ | _ | j
        · exact hpt
        · exact hpt
        · exact hpt
        · exact hpt
        · omega
      repeat' (first
        | (show WL _ _ _ _ _ _ _; first
          | refine WL.pure rfl rfl rfl rfl ?_
          | refine WL.nil ?_
          | refine WL.load hS rfl rfl (LdOk.box (by repeat (first | exact List.Mem.head _ | apply List.Mem.tail)) rfl) rfl rfl rfl ?_
          | (refine WL.calls hS rfl rfl (hwd _) rfl rfl rfl ?_; rintro v w rfl hS)
          | (refine WL.slit hS rfl rfl rfl rfl rfl ?_; intro w b hS)
          | ((fail_if_success (refine WL.wanted rfl ?_)); refine WL.guard rfl rfl rfl (fun h => ?_) (fun h => ?_) <;> (try simp only [Classical.not_not, Bool.not_eq_true', Bool.not_eq_false', Bool.not_eq_eq_eq_not, Bool.not_true, Bool.not_false, beq_iff_eq, beq_eq_false_iff_ne, ne_eq, decide_eq_decide, decide_eq_true_eq, decide_eq_false_iff_not, Bool.and_eq_true, Bool.or_eq_true, Bool.and_eq_false_iff, Bool.or_eq_false_iff] at h) <;> (try (exfalso; first | omega | contradiction))))
        | (show WC _ _ _ _ _ _; first
          | refine WC.seq ?_
          | refine WC.region ?_
          | refine WC.block ?_
          | refine WC.skip ?_
          | (show WC _ _ (Code.region _ (List.toArray [_, _, _, _, _, _, _, _, _, _, _, _, _, _, _, _]) true) _ _ _; refine WC.drawS hS [0, 1, 2, 3, 4, 5, 6, 7, 8, 9, 10, 11, 12, 13, 14, 15] [0, 1, 2, 3, 4, 5, 6, 7, 8, 9, 10, 11, 12, 13, 14, 15] (by kernel_rfl) (by kernel_rfl) ?_; clear hS; intro w hS hM)
          | refine WC.condT rfl (by decide) ?_
          | refine WC.condF rfl (by decide) ?_
          | refine WC.condF rfl (decide_eq_false (by first | with_reducible assumption | omega)) ?_
          | refine WC.condF rfl (by first | (simp; done) | (simp; omega)) ?_)
        | (show WD _ _ _ _ _ _ _ _ _; first
          | refine WD.pure rfl rfl rfl rfl rfl ?_
          | refine WD.nil ?_
          | refine WD.load rfl rfl (LdOk.box (by repeat (first | exact List.Mem.head _ | apply List.Mem.tail)) rfl) rfl rfl rfl rfl ?_
          | (refine WD.cat rfl rfl rfl (by simp only [List.length_append, List.length_cons, List.length_nil]; omega) rfl rfl rfl rfl ?_)
          | (refine WD.index (j := j) rfl rfl rfl hcv hj rfl rfl rfl rfl rfl ?_)
          | (refine WD.load rfl rfl (LdOk.boxAt (by repeat (first | exact List.Mem.head _ | apply List.Mem.tail)) rfl ⟨_, rfl⟩ hpt rfl) rfl rfl rfl rfl ?_))
        | refine seqQ_n ?_
        | refine blkQ_n ?_)
      exact endQ_n _ ⟨htl, (by first | omega | (simp only [List.length_append, List.length_cons, List.length_nil]; omega)), hS.drop⟩ ⟨rfl, trivial⟩ ⟨rfl, trivial⟩
  · -- a text
    obtain rfl := shapeE_t hs
    have hwd : ∀ w0, Cal Tryd.prog 22 [str w_give] w0 (fun v w' => Upd [] w0 w' ∧ v = .int .i64 3) := hwd
    have htl := htail (w_give ++ [32] ++ sa ++ [32] ++ path ++ [32] ++ data) (fun form t h1 h2 => by cases h1; rw [out_n, out_p, out_t, hga0] at h2; exact (Option.some.inj h2).symm)
    clear htail hPE hs
    repeat' (first
      | (show WL _ _ _ _ _ _ _; first
        | refine WL.pure rfl rfl rfl rfl ?_
        | refine WL.nil ?_
        | refine WL.load hS rfl rfl (LdOk.box (by repeat (first | exact List.Mem.head _ | apply List.Mem.tail)) rfl) rfl rfl rfl ?_
        | (refine WL.calls hS rfl rfl (hwd _) rfl rfl rfl ?_; rintro v w rfl hS)
        | (refine WL.cat rfl rfl rfl (by simp only [List.length_append, List.length_cons, List.length_nil]; omega) rfl rfl rfl ?_))
      | (show WC _ _ _ _ _ _; first
        | refine WC.seq ?_
        | refine WC.region ?_
        | refine WC.block ?_
        | refine WC.condT rfl (by decide) ?_
        | refine WC.condF rfl (by decide) ?_
        | refine WC.condT rfl (by first | (simp; done) | (simp; omega)) ?_
        | refine WC.condF rfl (by first | (simp; done) | (simp; omega)) ?_)
      | refine seqQ_n ?_
      | refine blkQ_n ?_)
    exact endQ_n _ ⟨htl, (by first | omega | (simp only [List.length_append, List.length_cons, List.length_nil]; omega)), hS⟩ ⟨rfl, trivial⟩ ⟨rfl, trivial⟩
  · -- a path
    have hwd : ∀ w0, Cal Tryd.prog 22 [str word] w0 (fun v w' => Upd [] w0 w' ∧ v = .int .i64 2) := hwd
    have htl := htail (word ++ [32] ++ sa ++ [32] ++ path) (fun form t h1 h2 => by cases h1; rw [out_n, out_p, hga0] at h2; exact (Option.some.inj h2).symm)
    clear htail hPE hs
    repeat' (first
      | (show WL _ _ _ _ _ _ _; first
        | refine WL.pure rfl rfl rfl rfl ?_
        | refine WL.nil ?_
        | refine WL.load hS rfl rfl (LdOk.box (by repeat (first | exact List.Mem.head _ | apply List.Mem.tail)) rfl) rfl rfl rfl ?_
        | (refine WL.calls hS rfl rfl (hwd _) rfl rfl rfl ?_; rintro v w rfl hS)
        | (refine WL.cat rfl rfl rfl (by simp only [List.length_append, List.length_cons, List.length_nil]; omega) rfl rfl rfl ?_))
      | (show WC _ _ _ _ _ _; first
        | refine WC.seq ?_
        | refine WC.region ?_
        | refine WC.block ?_
        | refine WC.condT rfl (by decide) ?_
        | refine WC.condF rfl (by decide) ?_)
      | refine seqQ_n ?_
      | refine blkQ_n ?_)
    exact endQ_n _ ⟨htl, (by first | omega | (simp only [List.length_append, List.length_cons, List.length_nil]; omega)), hS⟩ ⟨rfl, trivial⟩ ⟨rfl, trivial⟩
  · -- two numbers, a path
    obtain rfl := shapeE_nnp hs
    have hwd : ∀ w0, Cal Tryd.prog 22 [str w_get] w0 (fun v w' => Upd [] w0 w' ∧ v = .int .i64 3) := hwd
    have htl := htail (w_get ++ [32] ++ sa ++ [32] ++ sb ++ [32] ++ path) (fun form t h1 h2 => by cases h1; rw [out_n, out_n, out_p, hga0, hgb1] at h2; exact (Option.some.inj h2).symm)
    clear htail hPE hs
    repeat' (first
      | (show WL _ _ _ _ _ _ _; first
        | refine WL.pure rfl rfl rfl rfl ?_
        | refine WL.nil ?_
        | refine WL.load hS rfl rfl (LdOk.box (by repeat (first | exact List.Mem.head _ | apply List.Mem.tail)) rfl) rfl rfl rfl ?_
        | (refine WL.calls hS rfl rfl (hwd _) rfl rfl rfl ?_; rintro v w rfl hS)
        | (refine WL.cat rfl rfl rfl (by simp only [List.length_append, List.length_cons, List.length_nil]; omega) rfl rfl rfl ?_))
      | (show WC _ _ _ _ _ _; first
        | refine WC.seq ?_
        | refine WC.region ?_
        | refine WC.block ?_
        | refine WC.condT rfl (by decide) ?_
        | refine WC.condF rfl (by decide) ?_
        | refine WC.condT rfl (by first | (simp; done) | (simp; omega)) ?_
        | refine WC.condF rfl (by first | (simp; done) | (simp; omega)) ?_)
      | refine seqQ_n ?_
      | refine blkQ_n ?_)
    exact endQ_n _ ⟨htl, (by first | omega | (simp only [List.length_append, List.length_cons, List.length_nil]; omega)), hS⟩ ⟨rfl, trivial⟩ ⟨rfl, trivial⟩
  · -- what can be set
    obtain rfl := shapeE_wnn hs
    have hwd : ∀ w0, Cal Tryd.prog 22 [str w_set] w0 (fun v w' => Upd [] w0 w' ∧ v = .int .i64 3) := hwd
    have htl := htail (w_set ++ [32] ++ data ++ [32] ++ sa ++ [32] ++ sb) (fun form t h1 h2 => by cases h1; rw [out_w, out_n, out_n, hga0, hgb1] at h2; exact (Option.some.inj h2).symm)
    clear htail hPE hs
    repeat' (first
      | (show WL _ _ _ _ _ _ _; first
        | refine WL.pure rfl rfl rfl rfl ?_
        | refine WL.nil ?_
        | refine WL.load hS rfl rfl (LdOk.box (by repeat (first | exact List.Mem.head _ | apply List.Mem.tail)) rfl) rfl rfl rfl ?_
        | (refine WL.calls hS rfl rfl (hwd _) rfl rfl rfl ?_; rintro v w rfl hS)
        | (refine WL.cat rfl rfl rfl (by simp only [List.length_append, List.length_cons, List.length_nil]; omega) rfl rfl rfl ?_))
      | (show WC _ _ _ _ _ _; first
        | refine WC.seq ?_
        | refine WC.region ?_
        | refine WC.block ?_
        | refine WC.condT rfl (by decide) ?_
        | refine WC.condF rfl (by decide) ?_
        | refine WC.condT rfl (by first | (simp; done) | (simp; omega)) ?_)
      | refine seqQ_n ?_
      | refine blkQ_n ?_)
    exact endQ_n _ ⟨htl, (by first | omega | (simp only [List.length_append, List.length_cons, List.length_nil]; omega)), hS⟩ ⟨rfl, trivial⟩ ⟨rfl, trivial⟩
end Go.Proofs.YtcegmpijknpgeaaDoor
