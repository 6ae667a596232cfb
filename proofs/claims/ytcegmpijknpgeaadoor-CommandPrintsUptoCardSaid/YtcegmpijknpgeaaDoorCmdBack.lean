/- What is proved: the law CommandBack answers true, where the library's table of powers is laid. Conditions: texts of bounded length, numbers that an int holds. -/
import Derived.Test.YtcegmpijknpgeaaDoorCmdPrint
import Derived.Test.YtcegmpijknpgeaaDoorCmdGives
set_option linter.unusedSimpArgs false
set_option linter.unusedVariables false
namespace Go.Proofs.YtcegmpijknpgeaaDoor
open Go Go.J Go.RowKit

structure CmdSmall (c : Cmd) (n : Nat) : Prop where
  word : c.word.length ≤ n
  path : c.path.length ≤ n
  data : c.data.length ≤ n
  a : -9223372036854775808 ≤ c.a ∧ c.a ≤ 9223372036854775807
  b : -9223372036854775808 ≤ c.b ∧ c.b ≤ 9223372036854775807
theorem numE_in (s : List UInt8) (h : (numE s).2 = true) : -9223372036854775808 ≤ (numE s).1 ∧ (numE s).1 ≤ 9223372036854775807 := by
  unfold numE at *
  split at h
  · cases h
  · split at h
    · rename_i h1 h2
      rw [if_neg h1, if_pos h2]
      have := of_decide_eq_true h
      dsimp only
      omega
    · cases h
theorem fillE_small {n : Nat} : ∀ (ks : List UInt8) (ps : List (List UInt8)) (i : Nat) (c : Cmd), CmdSmall c n → (∀ p ∈ ps, p.length ≤ n) → (fillE ks ps i c).2 = 0 → CmdSmall (fillE ks ps i c).1 n
  | [], ps, i, c, hc, hp, h => by unfold fillE; exact hc
  | k :: ks, [], i, c, hc, hp, h => by unfold fillE; exact hc
  | k :: ks, p :: ps, i, c, hc, hp, h => by
    have hpp := hp p (by simp)
    have hps : ∀ q ∈ ps, q.length ≤ n := fun q hq => hp q (by simp [hq])
    unfold fillE at h ⊢
    split
    · rename_i h1
      rw [if_pos h1] at h
      split
      · rename_i h2
        rw [if_pos h2] at h
        have hn := numE_in p h2
        exact fillE_small ks ps _ _ (by unfold Cmd.num; split <;> exact ⟨hc.word, hc.path, hc.data, by first | exact hn | exact hc.a, by first | exact hn | exact hc.b⟩) hps h
      · rename_i h2
        rw [if_neg h2] at h
        cases h
    · rename_i h1
      rw [if_neg h1] at h
      split
      · rename_i h2
        rw [if_pos h2] at h
        split
        · rename_i h3
          rw [if_pos h3] at h
          exact fillE_small ks ps _ _ ⟨hc.word, hpp, hc.data, hc.a, hc.b⟩ hps h
        · rename_i h3
          rw [if_neg h3] at h
          cases h
      · rename_i h2
        rw [if_neg h2] at h
        split
        · rename_i h3
          rw [if_pos h3] at h
          cases hch : choiceE p with
          | none => rw [hch] at h; cases h
          | some m => rw [hch] at h; exact fillE_small ks ps _ _ ⟨hc.word, hc.path, hc.data, hc.a, hc.b⟩ hps h
        · rename_i h3
          rw [if_neg h3] at h
          split
          · rename_i h4
            rw [if_pos h4] at h
            split
            · rename_i h5
              rw [if_pos h5] at h
              exact fillE_small ks ps _ _ ⟨hc.word, hc.path, hpp, hc.a, hc.b⟩ hps h
            · rename_i h5
              rw [if_neg h5] at h
              cases h
          · rename_i h4
            rw [if_neg h4] at h
            exact fillE_small ks ps _ _ ⟨hc.word, hc.path, hpp, hc.a, hc.b⟩ hps h
theorem small0 {w : List UInt8} {n : Nat} (h : w.length ≤ n) : CmdSmall ⟨w, 0, 0, [], [], 0⟩ n := ⟨h, Nat.zero_le _, Nat.zero_le _, (show (-9223372036854775808 : Int) ≤ 0 ∧ (0 : Int) ≤ 9223372036854775807 from by decide), (show (-9223372036854775808 : Int) ≤ 0 ∧ (0 : Int) ≤ 9223372036854775807 from by decide)⟩
theorem parse_small {line : List UInt8} (h : (parseE line).2 = 0) : CmdSmall (parseE line).1 5000 ∧ line.length ≤ 5000 := by
  unfold parseE at h ⊢
  by_cases h5 : 5000 < line.length
  · rw [if_pos h5] at h; cases h
  rw [if_neg h5] at h ⊢
  obtain ⟨hwl, hrl⟩ := lineW_len line
  refine ⟨?_, by omega⟩
  have hw : CmdSmall ⟨(lineW line).1, 0, 0, [], [], 0⟩ 5000 := small0 (by omega)
  cases hs : shapeE (lineW line).1 with
  | none => rw [hs] at h; cases h
  | some form =>
    rw [hs] at h
    dsimp only at h ⊢
    by_cases h1 : (lineW line).2.2 ≠ decide (form ≠ [])
    · rw [if_pos h1] at h; cases h
    rw [if_neg h1] at h ⊢
    by_cases h2 : form = []
    · rw [if_pos h2]; exact hw
    rw [if_neg h2] at h ⊢
    generalize hK : (if form = [110, 112, 116] then 2 else (lineW line).2.1.count 32) = K at *
    by_cases h3 : (wordsC 32 K (lineW line).2.1).length ≠ form.length
    · rw [if_pos h3] at h; cases h
    rw [if_neg h3] at h ⊢
    exact fillE_small _ _ _ _ hw (fun p hp => by have := wordsC_max K _ p hp; omega) h
theorem printAt_c (c : Cmd) (r : List UInt8 × Int) (h : printE c = r) (hc : CmdSmall c 1048576) (w0 w : World) (ht : powT w0) (hu : Upd [] w0 w) : Cal Tryd.prog 13 [.agg ⟨cmdV c⟩] w (fun v w' => Upd [] w w' ∧ v = .tuple #[str r.1, .int .i64 r.2]) :=
  h ▸ print_c c w (tab_upd hu ht) hc.word hc.path hc.data hc.a hc.b
theorem CmdSmall.mono {c : Cmd} {n m : Nat} (h : CmdSmall c n) (hn : n ≤ m) : CmdSmall c m := ⟨Nat.le_trans h.word hn, Nat.le_trans h.path hn, Nat.le_trans h.data hn, h.a, h.b⟩
set_option maxHeartbeats 16000000 in
set_option maxRecDepth 100000 in
theorem commandBack_c (line : List UInt8) (c : Cmd) (w0 : World) (ht : powT w0) (hl : line.length ≤ 1048576) (hc : CmdSmall c 1048576) : Cal Tryd.prog 6 [str line, .agg ⟨cmdV c⟩] w0 (fun v w' => Upd [] w0 w' ∧ v = .bool true) := by
  refine Cal.mk' (by kernel_rfl) Tryd.func6 rfl rfl fun hS => ?_
  have hp := fun w0 => parse_c line w0 (by omega)
  unfold parseV at hp
  -- what is printed of c
  obtain ⟨t, g, hpc, hgt⟩ : ∃ t g, printE c = (t, g) ∧ (g = 0 ∧ t.length ≤ 5000 ∧ parseE t = (c, 0) ∨ ¬ g = 0 ∧ t = [] ∧ g = 1) := by
    by_cases h : (printE c).2 = 0
    · have h1 : printE c = ((printE c).1, 0) := Prod.ext rfl h
      have h2 := print_parse h1
      exact ⟨_, 0, h1, .inl ⟨rfl, (parse_small (by rw [h2])).2, h2⟩⟩
    · have h1 := print_no h
      exact ⟨_, _, h1, .inr ⟨by decide, rfl, rfl⟩⟩
  have hpr := fun w hu => printAt_c c _ hpc hc w0 w ht hu
  by_cases he : (parseE line).2 = 0
  · have h1 : parseE line = ((parseE line).1, 0) := Prod.ext rfl he
    have h2 := parse_print h1
    have h3 := parse_word h1
    have hsm := (parse_small he).1.mono (show 5000 ≤ 1048576 by decide)
    have hpd := fun w hu => printAt_c _ _ h2 hsm w0 w ht hu
    rw [he] at hp
    clear h1 h2 hsm he
    generalize (parseE line).1 = d at *
    obtain ⟨d1, d2, d3, d4, d5, d6⟩ := d
    have hd1 : ¬ ((d1.length : Int) = 0) := fun h => h3 (show d1 = [] from List.length_eq_zero_iff.1 (by omega))
    clear h3
    rcases hgt with ⟨rfl, htl, hpt⟩ | ⟨hg0, rfl, rfl⟩
    · have hback := parseAt_c t c 0 hpt
      obtain ⟨c1, c2, c3, c4, c5, c6⟩ := c
      clear hpc hpt hc
      repeat' (first
        | (show WL _ _ _ _ _ _ _; first
          | refine WL.pure rfl rfl rfl rfl ?_
          | refine WL.nil ?_
          | refine WL.load hS rfl rfl (LdOk.box (by repeat (first | exact List.Mem.head _ | apply List.Mem.tail)) rfl) rfl rfl rfl ?_
          | refine WL.add rfl rfl rfl (by omega) rfl rfl rfl ?_
          | refine WL.sub rfl rfl rfl (by omega) rfl rfl rfl ?_
          | (refine WL.calls hS rfl rfl (awake_c _) rfl rfl rfl ?_; rintro v w rfl hS)
          | (refine WL.calls hS rfl rfl (hp _) rfl rfl rfl ?_; rintro v w rfl hS)
          | (refine WL.calls hS rfl rfl (hpd _ hS.upd) rfl rfl rfl ?_; rintro v w rfl hS)
          | (refine WL.calls hS rfl rfl (hpr _ hS.upd) rfl rfl rfl ?_; rintro v w rfl hS)
          | (refine WL.calls hS rfl rfl (hback _ (by omega)) rfl rfl rfl ?_; rintro v w rfl hS)
          | refine WL.conv64 rfl rfl rfl (by omega) rfl rfl rfl ?_
          | refine WL.cat rfl rfl rfl (by omega) rfl rfl rfl ?_
          | refine WL.idxS rfl rfl rfl rfl (by with_reducible assumption) rfl rfl rfl ?_
          | refine WL.lowS rfl rfl rfl rfl (by omega) rfl rfl rfl ?_
          | refine WL.highS rfl rfl rfl rfl (by omega) rfl rfl rfl ?_
          | refine WL.midS rfl rfl rfl rfl rfl (by omega) (by omega) rfl rfl rfl ?_
          | refine WL.maxI rfl rfl rfl rfl rfl rfl ?_
          | refine WL.minI rfl rfl rfl rfl rfl rfl ?_
          | (refine WL.store hS rfl rfl rfl (by repeat (first | exact StB.here rfl | apply StB.there)) rfl rfl rfl ?_; intro w hS)
          | (refine WL.box hS rfl rfl rfl rfl rfl ?_; intro w b hS)
          | (refine WL.alloc hS rfl rfl rfl rfl rfl rfl ?_; intro w b hS)
          | refine WL.index rfl rfl rfl rfl (by first | with_reducible assumption | omega) rfl rfl rfl rfl ?_
          | refine WL.index (j := 0) rfl rfl rfl rfl (by omega) rfl rfl rfl rfl ?_
          | refine WL.indexArr rfl rfl rfl rfl (by decide) rfl rfl rfl ?_
          | refine WL.skip rfl rfl rfl ?_
          | refine WL.build rfl rfl rfl rfl rfl ?_
          | (refine WL.slit hS rfl rfl rfl rfl rfl ?_; intro w b hS)
          | refine WL.eqS rfl rfl rfl rfl (by kernel_rfl) rfl rfl rfl ?_
          | refine WL.neS rfl rfl rfl rfl (by kernel_rfl) rfl rfl rfl ?_
          | ((fail_if_success (refine WL.wanted rfl ?_)); refine WL.guard rfl rfl rfl (fun h => ?_) (fun h => ?_) <;> (try simp only [Classical.not_not, Bool.not_eq_true', Bool.not_eq_false', Bool.not_eq_eq_eq_not, Bool.not_true, Bool.not_false, beq_iff_eq, beq_eq_false_iff_ne, ne_eq, decide_eq_decide, decide_eq_true_eq, decide_eq_false_iff_not, Bool.and_eq_true, Bool.or_eq_true, Bool.and_eq_false_iff, Bool.or_eq_false_iff] at h) <;> (try (exfalso; first | omega | contradiction))))
        | (show WC _ _ _ _ _ _; first
          | refine WC.seq ?_
          | refine WC.region ?_
          | refine WC.block ?_
          | refine WC.skip ?_
          | refine WC.exit ?_
          | refine WC.ret ?_
          | refine WC.condT rfl (by with_reducible rfl) ?_
          | refine WC.condF rfl (by with_reducible rfl) ?_
          | refine WC.condT rfl (by decide) ?_
          | refine WC.condF rfl (by decide) ?_
          | refine WC.condT rfl (decide_eq_true (by first | with_reducible assumption | omega)) ?_
          | refine WC.condF rfl (decide_eq_false (by first | with_reducible assumption | omega)) ?_
          | refine WC.condT rfl (by first | (simp; done) | (simp; omega)) ?_
          | refine WC.condF rfl (by first | (simp; done) | (simp; omega)) ?_
          | (refine WC.cond rfl (fun h => ?_) (fun h => ?_) <;> (try simp only [Classical.not_not, Bool.not_eq_true', Bool.not_eq_false', Bool.not_eq_eq_eq_not, Bool.not_true, Bool.not_false, beq_iff_eq, beq_eq_false_iff_ne, ne_eq, decide_eq_decide, decide_eq_true_eq, decide_eq_false_iff_not, Bool.and_eq_true, Bool.or_eq_true, Bool.and_eq_false_iff, Bool.or_eq_false_iff] at h) <;> (try (exfalso; first | omega | contradiction))))
        | (show WD _ _ _ _ _ _ _ _ _; first
          | refine WD.pure rfl rfl rfl rfl rfl ?_
          | refine WD.nil ?_
          | refine WD.load rfl rfl (LdOk.box (by repeat (first | exact List.Mem.head _ | apply List.Mem.tail)) rfl) rfl rfl rfl rfl ?_
          | refine WD.add rfl rfl rfl (by omega) rfl rfl rfl rfl ?_
          | refine WD.sub rfl rfl rfl (by omega) rfl rfl rfl rfl ?_
          | refine WD.conv64 rfl rfl rfl (by omega) rfl rfl rfl rfl ?_
          | refine WD.index rfl rfl rfl rfl (by first | with_reducible assumption | omega) rfl rfl rfl rfl rfl ?_
          | refine WD.index (j := 0) rfl rfl rfl rfl (by omega) rfl rfl rfl rfl rfl ?_
          | refine WD.indexArr rfl rfl rfl rfl (by decide) rfl rfl rfl rfl ?_
          | refine WD.pass rfl rfl rfl rfl ?_
          | refine WD.skip rfl rfl rfl rfl rfl (hM.ss hS) ?_
          | refine WD.build rfl rfl rfl rfl rfl rfl ?_
          | (refine WD.slit hS hM rfl rfl rfl rfl rfl rfl rfl ?_; intro w b hS hM)
          | refine WD.eqS rfl rfl rfl rfl (by kernel_rfl) rfl rfl rfl rfl ?_
          | refine WD.neS rfl rfl rfl rfl (by kernel_rfl) rfl rfl rfl rfl ?_
          | (refine WD.box hS hM rfl rfl rfl rfl rfl rfl rfl ?_; intro w b hS hM)
          | ((fail_if_success (refine WD.wanted rfl ?_)); refine WD.guard rfl rfl rfl (fun h => ?_) (fun h => ?_) <;> (try simp only [Classical.not_not, Bool.not_eq_true', Bool.not_eq_false', Bool.not_eq_eq_eq_not, Bool.not_true, Bool.not_false, beq_iff_eq, beq_eq_false_iff_ne, ne_eq, decide_eq_decide, decide_eq_true_eq, decide_eq_false_iff_not, Bool.and_eq_true, Bool.or_eq_true, Bool.and_eq_false_iff, Bool.or_eq_false_iff] at h) <;> (try (exfalso; first | omega | contradiction))))
        | refine seqQ_n ?_
        | refine blkQ_n ?_
        | refine seqQ_x ?_
        | refine seqQ_r ?_
        | refine blkQ_r ?_
        | refine blkQ_hit rfl ?_
        | refine blkQ_miss rfl ?_
        | refine rndQ_x ?_
        | refine rndQ_r ?_
        | refine rdQ_n ?_
        | refine rdQ_x ?_
        | refine rdQ_r ?_
        | refine cutQ_n ?_
        | refine cutQ_r ?_
        | refine cutQ_miss rfl ?_
        | refine endQ_x ?_
        | refine endQ_r ?_)
      all_goals first
        | exact fin1r rfl rfl ⟨hS.upd, vbool (by simp)⟩
        | (exfalso; simp at h; done)
    · obtain ⟨c1, c2, c3, c4, c5, c6⟩ := c
      clear hpc hc hg0
      repeat' (first
        | (show WL _ _ _ _ _ _ _; first
          | refine WL.pure rfl rfl rfl rfl ?_
          | refine WL.nil ?_
          | refine WL.load hS rfl rfl (LdOk.box (by repeat (first | exact List.Mem.head _ | apply List.Mem.tail)) rfl) rfl rfl rfl ?_
          | refine WL.add rfl rfl rfl (by omega) rfl rfl rfl ?_
          | refine WL.sub rfl rfl rfl (by omega) rfl rfl rfl ?_
          | (refine WL.calls hS rfl rfl (awake_c _) rfl rfl rfl ?_; rintro v w rfl hS)
          | (refine WL.calls hS rfl rfl (hp _) rfl rfl rfl ?_; rintro v w rfl hS)
          | (refine WL.calls hS rfl rfl (hpd _ hS.upd) rfl rfl rfl ?_; rintro v w rfl hS)
          | (refine WL.calls hS rfl rfl (hpr _ hS.upd) rfl rfl rfl ?_; rintro v w rfl hS)
          | refine WL.conv64 rfl rfl rfl (by omega) rfl rfl rfl ?_
          | refine WL.cat rfl rfl rfl (by omega) rfl rfl rfl ?_
          | refine WL.idxS rfl rfl rfl rfl (by with_reducible assumption) rfl rfl rfl ?_
          | refine WL.lowS rfl rfl rfl rfl (by omega) rfl rfl rfl ?_
          | refine WL.highS rfl rfl rfl rfl (by omega) rfl rfl rfl ?_
          | refine WL.midS rfl rfl rfl rfl rfl (by omega) (by omega) rfl rfl rfl ?_
          | refine WL.maxI rfl rfl rfl rfl rfl rfl ?_
          | refine WL.minI rfl rfl rfl rfl rfl rfl ?_
          | (refine WL.store hS rfl rfl rfl (by repeat (first | exact StB.here rfl | apply StB.there)) rfl rfl rfl ?_; intro w hS)
          | (refine WL.box hS rfl rfl rfl rfl rfl ?_; intro w b hS)
          | (refine WL.alloc hS rfl rfl rfl rfl rfl rfl ?_; intro w b hS)
          | refine WL.index rfl rfl rfl rfl (by first | with_reducible assumption | omega) rfl rfl rfl rfl ?_
          | refine WL.index (j := 0) rfl rfl rfl rfl (by omega) rfl rfl rfl rfl ?_
          | refine WL.indexArr rfl rfl rfl rfl (by decide) rfl rfl rfl ?_
          | refine WL.skip rfl rfl rfl ?_
          | refine WL.build rfl rfl rfl rfl rfl ?_
          | (refine WL.slit hS rfl rfl rfl rfl rfl ?_; intro w b hS)
          | refine WL.eqS rfl rfl rfl rfl (by kernel_rfl) rfl rfl rfl ?_
          | refine WL.neS rfl rfl rfl rfl (by kernel_rfl) rfl rfl rfl ?_
          | ((fail_if_success (refine WL.wanted rfl ?_)); refine WL.guard rfl rfl rfl (fun h => ?_) (fun h => ?_) <;> (try simp only [Classical.not_not, Bool.not_eq_true', Bool.not_eq_false', Bool.not_eq_eq_eq_not, Bool.not_true, Bool.not_false, beq_iff_eq, beq_eq_false_iff_ne, ne_eq, decide_eq_decide, decide_eq_true_eq, decide_eq_false_iff_not, Bool.and_eq_true, Bool.or_eq_true, Bool.and_eq_false_iff, Bool.or_eq_false_iff] at h) <;> (try (exfalso; first | omega | contradiction))))
        | (show WC _ _ _ _ _ _; first
          | refine WC.seq ?_
          | refine WC.region ?_
          | refine WC.block ?_
          | refine WC.skip ?_
          | refine WC.exit ?_
          | refine WC.ret ?_
          | refine WC.condT rfl (by with_reducible rfl) ?_
          | refine WC.condF rfl (by with_reducible rfl) ?_
          | refine WC.condT rfl (by decide) ?_
          | refine WC.condF rfl (by decide) ?_
          | refine WC.condT rfl (decide_eq_true (by first | with_reducible assumption | omega)) ?_
          | refine WC.condF rfl (decide_eq_false (by first | with_reducible assumption | omega)) ?_
          | refine WC.condT rfl (by first | (simp; done) | (simp; omega)) ?_
          | refine WC.condF rfl (by first | (simp; done) | (simp; omega)) ?_
          | (refine WC.cond rfl (fun h => ?_) (fun h => ?_) <;> (try simp only [Classical.not_not, Bool.not_eq_true', Bool.not_eq_false', Bool.not_eq_eq_eq_not, Bool.not_true, Bool.not_false, beq_iff_eq, beq_eq_false_iff_ne, ne_eq, decide_eq_decide, decide_eq_true_eq, decide_eq_false_iff_not, Bool.and_eq_true, Bool.or_eq_true, Bool.and_eq_false_iff, Bool.or_eq_false_iff] at h) <;> (try (exfalso; first | omega | contradiction))))
        | (show WD _ _ _ _ _ _ _ _ _; first
          | refine WD.pure rfl rfl rfl rfl rfl ?_
          | refine WD.nil ?_
          | refine WD.load rfl rfl (LdOk.box (by repeat (first | exact List.Mem.head _ | apply List.Mem.tail)) rfl) rfl rfl rfl rfl ?_
          | refine WD.add rfl rfl rfl (by omega) rfl rfl rfl rfl ?_
          | refine WD.sub rfl rfl rfl (by omega) rfl rfl rfl rfl ?_
          | refine WD.conv64 rfl rfl rfl (by omega) rfl rfl rfl rfl ?_
          | refine WD.index rfl rfl rfl rfl (by first | with_reducible assumption | omega) rfl rfl rfl rfl rfl ?_
          | refine WD.index (j := 0) rfl rfl rfl rfl (by omega) rfl rfl rfl rfl rfl ?_
          | refine WD.indexArr rfl rfl rfl rfl (by decide) rfl rfl rfl rfl ?_
          | refine WD.pass rfl rfl rfl rfl ?_
          | refine WD.skip rfl rfl rfl rfl rfl (hM.ss hS) ?_
          | refine WD.build rfl rfl rfl rfl rfl rfl ?_
          | (refine WD.slit hS hM rfl rfl rfl rfl rfl rfl rfl ?_; intro w b hS hM)
          | refine WD.eqS rfl rfl rfl rfl (by kernel_rfl) rfl rfl rfl rfl ?_
          | refine WD.neS rfl rfl rfl rfl (by kernel_rfl) rfl rfl rfl rfl ?_
          | (refine WD.box hS hM rfl rfl rfl rfl rfl rfl rfl ?_; intro w b hS hM)
          | ((fail_if_success (refine WD.wanted rfl ?_)); refine WD.guard rfl rfl rfl (fun h => ?_) (fun h => ?_) <;> (try simp only [Classical.not_not, Bool.not_eq_true', Bool.not_eq_false', Bool.not_eq_eq_eq_not, Bool.not_true, Bool.not_false, beq_iff_eq, beq_eq_false_iff_ne, ne_eq, decide_eq_decide, decide_eq_true_eq, decide_eq_false_iff_not, Bool.and_eq_true, Bool.or_eq_true, Bool.and_eq_false_iff, Bool.or_eq_false_iff] at h) <;> (try (exfalso; first | omega | contradiction))))
        | refine seqQ_n ?_
        | refine blkQ_n ?_
        | refine seqQ_x ?_
        | refine seqQ_r ?_
        | refine blkQ_r ?_
        | refine blkQ_hit rfl ?_
        | refine blkQ_miss rfl ?_
        | refine rndQ_x ?_
        | refine rndQ_r ?_
        | refine rdQ_n ?_
        | refine rdQ_x ?_
        | refine rdQ_r ?_
        | refine cutQ_n ?_
        | refine cutQ_r ?_
        | refine cutQ_miss rfl ?_
        | refine endQ_x ?_
        | refine endQ_r ?_)
      all_goals first
        | exact fin1r rfl rfl ⟨hS.upd, vbool (by simp)⟩
        | (exfalso; simp at h; done)
  · have h1 := parse_no line he
    rw [h1] at hp
    clear h1
    generalize (parseE line).2 = e at *
    rcases hgt with ⟨rfl, htl, hpt⟩ | ⟨hg0, rfl, rfl⟩
    · have hback := parseAt_c t c 0 hpt
      obtain ⟨c1, c2, c3, c4, c5, c6⟩ := c
      clear hpc hpt hc
      repeat' (first
        | (show WL _ _ _ _ _ _ _; first
          | refine WL.pure rfl rfl rfl rfl ?_
          | refine WL.nil ?_
          | refine WL.load hS rfl rfl (LdOk.box (by repeat (first | exact List.Mem.head _ | apply List.Mem.tail)) rfl) rfl rfl rfl ?_
          | refine WL.add rfl rfl rfl (by omega) rfl rfl rfl ?_
          | refine WL.sub rfl rfl rfl (by omega) rfl rfl rfl ?_
          | (refine WL.calls hS rfl rfl (awake_c _) rfl rfl rfl ?_; rintro v w rfl hS)
          | (refine WL.calls hS rfl rfl (hp _) rfl rfl rfl ?_; rintro v w rfl hS)
          | (refine WL.calls hS rfl rfl (hpr _ hS.upd) rfl rfl rfl ?_; rintro v w rfl hS)
          | (refine WL.calls hS rfl rfl (hback _ (by omega)) rfl rfl rfl ?_; rintro v w rfl hS)
          | refine WL.conv64 rfl rfl rfl (by omega) rfl rfl rfl ?_
          | refine WL.cat rfl rfl rfl (by omega) rfl rfl rfl ?_
          | refine WL.idxS rfl rfl rfl rfl (by with_reducible assumption) rfl rfl rfl ?_
          | refine WL.lowS rfl rfl rfl rfl (by omega) rfl rfl rfl ?_
          | refine WL.highS rfl rfl rfl rfl (by omega) rfl rfl rfl ?_
          | refine WL.midS rfl rfl rfl rfl rfl (by omega) (by omega) rfl rfl rfl ?_
          | refine WL.maxI rfl rfl rfl rfl rfl rfl ?_
          | refine WL.minI rfl rfl rfl rfl rfl rfl ?_
          | (refine WL.store hS rfl rfl rfl (by repeat (first | exact StB.here rfl | apply StB.there)) rfl rfl rfl ?_; intro w hS)
          | (refine WL.box hS rfl rfl rfl rfl rfl ?_; intro w b hS)
          | (refine WL.alloc hS rfl rfl rfl rfl rfl rfl ?_; intro w b hS)
          | refine WL.index rfl rfl rfl rfl (by first | with_reducible assumption | omega) rfl rfl rfl rfl ?_
          | refine WL.index (j := 0) rfl rfl rfl rfl (by omega) rfl rfl rfl rfl ?_
          | refine WL.indexArr rfl rfl rfl rfl (by decide) rfl rfl rfl ?_
          | refine WL.skip rfl rfl rfl ?_
          | refine WL.build rfl rfl rfl rfl rfl ?_
          | (refine WL.slit hS rfl rfl rfl rfl rfl ?_; intro w b hS)
          | refine WL.eqS rfl rfl rfl rfl (by kernel_rfl) rfl rfl rfl ?_
          | refine WL.neS rfl rfl rfl rfl (by kernel_rfl) rfl rfl rfl ?_
          | ((fail_if_success (refine WL.wanted rfl ?_)); refine WL.guard rfl rfl rfl (fun h => ?_) (fun h => ?_) <;> (try simp only [Classical.not_not, Bool.not_eq_true', Bool.not_eq_false', Bool.not_eq_eq_eq_not, Bool.not_true, Bool.not_false, beq_iff_eq, beq_eq_false_iff_ne, ne_eq, decide_eq_decide, decide_eq_true_eq, decide_eq_false_iff_not, Bool.and_eq_true, Bool.or_eq_true, Bool.and_eq_false_iff, Bool.or_eq_false_iff] at h) <;> (try (exfalso; first | omega | contradiction))))
        | (show WC _ _ _ _ _ _; first
          | refine WC.seq ?_
          | refine WC.region ?_
          | refine WC.block ?_
          | refine WC.skip ?_
          | refine WC.exit ?_
          | refine WC.ret ?_
          | refine WC.condT rfl (by with_reducible rfl) ?_
          | refine WC.condF rfl (by with_reducible rfl) ?_
          | refine WC.condT rfl (by decide) ?_
          | refine WC.condF rfl (by decide) ?_
          | refine WC.condT rfl (decide_eq_true (by first | with_reducible assumption | omega)) ?_
          | refine WC.condF rfl (decide_eq_false (by first | with_reducible assumption | omega)) ?_
          | refine WC.condT rfl (by first | (simp; done) | (simp; omega)) ?_
          | refine WC.condF rfl (by first | (simp; done) | (simp; omega)) ?_
          | (refine WC.cond rfl (fun h => ?_) (fun h => ?_) <;> (try simp only [Classical.not_not, Bool.not_eq_true', Bool.not_eq_false', Bool.not_eq_eq_eq_not, Bool.not_true, Bool.not_false, beq_iff_eq, beq_eq_false_iff_ne, ne_eq, decide_eq_decide, decide_eq_true_eq, decide_eq_false_iff_not, Bool.and_eq_true, Bool.or_eq_true, Bool.and_eq_false_iff, Bool.or_eq_false_iff] at h) <;> (try (exfalso; first | omega | contradiction))))
        | (show WD _ _ _ _ _ _ _ _ _; first
          | refine WD.pure rfl rfl rfl rfl rfl ?_
          | refine WD.nil ?_
          | refine WD.load rfl rfl (LdOk.box (by repeat (first | exact List.Mem.head _ | apply List.Mem.tail)) rfl) rfl rfl rfl rfl ?_
          | refine WD.add rfl rfl rfl (by omega) rfl rfl rfl rfl ?_
          | refine WD.sub rfl rfl rfl (by omega) rfl rfl rfl rfl ?_
          | refine WD.conv64 rfl rfl rfl (by omega) rfl rfl rfl rfl ?_
          | refine WD.index rfl rfl rfl rfl (by first | with_reducible assumption | omega) rfl rfl rfl rfl rfl ?_
          | refine WD.index (j := 0) rfl rfl rfl rfl (by omega) rfl rfl rfl rfl rfl ?_
          | refine WD.indexArr rfl rfl rfl rfl (by decide) rfl rfl rfl rfl ?_
          | refine WD.pass rfl rfl rfl rfl ?_
          | refine WD.skip rfl rfl rfl rfl rfl (hM.ss hS) ?_
          | refine WD.build rfl rfl rfl rfl rfl rfl ?_
          | (refine WD.slit hS hM rfl rfl rfl rfl rfl rfl rfl ?_; intro w b hS hM)
          | refine WD.eqS rfl rfl rfl rfl (by kernel_rfl) rfl rfl rfl rfl ?_
          | refine WD.neS rfl rfl rfl rfl (by kernel_rfl) rfl rfl rfl rfl ?_
          | (refine WD.box hS hM rfl rfl rfl rfl rfl rfl rfl ?_; intro w b hS hM)
          | ((fail_if_success (refine WD.wanted rfl ?_)); refine WD.guard rfl rfl rfl (fun h => ?_) (fun h => ?_) <;> (try simp only [Classical.not_not, Bool.not_eq_true', Bool.not_eq_false', Bool.not_eq_eq_eq_not, Bool.not_true, Bool.not_false, beq_iff_eq, beq_eq_false_iff_ne, ne_eq, decide_eq_decide, decide_eq_true_eq, decide_eq_false_iff_not, Bool.and_eq_true, Bool.or_eq_true, Bool.and_eq_false_iff, Bool.or_eq_false_iff] at h) <;> (try (exfalso; first | omega | contradiction))))
        | refine seqQ_n ?_
        | refine blkQ_n ?_
        | refine seqQ_x ?_
        | refine seqQ_r ?_
        | refine blkQ_r ?_
        | refine blkQ_hit rfl ?_
        | refine blkQ_miss rfl ?_
        | refine rndQ_x ?_
        | refine rndQ_r ?_
        | refine rdQ_n ?_
        | refine rdQ_x ?_
        | refine rdQ_r ?_
        | refine cutQ_n ?_
        | refine cutQ_r ?_
        | refine cutQ_miss rfl ?_
        | refine endQ_x ?_
        | refine endQ_r ?_)
      all_goals first
        | exact fin1r rfl rfl ⟨hS.upd, vbool (by simp)⟩
        | (exfalso; simp at h; done)
    · obtain ⟨c1, c2, c3, c4, c5, c6⟩ := c
      clear hpc hc hg0
      repeat' (first
        | (show WL _ _ _ _ _ _ _; first
          | refine WL.pure rfl rfl rfl rfl ?_
          | refine WL.nil ?_
          | refine WL.load hS rfl rfl (LdOk.box (by repeat (first | exact List.Mem.head _ | apply List.Mem.tail)) rfl) rfl rfl rfl ?_
          | refine WL.add rfl rfl rfl (by omega) rfl rfl rfl ?_
          | refine WL.sub rfl rfl rfl (by omega) rfl rfl rfl ?_
          | (refine WL.calls hS rfl rfl (awake_c _) rfl rfl rfl ?_; rintro v w rfl hS)
          | (refine WL.calls hS rfl rfl (hp _) rfl rfl rfl ?_; rintro v w rfl hS)
          | (refine WL.calls hS rfl rfl (hpr _ hS.upd) rfl rfl rfl ?_; rintro v w rfl hS)
          | refine WL.conv64 rfl rfl rfl (by omega) rfl rfl rfl ?_
          | refine WL.cat rfl rfl rfl (by omega) rfl rfl rfl ?_
          | refine WL.idxS rfl rfl rfl rfl (by with_reducible assumption) rfl rfl rfl ?_
          | refine WL.lowS rfl rfl rfl rfl (by omega) rfl rfl rfl ?_
          | refine WL.highS rfl rfl rfl rfl (by omega) rfl rfl rfl ?_
          | refine WL.midS rfl rfl rfl rfl rfl (by omega) (by omega) rfl rfl rfl ?_
          | refine WL.maxI rfl rfl rfl rfl rfl rfl ?_
          | refine WL.minI rfl rfl rfl rfl rfl rfl ?_
          | (refine WL.store hS rfl rfl rfl (by repeat (first | exact StB.here rfl | apply StB.there)) rfl rfl rfl ?_; intro w hS)
          | (refine WL.box hS rfl rfl rfl rfl rfl ?_; intro w b hS)
          | (refine WL.alloc hS rfl rfl rfl rfl rfl rfl ?_; intro w b hS)
          | refine WL.index rfl rfl rfl rfl (by first | with_reducible assumption | omega) rfl rfl rfl rfl ?_
          | refine WL.index (j := 0) rfl rfl rfl rfl (by omega) rfl rfl rfl rfl ?_
          | refine WL.indexArr rfl rfl rfl rfl (by decide) rfl rfl rfl ?_
          | refine WL.skip rfl rfl rfl ?_
          | refine WL.build rfl rfl rfl rfl rfl ?_
          | (refine WL.slit hS rfl rfl rfl rfl rfl ?_; intro w b hS)
          | refine WL.eqS rfl rfl rfl rfl (by kernel_rfl) rfl rfl rfl ?_
          | refine WL.neS rfl rfl rfl rfl (by kernel_rfl) rfl rfl rfl ?_
          | ((fail_if_success (refine WL.wanted rfl ?_)); refine WL.guard rfl rfl rfl (fun h => ?_) (fun h => ?_) <;> (try simp only [Classical.not_not, Bool.not_eq_true', Bool.not_eq_false', Bool.not_eq_eq_eq_not, Bool.not_true, Bool.not_false, beq_iff_eq, beq_eq_false_iff_ne, ne_eq, decide_eq_decide, decide_eq_true_eq, decide_eq_false_iff_not, Bool.and_eq_true, Bool.or_eq_true, Bool.and_eq_false_iff, Bool.or_eq_false_iff] at h) <;> (try (exfalso; first | omega | contradiction))))
        | (show WC _ _ _ _ _ _; first
          | refine WC.seq ?_
          | refine WC.region ?_
          | refine WC.block ?_
          | refine WC.skip ?_
          | refine WC.exit ?_
          | refine WC.ret ?_
          | refine WC.condT rfl (by with_reducible rfl) ?_
          | refine WC.condF rfl (by with_reducible rfl) ?_
          | refine WC.condT rfl (by decide) ?_
          | refine WC.condF rfl (by decide) ?_
          | refine WC.condT rfl (decide_eq_true (by first | with_reducible assumption | omega)) ?_
          | refine WC.condF rfl (decide_eq_false (by first | with_reducible assumption | omega)) ?_
          | refine WC.condT rfl (by first | (simp; done) | (simp; omega)) ?_
          | refine WC.condF rfl (by first | (simp; done) | (simp; omega)) ?_
          | (refine WC.cond rfl (fun h => ?_) (fun h => ?_) <;> (try simp only [Classical.not_not, Bool.not_eq_true', Bool.not_eq_false', Bool.not_eq_eq_eq_not, Bool.not_true, Bool.not_false, beq_iff_eq, beq_eq_false_iff_ne, ne_eq, decide_eq_decide, decide_eq_true_eq, decide_eq_false_iff_not, Bool.and_eq_true, Bool.or_eq_true, Bool.and_eq_false_iff, Bool.or_eq_false_iff] at h) <;> (try (exfalso; first | omega | contradiction))))
        | (show WD _ _ _ _ _ _ _ _ _; first
          | refine WD.pure rfl rfl rfl rfl rfl ?_
          | refine WD.nil ?_
          | refine WD.load rfl rfl (LdOk.box (by repeat (first | exact List.Mem.head _ | apply List.Mem.tail)) rfl) rfl rfl rfl rfl ?_
          | refine WD.add rfl rfl rfl (by omega) rfl rfl rfl rfl ?_
          | refine WD.sub rfl rfl rfl (by omega) rfl rfl rfl rfl ?_
          | refine WD.conv64 rfl rfl rfl (by omega) rfl rfl rfl rfl ?_
          | refine WD.index rfl rfl rfl rfl (by first | with_reducible assumption | omega) rfl rfl rfl rfl rfl ?_
          | refine WD.index (j := 0) rfl rfl rfl rfl (by omega) rfl rfl rfl rfl rfl ?_
          | refine WD.indexArr rfl rfl rfl rfl (by decide) rfl rfl rfl rfl ?_
          | refine WD.pass rfl rfl rfl rfl ?_
          | refine WD.skip rfl rfl rfl rfl rfl (hM.ss hS) ?_
          | refine WD.build rfl rfl rfl rfl rfl rfl ?_
          | (refine WD.slit hS hM rfl rfl rfl rfl rfl rfl rfl ?_; intro w b hS hM)
          | refine WD.eqS rfl rfl rfl rfl (by kernel_rfl) rfl rfl rfl rfl ?_
          | refine WD.neS rfl rfl rfl rfl (by kernel_rfl) rfl rfl rfl rfl ?_
          | (refine WD.box hS hM rfl rfl rfl rfl rfl rfl rfl ?_; intro w b hS hM)
          | ((fail_if_success (refine WD.wanted rfl ?_)); refine WD.guard rfl rfl rfl (fun h => ?_) (fun h => ?_) <;> (try simp only [Classical.not_not, Bool.not_eq_true', Bool.not_eq_false', Bool.not_eq_eq_eq_not, Bool.not_true, Bool.not_false, beq_iff_eq, beq_eq_false_iff_ne, ne_eq, decide_eq_decide, decide_eq_true_eq, decide_eq_false_iff_not, Bool.and_eq_true, Bool.or_eq_true, Bool.and_eq_false_iff, Bool.or_eq_false_iff] at h) <;> (try (exfalso; first | omega | contradiction))))
        | refine seqQ_n ?_
        | refine blkQ_n ?_
        | refine seqQ_x ?_
        | refine seqQ_r ?_
        | refine blkQ_r ?_
        | refine blkQ_hit rfl ?_
        | refine blkQ_miss rfl ?_
        | refine rndQ_x ?_
        | refine rndQ_r ?_
        | refine rdQ_n ?_
        | refine rdQ_x ?_
        | refine rdQ_r ?_
        | refine cutQ_n ?_
        | refine cutQ_r ?_
        | refine cutQ_miss rfl ?_
        | refine endQ_x ?_
        | refine endQ_r ?_)
      all_goals first
        | exact fin1r rfl rfl ⟨hS.upd, vbool (by simp)⟩
        | (exfalso; simp at h; done)
end Go.Proofs.YtcegmpijknpgeaaDoor
