/- What is proved: what the reference's Parse answers: the command of a line. Conditions: lines of bounded length. -/
import Derived.Test.YtcegmpijknpgeaaDoorCmdFill
set_option linter.unusedSimpArgs false
set_option linter.unusedVariables false
namespace Go.Proofs.YtcegmpijknpgeaaDoor
open Go Go.J Go.RowKit

theorem fillE_no : ∀ (ks : List UInt8) (ps : List (List UInt8)) (i : Nat) (c : Cmd), (fillE ks ps i c).2 ≠ 0 → (fillE ks ps i c).1 = Cmd0
  | [], ps, i, c => by unfold fillE; intro h; exact absurd rfl h
  | k :: ks, [], i, c => by unfold fillE; intro h; exact absurd rfl h
  | k :: ks, p :: ps, i, c => by
    unfold fillE
    repeat' split
    all_goals first
      | exact fillE_no ks ps _ _
      | exact fun _ => rfl
theorem shapeE_nil {w : List UInt8} (h : shapeE w = some []) : ¬ w = w_give := by
  rintro rfl; exact absurd h (by decide)
theorem shapeE_t {w : List UInt8} (h : shapeE w = some [110, 112, 116]) : w = w_give := by
  unfold shapeE at h
  repeat (split at h; · first | assumption | (exfalso; revert h; decide))
  cases h
theorem shapeE_c {w : List UInt8} (h : shapeE w = some [110, 112, 99]) : w = w_choose := by
  unfold shapeE at h
  repeat (split at h; · first | assumption | (exfalso; revert h; decide))
  cases h
theorem shapeE_np {w : List UInt8} (h : shapeE w = some [110, 112]) : w = w_show := by
  unfold shapeE at h
  repeat (split at h; · first | assumption | (exfalso; revert h; decide))
  cases h
theorem shapeE_nnp {w : List UInt8} (h : shapeE w = some [110, 110, 112]) : w = w_get := by
  unfold shapeE at h
  repeat (split at h; · first | assumption | (exfalso; revert h; decide))
  cases h
theorem shapeE_wnn {w : List UInt8} (h : shapeE w = some [119, 110, 110]) : w = w_set := by
  unfold shapeE at h
  repeat (split at h; · first | assumption | (exfalso; revert h; decide))
  cases h
theorem shapeE_n {w : List UInt8} (h : shapeE w = some [110]) : ¬ w = w_set ∧ ¬ w = w_give := by
  constructor
  · rintro rfl; exact absurd h (by decide)
  · rintro rfl; exact absurd h (by decide)
/-- fill, whatever the form -/
theorem rfill_c {cb : Nat} {word form : List UInt8} {A : Option Addr} {cap : Nat} {w0 : World} {parts : List (List UInt8)} (hs : shapeE word = some form) (hne : ¬ form = []) (hl : parts.length = form.length) (hm : ∀ p ∈ parts, p.length ≤ 5000) (hi : InL w0 [cmdC cb ⟨word, 0, 0, [], [], 0⟩, rowC A cap parts]) :
    Cal Tryd.prog 23 [.pointer (some ⟨cb, 0, none⟩), .slice A parts.length cap] w0 (FillR w0 cb ⟨word, 0, 0, [], [], 0⟩ A cap parts (fillE form parts 0 ⟨word, 0, 0, [], [], 0⟩)) := by
  rcases shapeE_forms hs with rfl | rfl | rfl | rfl | rfl | rfl | rfl
  · exact absurd rfl hne
  · match parts, hl with
    | [p0], _ => exact rfill_one p0 (shapeE_n hs).1 (hm _ (by simp)) hi
  · obtain rfl := shapeE_c hs
    match parts, hl with
    | [p0, p1, p2], _ => exact rfill_choose p0 p1 p2 (hm _ (by simp)) (hm _ (by simp)) (hm _ (by simp)) hi
  · obtain rfl := shapeE_t hs
    match parts, hl with
    | [p0, p1, p2], _ => exact rfill_give p0 p1 p2 (hm _ (by simp)) (hm _ (by simp)) (hm _ (by simp)) hi
  · obtain rfl := shapeE_np hs
    match parts, hl with
    | [p0, p1], _ => exact rfill_show p0 p1 (hm _ (by simp)) (hm _ (by simp)) hi
  · obtain rfl := shapeE_nnp hs
    match parts, hl with
    | [p0, p1, p2], _ => exact rfill_get p0 p1 p2 (hm _ (by simp)) (hm _ (by simp)) (hm _ (by simp)) hi
  · obtain rfl := shapeE_wnn hs
    match parts, hl with
    | [p0, p1, p2], _ => exact rfill_set p0 p1 p2 (hm _ (by simp)) (hm _ (by simp)) (hm _ (by simp)) hi
theorem cut2_line (s : List UInt8) : (∃ w r, cutC 32 s = some (w, r) ∧ wordsC 32 1 s = [w, r] ∧ lineW s = (w, r, true)) ∨ (cutC 32 s = none ∧ wordsC 32 1 s = [s] ∧ lineW s = (s, [], false)) := by
  cases h : cutC 32 s with
  | none => exact .inr ⟨rfl, wordsC_none 1 h, by unfold lineW; rw [h]⟩
  | some p =>
    obtain ⟨w, r⟩ := p
    exact .inl ⟨w, r, rfl, by rw [wordsC_some 0 h]; rfl, by unfold lineW; rw [h]⟩
/-- nine words at the most are as good as all, where three are wanted at the most -/
theorem words9 {f : List UInt8} (hf : f.length ≤ 3) (s : List UInt8) (i : Nat) (c : Cmd) :
    (if (wordsC 32 8 s).length ≠ f.length then (Cmd0, (20 : Int)) else fillE f (wordsC 32 8 s) i c) = (if (wordsC 32 (s.count 32) s).length ≠ f.length then (Cmd0, 20) else fillE f (wordsC 32 (s.count 32) s) i c) := by
  by_cases h : s.count 32 ≤ 8
  · rw [wordsC_all 32 8 (s.count 32) s h (Nat.le_refl _)]
  · rw [if_pos (by rw [wordsC_len]; omega), if_pos (by rw [wordsC_len]; omega)]
set_option maxHeartbeats 32000000 in
set_option maxRecDepth 100000 in
theorem rparse_c (line : List UInt8) (w0 : World) (hl : line.length ≤ 4611686018427) : Cal Tryd.prog 8 [str line] w0 (fun v w' => Upd [] w0 w' ∧ v = parseV (parseE line)) := by
  refine Cal.mk' (by kernel_rfl) Tryd.func8 rfl rfl fun hS => ?_
  unfold parseE
  by_cases h5 : 5000 < line.length
  · rw [if_pos h5]
    repeat' (first
      | (show WL _ _ _ _ _ _ _; first
        | refine WL.pure rfl rfl rfl rfl ?_
        | refine WL.nil ?_
        | refine WL.load hS rfl rfl (LdOk.box (by repeat (first | exact List.Mem.head _ | apply List.Mem.tail)) rfl) rfl rfl rfl ?_
        | refine WL.add rfl rfl rfl (by omega) rfl rfl rfl ?_
        | refine WL.sub rfl rfl rfl (by omega) rfl rfl rfl ?_
        | refine WL.conv64 rfl rfl rfl (by omega) rfl rfl rfl ?_
        | refine WL.cat rfl rfl rfl (by omega) rfl rfl rfl ?_
        | refine WL.idxS rfl rfl rfl rfl (by with_reducible assumption) rfl rfl rfl ?_
        | refine WL.lowS rfl rfl rfl rfl (by omega) rfl rfl rfl ?_
        | refine WL.highS rfl rfl rfl rfl (by omega) rfl rfl rfl ?_
        | refine WL.midS rfl rfl rfl rfl rfl (by omega) (by omega) rfl rfl rfl ?_
        | refine WL.maxI rfl rfl rfl rfl rfl rfl ?_
        | refine WL.minI rfl rfl rfl rfl rfl rfl ?_
        | (refine WL.store hS rfl rfl rfl (by repeat (first | exact StB.here rfl | apply StB.there)) rfl rfl rfl ?_; intro w hS)
        | (refine WL.box hS rfl rfl rfl rfl rfl ?_; intro w b hS)
        | (refine WL.alloc hS rfl rfl rfl rfl rfl rfl ?_; intro w b hS)
        | refine WL.index rfl rfl rfl rfl (by first | with_reducible assumption | omega) rfl rfl rfl rfl ?_
        | refine WL.index (j := 0) rfl rfl rfl rfl (by omega) rfl rfl rfl rfl ?_
        | refine WL.indexArr rfl rfl rfl rfl (by decide) rfl rfl rfl ?_
        | refine WL.skip rfl rfl rfl ?_
        | refine WL.build rfl rfl rfl rfl rfl ?_
        | (refine WL.slit hS rfl rfl rfl rfl rfl ?_; intro w b hS)
        | refine WL.eqS rfl rfl rfl rfl (by kernel_rfl) rfl rfl rfl ?_
        | refine WL.neS rfl rfl rfl rfl (by kernel_rfl) rfl rfl rfl ?_
        | ((fail_if_success (refine WL.wanted rfl ?_)); refine WL.guard rfl rfl rfl (fun h => ?_) (fun h => ?_) <;> (try simp only [Classical.not_not, Bool.not_eq_true', Bool.not_eq_false', Bool.not_eq_eq_eq_not, Bool.not_true, Bool.not_false, beq_iff_eq, beq_eq_false_iff_ne, ne_eq, decide_eq_decide, decide_eq_true_eq, decide_eq_false_iff_not, Bool.and_eq_true, Bool.or_eq_true, Bool.and_eq_false_iff, Bool.or_eq_false_iff] at h) <;> (try (exfalso; first | omega | contradiction))))
      | (show WC _ _ _ _ _ _; first
        | refine WC.seq ?_
        | refine WC.region ?_
        | refine WC.block ?_
        | refine WC.skip ?_
        | refine WC.exit ?_
        | refine WC.ret ?_
        | refine WC.condT rfl (by with_reducible rfl) ?_
        | refine WC.condF rfl (by with_reducible rfl) ?_
        | refine WC.condT rfl (by decide) ?_
        | refine WC.condF rfl (by decide) ?_
        | refine WC.condT rfl (decide_eq_true (by first | with_reducible assumption | omega)) ?_
        | refine WC.condF rfl (decide_eq_false (by first | with_reducible assumption | omega)) ?_
        | refine WC.condT rfl (by first | (simp; done) | (simp; omega)) ?_
        | refine WC.condF rfl (by first | (simp; done) | (simp; omega)) ?_
        | (refine WC.cond rfl (fun h => ?_) (fun h => ?_) <;> (try simp only [Classical.not_not, Bool.not_eq_true', Bool.not_eq_false', Bool.not_eq_eq_eq_not, Bool.not_true, Bool.not_false, beq_iff_eq, beq_eq_false_iff_ne, ne_eq, decide_eq_decide, decide_eq_true_eq, decide_eq_false_iff_not, Bool.and_eq_true, Bool.or_eq_true, Bool.and_eq_false_iff, Bool.or_eq_false_iff] at h) <;> (try (exfalso; first | omega | contradiction))))
      | (show WD _ _ _ _ _ _ _ _ _; first
        | refine WD.pure rfl rfl rfl rfl rfl ?_
        | refine WD.nil ?_
        | refine WD.load rfl rfl (LdOk.box (by repeat (first | exact List.Mem.head _ | apply List.Mem.tail)) rfl) rfl rfl rfl rfl ?_
        | refine WD.add rfl rfl rfl (by omega) rfl rfl rfl rfl ?_
        | refine WD.sub rfl rfl rfl (by omega) rfl rfl rfl rfl ?_
        | refine WD.conv64 rfl rfl rfl (by omega) rfl rfl rfl rfl ?_
        | refine WD.index rfl rfl rfl rfl (by first | with_reducible assumption | omega) rfl rfl rfl rfl rfl ?_
        | refine WD.index (j := 0) rfl rfl rfl rfl (by omega) rfl rfl rfl rfl rfl ?_
        | refine WD.indexArr rfl rfl rfl rfl (by decide) rfl rfl rfl rfl ?_
        | refine WD.pass rfl rfl rfl rfl ?_
        | refine WD.skip rfl rfl rfl rfl rfl (hM.ss hS) ?_
        | refine WD.build rfl rfl rfl rfl rfl rfl ?_
        | (refine WD.slit hS hM rfl rfl rfl rfl rfl rfl rfl ?_; intro w b hS hM)
        | refine WD.eqS rfl rfl rfl rfl (by kernel_rfl) rfl rfl rfl rfl ?_
        | refine WD.neS rfl rfl rfl rfl (by kernel_rfl) rfl rfl rfl rfl ?_
        | (refine WD.box hS hM rfl rfl rfl rfl rfl rfl rfl ?_; intro w b hS hM)
        | ((fail_if_success (refine WD.wanted rfl ?_)); refine WD.guard rfl rfl rfl (fun h => ?_) (fun h => ?_) <;> (try simp only [Classical.not_not, Bool.not_eq_true', Bool.not_eq_false', Bool.not_eq_eq_eq_not, Bool.not_true, Bool.not_false, beq_iff_eq, beq_eq_false_iff_ne, ne_eq, decide_eq_decide, decide_eq_true_eq, decide_eq_false_iff_not, Bool.and_eq_true, Bool.or_eq_true, Bool.and_eq_false_iff, Bool.or_eq_false_iff] at h) <;> (try (exfalso; first | omega | contradiction))))
      | refine seqQ_n ?_
      | refine blkQ_n ?_
      | refine seqQ_x ?_
      | refine seqQ_r ?_
      | refine blkQ_r ?_
      | refine blkQ_hit rfl ?_
      | refine blkQ_miss rfl ?_
      | refine rndQ_x ?_
      | refine rndQ_r ?_
      | refine rdQ_n ?_
      | refine rdQ_x ?_
      | refine rdQ_r ?_
      | refine cutQ_n ?_
      | refine cutQ_r ?_
      | refine cutQ_miss rfl ?_
      | refine endQ_x ?_
      | refine endQ_r ?_)
    exact finC2r hS rfl rfl (LdOk.boxAll (by repeat (first | exact List.Mem.head _ | apply List.Mem.tail)) rfl rfl) rfl ⟨hS.upd, rfl⟩
  rw [if_neg h5]
  have hc1 := fun w0 => rcut_c line 1 w0 hl (by decide)
  obtain ⟨hwl, hrl⟩ := lineW_len line
  rcases cut2_line line with ⟨wd, r, hcc, hww, hlw⟩ | ⟨hcc, hww, hlw⟩
  · rw [hww] at hc1
    have hc1 : ∀ w0, Cal Tryd.prog 21 [str line, .int .i64 2] w0 (fun v w' => Upd [] w0 w' ∧ ∃ A cap, v = .slice A 2 cap ∧ New w0 w' (rowC A cap [wd, r])) := hc1
    rw [hlw] at hwl hrl ⊢
    clear hcc hww hlw
    dsimp only at hwl hrl ⊢
    have hw := fun w0 => words_c wd w0
    unfold wordsN at hw
    rcases hs : shapeE wd with _ | form
    · rw [hs] at hw
      have hw : ∀ w0, Cal Tryd.prog 22 [str wd] w0 (fun v w' => Upd [] w0 w' ∧ v = .int .i64 (-1)) := hw
      repeat' (first
        | (show WL _ _ _ _ _ _ _; first
          | refine WL.pure rfl rfl rfl rfl ?_
          | refine WL.nil ?_
          | refine WL.load hS rfl rfl (LdOk.box (by repeat (first | exact List.Mem.head _ | apply List.Mem.tail)) rfl) rfl rfl rfl ?_
          | refine WL.add rfl rfl rfl (by omega) rfl rfl rfl ?_
          | refine WL.sub rfl rfl rfl (by omega) rfl rfl rfl ?_
          | (refine WL.callG rfl rfl (hc1 _) rfl rfl rfl ?_; rintro v w ⟨hu, A, cap, rfl, hn⟩; have hS := hS.new hu hn; clear hu hn; obtain ⟨ga, oa, rfl⟩ := hS.own_addr (List.Mem.head _) (Nat.succ_pos _))
          | refine WL.load hS rfl rfl (LdOk.own (by repeat (first | exact List.Mem.head _ | apply List.Mem.tail)) rfl) rfl rfl rfl ?_
          | (refine WL.calls hS rfl rfl (hw _) rfl rfl rfl ?_; rintro v w rfl hS)
          | refine WL.conv64 rfl rfl rfl (by omega) rfl rfl rfl ?_
          | refine WL.cat rfl rfl rfl (by omega) rfl rfl rfl ?_
          | refine WL.idxS rfl rfl rfl rfl (by with_reducible assumption) rfl rfl rfl ?_
          | refine WL.lowS rfl rfl rfl rfl (by omega) rfl rfl rfl ?_
          | refine WL.highS rfl rfl rfl rfl (by omega) rfl rfl rfl ?_
          | refine WL.midS rfl rfl rfl rfl rfl (by omega) (by omega) rfl rfl rfl ?_
          | refine WL.maxI rfl rfl rfl rfl rfl rfl ?_
          | refine WL.minI rfl rfl rfl rfl rfl rfl ?_
          | (refine WL.store hS rfl rfl rfl (by repeat (first | exact StB.here rfl | apply StB.there)) rfl rfl rfl ?_; intro w hS)
          | (refine WL.box hS rfl rfl rfl rfl rfl ?_; intro w b hS)
          | (refine WL.alloc hS rfl rfl rfl rfl rfl rfl ?_; intro w b hS)
          | refine WL.index rfl rfl rfl rfl (by first | with_reducible assumption | omega) rfl rfl rfl rfl ?_
          | refine WL.index (j := 0) rfl rfl rfl rfl (by omega) rfl rfl rfl rfl ?_
          | refine WL.indexArr rfl rfl rfl rfl (by decide) rfl rfl rfl ?_
          | refine WL.skip rfl rfl rfl ?_
          | refine WL.build rfl rfl rfl rfl rfl ?_
          | (refine WL.slit hS rfl rfl rfl rfl rfl ?_; intro w b hS)
          | refine WL.eqS rfl rfl rfl rfl (by kernel_rfl) rfl rfl rfl ?_
          | refine WL.neS rfl rfl rfl rfl (by kernel_rfl) rfl rfl rfl ?_
          | ((fail_if_success (refine WL.wanted rfl ?_)); refine WL.guard rfl rfl rfl (fun h => ?_) (fun h => ?_) <;> (try simp only [Classical.not_not, Bool.not_eq_true', Bool.not_eq_false', Bool.not_eq_eq_eq_not, Bool.not_true, Bool.not_false, beq_iff_eq, beq_eq_false_iff_ne, ne_eq, decide_eq_decide, decide_eq_true_eq, decide_eq_false_iff_not, Bool.and_eq_true, Bool.or_eq_true, Bool.and_eq_false_iff, Bool.or_eq_false_iff] at h) <;> (try (exfalso; first | omega | contradiction))))
        | (show WC _ _ _ _ _ _; first
          | refine WC.seq ?_
          | refine WC.region ?_
          | refine WC.block ?_
          | refine WC.skip ?_
          | refine WC.exit ?_
          | refine WC.ret ?_
          | refine WC.condT rfl (by with_reducible rfl) ?_
          | refine WC.condF rfl (by with_reducible rfl) ?_
          | refine WC.condT rfl (by decide) ?_
          | refine WC.condF rfl (by decide) ?_
          | refine WC.condT rfl (decide_eq_true (by first | with_reducible assumption | omega)) ?_
          | refine WC.condF rfl (decide_eq_false (by first | with_reducible assumption | omega)) ?_
          | refine WC.condT rfl (by first | (simp; done) | (simp; omega)) ?_
          | refine WC.condF rfl (by first | (simp; done) | (simp; omega)) ?_
          | (refine WC.cond rfl (fun h => ?_) (fun h => ?_) <;> (try simp only [Classical.not_not, Bool.not_eq_true', Bool.not_eq_false', Bool.not_eq_eq_eq_not, Bool.not_true, Bool.not_false, beq_iff_eq, beq_eq_false_iff_ne, ne_eq, decide_eq_decide, decide_eq_true_eq, decide_eq_false_iff_not, Bool.and_eq_true, Bool.or_eq_true, Bool.and_eq_false_iff, Bool.or_eq_false_iff] at h) <;> (try (exfalso; first | omega | contradiction))))
        | (show WD _ _ _ _ _ _ _ _ _; first
          | refine WD.pure rfl rfl rfl rfl rfl ?_
          | refine WD.nil ?_
          | refine WD.load rfl rfl (LdOk.box (by repeat (first | exact List.Mem.head _ | apply List.Mem.tail)) rfl) rfl rfl rfl rfl ?_
          | refine WD.add rfl rfl rfl (by omega) rfl rfl rfl rfl ?_
          | refine WD.sub rfl rfl rfl (by omega) rfl rfl rfl rfl ?_
          | refine WD.conv64 rfl rfl rfl (by omega) rfl rfl rfl rfl ?_
          | refine WD.index rfl rfl rfl rfl (by first | with_reducible assumption | omega) rfl rfl rfl rfl rfl ?_
          | refine WD.index (j := 0) rfl rfl rfl rfl (by omega) rfl rfl rfl rfl rfl ?_
          | refine WD.indexArr rfl rfl rfl rfl (by decide) rfl rfl rfl rfl ?_
          | refine WD.pass rfl rfl rfl rfl ?_
          | refine WD.skip rfl rfl rfl rfl rfl (hM.ss hS) ?_
          | refine WD.build rfl rfl rfl rfl rfl rfl ?_
          | (refine WD.slit hS hM rfl rfl rfl rfl rfl rfl rfl ?_; intro w b hS hM)
          | refine WD.eqS rfl rfl rfl rfl (by kernel_rfl) rfl rfl rfl rfl ?_
          | refine WD.neS rfl rfl rfl rfl (by kernel_rfl) rfl rfl rfl rfl ?_
          | (refine WD.box hS hM rfl rfl rfl rfl rfl rfl rfl ?_; intro w b hS hM)
          | ((fail_if_success (refine WD.wanted rfl ?_)); refine WD.guard rfl rfl rfl (fun h => ?_) (fun h => ?_) <;> (try simp only [Classical.not_not, Bool.not_eq_true', Bool.not_eq_false', Bool.not_eq_eq_eq_not, Bool.not_true, Bool.not_false, beq_iff_eq, beq_eq_false_iff_ne, ne_eq, decide_eq_decide, decide_eq_true_eq, decide_eq_false_iff_not, Bool.and_eq_true, Bool.or_eq_true, Bool.and_eq_false_iff, Bool.or_eq_false_iff] at h) <;> (try (exfalso; first | omega | contradiction))))
        | refine seqQ_n ?_
        | refine blkQ_n ?_
        | refine seqQ_x ?_
        | refine seqQ_r ?_
        | refine blkQ_r ?_
        | refine blkQ_hit rfl ?_
        | refine blkQ_miss rfl ?_
        | refine rndQ_x ?_
        | refine rndQ_r ?_
        | refine rdQ_n ?_
        | refine rdQ_x ?_
        | refine rdQ_r ?_
        | refine cutQ_n ?_
        | refine cutQ_r ?_
        | refine cutQ_miss rfl ?_
        | refine endQ_x ?_
        | refine endQ_r ?_)
      exact finC2r hS rfl rfl (LdOk.boxAll (by repeat (first | exact List.Mem.head _ | apply List.Mem.tail)) rfl rfl) rfl ⟨hS.upd, rfl⟩
    rw [hs] at hw
    have hw : ∀ w0, Cal Tryd.prog 22 [str wd] w0 (fun v w' => Upd [] w0 w' ∧ v = .int .i64 (form.length : Int)) := hw
    dsimp only
    by_cases hne : form = []
    · subst hne
      rw [if_pos (by decide)]
      have hw : ∀ w0, Cal Tryd.prog 22 [str wd] w0 (fun v w' => Upd [] w0 w' ∧ v = .int .i64 0) := hw
      repeat' (first
        | (show WL _ _ _ _ _ _ _; first
          | refine WL.pure rfl rfl rfl rfl ?_
          | refine WL.nil ?_
          | refine WL.load hS rfl rfl (LdOk.box (by repeat (first | exact List.Mem.head _ | apply List.Mem.tail)) rfl) rfl rfl rfl ?_
          | refine WL.add rfl rfl rfl (by omega) rfl rfl rfl ?_
          | refine WL.sub rfl rfl rfl (by omega) rfl rfl rfl ?_
          | (refine WL.callG rfl rfl (hc1 _) rfl rfl rfl ?_; rintro v w ⟨hu, A, cap, rfl, hn⟩; have hS := hS.new hu hn; clear hu hn; obtain ⟨ga, oa, rfl⟩ := hS.own_addr (List.Mem.head _) (Nat.succ_pos _))
          | refine WL.load hS rfl rfl (LdOk.own (by repeat (first | exact List.Mem.head _ | apply List.Mem.tail)) rfl) rfl rfl rfl ?_
          | (refine WL.calls hS rfl rfl (hw _) rfl rfl rfl ?_; rintro v w rfl hS)
          | refine WL.conv64 rfl rfl rfl (by omega) rfl rfl rfl ?_
          | refine WL.cat rfl rfl rfl (by omega) rfl rfl rfl ?_
          | refine WL.idxS rfl rfl rfl rfl (by with_reducible assumption) rfl rfl rfl ?_
          | refine WL.lowS rfl rfl rfl rfl (by omega) rfl rfl rfl ?_
          | refine WL.highS rfl rfl rfl rfl (by omega) rfl rfl rfl ?_
          | refine WL.midS rfl rfl rfl rfl rfl (by omega) (by omega) rfl rfl rfl ?_
          | refine WL.maxI rfl rfl rfl rfl rfl rfl ?_
          | refine WL.minI rfl rfl rfl rfl rfl rfl ?_
          | (refine WL.store hS rfl rfl rfl (by repeat (first | exact StB.here rfl | apply StB.there)) rfl rfl rfl ?_; intro w hS)
          | (refine WL.box hS rfl rfl rfl rfl rfl ?_; intro w b hS)
          | (refine WL.alloc hS rfl rfl rfl rfl rfl rfl ?_; intro w b hS)
          | refine WL.index rfl rfl rfl rfl (by first | with_reducible assumption | omega) rfl rfl rfl rfl ?_
          | refine WL.index (j := 0) rfl rfl rfl rfl (by omega) rfl rfl rfl rfl ?_
          | refine WL.indexArr rfl rfl rfl rfl (by decide) rfl rfl rfl ?_
          | refine WL.skip rfl rfl rfl ?_
          | refine WL.build rfl rfl rfl rfl rfl ?_
          | (refine WL.slit hS rfl rfl rfl rfl rfl ?_; intro w b hS)
          | refine WL.eqS rfl rfl rfl rfl (by kernel_rfl) rfl rfl rfl ?_
          | refine WL.neS rfl rfl rfl rfl (by kernel_rfl) rfl rfl rfl ?_
          | ((fail_if_success (refine WL.wanted rfl ?_)); refine WL.guard rfl rfl rfl (fun h => ?_) (fun h => ?_) <;> (try simp only [Classical.not_not, Bool.not_eq_true', Bool.not_eq_false', Bool.not_eq_eq_eq_not, Bool.not_true, Bool.not_false, beq_iff_eq, beq_eq_false_iff_ne, ne_eq, decide_eq_decide, decide_eq_true_eq, decide_eq_false_iff_not, Bool.and_eq_true, Bool.or_eq_true, Bool.and_eq_false_iff, Bool.or_eq_false_iff] at h) <;> (try (exfalso; first | omega | contradiction))))
        | (show WC _ _ _ _ _ _; first
          | refine WC.seq ?_
          | refine WC.region ?_
          | refine WC.block ?_
          | refine WC.skip ?_
          | refine WC.exit ?_
          | refine WC.ret ?_
          | refine WC.condT rfl (by with_reducible rfl) ?_
          | refine WC.condF rfl (by with_reducible rfl) ?_
          | refine WC.condT rfl (by decide) ?_
          | refine WC.condF rfl (by decide) ?_
          | refine WC.condT rfl (decide_eq_true (by first | with_reducible assumption | omega)) ?_
          | refine WC.condF rfl (decide_eq_false (by first | with_reducible assumption | omega)) ?_
          | refine WC.condT rfl (by first | (simp; done) | (simp; omega)) ?_
          | refine WC.condF rfl (by first | (simp; done) | (simp; omega)) ?_
          | (refine WC.cond rfl (fun h => ?_) (fun h => ?_) <;> (try simp only [Classical.not_not, Bool.not_eq_true', Bool.not_eq_false', Bool.not_eq_eq_eq_not, Bool.not_true, Bool.not_false, beq_iff_eq, beq_eq_false_iff_ne, ne_eq, decide_eq_decide, decide_eq_true_eq, decide_eq_false_iff_not, Bool.and_eq_true, Bool.or_eq_true, Bool.and_eq_false_iff, Bool.or_eq_false_iff] at h) <;> (try (exfalso; first | omega | contradiction))))
        | (show WD _ _ _ _ _ _ _ _ _; first
          | refine WD.pure rfl rfl rfl rfl rfl ?_
          | refine WD.nil ?_
          | refine WD.load rfl rfl (LdOk.box (by repeat (first | exact List.Mem.head _ | apply List.Mem.tail)) rfl) rfl rfl rfl rfl ?_
          | refine WD.add rfl rfl rfl (by omega) rfl rfl rfl rfl ?_
          | refine WD.sub rfl rfl rfl (by omega) rfl rfl rfl rfl ?_
          | refine WD.conv64 rfl rfl rfl (by omega) rfl rfl rfl rfl ?_
          | refine WD.index rfl rfl rfl rfl (by first | with_reducible assumption | omega) rfl rfl rfl rfl rfl ?_
          | refine WD.index (j := 0) rfl rfl rfl rfl (by omega) rfl rfl rfl rfl rfl ?_
          | refine WD.indexArr rfl rfl rfl rfl (by decide) rfl rfl rfl rfl ?_
          | refine WD.pass rfl rfl rfl rfl ?_
          | refine WD.skip rfl rfl rfl rfl rfl (hM.ss hS) ?_
          | refine WD.build rfl rfl rfl rfl rfl rfl ?_
          | (refine WD.slit hS hM rfl rfl rfl rfl rfl rfl rfl ?_; intro w b hS hM)
          | refine WD.eqS rfl rfl rfl rfl (by kernel_rfl) rfl rfl rfl rfl ?_
          | refine WD.neS rfl rfl rfl rfl (by kernel_rfl) rfl rfl rfl rfl ?_
          | (refine WD.box hS hM rfl rfl rfl rfl rfl rfl rfl ?_; intro w b hS hM)
          | ((fail_if_success (refine WD.wanted rfl ?_)); refine WD.guard rfl rfl rfl (fun h => ?_) (fun h => ?_) <;> (try simp only [Classical.not_not, Bool.not_eq_true', Bool.not_eq_false', Bool.not_eq_eq_eq_not, Bool.not_true, Bool.not_false, beq_iff_eq, beq_eq_false_iff_ne, ne_eq, decide_eq_decide, decide_eq_true_eq, decide_eq_false_iff_not, Bool.and_eq_true, Bool.or_eq_true, Bool.and_eq_false_iff, Bool.or_eq_false_iff] at h) <;> (try (exfalso; first | omega | contradiction))))
        | refine seqQ_n ?_
        | refine blkQ_n ?_
        | refine seqQ_x ?_
        | refine seqQ_r ?_
        | refine blkQ_r ?_
        | refine blkQ_hit rfl ?_
        | refine blkQ_miss rfl ?_
        | refine rndQ_x ?_
        | refine rndQ_r ?_
        | refine rdQ_n ?_
        | refine rdQ_x ?_
        | refine rdQ_r ?_
        | refine cutQ_n ?_
        | refine cutQ_r ?_
        | refine cutQ_miss rfl ?_
        | refine endQ_x ?_
        | refine endQ_r ?_)
      exact finC2r hS rfl rfl (LdOk.boxAll (by repeat (first | exact List.Mem.head _ | apply List.Mem.tail)) rfl rfl) rfl ⟨hS.upd, rfl⟩
    rw [if_neg (by rw [decide_eq_true (show form ≠ [] from hne)]; decide), if_neg hne]
    have hf1 : 1 ≤ form.length := by rcases form with _ | ⟨a, b⟩; exact absurd rfl hne; simp
    have hf3 : form.length ≤ 3 := by rcases shapeE_forms hs with rfl | rfl | rfl | rfl | rfl | rfl | rfl <;> decide
    obtain ⟨K, hK, hKe⟩ : ∃ K : Nat, (wd = w_give ∧ K = 2 ∨ ¬ wd = w_give ∧ K = 8) ∧ (if (wordsC 32 (if form = [110, 112, 116] then 2 else r.count 32) r).length ≠ form.length then (Cmd0, (20 : Int)) else fillE form (wordsC 32 (if form = [110, 112, 116] then 2 else r.count 32) r) 0 ⟨wd, 0, 0, [], [], 0⟩) = (if (wordsC 32 K r).length ≠ form.length then (Cmd0, (20 : Int)) else fillE form (wordsC 32 K r) 0 ⟨wd, 0, 0, [], [], 0⟩) := by
      by_cases hg : wd = w_give
      · subst hg
        have : form = [110, 112, 116] := by have h2 : shapeE w_give = some [110, 112, 116] := by decide
                                            rw [h2] at hs; exact (Option.some.inj hs).symm
        exact ⟨2, .inl ⟨rfl, rfl⟩, by rw [if_pos this]⟩
      · refine ⟨8, .inr ⟨hg, rfl⟩, ?_⟩
        have hf : ¬ form = [110, 112, 116] := fun e => hg (shapeE_t (by rw [hs, e]))
        rw [if_neg hf]
        exact (words9 hf3 r 0 _).symm
    rw [hKe]
    clear hKe
    have hc2 := fun w0 => rcut_c r K w0 (by omega) (by omega)
    have hpm : ∀ p ∈ wordsC 32 K r, p.length ≤ 5000 := fun p hp => by have := wordsC_max K r p hp; omega
    generalize wordsC 32 K r = parts at *
    have hF := fun (hlen : parts.length = form.length) (cb : Nat) (A : Option Addr) (cap : Nat) (w0 : World) (hi : InL w0 [cmdC cb ⟨wd, 0, 0, [], [], 0⟩, rowC A cap parts]) => rfill_c hs hne hlen hpm hi
    have hno := fillE_no form parts 0 ⟨wd, 0, 0, [], [], 0⟩
    clear hpm hs
    by_cases hlen : parts.length = form.length
    · rw [if_neg (fun h => h hlen)]
      have hF := hF hlen
      generalize fillE form parts 0 ⟨wd, 0, 0, [], [], 0⟩ = F at *
      obtain ⟨fc, fe⟩ := F
      unfold FillR at hF
      dsimp only at hF hno ⊢
      rcases hK with ⟨hg, rfl⟩ | ⟨hg, rfl⟩
      all_goals
        by_cases he : fe = 0
        · subst he
          clear hno
          repeat' (first
            | (show WL _ _ _ _ _ _ _; first
              | (refine WL.alloc (t := 23) hS rfl rfl rfl rfl rfl rfl ?_; intro w cb hS)
              | refine WL.pure rfl rfl rfl rfl ?_
              | refine WL.nil ?_
              | refine WL.load hS rfl rfl (LdOk.box (by repeat (first | exact List.Mem.head _ | apply List.Mem.tail)) rfl) rfl rfl rfl ?_
              | refine WL.add rfl rfl rfl (by omega) rfl rfl rfl ?_
              | refine WL.sub rfl rfl rfl (by omega) rfl rfl rfl ?_
              | (refine WL.callG rfl rfl (hc1 _) rfl rfl rfl ?_; rintro v w ⟨hu, A, cap, rfl, hn⟩; have hS := hS.new hu hn; clear hu hn; obtain ⟨ga, oa, rfl⟩ := hS.own_addr (List.Mem.head _) (Nat.succ_pos _))
              | refine WL.load hS rfl rfl (LdOk.own (by repeat (first | exact List.Mem.head _ | apply List.Mem.tail)) rfl) rfl rfl rfl ?_
              | refine WL.load hS rfl rfl (LdOk.ownAt (off := 1) (by repeat (first | exact List.Mem.head _ | apply List.Mem.tail)) rfl ⟨_, rfl⟩ rfl rfl) rfl rfl rfl ?_
              | refine WL.index (j := 1) rfl rfl rfl rfl (by decide) rfl rfl rfl rfl ?_
              | (refine WL.calls hS rfl rfl (hw _) rfl rfl rfl ?_; rintro v w rfl hS)
              | (refine WL.callG rfl rfl (hc2 _) rfl rfl rfl ?_; rintro v w ⟨hu, A2, cap2, rfl, hn⟩; have hS := hS.new hu hn; clear hu hn)
              | (refine WL.callL (D := [cmdC cb ⟨wd, 0, 0, [], [], 0⟩, rowC A2 cap2 parts]) hS (by repeat (first | exact Pulls.nil | (apply Pulls.cons; focus (repeat (first | exact Pull.here | apply Pull.there))))) rfl rfl (fun hI => hF cb A2 cap2 _ hI) rfl rfl rfl ?_; rintro v w ⟨rfl, c', hm, hcc⟩ hS; replace hS := hS _ hm; clear hm; obtain rfl := hcc rfl)
              | refine WL.conv64 rfl rfl rfl (by omega) rfl rfl rfl ?_
              | refine WL.cat rfl rfl rfl (by omega) rfl rfl rfl ?_
              | refine WL.idxS rfl rfl rfl rfl (by with_reducible assumption) rfl rfl rfl ?_
              | refine WL.lowS rfl rfl rfl rfl (by omega) rfl rfl rfl ?_
              | refine WL.highS rfl rfl rfl rfl (by omega) rfl rfl rfl ?_
              | refine WL.midS rfl rfl rfl rfl rfl (by omega) (by omega) rfl rfl rfl ?_
              | refine WL.maxI rfl rfl rfl rfl rfl rfl ?_
              | refine WL.minI rfl rfl rfl rfl rfl rfl ?_
              | (refine WL.store hS rfl rfl rfl (by repeat (first | exact StB.here rfl | apply StB.there)) rfl rfl rfl ?_; intro w hS)
              | (refine WL.box hS rfl rfl rfl rfl rfl ?_; intro w b hS)
              | (refine WL.alloc hS rfl rfl rfl rfl rfl rfl ?_; intro w b hS)
              | refine WL.index rfl rfl rfl rfl (by first | with_reducible assumption | omega) rfl rfl rfl rfl ?_
              | refine WL.index (j := 0) rfl rfl rfl rfl (by omega) rfl rfl rfl rfl ?_
              | refine WL.indexArr rfl rfl rfl rfl (by decide) rfl rfl rfl ?_
              | refine WL.skip rfl rfl rfl ?_
              | refine WL.build rfl rfl rfl rfl rfl ?_
              | (refine WL.slit hS rfl rfl rfl rfl rfl ?_; intro w b hS)
              | refine WL.eqS rfl rfl rfl rfl (by kernel_rfl) rfl rfl rfl ?_
              | refine WL.neS rfl rfl rfl rfl (by kernel_rfl) rfl rfl rfl ?_
              | ((fail_if_success (refine WL.wanted rfl ?_)); refine WL.guard rfl rfl rfl (fun h => ?_) (fun h => ?_) <;> (try simp only [Classical.not_not, Bool.not_eq_true', Bool.not_eq_false', Bool.not_eq_eq_eq_not, Bool.not_true, Bool.not_false, beq_iff_eq, beq_eq_false_iff_ne, ne_eq, decide_eq_decide, decide_eq_true_eq, decide_eq_false_iff_not, Bool.and_eq_true, Bool.or_eq_true, Bool.and_eq_false_iff, Bool.or_eq_false_iff] at h) <;> (try (exfalso; first | omega | contradiction))))
            | (show WC _ _ _ _ _ _; first
              | refine WC.seq ?_
              | refine WC.region ?_
              | refine WC.block ?_
              | refine WC.skip ?_
              | refine WC.exit ?_
              | refine WC.ret ?_
              | refine WC.condT rfl (by with_reducible rfl) ?_
              | refine WC.condF rfl (by with_reducible rfl) ?_
              | refine WC.condT rfl (by decide) ?_
              | refine WC.condF rfl (by decide) ?_
              | refine WC.condT rfl (decide_eq_true (by first | with_reducible assumption | omega)) ?_
              | refine WC.condF rfl (decide_eq_false (by first | with_reducible assumption | omega)) ?_
              | refine WC.condT rfl (by first | (simp; done) | (simp; omega)) ?_
              | refine WC.condF rfl (by first | (simp; done) | (simp; omega)) ?_
              | (refine WC.cond rfl (fun h => ?_) (fun h => ?_) <;> (try simp only [Classical.not_not, Bool.not_eq_true', Bool.not_eq_false', Bool.not_eq_eq_eq_not, Bool.not_true, Bool.not_false, beq_iff_eq, beq_eq_false_iff_ne, ne_eq, decide_eq_decide, decide_eq_true_eq, decide_eq_false_iff_not, Bool.and_eq_true, Bool.or_eq_true, Bool.and_eq_false_iff, Bool.or_eq_false_iff] at h) <;> (try (exfalso; first | omega | contradiction))))
            | (show WD _ _ _ _ _ _ _ _ _; first
              | refine WD.pure rfl rfl rfl rfl rfl ?_
              | refine WD.nil ?_
              | refine WD.load rfl rfl (LdOk.box (by repeat (first | exact List.Mem.head _ | apply List.Mem.tail)) rfl) rfl rfl rfl rfl ?_
              | refine WD.add rfl rfl rfl (by omega) rfl rfl rfl rfl ?_
              | refine WD.sub rfl rfl rfl (by omega) rfl rfl rfl rfl ?_
              | refine WD.conv64 rfl rfl rfl (by omega) rfl rfl rfl rfl ?_
              | refine WD.index rfl rfl rfl rfl (by first | with_reducible assumption | omega) rfl rfl rfl rfl rfl ?_
              | refine WD.index (j := 0) rfl rfl rfl rfl (by omega) rfl rfl rfl rfl rfl ?_
              | refine WD.indexArr rfl rfl rfl rfl (by decide) rfl rfl rfl rfl ?_
              | refine WD.pass rfl rfl rfl rfl ?_
              | refine WD.skip rfl rfl rfl rfl rfl (hM.ss hS) ?_
              | refine WD.build rfl rfl rfl rfl rfl rfl ?_
              | (refine WD.slit hS hM rfl rfl rfl rfl rfl rfl rfl ?_; intro w b hS hM)
              | refine WD.eqS rfl rfl rfl rfl (by kernel_rfl) rfl rfl rfl rfl ?_
              | refine WD.neS rfl rfl rfl rfl (by kernel_rfl) rfl rfl rfl rfl ?_
              | (refine WD.box hS hM rfl rfl rfl rfl rfl rfl rfl ?_; intro w b hS hM)
              | ((fail_if_success (refine WD.wanted rfl ?_)); refine WD.guard rfl rfl rfl (fun h => ?_) (fun h => ?_) <;> (try simp only [Classical.not_not, Bool.not_eq_true', Bool.not_eq_false', Bool.not_eq_eq_eq_not, Bool.not_true, Bool.not_false, beq_iff_eq, beq_eq_false_iff_ne, ne_eq, decide_eq_decide, decide_eq_true_eq, decide_eq_false_iff_not, Bool.and_eq_true, Bool.or_eq_true, Bool.and_eq_false_iff, Bool.or_eq_false_iff] at h) <;> (try (exfalso; first | omega | contradiction))))
            | refine seqQ_n ?_
            | refine blkQ_n ?_
            | refine seqQ_x ?_
            | refine seqQ_r ?_
            | refine blkQ_r ?_
            | refine blkQ_hit rfl ?_
            | refine blkQ_miss rfl ?_
            | refine rndQ_x ?_
            | refine rndQ_r ?_
            | refine rdQ_n ?_
            | refine rdQ_x ?_
            | refine rdQ_r ?_
            | refine cutQ_n ?_
            | refine cutQ_r ?_
            | refine cutQ_miss rfl ?_
            | refine endQ_x ?_
            | refine endQ_r ?_)
          exact finC2r hS rfl rfl (LdOk.boxAll (by repeat (first | exact List.Mem.head _ | apply List.Mem.tail)) rfl rfl) rfl ⟨hS.upd, rfl⟩
        · have hno := hno he
          subst hno
          repeat' (first
            | (show WL _ _ _ _ _ _ _; first
              | (refine WL.alloc (t := 23) hS rfl rfl rfl rfl rfl rfl ?_; intro w cb hS)
              | refine WL.pure rfl rfl rfl rfl ?_
              | refine WL.nil ?_
              | refine WL.load hS rfl rfl (LdOk.box (by repeat (first | exact List.Mem.head _ | apply List.Mem.tail)) rfl) rfl rfl rfl ?_
              | refine WL.add rfl rfl rfl (by omega) rfl rfl rfl ?_
              | refine WL.sub rfl rfl rfl (by omega) rfl rfl rfl ?_
              | (refine WL.callG rfl rfl (hc1 _) rfl rfl rfl ?_; rintro v w ⟨hu, A, cap, rfl, hn⟩; have hS := hS.new hu hn; clear hu hn; obtain ⟨ga, oa, rfl⟩ := hS.own_addr (List.Mem.head _) (Nat.succ_pos _))
              | refine WL.load hS rfl rfl (LdOk.own (by repeat (first | exact List.Mem.head _ | apply List.Mem.tail)) rfl) rfl rfl rfl ?_
              | refine WL.load hS rfl rfl (LdOk.ownAt (off := 1) (by repeat (first | exact List.Mem.head _ | apply List.Mem.tail)) rfl ⟨_, rfl⟩ rfl rfl) rfl rfl rfl ?_
              | refine WL.index (j := 1) rfl rfl rfl rfl (by decide) rfl rfl rfl rfl ?_
              | (refine WL.calls hS rfl rfl (hw _) rfl rfl rfl ?_; rintro v w rfl hS)
              | (refine WL.callG rfl rfl (hc2 _) rfl rfl rfl ?_; rintro v w ⟨hu, A2, cap2, rfl, hn⟩; have hS := hS.new hu hn; clear hu hn)
              | (refine WL.callL (D := [cmdC cb ⟨wd, 0, 0, [], [], 0⟩, rowC A2 cap2 parts]) hS (by repeat (first | exact Pulls.nil | (apply Pulls.cons; focus (repeat (first | exact Pull.here | apply Pull.there))))) rfl rfl (fun hI => hF cb A2 cap2 _ hI) rfl rfl rfl ?_; rintro v w ⟨rfl, c', hm, hcc⟩ hS; replace hS := hS _ hm; clear hm; clear hcc)
              | refine WL.conv64 rfl rfl rfl (by omega) rfl rfl rfl ?_
              | refine WL.cat rfl rfl rfl (by omega) rfl rfl rfl ?_
              | refine WL.idxS rfl rfl rfl rfl (by with_reducible assumption) rfl rfl rfl ?_
              | refine WL.lowS rfl rfl rfl rfl (by omega) rfl rfl rfl ?_
              | refine WL.highS rfl rfl rfl rfl (by omega) rfl rfl rfl ?_
              | refine WL.midS rfl rfl rfl rfl rfl (by omega) (by omega) rfl rfl rfl ?_
              | refine WL.maxI rfl rfl rfl rfl rfl rfl ?_
              | refine WL.minI rfl rfl rfl rfl rfl rfl ?_
              | (refine WL.store hS rfl rfl rfl (by repeat (first | exact StB.here rfl | apply StB.there)) rfl rfl rfl ?_; intro w hS)
              | (refine WL.box hS rfl rfl rfl rfl rfl ?_; intro w b hS)
              | (refine WL.alloc hS rfl rfl rfl rfl rfl rfl ?_; intro w b hS)
              | refine WL.index rfl rfl rfl rfl (by first | with_reducible assumption | omega) rfl rfl rfl rfl ?_
              | refine WL.index (j := 0) rfl rfl rfl rfl (by omega) rfl rfl rfl rfl ?_
              | refine WL.indexArr rfl rfl rfl rfl (by decide) rfl rfl rfl ?_
              | refine WL.skip rfl rfl rfl ?_
              | refine WL.build rfl rfl rfl rfl rfl ?_
              | (refine WL.slit hS rfl rfl rfl rfl rfl ?_; intro w b hS)
              | refine WL.eqS rfl rfl rfl rfl (by kernel_rfl) rfl rfl rfl ?_
              | refine WL.neS rfl rfl rfl rfl (by kernel_rfl) rfl rfl rfl ?_
              | ((fail_if_success (refine WL.wanted rfl ?_)); refine WL.guard rfl rfl rfl (fun h => ?_) (fun h => ?_) <;> (try simp only [Classical.not_not, Bool.not_eq_true', Bool.not_eq_false', Bool.not_eq_eq_eq_not, Bool.not_true, Bool.not_false, beq_iff_eq, beq_eq_false_iff_ne, ne_eq, decide_eq_decide, decide_eq_true_eq, decide_eq_false_iff_not, Bool.and_eq_true, Bool.or_eq_true, Bool.and_eq_false_iff, Bool.or_eq_false_iff] at h) <;> (try (exfalso; first | omega | contradiction))))
            | (show WC _ _ _ _ _ _; first
              | refine WC.seq ?_
              | refine WC.region ?_
              | refine WC.block ?_
              | refine WC.skip ?_
              | refine WC.exit ?_
              | refine WC.ret ?_
              | refine WC.condT rfl (by with_reducible rfl) ?_
              | refine WC.condF rfl (by with_reducible rfl) ?_
              | refine WC.condT rfl (by decide) ?_
              | refine WC.condF rfl (by decide) ?_
              | refine WC.condT rfl (decide_eq_true (by first | with_reducible assumption | omega)) ?_
              | refine WC.condF rfl (decide_eq_false (by first | with_reducible assumption | omega)) ?_
              | refine WC.condT rfl (by first | (simp; done) | (simp; omega)) ?_
              | refine WC.condF rfl (by first | (simp; done) | (simp; omega)) ?_
              | (refine WC.cond rfl (fun h => ?_) (fun h => ?_) <;> (try simp only [Classical.not_not, Bool.not_eq_true', Bool.not_eq_false', Bool.not_eq_eq_eq_not, Bool.not_true, Bool.not_false, beq_iff_eq, beq_eq_false_iff_ne, ne_eq, decide_eq_decide, decide_eq_true_eq, decide_eq_false_iff_not, Bool.and_eq_true, Bool.or_eq_true, Bool.and_eq_false_iff, Bool.or_eq_false_iff] at h) <;> (try (exfalso; first | omega | contradiction))))
            | (show WD _ _ _ _ _ _ _ _ _; first
              | refine WD.pure rfl rfl rfl rfl rfl ?_
              | refine WD.nil ?_
              | refine WD.load rfl rfl (LdOk.box (by repeat (first | exact List.Mem.head _ | apply List.Mem.tail)) rfl) rfl rfl rfl rfl ?_
              | refine WD.add rfl rfl rfl (by omega) rfl rfl rfl rfl ?_
              | refine WD.sub rfl rfl rfl (by omega) rfl rfl rfl rfl ?_
              | refine WD.conv64 rfl rfl rfl (by omega) rfl rfl rfl rfl ?_
              | refine WD.index rfl rfl rfl rfl (by first | with_reducible assumption | omega) rfl rfl rfl rfl rfl ?_
              | refine WD.index (j := 0) rfl rfl rfl rfl (by omega) rfl rfl rfl rfl rfl ?_
              | refine WD.indexArr rfl rfl rfl rfl (by decide) rfl rfl rfl rfl ?_
              | refine WD.pass rfl rfl rfl rfl ?_
              | refine WD.skip rfl rfl rfl rfl rfl (hM.ss hS) ?_
              | refine WD.build rfl rfl rfl rfl rfl rfl ?_
              | (refine WD.slit hS hM rfl rfl rfl rfl rfl rfl rfl ?_; intro w b hS hM)
              | refine WD.eqS rfl rfl rfl rfl (by kernel_rfl) rfl rfl rfl rfl ?_
              | refine WD.neS rfl rfl rfl rfl (by kernel_rfl) rfl rfl rfl rfl ?_
              | (refine WD.box hS hM rfl rfl rfl rfl rfl rfl rfl ?_; intro w b hS hM)
              | ((fail_if_success (refine WD.wanted rfl ?_)); refine WD.guard rfl rfl rfl (fun h => ?_) (fun h => ?_) <;> (try simp only [Classical.not_not, Bool.not_eq_true', Bool.not_eq_false', Bool.not_eq_eq_eq_not, Bool.not_true, Bool.not_false, beq_iff_eq, beq_eq_false_iff_ne, ne_eq, decide_eq_decide, decide_eq_true_eq, decide_eq_false_iff_not, Bool.and_eq_true, Bool.or_eq_true, Bool.and_eq_false_iff, Bool.or_eq_false_iff] at h) <;> (try (exfalso; first | omega | contradiction))))
            | refine seqQ_n ?_
            | refine blkQ_n ?_
            | refine seqQ_x ?_
            | refine seqQ_r ?_
            | refine blkQ_r ?_
            | refine blkQ_hit rfl ?_
            | refine blkQ_miss rfl ?_
            | refine rndQ_x ?_
            | refine rndQ_r ?_
            | refine rdQ_n ?_
            | refine rdQ_x ?_
            | refine rdQ_r ?_
            | refine cutQ_n ?_
            | refine cutQ_r ?_
            | refine cutQ_miss rfl ?_
            | refine endQ_x ?_
            | refine endQ_r ?_)
          exact finC2r hS rfl rfl (LdOk.boxAll (by repeat (first | exact List.Mem.head _ | apply List.Mem.tail)) rfl rfl) rfl ⟨hS.upd, rfl⟩
    · rw [if_pos hlen]
      clear hF hno
      rcases hK with ⟨hg, rfl⟩ | ⟨hg, rfl⟩
      all_goals
        repeat' (first
          | (show WL _ _ _ _ _ _ _; first
            | refine WL.pure rfl rfl rfl rfl ?_
            | refine WL.nil ?_
            | refine WL.load hS rfl rfl (LdOk.box (by repeat (first | exact List.Mem.head _ | apply List.Mem.tail)) rfl) rfl rfl rfl ?_
            | refine WL.add rfl rfl rfl (by omega) rfl rfl rfl ?_
            | refine WL.sub rfl rfl rfl (by omega) rfl rfl rfl ?_
            | (refine WL.callG rfl rfl (hc1 _) rfl rfl rfl ?_; rintro v w ⟨hu, A, cap, rfl, hn⟩; have hS := hS.new hu hn; clear hu hn; obtain ⟨ga, oa, rfl⟩ := hS.own_addr (List.Mem.head _) (Nat.succ_pos _))
            | refine WL.load hS rfl rfl (LdOk.own (by repeat (first | exact List.Mem.head _ | apply List.Mem.tail)) rfl) rfl rfl rfl ?_
            | refine WL.load hS rfl rfl (LdOk.ownAt (off := 1) (by repeat (first | exact List.Mem.head _ | apply List.Mem.tail)) rfl ⟨_, rfl⟩ rfl rfl) rfl rfl rfl ?_
            | refine WL.index (j := 1) rfl rfl rfl rfl (by decide) rfl rfl rfl rfl ?_
            | (refine WL.calls hS rfl rfl (hw _) rfl rfl rfl ?_; rintro v w rfl hS)
            | (refine WL.callG rfl rfl (hc2 _) rfl rfl rfl ?_; rintro v w ⟨hu, A2, cap2, rfl, hn⟩; have hS := hS.new hu hn; clear hu hn)
            | refine WL.conv64 rfl rfl rfl (by omega) rfl rfl rfl ?_
            | refine WL.cat rfl rfl rfl (by omega) rfl rfl rfl ?_
            | refine WL.idxS rfl rfl rfl rfl (by with_reducible assumption) rfl rfl rfl ?_
            | refine WL.lowS rfl rfl rfl rfl (by omega) rfl rfl rfl ?_
            | refine WL.highS rfl rfl rfl rfl (by omega) rfl rfl rfl ?_
            | refine WL.midS rfl rfl rfl rfl rfl (by omega) (by omega) rfl rfl rfl ?_
            | refine WL.maxI rfl rfl rfl rfl rfl rfl ?_
            | refine WL.minI rfl rfl rfl rfl rfl rfl ?_
            | (refine WL.store hS rfl rfl rfl (by repeat (first | exact StB.here rfl | apply StB.there)) rfl rfl rfl ?_; intro w hS)
            | (refine WL.box hS rfl rfl rfl rfl rfl ?_; intro w b hS)
            | (refine WL.alloc hS rfl rfl rfl rfl rfl rfl ?_; intro w b hS)
            | refine WL.index rfl rfl rfl rfl (by first | with_reducible assumption | omega) rfl rfl rfl rfl ?_
            | refine WL.index (j := 0) rfl rfl rfl rfl (by omega) rfl rfl rfl rfl ?_
            | refine WL.indexArr rfl rfl rfl rfl (by decide) rfl rfl rfl ?_
            | refine WL.skip rfl rfl rfl ?_
            | refine WL.build rfl rfl rfl rfl rfl ?_
            | (refine WL.slit hS rfl rfl rfl rfl rfl ?_; intro w b hS)
            | refine WL.eqS rfl rfl rfl rfl (by kernel_rfl) rfl rfl rfl ?_
            | refine WL.neS rfl rfl rfl rfl (by kernel_rfl) rfl rfl rfl ?_
            | ((fail_if_success (refine WL.wanted rfl ?_)); refine WL.guard rfl rfl rfl (fun h => ?_) (fun h => ?_) <;> (try simp only [Classical.not_not, Bool.not_eq_true', Bool.not_eq_false', Bool.not_eq_eq_eq_not, Bool.not_true, Bool.not_false, beq_iff_eq, beq_eq_false_iff_ne, ne_eq, decide_eq_decide, decide_eq_true_eq, decide_eq_false_iff_not, Bool.and_eq_true, Bool.or_eq_true, Bool.and_eq_false_iff, Bool.or_eq_false_iff] at h) <;> (try (exfalso; first | omega | contradiction))))
          | (show WC _ _ _ _ _ _; first
            | refine WC.seq ?_
            | refine WC.region ?_
            | refine WC.block ?_
            | refine WC.skip ?_
            | refine WC.exit ?_
            | refine WC.ret ?_
            | refine WC.condT rfl (by with_reducible rfl) ?_
            | refine WC.condF rfl (by with_reducible rfl) ?_
            | refine WC.condT rfl (by decide) ?_
            | refine WC.condF rfl (by decide) ?_
            | refine WC.condT rfl (decide_eq_true (by first | with_reducible assumption | omega)) ?_
            | refine WC.condF rfl (decide_eq_false (by first | with_reducible assumption | omega)) ?_
            | refine WC.condT rfl (by first | (simp; done) | (simp; omega)) ?_
            | refine WC.condF rfl (by first | (simp; done) | (simp; omega)) ?_
            | (refine WC.cond rfl (fun h => ?_) (fun h => ?_) <;> (try simp only [Classical.not_not, Bool.not_eq_true', Bool.not_eq_false', Bool.not_eq_eq_eq_not, Bool.not_true, Bool.not_false, beq_iff_eq, beq_eq_false_iff_ne, ne_eq, decide_eq_decide, decide_eq_true_eq, decide_eq_false_iff_not, Bool.and_eq_true, Bool.or_eq_true, Bool.and_eq_false_iff, Bool.or_eq_false_iff] at h) <;> (try (exfalso; first | omega | contradiction))))
          | (show WD _ _ _ _ _ _ _ _ _; first
            | refine WD.pure rfl rfl rfl rfl rfl ?_
            | refine WD.nil ?_
            | refine WD.load rfl rfl (LdOk.box (by repeat (first | exact List.Mem.head _ | apply List.Mem.tail)) rfl) rfl rfl rfl rfl ?_
            | refine WD.add rfl rfl rfl (by omega) rfl rfl rfl rfl ?_
            | refine WD.sub rfl rfl rfl (by omega) rfl rfl rfl rfl ?_
            | refine WD.conv64 rfl rfl rfl (by omega) rfl rfl rfl rfl ?_
            | refine WD.index rfl rfl rfl rfl (by first | with_reducible assumption | omega) rfl rfl rfl rfl rfl ?_
            | refine WD.index (j := 0) rfl rfl rfl rfl (by omega) rfl rfl rfl rfl rfl ?_
            | refine WD.indexArr rfl rfl rfl rfl (by decide) rfl rfl rfl rfl ?_
            | refine WD.pass rfl rfl rfl rfl ?_
            | refine WD.skip rfl rfl rfl rfl rfl (hM.ss hS) ?_
            | refine WD.build rfl rfl rfl rfl rfl rfl ?_
            | (refine WD.slit hS hM rfl rfl rfl rfl rfl rfl rfl ?_; intro w b hS hM)
            | refine WD.eqS rfl rfl rfl rfl (by kernel_rfl) rfl rfl rfl rfl ?_
            | refine WD.neS rfl rfl rfl rfl (by kernel_rfl) rfl rfl rfl rfl ?_
            | (refine WD.box hS hM rfl rfl rfl rfl rfl rfl rfl ?_; intro w b hS hM)
            | ((fail_if_success (refine WD.wanted rfl ?_)); refine WD.guard rfl rfl rfl (fun h => ?_) (fun h => ?_) <;> (try simp only [Classical.not_not, Bool.not_eq_true', Bool.not_eq_false', Bool.not_eq_eq_eq_not, Bool.not_true, Bool.not_false, beq_iff_eq, beq_eq_false_iff_ne, ne_eq, decide_eq_decide, decide_eq_true_eq, decide_eq_false_iff_not, Bool.and_eq_true, Bool.or_eq_true, Bool.and_eq_false_iff, Bool.or_eq_false_iff] at h) <;> (try (exfalso; first | omega | contradiction))))
          | refine seqQ_n ?_
          | refine blkQ_n ?_
          | refine seqQ_x ?_
          | refine seqQ_r ?_
          | refine blkQ_r ?_
          | refine blkQ_hit rfl ?_
          | refine blkQ_miss rfl ?_
          | refine rndQ_x ?_
          | refine rndQ_r ?_
          | refine rdQ_n ?_
          | refine rdQ_x ?_
          | refine rdQ_r ?_
          | refine cutQ_n ?_
          | refine cutQ_r ?_
          | refine cutQ_miss rfl ?_
          | refine endQ_x ?_
          | refine endQ_r ?_)
        exact finC2r hS rfl rfl (LdOk.boxAll (by repeat (first | exact List.Mem.head _ | apply List.Mem.tail)) rfl rfl) rfl ⟨hS.upd, rfl⟩
  · rw [hww] at hc1
    have hc1 : ∀ w0, Cal Tryd.prog 21 [str line, .int .i64 2] w0 (fun v w' => Upd [] w0 w' ∧ ∃ A cap, v = .slice A 1 cap ∧ New w0 w' (rowC A cap [line])) := hc1
    rw [hlw] at hwl hrl ⊢
    clear hcc hww hlw
    dsimp only at hwl hrl ⊢
    have hw := fun w0 => words_c line w0
    unfold wordsN at hw
    rcases hs : shapeE line with _ | form
    · rw [hs] at hw
      have hw : ∀ w0, Cal Tryd.prog 22 [str line] w0 (fun v w' => Upd [] w0 w' ∧ v = .int .i64 (-1)) := hw
      repeat' (first
        | (show WL _ _ _ _ _ _ _; first
          | refine WL.pure rfl rfl rfl rfl ?_
          | refine WL.nil ?_
          | refine WL.load hS rfl rfl (LdOk.box (by repeat (first | exact List.Mem.head _ | apply List.Mem.tail)) rfl) rfl rfl rfl ?_
          | refine WL.add rfl rfl rfl (by omega) rfl rfl rfl ?_
          | refine WL.sub rfl rfl rfl (by omega) rfl rfl rfl ?_
          | (refine WL.callG rfl rfl (hc1 _) rfl rfl rfl ?_; rintro v w ⟨hu, A, cap, rfl, hn⟩; have hS := hS.new hu hn; clear hu hn; obtain ⟨ga, oa, rfl⟩ := hS.own_addr (List.Mem.head _) (Nat.succ_pos _))
          | refine WL.load hS rfl rfl (LdOk.own (by repeat (first | exact List.Mem.head _ | apply List.Mem.tail)) rfl) rfl rfl rfl ?_
          | (refine WL.calls hS rfl rfl (hw _) rfl rfl rfl ?_; rintro v w rfl hS)
          | refine WL.conv64 rfl rfl rfl (by omega) rfl rfl rfl ?_
          | refine WL.cat rfl rfl rfl (by omega) rfl rfl rfl ?_
          | refine WL.idxS rfl rfl rfl rfl (by with_reducible assumption) rfl rfl rfl ?_
          | refine WL.lowS rfl rfl rfl rfl (by omega) rfl rfl rfl ?_
          | refine WL.highS rfl rfl rfl rfl (by omega) rfl rfl rfl ?_
          | refine WL.midS rfl rfl rfl rfl rfl (by omega) (by omega) rfl rfl rfl ?_
          | refine WL.maxI rfl rfl rfl rfl rfl rfl ?_
          | refine WL.minI rfl rfl rfl rfl rfl rfl ?_
          | (refine WL.store hS rfl rfl rfl (by repeat (first | exact StB.here rfl | apply StB.there)) rfl rfl rfl ?_; intro w hS)
          | (refine WL.box hS rfl rfl rfl rfl rfl ?_; intro w b hS)
          | (refine WL.alloc hS rfl rfl rfl rfl rfl rfl ?_; intro w b hS)
          | refine WL.index rfl rfl rfl rfl (by first | with_reducible assumption | omega) rfl rfl rfl rfl ?_
          | refine WL.index (j := 0) rfl rfl rfl rfl (by omega) rfl rfl rfl rfl ?_
          | refine WL.indexArr rfl rfl rfl rfl (by decide) rfl rfl rfl ?_
          | refine WL.skip rfl rfl rfl ?_
          | refine WL.build rfl rfl rfl rfl rfl ?_
          | (refine WL.slit hS rfl rfl rfl rfl rfl ?_; intro w b hS)
          | refine WL.eqS rfl rfl rfl rfl (by kernel_rfl) rfl rfl rfl ?_
          | refine WL.neS rfl rfl rfl rfl (by kernel_rfl) rfl rfl rfl ?_
          | ((fail_if_success (refine WL.wanted rfl ?_)); refine WL.guard rfl rfl rfl (fun h => ?_) (fun h => ?_) <;> (try simp only [Classical.not_not, Bool.not_eq_true', Bool.not_eq_false', Bool.not_eq_eq_eq_not, Bool.not_true, Bool.not_false, beq_iff_eq, beq_eq_false_iff_ne, ne_eq, decide_eq_decide, decide_eq_true_eq, decide_eq_false_iff_not, Bool.and_eq_true, Bool.or_eq_true, Bool.and_eq_false_iff, Bool.or_eq_false_iff] at h) <;> (try (exfalso; first | omega | contradiction))))
        | (show WC _ _ _ _ _ _; first
          | refine WC.seq ?_
          | refine WC.region ?_
          | refine WC.block ?_
          | refine WC.skip ?_
          | refine WC.exit ?_
          | refine WC.ret ?_
          | refine WC.condT rfl (by with_reducible rfl) ?_
          | refine WC.condF rfl (by with_reducible rfl) ?_
          | refine WC.condT rfl (by decide) ?_
          | refine WC.condF rfl (by decide) ?_
          | refine WC.condT rfl (decide_eq_true (by first | with_reducible assumption | omega)) ?_
          | refine WC.condF rfl (decide_eq_false (by first | with_reducible assumption | omega)) ?_
          | refine WC.condT rfl (by first | (simp; done) | (simp; omega)) ?_
          | refine WC.condF rfl (by first | (simp; done) | (simp; omega)) ?_
          | (refine WC.cond rfl (fun h => ?_) (fun h => ?_) <;> (try simp only [Classical.not_not, Bool.not_eq_true', Bool.not_eq_false', Bool.not_eq_eq_eq_not, Bool.not_true, Bool.not_false, beq_iff_eq, beq_eq_false_iff_ne, ne_eq, decide_eq_decide, decide_eq_true_eq, decide_eq_false_iff_not, Bool.and_eq_true, Bool.or_eq_true, Bool.and_eq_false_iff, Bool.or_eq_false_iff] at h) <;> (try (exfalso; first | omega | contradiction))))
        | (show WD _ _ _ _ _ _ _ _ _; first
          | refine WD.pure rfl rfl rfl rfl rfl ?_
          | refine WD.nil ?_
          | refine WD.load rfl rfl (LdOk.box (by repeat (first | exact List.Mem.head _ | apply List.Mem.tail)) rfl) rfl rfl rfl rfl ?_
          | refine WD.add rfl rfl rfl (by omega) rfl rfl rfl rfl ?_
          | refine WD.sub rfl rfl rfl (by omega) rfl rfl rfl rfl ?_
          | refine WD.conv64 rfl rfl rfl (by omega) rfl rfl rfl rfl ?_
          | refine WD.index rfl rfl rfl rfl (by first | with_reducible assumption | omega) rfl rfl rfl rfl rfl ?_
          | refine WD.index (j := 0) rfl rfl rfl rfl (by omega) rfl rfl rfl rfl rfl ?_
          | refine WD.indexArr rfl rfl rfl rfl (by decide) rfl rfl rfl rfl ?_
          | refine WD.pass rfl rfl rfl rfl ?_
          | refine WD.skip rfl rfl rfl rfl rfl (hM.ss hS) ?_
          | refine WD.build rfl rfl rfl rfl rfl rfl ?_
          | (refine WD.slit hS hM rfl rfl rfl rfl rfl rfl rfl ?_; intro w b hS hM)
          | refine WD.eqS rfl rfl rfl rfl (by kernel_rfl) rfl rfl rfl rfl ?_
          | refine WD.neS rfl rfl rfl rfl (by kernel_rfl) rfl rfl rfl rfl ?_
          | (refine WD.box hS hM rfl rfl rfl rfl rfl rfl rfl ?_; intro w b hS hM)
          | ((fail_if_success (refine WD.wanted rfl ?_)); refine WD.guard rfl rfl rfl (fun h => ?_) (fun h => ?_) <;> (try simp only [Classical.not_not, Bool.not_eq_true', Bool.not_eq_false', Bool.not_eq_eq_eq_not, Bool.not_true, Bool.not_false, beq_iff_eq, beq_eq_false_iff_ne, ne_eq, decide_eq_decide, decide_eq_true_eq, decide_eq_false_iff_not, Bool.and_eq_true, Bool.or_eq_true, Bool.and_eq_false_iff, Bool.or_eq_false_iff] at h) <;> (try (exfalso; first | omega | contradiction))))
        | refine seqQ_n ?_
        | refine blkQ_n ?_
        | refine seqQ_x ?_
        | refine seqQ_r ?_
        | refine blkQ_r ?_
        | refine blkQ_hit rfl ?_
        | refine blkQ_miss rfl ?_
        | refine rndQ_x ?_
        | refine rndQ_r ?_
        | refine rdQ_n ?_
        | refine rdQ_x ?_
        | refine rdQ_r ?_
        | refine cutQ_n ?_
        | refine cutQ_r ?_
        | refine cutQ_miss rfl ?_
        | refine endQ_x ?_
        | refine endQ_r ?_)
      exact finC2r hS rfl rfl (LdOk.boxAll (by repeat (first | exact List.Mem.head _ | apply List.Mem.tail)) rfl rfl) rfl ⟨hS.upd, rfl⟩
    rw [hs] at hw
    have hw : ∀ w0, Cal Tryd.prog 22 [str line] w0 (fun v w' => Upd [] w0 w' ∧ v = .int .i64 (form.length : Int)) := hw
    dsimp only
    by_cases hne : form = []
    · subst hne
      rw [if_neg (by decide), if_pos rfl]
      have hw : ∀ w0, Cal Tryd.prog 22 [str line] w0 (fun v w' => Upd [] w0 w' ∧ v = .int .i64 0) := hw
      repeat' (first
        | (show WL _ _ _ _ _ _ _; first
          | refine WL.pure rfl rfl rfl rfl ?_
          | refine WL.nil ?_
          | refine WL.load hS rfl rfl (LdOk.box (by repeat (first | exact List.Mem.head _ | apply List.Mem.tail)) rfl) rfl rfl rfl ?_
          | refine WL.add rfl rfl rfl (by omega) rfl rfl rfl ?_
          | refine WL.sub rfl rfl rfl (by omega) rfl rfl rfl ?_
          | (refine WL.callG rfl rfl (hc1 _) rfl rfl rfl ?_; rintro v w ⟨hu, A, cap, rfl, hn⟩; have hS := hS.new hu hn; clear hu hn; obtain ⟨ga, oa, rfl⟩ := hS.own_addr (List.Mem.head _) (Nat.succ_pos _))
          | refine WL.load hS rfl rfl (LdOk.own (by repeat (first | exact List.Mem.head _ | apply List.Mem.tail)) rfl) rfl rfl rfl ?_
          | (refine WL.calls hS rfl rfl (hw _) rfl rfl rfl ?_; rintro v w rfl hS)
          | refine WL.conv64 rfl rfl rfl (by omega) rfl rfl rfl ?_
          | refine WL.cat rfl rfl rfl (by omega) rfl rfl rfl ?_
          | refine WL.idxS rfl rfl rfl rfl (by with_reducible assumption) rfl rfl rfl ?_
          | refine WL.lowS rfl rfl rfl rfl (by omega) rfl rfl rfl ?_
          | refine WL.highS rfl rfl rfl rfl (by omega) rfl rfl rfl ?_
          | refine WL.midS rfl rfl rfl rfl rfl (by omega) (by omega) rfl rfl rfl ?_
          | refine WL.maxI rfl rfl rfl rfl rfl rfl ?_
          | refine WL.minI rfl rfl rfl rfl rfl rfl ?_
          | (refine WL.store hS rfl rfl rfl (by repeat (first | exact StB.here rfl | apply StB.there)) rfl rfl rfl ?_; intro w hS)
          | (refine WL.box hS rfl rfl rfl rfl rfl ?_; intro w b hS)
          | (refine WL.alloc hS rfl rfl rfl rfl rfl rfl ?_; intro w b hS)
          | refine WL.index rfl rfl rfl rfl (by first | with_reducible assumption | omega) rfl rfl rfl rfl ?_
          | refine WL.index (j := 0) rfl rfl rfl rfl (by omega) rfl rfl rfl rfl ?_
          | refine WL.indexArr rfl rfl rfl rfl (by decide) rfl rfl rfl ?_
          | refine WL.skip rfl rfl rfl ?_
          | refine WL.build rfl rfl rfl rfl rfl ?_
          | (refine WL.slit hS rfl rfl rfl rfl rfl ?_; intro w b hS)
          | refine WL.eqS rfl rfl rfl rfl (by kernel_rfl) rfl rfl rfl ?_
          | refine WL.neS rfl rfl rfl rfl (by kernel_rfl) rfl rfl rfl ?_
          | ((fail_if_success (refine WL.wanted rfl ?_)); refine WL.guard rfl rfl rfl (fun h => ?_) (fun h => ?_) <;> (try simp only [Classical.not_not, Bool.not_eq_true', Bool.not_eq_false', Bool.not_eq_eq_eq_not, Bool.not_true, Bool.not_false, beq_iff_eq, beq_eq_false_iff_ne, ne_eq, decide_eq_decide, decide_eq_true_eq, decide_eq_false_iff_not, Bool.and_eq_true, Bool.or_eq_true, Bool.and_eq_false_iff, Bool.or_eq_false_iff] at h) <;> (try (exfalso; first | omega | contradiction))))
        | (show WC _ _ _ _ _ _; first
          | refine WC.seq ?_
          | refine WC.region ?_
          | refine WC.block ?_
          | refine WC.skip ?_
          | refine WC.exit ?_
          | refine WC.ret ?_
          | refine WC.condT rfl (by with_reducible rfl) ?_
          | refine WC.condF rfl (by with_reducible rfl) ?_
          | refine WC.condT rfl (by decide) ?_
          | refine WC.condF rfl (by decide) ?_
          | refine WC.condT rfl (decide_eq_true (by first | with_reducible assumption | omega)) ?_
          | refine WC.condF rfl (decide_eq_false (by first | with_reducible assumption | omega)) ?_
          | refine WC.condT rfl (by first | (simp; done) | (simp; omega)) ?_
          | refine WC.condF rfl (by first | (simp; done) | (simp; omega)) ?_
          | (refine WC.cond rfl (fun h => ?_) (fun h => ?_) <;> (try simp only [Classical.not_not, Bool.not_eq_true', Bool.not_eq_false', Bool.not_eq_eq_eq_not, Bool.not_true, Bool.not_false, beq_iff_eq, beq_eq_false_iff_ne, ne_eq, decide_eq_decide, decide_eq_true_eq, decide_eq_false_iff_not, Bool.and_eq_true, Bool.or_eq_true, Bool.and_eq_false_iff, Bool.or_eq_false_iff] at h) <;> (try (exfalso; first | omega | contradiction))))
        | (show WD _ _ _ _ _ _ _ _ _; first
          | refine WD.pure rfl rfl rfl rfl rfl ?_
          | refine WD.nil ?_
          | refine WD.load rfl rfl (LdOk.box (by repeat (first | exact List.Mem.head _ | apply List.Mem.tail)) rfl) rfl rfl rfl rfl ?_
          | refine WD.add rfl rfl rfl (by omega) rfl rfl rfl rfl ?_
          | refine WD.sub rfl rfl rfl (by omega) rfl rfl rfl rfl ?_
          | refine WD.conv64 rfl rfl rfl (by omega) rfl rfl rfl rfl ?_
          | refine WD.index rfl rfl rfl rfl (by first | with_reducible assumption | omega) rfl rfl rfl rfl rfl ?_
          | refine WD.index (j := 0) rfl rfl rfl rfl (by omega) rfl rfl rfl rfl rfl ?_
          | refine WD.indexArr rfl rfl rfl rfl (by decide) rfl rfl rfl rfl ?_
          | refine WD.pass rfl rfl rfl rfl ?_
          | refine WD.skip rfl rfl rfl rfl rfl (hM.ss hS) ?_
          | refine WD.build rfl rfl rfl rfl rfl rfl ?_
          | (refine WD.slit hS hM rfl rfl rfl rfl rfl rfl rfl ?_; intro w b hS hM)
          | refine WD.eqS rfl rfl rfl rfl (by kernel_rfl) rfl rfl rfl rfl ?_
          | refine WD.neS rfl rfl rfl rfl (by kernel_rfl) rfl rfl rfl rfl ?_
          | (refine WD.box hS hM rfl rfl rfl rfl rfl rfl rfl ?_; intro w b hS hM)
          | ((fail_if_success (refine WD.wanted rfl ?_)); refine WD.guard rfl rfl rfl (fun h => ?_) (fun h => ?_) <;> (try simp only [Classical.not_not, Bool.not_eq_true', Bool.not_eq_false', Bool.not_eq_eq_eq_not, Bool.not_true, Bool.not_false, beq_iff_eq, beq_eq_false_iff_ne, ne_eq, decide_eq_decide, decide_eq_true_eq, decide_eq_false_iff_not, Bool.and_eq_true, Bool.or_eq_true, Bool.and_eq_false_iff, Bool.or_eq_false_iff] at h) <;> (try (exfalso; first | omega | contradiction))))
        | refine seqQ_n ?_
        | refine blkQ_n ?_
        | refine seqQ_x ?_
        | refine seqQ_r ?_
        | refine blkQ_r ?_
        | refine blkQ_hit rfl ?_
        | refine blkQ_miss rfl ?_
        | refine rndQ_x ?_
        | refine rndQ_r ?_
        | refine rdQ_n ?_
        | refine rdQ_x ?_
        | refine rdQ_r ?_
        | refine cutQ_n ?_
        | refine cutQ_r ?_
        | refine cutQ_miss rfl ?_
        | refine endQ_x ?_
        | refine endQ_r ?_)
      exact finC2r hS rfl rfl (LdOk.boxAll (by repeat (first | exact List.Mem.head _ | apply List.Mem.tail)) rfl rfl) rfl ⟨hS.upd, rfl⟩
    have hf1 : 1 ≤ form.length := by rcases form with _ | ⟨a, b⟩; exact absurd rfl hne; simp
    rw [if_pos (by rw [decide_eq_true (show form ≠ [] from hne)]; decide)]
    clear hs
    repeat' (first
      | (show WL _ _ _ _ _ _ _; first
        | refine WL.pure rfl rfl rfl rfl ?_
        | refine WL.nil ?_
        | refine WL.load hS rfl rfl (LdOk.box (by repeat (first | exact List.Mem.head _ | apply List.Mem.tail)) rfl) rfl rfl rfl ?_
        | refine WL.add rfl rfl rfl (by omega) rfl rfl rfl ?_
        | refine WL.sub rfl rfl rfl (by omega) rfl rfl rfl ?_
        | (refine WL.callG rfl rfl (hc1 _) rfl rfl rfl ?_; rintro v w ⟨hu, A, cap, rfl, hn⟩; have hS := hS.new hu hn; clear hu hn; obtain ⟨ga, oa, rfl⟩ := hS.own_addr (List.Mem.head _) (Nat.succ_pos _))
        | refine WL.load hS rfl rfl (LdOk.own (by repeat (first | exact List.Mem.head _ | apply List.Mem.tail)) rfl) rfl rfl rfl ?_
        | (refine WL.calls hS rfl rfl (hw _) rfl rfl rfl ?_; rintro v w rfl hS)
        | refine WL.conv64 rfl rfl rfl (by omega) rfl rfl rfl ?_
        | refine WL.cat rfl rfl rfl (by omega) rfl rfl rfl ?_
        | refine WL.idxS rfl rfl rfl rfl (by with_reducible assumption) rfl rfl rfl ?_
        | refine WL.lowS rfl rfl rfl rfl (by omega) rfl rfl rfl ?_
        | refine WL.highS rfl rfl rfl rfl (by omega) rfl rfl rfl ?_
        | refine WL.midS rfl rfl rfl rfl rfl (by omega) (by omega) rfl rfl rfl ?_
        | refine WL.maxI rfl rfl rfl rfl rfl rfl ?_
        | refine WL.minI rfl rfl rfl rfl rfl rfl ?_
        | (refine WL.store hS rfl rfl rfl (by repeat (first | exact StB.here rfl | apply StB.there)) rfl rfl rfl ?_; intro w hS)
        | (refine WL.box hS rfl rfl rfl rfl rfl ?_; intro w b hS)
        | (refine WL.alloc hS rfl rfl rfl rfl rfl rfl ?_; intro w b hS)
        | refine WL.index rfl rfl rfl rfl (by first | with_reducible assumption | omega) rfl rfl rfl rfl ?_
        | refine WL.index (j := 0) rfl rfl rfl rfl (by omega) rfl rfl rfl rfl ?_
        | refine WL.indexArr rfl rfl rfl rfl (by decide) rfl rfl rfl ?_
        | refine WL.skip rfl rfl rfl ?_
        | refine WL.build rfl rfl rfl rfl rfl ?_
        | (refine WL.slit hS rfl rfl rfl rfl rfl ?_; intro w b hS)
        | refine WL.eqS rfl rfl rfl rfl (by kernel_rfl) rfl rfl rfl ?_
        | refine WL.neS rfl rfl rfl rfl (by kernel_rfl) rfl rfl rfl ?_
        | ((fail_if_success (refine WL.wanted rfl ?_)); refine WL.guard rfl rfl rfl (fun h => ?_) (fun h => ?_) <;> (try simp only [Classical.not_not, Bool.not_eq_true', Bool.not_eq_false', Bool.not_eq_eq_eq_not, Bool.not_true, Bool.not_false, beq_iff_eq, beq_eq_false_iff_ne, ne_eq, decide_eq_decide, decide_eq_true_eq, decide_eq_false_iff_not, Bool.and_eq_true, Bool.or_eq_true, Bool.and_eq_false_iff, Bool.or_eq_false_iff] at h) <;> (try (exfalso; first | omega | contradiction))))
      | (show WC _ _ _ _ _ _; first
        | refine WC.seq ?_
        | refine WC.region ?_
        | refine WC.block ?_
        | refine WC.skip ?_
        | refine WC.exit ?_
        | refine WC.ret ?_
        | refine WC.condT rfl (by with_reducible rfl) ?_
        | refine WC.condF rfl (by with_reducible rfl) ?_
        | refine WC.condT rfl (by decide) ?_
        | refine WC.condF rfl (by decide) ?_
        | refine WC.condT rfl (decide_eq_true (by first | with_reducible assumption | omega)) ?_
        | refine WC.condF rfl (decide_eq_false (by first | with_reducible assumption | omega)) ?_
        | refine WC.condT rfl (by first | (simp; done) | (simp; omega)) ?_
        | refine WC.condF rfl (by first | (simp; done) | (simp; omega)) ?_
        | (refine WC.cond rfl (fun h => ?_) (fun h => ?_) <;> (try simp only [Classical.not_not, Bool.not_eq_true', Bool.not_eq_false', Bool.not_eq_eq_eq_not, Bool.not_true, Bool.not_false, beq_iff_eq, beq_eq_false_iff_ne, ne_eq, decide_eq_decide, decide_eq_true_eq, decide_eq_false_iff_not, Bool.and_eq_true, Bool.or_eq_true, Bool.and_eq_false_iff, Bool.or_eq_false_iff] at h) <;> (try (exfalso; first | omega | contradiction))))
      | (show WD _ _ _ _ _ _ _ _ _; first
        | refine WD.pure rfl rfl rfl rfl rfl ?_
        | refine WD.nil ?_
        | refine WD.load rfl rfl (LdOk.box (by repeat (first | exact List.Mem.head _ | apply List.Mem.tail)) rfl) rfl rfl rfl rfl ?_
        | refine WD.add rfl rfl rfl (by omega) rfl rfl rfl rfl ?_
        | refine WD.sub rfl rfl rfl (by omega) rfl rfl rfl rfl ?_
        | refine WD.conv64 rfl rfl rfl (by omega) rfl rfl rfl rfl ?_
        | refine WD.index rfl rfl rfl rfl (by first | with_reducible assumption | omega) rfl rfl rfl rfl rfl ?_
        | refine WD.index (j := 0) rfl rfl rfl rfl (by omega) rfl rfl rfl rfl rfl ?_
        | refine WD.indexArr rfl rfl rfl rfl (by decide) rfl rfl rfl rfl ?_
        | refine WD.pass rfl rfl rfl rfl ?_
        | refine WD.skip rfl rfl rfl rfl rfl (hM.ss hS) ?_
        | refine WD.build rfl rfl rfl rfl rfl rfl ?_
        | (refine WD.slit hS hM rfl rfl rfl rfl rfl rfl rfl ?_; intro w b hS hM)
        | refine WD.eqS rfl rfl rfl rfl (by kernel_rfl) rfl rfl rfl rfl ?_
        | refine WD.neS rfl rfl rfl rfl (by kernel_rfl) rfl rfl rfl rfl ?_
        | (refine WD.box hS hM rfl rfl rfl rfl rfl rfl rfl ?_; intro w b hS hM)
        | ((fail_if_success (refine WD.wanted rfl ?_)); refine WD.guard rfl rfl rfl (fun h => ?_) (fun h => ?_) <;> (try simp only [Classical.not_not, Bool.not_eq_true', Bool.not_eq_false', Bool.not_eq_eq_eq_not, Bool.not_true, Bool.not_false, beq_iff_eq, beq_eq_false_iff_ne, ne_eq, decide_eq_decide, decide_eq_true_eq, decide_eq_false_iff_not, Bool.and_eq_true, Bool.or_eq_true, Bool.and_eq_false_iff, Bool.or_eq_false_iff] at h) <;> (try (exfalso; first | omega | contradiction))))
      | refine seqQ_n ?_
      | refine blkQ_n ?_
      | refine seqQ_x ?_
      | refine seqQ_r ?_
      | refine blkQ_r ?_
      | refine blkQ_hit rfl ?_
      | refine blkQ_miss rfl ?_
      | refine rndQ_x ?_
      | refine rndQ_r ?_
      | refine rdQ_n ?_
      | refine rdQ_x ?_
      | refine rdQ_r ?_
      | refine cutQ_n ?_
      | refine cutQ_r ?_
      | refine cutQ_miss rfl ?_
      | refine endQ_x ?_
      | refine endQ_r ?_)
    exact finC2r hS rfl rfl (LdOk.boxAll (by repeat (first | exact List.Mem.head _ | apply List.Mem.tail)) rfl rfl) rfl ⟨hS.upd, rfl⟩
end Go.Proofs.YtcegmpijknpgeaaDoor
