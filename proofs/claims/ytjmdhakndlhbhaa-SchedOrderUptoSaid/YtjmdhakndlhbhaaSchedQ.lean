/- What is proved: what the program's queue of jobs answers. Conditions: none. -/
import Derived.Test.YtjmdhakndlhbhaaRows
import Derived.Test.YtjmdhakndlhbhaaJK
import Derived.Test.YtjmdhakndlhbhaaJN
import Derived.Test.YtjmdhakndlhbhaaJQ
set_option linter.unusedSimpArgs false
set_option linter.unusedVariables false
namespace Go.Proofs.Ytjmdhakndlhbhaa
open Go Go.J Go.RowKit

def ints (l : List Int) : List Value := l.flatMap fun n => [Value.int .i64 n]
theorem ints_len (l : List Int) : (ints l).length = l.length := by unfold ints; rw [flat_len (sz := 1) (fun _ => rfl), Nat.mul_one]
theorem ints_snoc (l : List Int) (x : Int) : ints l ++ [.int .i64 x] = ints (l ++ [x]) := by simp [ints]
theorem ints_cons (l : List Int) (x : Int) : ints (x :: l) = .int .i64 x :: ints l := by simp [ints]

/-- a queue at block q: two channels of 32 -/
def QIs (q : Nat) (u s : List Int) (fp : List Nat) (w : World) : Prop :=
  ∃ cu cs, fp = [q, cu, cs] ∧ q ≠ cu ∧ q ≠ cs ∧ cu ≠ cs ∧ w.heap[q]? = some (.cells ⟨[.chan (some cu), .chan (some cs)]⟩ 62 (0, 0)) ∧ ChIs cu 32 (ints u) w ∧ ChIs cs 32 (ints s) w
theorem QIs.local {q : Nat} {u s : List Int} {fp : List Nat} : Local fp (QIs q u s fp) := fun w w' h ⟨cu, cs, e, h1, h2, h3, hq, hu, hs⟩ => by
  subst e
  exact ⟨cu, cs, rfl, h1, h2, h3, (h q (by simp)).trans hq, ChIs.local w w' (fun b hb => h b (by simp at hb; simp [hb])) hu, ChIs.local w w' (fun b hb => h b (by simp at hb; simp [hb])) hs⟩
abbrev qC (q : Nat) (u s : List Int) (fp : List Nat) : Chunk := .obj fp (QIs q u s fp)
theorem St.qOpen {w0 w : World} {M : List Nat} {H : List Chunk} {Z : List Snap} {q : Nat} {u s : List Int} {fp : List Nat} (hS : St w0 M w (qC q u s fp :: H) Z) :
    ∃ cu cs, fp = [q, cu, cs] ∧ q ≠ cu ∧ q ≠ cs ∧ cu ≠ cs ∧ St w0 M w (.box q 62 [.chan (some cu), .chan (some cs)] :: chC cu 32 (ints u) :: chC cs 32 (ints s) :: H) Z := by
  obtain ⟨cu, cs, e, h1, h2, h3, hq, hu, hs⟩ := (hS.holds _ (List.Mem.head _)).1
  subst e
  refine ⟨cu, cs, rfl, h1, h2, h3, hS.opens (D := [.box q 62 [.chan (some cu), .chan (some cs)], chC cu 32 (ints u), chC cs 32 (ints s)]) ?_ ?_ ?_⟩
  · simp [Chunk.holds, hq]; exact ⟨⟨hu, ChIs.local⟩, hs, ChIs.local⟩
  · simp [Chunk.apart, Chunk.fp, h1, h2, h3]
  · simp [Chunk.fp]
theorem St.qClose {w0 w : World} {M : List Nat} {H : List Chunk} {Z : List Snap} {q cu cs : Nat} {u s : List Int} (h1 : q ≠ cu) (h2 : q ≠ cs) (h3 : cu ≠ cs) (hS : St w0 M w (.box q 62 [.chan (some cu), .chan (some cs)] :: chC cu 32 (ints u) :: chC cs 32 (ints s) :: H) Z) : St w0 M w (qC q u s [q, cu, cs] :: H) Z := by
  refine hS.closes (D := [.box q 62 [.chan (some cu), .chan (some cs)], chC cu 32 (ints u), chC cs 32 (ints s)]) ⟨⟨cu, cs, rfl, h1, h2, h3, hS.holds _ (List.Mem.head _), (hS.holds (chC cu 32 (ints u)) (by simp)).1, (hS.holds (chC cs 32 (ints s)) (by simp)).1⟩, QIs.local⟩ ?_
  simp [Chunk.fp]

set_option maxHeartbeats 4000000 in
theorem qnew_c (w0 : World) : Cal Try.prog 21 [] w0 (fun v w' => Upd [] w0 w' ∧ ∃ q fp, v = .pointer (some ⟨q, 0, none⟩) ∧ New w0 w' (qC q [] [] fp)) := by
  refine Cal.mk' (by kernel_rfl) Try.func21 rfl rfl fun hS => ?_
  repeat' (first
    | (show WL _ _ _ _ _ _ _; first
      | refine WL.pure rfl rfl rfl rfl ?_
      | refine WL.nil ?_
      | refine WL.load hS rfl rfl (LdOk.box (by repeat (first | exact List.Mem.head _ | apply List.Mem.tail)) rfl) rfl rfl rfl ?_
      | refine WL.add rfl rfl rfl (by omega) rfl rfl rfl ?_
      | refine WL.sub rfl rfl rfl (by omega) rfl rfl rfl ?_
      | (refine WL.store hS rfl rfl rfl (by repeat (first | exact StB.here rfl | apply StB.there)) rfl rfl rfl ?_; intro w hS)
      | (refine WL.box hS rfl rfl rfl rfl rfl ?_; intro w b hS)
      | (refine WL.alloc hS rfl rfl rfl rfl rfl rfl ?_; intro w b hS)
      | refine WL.index rfl rfl rfl rfl (by first | with_reducible assumption | omega) rfl rfl rfl rfl ?_
      | refine WL.index (j := 0) rfl rfl rfl rfl (by omega) rfl rfl rfl rfl ?_
      | refine WL.indexArr rfl rfl rfl rfl (by decide) rfl rfl rfl ?_
      | refine WL.skip rfl rfl rfl ?_
      | refine WL.build rfl rfl rfl rfl rfl ?_
      | (refine WL.slit hS rfl rfl rfl rfl rfl ?_; intro w b hS)
      | refine WL.eqS rfl rfl rfl rfl (by kernel_rfl) rfl rfl rfl ?_
      | refine WL.neS rfl rfl rfl rfl (by kernel_rfl) rfl rfl rfl ?_
      | ((fail_if_success (refine WL.wanted rfl ?_)); refine WL.guard rfl rfl rfl (fun h => ?_) (fun h => ?_) <;> (try simp only [decide_eq_true_eq, decide_eq_false_iff_not] at h) <;> (try (exfalso; omega))))
    | (show WC _ _ _ _ _ _; first
      | refine WC.seq ?_
      | refine WC.region ?_
      | refine WC.block ?_
      | refine WC.skip ?_
      | refine WC.exit ?_
      | refine WC.ret ?_
      | refine WC.condT rfl (by with_reducible rfl) ?_
      | refine WC.condF rfl (by with_reducible rfl) ?_
      | refine WC.condT rfl (by decide) ?_
      | refine WC.condF rfl (by decide) ?_
      | refine WC.condT rfl (decide_eq_true (by first | with_reducible assumption | omega)) ?_
      | refine WC.condF rfl (decide_eq_false (by first | with_reducible assumption | omega)) ?_
      | refine WC.condT rfl (by first | (simp; done) | (simp; omega)) ?_
      | refine WC.condF rfl (by first | (simp; done) | (simp; omega)) ?_
      | (refine WC.cond rfl (fun h => ?_) (fun h => ?_) <;> (try simp only [Bool.not_eq_true', Bool.not_eq_false', Bool.not_eq_eq_eq_not, Bool.not_true, Bool.not_false, beq_iff_eq, beq_eq_false_iff_ne, ne_eq, decide_eq_decide, decide_eq_true_eq, decide_eq_false_iff_not, Bool.and_eq_true, Bool.or_eq_true, Bool.and_eq_false_iff, Bool.or_eq_false_iff] at h) <;> (try (exfalso; omega))))
    | (show WD _ _ _ _ _ _ _ _ _; first
      | refine WD.pure rfl rfl rfl rfl rfl ?_
      | refine WD.nil ?_
      | refine WD.load rfl rfl (LdOk.box (by repeat (first | exact List.Mem.head _ | apply List.Mem.tail)) rfl) rfl rfl rfl rfl ?_
      | refine WD.add rfl rfl rfl (by omega) rfl rfl rfl rfl ?_
      | refine WD.sub rfl rfl rfl (by omega) rfl rfl rfl rfl ?_
      | refine WD.index rfl rfl rfl rfl (by first | with_reducible assumption | omega) rfl rfl rfl rfl rfl ?_
      | refine WD.index (j := 0) rfl rfl rfl rfl (by omega) rfl rfl rfl rfl rfl ?_
      | refine WD.indexArr rfl rfl rfl rfl (by decide) rfl rfl rfl rfl ?_
      | refine WD.pass rfl rfl rfl rfl ?_
      | refine WD.build rfl rfl rfl rfl rfl rfl ?_
      | (refine WD.slit hS hM rfl rfl rfl rfl rfl rfl rfl ?_; intro w b hS hM)
      | refine WD.eqS rfl rfl rfl rfl (by kernel_rfl) rfl rfl rfl rfl ?_
      | refine WD.neS rfl rfl rfl rfl (by kernel_rfl) rfl rfl rfl rfl ?_
      | (refine WD.box hS hM rfl rfl rfl rfl rfl rfl rfl ?_; intro w b hS hM)
      | ((fail_if_success (refine WD.wanted rfl ?_)); refine WD.guard rfl rfl rfl (fun h => ?_) (fun h => ?_) <;> (try simp only [decide_eq_true_eq, decide_eq_false_iff_not] at h) <;> (try (exfalso; omega))))
    | refine seqQ_n ?_
    | refine blkQ_n ?_
    | refine seqQ_x ?_
    | refine seqQ_r ?_
    | refine blkQ_r ?_
    | refine blkQ_hit rfl ?_
    | refine blkQ_miss rfl ?_
    | refine rndQ_x ?_
    | refine rndQ_r ?_
    | refine rdQ_n ?_
    | refine rdQ_x ?_
    | refine rdQ_r ?_
    | refine cutQ_n ?_
    | refine cutQ_r ?_
    | refine cutQ_miss rfl ?_
    | refine endQ_x ?_
    | refine endQ_r ?_)
  refine WC.drawTwo 0 1 [2, 4] [2, 3, 4] hS (by kernel_rfl) (by kernel_rfl) ?_ ?_
  all_goals
    clear hS
    intro w hS hM
    refine WDo.chan hS hM rfl rfl (by kernel_rfl) (by decide) rfl rfl rfl rfl ?_
    intro w c hS hM
    refine WD.chan hS hM rfl rfl (by kernel_rfl) (by decide) rfl rfl rfl rfl rfl ?_
    intro w c2 hS hM
    repeat' (first
      | (show WL _ _ _ _ _ _ _; first
        | refine WL.pure rfl rfl rfl rfl ?_
        | refine WL.nil ?_
        | refine WL.load hS rfl rfl (LdOk.box (by repeat (first | exact List.Mem.head _ | apply List.Mem.tail)) rfl) rfl rfl rfl ?_
        | refine WL.add rfl rfl rfl (by omega) rfl rfl rfl ?_
        | refine WL.sub rfl rfl rfl (by omega) rfl rfl rfl ?_
        | (refine WL.store hS rfl rfl rfl (by repeat (first | exact StB.here rfl | apply StB.there)) rfl rfl rfl ?_; intro w hS)
        | (refine WL.box hS rfl rfl rfl rfl rfl ?_; intro w b hS)
        | (refine WL.alloc hS rfl rfl rfl rfl rfl rfl ?_; intro w b hS)
        | refine WL.index rfl rfl rfl rfl (by first | with_reducible assumption | omega) rfl rfl rfl rfl ?_
        | refine WL.index (j := 0) rfl rfl rfl rfl (by omega) rfl rfl rfl rfl ?_
        | refine WL.indexArr rfl rfl rfl rfl (by decide) rfl rfl rfl ?_
        | refine WL.skip rfl rfl rfl ?_
        | refine WL.build rfl rfl rfl rfl rfl ?_
        | (refine WL.slit hS rfl rfl rfl rfl rfl ?_; intro w b hS)
        | refine WL.eqS rfl rfl rfl rfl (by kernel_rfl) rfl rfl rfl ?_
        | refine WL.neS rfl rfl rfl rfl (by kernel_rfl) rfl rfl rfl ?_
        | ((fail_if_success (refine WL.wanted rfl ?_)); refine WL.guard rfl rfl rfl (fun h => ?_) (fun h => ?_) <;> (try simp only [decide_eq_true_eq, decide_eq_false_iff_not] at h) <;> (try (exfalso; omega))))
      | (show WC _ _ _ _ _ _; first
        | refine WC.seq ?_
        | refine WC.region ?_
        | refine WC.block ?_
        | refine WC.skip ?_
        | refine WC.exit ?_
        | refine WC.ret ?_
        | refine WC.condT rfl (by with_reducible rfl) ?_
        | refine WC.condF rfl (by with_reducible rfl) ?_
        | refine WC.condT rfl (by decide) ?_
        | refine WC.condF rfl (by decide) ?_
        | refine WC.condT rfl (decide_eq_true (by first | with_reducible assumption | omega)) ?_
        | refine WC.condF rfl (decide_eq_false (by first | with_reducible assumption | omega)) ?_
        | refine WC.condT rfl (by first | (simp; done) | (simp; omega)) ?_
        | refine WC.condF rfl (by first | (simp; done) | (simp; omega)) ?_
        | (refine WC.cond rfl (fun h => ?_) (fun h => ?_) <;> (try simp only [Bool.not_eq_true', Bool.not_eq_false', Bool.not_eq_eq_eq_not, Bool.not_true, Bool.not_false, beq_iff_eq, beq_eq_false_iff_ne, ne_eq, decide_eq_decide, decide_eq_true_eq, decide_eq_false_iff_not, Bool.and_eq_true, Bool.or_eq_true, Bool.and_eq_false_iff, Bool.or_eq_false_iff] at h) <;> (try (exfalso; omega))))
      | (show WD _ _ _ _ _ _ _ _ _; first
        | refine WD.pure rfl rfl rfl rfl rfl ?_
        | refine WD.nil ?_
        | refine WD.load rfl rfl (LdOk.box (by repeat (first | exact List.Mem.head _ | apply List.Mem.tail)) rfl) rfl rfl rfl rfl ?_
        | refine WD.add rfl rfl rfl (by omega) rfl rfl rfl rfl ?_
        | refine WD.sub rfl rfl rfl (by omega) rfl rfl rfl rfl ?_
        | refine WD.index rfl rfl rfl rfl (by first | with_reducible assumption | omega) rfl rfl rfl rfl rfl ?_
        | refine WD.index (j := 0) rfl rfl rfl rfl (by omega) rfl rfl rfl rfl rfl ?_
        | refine WD.indexArr rfl rfl rfl rfl (by decide) rfl rfl rfl rfl ?_
        | refine WD.pass rfl rfl rfl rfl ?_
        | refine WD.build rfl rfl rfl rfl rfl rfl ?_
        | (refine WD.slit hS hM rfl rfl rfl rfl rfl rfl rfl ?_; intro w b hS hM)
        | refine WD.eqS rfl rfl rfl rfl (by kernel_rfl) rfl rfl rfl rfl ?_
        | refine WD.neS rfl rfl rfl rfl (by kernel_rfl) rfl rfl rfl rfl ?_
        | (refine WD.box hS hM rfl rfl rfl rfl rfl rfl rfl ?_; intro w b hS hM)
        | ((fail_if_success (refine WD.wanted rfl ?_)); refine WD.guard rfl rfl rfl (fun h => ?_) (fun h => ?_) <;> (try simp only [decide_eq_true_eq, decide_eq_false_iff_not] at h) <;> (try (exfalso; omega))))
      | refine seqQ_n ?_
      | refine blkQ_n ?_
      | refine seqQ_x ?_
      | refine seqQ_r ?_
      | refine blkQ_r ?_
      | refine blkQ_hit rfl ?_
      | refine blkQ_miss rfl ?_
      | refine rndQ_x ?_
      | refine rndQ_r ?_
      | refine rdQ_n ?_
      | refine rdQ_x ?_
      | refine rdQ_r ?_
      | refine cutQ_n ?_
      | refine cutQ_r ?_
      | refine cutQ_miss rfl ?_
      | refine endQ_x ?_
      | refine endQ_r ?_)
    have hd := (List.pairwise_cons.1 hS.disj)
    have hd1 := hd.1 _ (List.Mem.head _)
    have hd2 := hd.1 _ (List.Mem.tail _ (List.Mem.head _))
    have hd3 := (List.pairwise_cons.1 hd.2).1 _ (List.Mem.head _)
    simp [Chunk.apart, Chunk.fp] at hd1 hd2 hd3
    first
      | exact fin1r rfl rfl ⟨hS.upd, _, _, rfl, (St.qClose (Ne.symm hd2) (Ne.symm hd1) (Ne.symm hd3) (hS.perm ((List.Perm.swap _ _ _).cons _))).newOf (List.Mem.head _)⟩
      | exact fin1r rfl rfl ⟨hS.upd, _, _, rfl, (St.qClose (Ne.symm hd1) (Ne.symm hd2) hd3 hS).newOf (List.Mem.head _)⟩
      | exact fin1r rfl rfl ⟨hS.upd, _, _, rfl, (St.qClose hd2 hd1 (Ne.symm hd3) (hS.perm ((List.Perm.swap _ _ _).cons _))).newOf (List.Mem.head _)⟩
      | exact fin1r rfl rfl ⟨hS.upd, _, _, rfl, (St.qClose hd1 hd2 hd3 hS).newOf (List.Mem.head _)⟩

set_option maxHeartbeats 4000000 in
theorem qnext_nil (w0 : World) : Cal Try.prog 24 [.pointer none] w0 (fun v w' => Upd [] w0 w' ∧ v = .tuple #[.int .i64 0, .bool false]) := by
  refine Cal.mk' (by kernel_rfl) Try.func24 rfl rfl fun hS => ?_
  repeat' (first
    | (show WL _ _ _ _ _ _ _; first
      | refine WL.pure rfl rfl rfl rfl ?_
      | refine WL.nil ?_
      | refine WL.load hS rfl rfl (LdOk.box (by repeat (first | exact List.Mem.head _ | apply List.Mem.tail)) rfl) rfl rfl rfl ?_
      | refine WL.add rfl rfl rfl (by omega) rfl rfl rfl ?_
      | refine WL.sub rfl rfl rfl (by omega) rfl rfl rfl ?_
      | (refine WL.store hS rfl rfl rfl (by repeat (first | exact StB.here rfl | apply StB.there)) rfl rfl rfl ?_; intro w hS)
      | (refine WL.box hS rfl rfl rfl rfl rfl ?_; intro w b hS)
      | (refine WL.alloc hS rfl rfl rfl rfl rfl rfl ?_; intro w b hS)
      | refine WL.index rfl rfl rfl rfl (by first | with_reducible assumption | omega) rfl rfl rfl rfl ?_
      | refine WL.index (j := 0) rfl rfl rfl rfl (by omega) rfl rfl rfl rfl ?_
      | refine WL.indexArr rfl rfl rfl rfl (by decide) rfl rfl rfl ?_
      | refine WL.skip rfl rfl rfl ?_
      | refine WL.build rfl rfl rfl rfl rfl ?_
      | (refine WL.slit hS rfl rfl rfl rfl rfl ?_; intro w b hS)
      | refine WL.eqS rfl rfl rfl rfl (by kernel_rfl) rfl rfl rfl ?_
      | refine WL.neS rfl rfl rfl rfl (by kernel_rfl) rfl rfl rfl ?_
      | ((fail_if_success (refine WL.wanted rfl ?_)); refine WL.guard rfl rfl rfl (fun h => ?_) (fun h => ?_) <;> (try simp only [decide_eq_true_eq, decide_eq_false_iff_not] at h) <;> (try (exfalso; omega))))
    | (show WC _ _ _ _ _ _; first
      | refine WC.seq ?_
      | refine WC.region ?_
      | refine WC.block ?_
      | refine WC.skip ?_
      | refine WC.exit ?_
      | refine WC.ret ?_
      | refine WC.condT rfl (by with_reducible rfl) ?_
      | refine WC.condF rfl (by with_reducible rfl) ?_
      | refine WC.condT rfl (by decide) ?_
      | refine WC.condF rfl (by decide) ?_
      | refine WC.condT rfl (decide_eq_true (by first | with_reducible assumption | omega)) ?_
      | refine WC.condF rfl (decide_eq_false (by first | with_reducible assumption | omega)) ?_
      | refine WC.condT rfl (by first | (simp; done) | (simp; omega)) ?_
      | refine WC.condF rfl (by first | (simp; done) | (simp; omega)) ?_
      | (refine WC.cond rfl (fun h => ?_) (fun h => ?_) <;> (try simp only [Bool.not_eq_true', Bool.not_eq_false', Bool.not_eq_eq_eq_not, Bool.not_true, Bool.not_false, beq_iff_eq, beq_eq_false_iff_ne, ne_eq, decide_eq_decide, decide_eq_true_eq, decide_eq_false_iff_not, Bool.and_eq_true, Bool.or_eq_true, Bool.and_eq_false_iff, Bool.or_eq_false_iff] at h) <;> (try (exfalso; omega))))
    | (show WD _ _ _ _ _ _ _ _ _; first
      | refine WD.pure rfl rfl rfl rfl rfl ?_
      | refine WD.nil ?_
      | refine WD.load rfl rfl (LdOk.box (by repeat (first | exact List.Mem.head _ | apply List.Mem.tail)) rfl) rfl rfl rfl rfl ?_
      | refine WD.add rfl rfl rfl (by omega) rfl rfl rfl rfl ?_
      | refine WD.sub rfl rfl rfl (by omega) rfl rfl rfl rfl ?_
      | refine WD.index rfl rfl rfl rfl (by first | with_reducible assumption | omega) rfl rfl rfl rfl rfl ?_
      | refine WD.index (j := 0) rfl rfl rfl rfl (by omega) rfl rfl rfl rfl rfl ?_
      | refine WD.indexArr rfl rfl rfl rfl (by decide) rfl rfl rfl rfl ?_
      | refine WD.pass rfl rfl rfl rfl ?_
      | refine WD.build rfl rfl rfl rfl rfl rfl ?_
      | (refine WD.slit hS hM rfl rfl rfl rfl rfl rfl rfl ?_; intro w b hS hM)
      | refine WD.eqS rfl rfl rfl rfl (by kernel_rfl) rfl rfl rfl rfl ?_
      | refine WD.neS rfl rfl rfl rfl (by kernel_rfl) rfl rfl rfl rfl ?_
      | (refine WD.box hS hM rfl rfl rfl rfl rfl rfl rfl ?_; intro w b hS hM)
      | ((fail_if_success (refine WD.wanted rfl ?_)); refine WD.guard rfl rfl rfl (fun h => ?_) (fun h => ?_) <;> (try simp only [decide_eq_true_eq, decide_eq_false_iff_not] at h) <;> (try (exfalso; omega))))
    | refine seqQ_n ?_
    | refine blkQ_n ?_
    | refine seqQ_x ?_
    | refine seqQ_r ?_
    | refine blkQ_r ?_
    | refine blkQ_hit rfl ?_
    | refine blkQ_miss rfl ?_
    | refine rndQ_x ?_
    | refine rndQ_r ?_
    | refine rdQ_n ?_
    | refine rdQ_x ?_
    | refine rdQ_r ?_
    | refine cutQ_n ?_
    | refine cutQ_r ?_
    | refine cutQ_miss rfl ?_
    | refine endQ_x ?_
    | refine endQ_r ?_)
  exact fin2r rfl rfl rfl ⟨hS.upd, rfl⟩
set_option maxHeartbeats 4000000 in
theorem qpush_nil (b : Bool) (x : Int) (w0 : World) : Cal Try.prog 22 [.pointer none, .bool b, .int .i64 x] w0 (fun v w' => Upd [] w0 w' ∧ v = .int .i64 1) := by
  refine Cal.mk' (by kernel_rfl) Try.func22 rfl rfl fun hS => ?_
  repeat' (first
    | (show WL _ _ _ _ _ _ _; first
      | refine WL.pure rfl rfl rfl rfl ?_
      | refine WL.nil ?_
      | refine WL.load hS rfl rfl (LdOk.box (by repeat (first | exact List.Mem.head _ | apply List.Mem.tail)) rfl) rfl rfl rfl ?_
      | refine WL.add rfl rfl rfl (by omega) rfl rfl rfl ?_
      | refine WL.sub rfl rfl rfl (by omega) rfl rfl rfl ?_
      | (refine WL.store hS rfl rfl rfl (by repeat (first | exact StB.here rfl | apply StB.there)) rfl rfl rfl ?_; intro w hS)
      | (refine WL.box hS rfl rfl rfl rfl rfl ?_; intro w b hS)
      | (refine WL.alloc hS rfl rfl rfl rfl rfl rfl ?_; intro w b hS)
      | refine WL.index rfl rfl rfl rfl (by first | with_reducible assumption | omega) rfl rfl rfl rfl ?_
      | refine WL.index (j := 0) rfl rfl rfl rfl (by omega) rfl rfl rfl rfl ?_
      | refine WL.indexArr rfl rfl rfl rfl (by decide) rfl rfl rfl ?_
      | refine WL.skip rfl rfl rfl ?_
      | refine WL.build rfl rfl rfl rfl rfl ?_
      | (refine WL.slit hS rfl rfl rfl rfl rfl ?_; intro w b hS)
      | refine WL.eqS rfl rfl rfl rfl (by kernel_rfl) rfl rfl rfl ?_
      | refine WL.neS rfl rfl rfl rfl (by kernel_rfl) rfl rfl rfl ?_
      | ((fail_if_success (refine WL.wanted rfl ?_)); refine WL.guard rfl rfl rfl (fun h => ?_) (fun h => ?_) <;> (try simp only [decide_eq_true_eq, decide_eq_false_iff_not] at h) <;> (try (exfalso; omega))))
    | (show WC _ _ _ _ _ _; first
      | refine WC.seq ?_
      | refine WC.region ?_
      | refine WC.block ?_
      | refine WC.skip ?_
      | refine WC.exit ?_
      | refine WC.ret ?_
      | refine WC.condT rfl (by with_reducible rfl) ?_
      | refine WC.condF rfl (by with_reducible rfl) ?_
      | refine WC.condT rfl (by decide) ?_
      | refine WC.condF rfl (by decide) ?_
      | refine WC.condT rfl (decide_eq_true (by first | with_reducible assumption | omega)) ?_
      | refine WC.condF rfl (decide_eq_false (by first | with_reducible assumption | omega)) ?_
      | refine WC.condT rfl (by first | (simp; done) | (simp; omega)) ?_
      | refine WC.condF rfl (by first | (simp; done) | (simp; omega)) ?_
      | (refine WC.cond rfl (fun h => ?_) (fun h => ?_) <;> (try simp only [Bool.not_eq_true', Bool.not_eq_false', Bool.not_eq_eq_eq_not, Bool.not_true, Bool.not_false, beq_iff_eq, beq_eq_false_iff_ne, ne_eq, decide_eq_decide, decide_eq_true_eq, decide_eq_false_iff_not, Bool.and_eq_true, Bool.or_eq_true, Bool.and_eq_false_iff, Bool.or_eq_false_iff] at h) <;> (try (exfalso; omega))))
    | (show WD _ _ _ _ _ _ _ _ _; first
      | refine WD.pure rfl rfl rfl rfl rfl ?_
      | refine WD.nil ?_
      | refine WD.load rfl rfl (LdOk.box (by repeat (first | exact List.Mem.head _ | apply List.Mem.tail)) rfl) rfl rfl rfl rfl ?_
      | refine WD.add rfl rfl rfl (by omega) rfl rfl rfl rfl ?_
      | refine WD.sub rfl rfl rfl (by omega) rfl rfl rfl rfl ?_
      | refine WD.index rfl rfl rfl rfl (by first | with_reducible assumption | omega) rfl rfl rfl rfl rfl ?_
      | refine WD.index (j := 0) rfl rfl rfl rfl (by omega) rfl rfl rfl rfl rfl ?_
      | refine WD.indexArr rfl rfl rfl rfl (by decide) rfl rfl rfl rfl ?_
      | refine WD.pass rfl rfl rfl rfl ?_
      | refine WD.build rfl rfl rfl rfl rfl rfl ?_
      | (refine WD.slit hS hM rfl rfl rfl rfl rfl rfl rfl ?_; intro w b hS hM)
      | refine WD.eqS rfl rfl rfl rfl (by kernel_rfl) rfl rfl rfl rfl ?_
      | refine WD.neS rfl rfl rfl rfl (by kernel_rfl) rfl rfl rfl rfl ?_
      | (refine WD.box hS hM rfl rfl rfl rfl rfl rfl rfl ?_; intro w b hS hM)
      | ((fail_if_success (refine WD.wanted rfl ?_)); refine WD.guard rfl rfl rfl (fun h => ?_) (fun h => ?_) <;> (try simp only [decide_eq_true_eq, decide_eq_false_iff_not] at h) <;> (try (exfalso; omega))))
    | refine seqQ_n ?_
    | refine blkQ_n ?_
    | refine seqQ_x ?_
    | refine seqQ_r ?_
    | refine blkQ_r ?_
    | refine blkQ_hit rfl ?_
    | refine blkQ_miss rfl ?_
    | refine rndQ_x ?_
    | refine rndQ_r ?_
    | refine rdQ_n ?_
    | refine rdQ_x ?_
    | refine rdQ_r ?_
    | refine cutQ_n ?_
    | refine cutQ_r ?_
    | refine cutQ_miss rfl ?_
    | refine endQ_x ?_
    | refine endQ_r ?_)
  exact fin1r rfl rfl ⟨hS.upd, rfl⟩
set_option maxHeartbeats 4000000 in
theorem qlen_nil (w0 : World) : Cal Try.prog 26 [.pointer none] w0 (fun v w' => Upd [] w0 w' ∧ v = .int .i64 0) := by
  refine Cal.mk' (by kernel_rfl) Try.func26 rfl rfl fun hS => ?_
  repeat' (first
    | (show WL _ _ _ _ _ _ _; first
      | refine WL.pure rfl rfl rfl rfl ?_
      | refine WL.nil ?_
      | refine WL.load hS rfl rfl (LdOk.box (by repeat (first | exact List.Mem.head _ | apply List.Mem.tail)) rfl) rfl rfl rfl ?_
      | refine WL.add rfl rfl rfl (by omega) rfl rfl rfl ?_
      | refine WL.sub rfl rfl rfl (by omega) rfl rfl rfl ?_
      | (refine WL.store hS rfl rfl rfl (by repeat (first | exact StB.here rfl | apply StB.there)) rfl rfl rfl ?_; intro w hS)
      | (refine WL.box hS rfl rfl rfl rfl rfl ?_; intro w b hS)
      | (refine WL.alloc hS rfl rfl rfl rfl rfl rfl ?_; intro w b hS)
      | refine WL.index rfl rfl rfl rfl (by first | with_reducible assumption | omega) rfl rfl rfl rfl ?_
      | refine WL.index (j := 0) rfl rfl rfl rfl (by omega) rfl rfl rfl rfl ?_
      | refine WL.indexArr rfl rfl rfl rfl (by decide) rfl rfl rfl ?_
      | refine WL.skip rfl rfl rfl ?_
      | refine WL.build rfl rfl rfl rfl rfl ?_
      | (refine WL.slit hS rfl rfl rfl rfl rfl ?_; intro w b hS)
      | refine WL.eqS rfl rfl rfl rfl (by kernel_rfl) rfl rfl rfl ?_
      | refine WL.neS rfl rfl rfl rfl (by kernel_rfl) rfl rfl rfl ?_
      | ((fail_if_success (refine WL.wanted rfl ?_)); refine WL.guard rfl rfl rfl (fun h => ?_) (fun h => ?_) <;> (try simp only [decide_eq_true_eq, decide_eq_false_iff_not] at h) <;> (try (exfalso; omega))))
    | (show WC _ _ _ _ _ _; first
      | refine WC.seq ?_
      | refine WC.region ?_
      | refine WC.block ?_
      | refine WC.skip ?_
      | refine WC.exit ?_
      | refine WC.ret ?_
      | refine WC.condT rfl (by with_reducible rfl) ?_
      | refine WC.condF rfl (by with_reducible rfl) ?_
      | refine WC.condT rfl (by decide) ?_
      | refine WC.condF rfl (by decide) ?_
      | refine WC.condT rfl (decide_eq_true (by first | with_reducible assumption | omega)) ?_
      | refine WC.condF rfl (decide_eq_false (by first | with_reducible assumption | omega)) ?_
      | refine WC.condT rfl (by first | (simp; done) | (simp; omega)) ?_
      | refine WC.condF rfl (by first | (simp; done) | (simp; omega)) ?_
      | (refine WC.cond rfl (fun h => ?_) (fun h => ?_) <;> (try simp only [Bool.not_eq_true', Bool.not_eq_false', Bool.not_eq_eq_eq_not, Bool.not_true, Bool.not_false, beq_iff_eq, beq_eq_false_iff_ne, ne_eq, decide_eq_decide, decide_eq_true_eq, decide_eq_false_iff_not, Bool.and_eq_true, Bool.or_eq_true, Bool.and_eq_false_iff, Bool.or_eq_false_iff] at h) <;> (try (exfalso; omega))))
    | (show WD _ _ _ _ _ _ _ _ _; first
      | refine WD.pure rfl rfl rfl rfl rfl ?_
      | refine WD.nil ?_
      | refine WD.load rfl rfl (LdOk.box (by repeat (first | exact List.Mem.head _ | apply List.Mem.tail)) rfl) rfl rfl rfl rfl ?_
      | refine WD.add rfl rfl rfl (by omega) rfl rfl rfl rfl ?_
      | refine WD.sub rfl rfl rfl (by omega) rfl rfl rfl rfl ?_
      | refine WD.index rfl rfl rfl rfl (by first | with_reducible assumption | omega) rfl rfl rfl rfl rfl ?_
      | refine WD.index (j := 0) rfl rfl rfl rfl (by omega) rfl rfl rfl rfl rfl ?_
      | refine WD.indexArr rfl rfl rfl rfl (by decide) rfl rfl rfl rfl ?_
      | refine WD.pass rfl rfl rfl rfl ?_
      | refine WD.build rfl rfl rfl rfl rfl rfl ?_
      | (refine WD.slit hS hM rfl rfl rfl rfl rfl rfl rfl ?_; intro w b hS hM)
      | refine WD.eqS rfl rfl rfl rfl (by kernel_rfl) rfl rfl rfl rfl ?_
      | refine WD.neS rfl rfl rfl rfl (by kernel_rfl) rfl rfl rfl rfl ?_
      | (refine WD.box hS hM rfl rfl rfl rfl rfl rfl rfl ?_; intro w b hS hM)
      | ((fail_if_success (refine WD.wanted rfl ?_)); refine WD.guard rfl rfl rfl (fun h => ?_) (fun h => ?_) <;> (try simp only [decide_eq_true_eq, decide_eq_false_iff_not] at h) <;> (try (exfalso; omega))))
    | refine seqQ_n ?_
    | refine blkQ_n ?_
    | refine seqQ_x ?_
    | refine seqQ_r ?_
    | refine blkQ_r ?_
    | refine blkQ_hit rfl ?_
    | refine blkQ_miss rfl ?_
    | refine rndQ_x ?_
    | refine rndQ_r ?_
    | refine rdQ_n ?_
    | refine rdQ_x ?_
    | refine rdQ_r ?_
    | refine cutQ_n ?_
    | refine cutQ_r ?_
    | refine cutQ_miss rfl ?_
    | refine endQ_x ?_
    | refine endQ_r ?_)
  exact fin1r rfl rfl ⟨hS.upd, rfl⟩
set_option maxHeartbeats 4000000 in
theorem qlen_c (q : Nat) (u s : List Int) (fp : List Nat) (w0 : World) (hc : (qC q u s fp).holds w0) (hi : inB (qC q u s fp) w0) (hu : u.length ≤ 1000) (hs : s.length ≤ 1000) :
    Cal Try.prog 26 [.pointer (some ⟨q, 0, none⟩)] w0 (fun v w' => v = .int .i64 ((u.length : Int) + (s.length : Int)) ∧ Mut w0 w' (qC q u s fp) (qC q u s fp)) := by
  have lu := ints_len u
  have ls := ints_len s
  refine Cal.mkM hc hi (by kernel_rfl) Try.func26 rfl rfl fun hS => ?_
  obtain ⟨cu, cs, rfl, h1, h2, h3, hS⟩ := St.qOpen hS
  repeat' (first
    | (show WL _ _ _ _ _ _ _; first
      | refine WL.pure rfl rfl rfl rfl ?_
      | refine WL.nil ?_
      | refine WL.load hS rfl rfl (LdOk.box (by repeat (first | exact List.Mem.head _ | apply List.Mem.tail)) rfl) rfl rfl rfl ?_
      | refine WL.add rfl rfl rfl (by omega) rfl rfl rfl ?_
      | refine WL.sub rfl rfl rfl (by omega) rfl rfl rfl ?_
      | (refine WL.store hS rfl rfl rfl (by repeat (first | exact StB.here rfl | apply StB.there)) rfl rfl rfl ?_; intro w hS)
      | (refine WL.box hS rfl rfl rfl rfl rfl ?_; intro w b hS)
      | (refine WL.alloc hS rfl rfl rfl rfl rfl rfl ?_; intro w b hS)
      | refine WL.index rfl rfl rfl rfl (by first | with_reducible assumption | omega) rfl rfl rfl rfl ?_
      | refine WL.index (j := 0) rfl rfl rfl rfl (by omega) rfl rfl rfl rfl ?_
      | refine WL.indexArr rfl rfl rfl rfl (by decide) rfl rfl rfl ?_
      | refine WL.skip rfl rfl rfl ?_
      | refine WL.build rfl rfl rfl rfl rfl ?_
      | (refine WL.slit hS rfl rfl rfl rfl rfl ?_; intro w b hS)
      | refine WL.eqS rfl rfl rfl rfl (by kernel_rfl) rfl rfl rfl ?_
      | refine WL.neS rfl rfl rfl rfl (by kernel_rfl) rfl rfl rfl ?_
      | ((fail_if_success (refine WL.wanted rfl ?_)); refine WL.guard rfl rfl rfl (fun h => ?_) (fun h => ?_) <;> (try simp only [decide_eq_true_eq, decide_eq_false_iff_not] at h) <;> (try (exfalso; omega))))
    | (show WC _ _ _ _ _ _; first
      | refine WC.seq ?_
      | refine WC.region ?_
      | refine WC.block ?_
      | refine WC.skip ?_
      | refine WC.exit ?_
      | refine WC.ret ?_
      | (refine WC.drawS hS [0,1,2,3,4,5,6,7,8,9,10,11] [0,1,2,3,4,5,6,7,8,9,10,11] (by kernel_rfl) (by kernel_rfl) ?_; intro w hS hM)
      | refine WC.condT rfl (by with_reducible rfl) ?_
      | refine WC.condF rfl (by with_reducible rfl) ?_
      | refine WC.condT rfl (by decide) ?_
      | refine WC.condF rfl (by decide) ?_
      | refine WC.condT rfl (decide_eq_true (by first | with_reducible assumption | omega)) ?_
      | refine WC.condF rfl (decide_eq_false (by first | with_reducible assumption | omega)) ?_
      | refine WC.condT rfl (by first | (simp; done) | (simp; omega)) ?_
      | refine WC.condF rfl (by first | (simp; done) | (simp; omega)) ?_
      | (refine WC.cond rfl (fun h => ?_) (fun h => ?_) <;> (try simp only [Bool.not_eq_true', Bool.not_eq_false', Bool.not_eq_eq_eq_not, Bool.not_true, Bool.not_false, beq_iff_eq, beq_eq_false_iff_ne, ne_eq, decide_eq_decide, decide_eq_true_eq, decide_eq_false_iff_not, Bool.and_eq_true, Bool.or_eq_true, Bool.and_eq_false_iff, Bool.or_eq_false_iff] at h) <;> (try (exfalso; omega))))
    | (show WD _ _ _ _ _ _ _ _ _; first
      | refine WD.pure rfl rfl rfl rfl rfl ?_
      | refine WD.nil ?_
      | refine WD.load rfl rfl (LdOk.box (by repeat (first | exact List.Mem.head _ | apply List.Mem.tail)) rfl) rfl rfl rfl rfl ?_
      | refine WD.add rfl rfl rfl (by omega) rfl rfl rfl rfl ?_
      | refine WD.sub rfl rfl rfl (by omega) rfl rfl rfl rfl ?_
      | refine WD.lenCh rfl (by kernel_rfl) rfl (ChOk.mk' (by repeat (first | exact List.Mem.head _ | apply List.Mem.tail))) rfl rfl rfl rfl ?_
      | refine WD.index rfl rfl rfl rfl (by first | with_reducible assumption | omega) rfl rfl rfl rfl rfl ?_
      | refine WD.index (j := 0) rfl rfl rfl rfl (by omega) rfl rfl rfl rfl rfl ?_
      | refine WD.indexArr rfl rfl rfl rfl (by decide) rfl rfl rfl rfl ?_
      | refine WD.pass rfl rfl rfl rfl ?_
      | refine WD.build rfl rfl rfl rfl rfl rfl ?_
      | (refine WD.slit hS hM rfl rfl rfl rfl rfl rfl rfl ?_; intro w b hS hM)
      | refine WD.eqS rfl rfl rfl rfl (by kernel_rfl) rfl rfl rfl rfl ?_
      | refine WD.neS rfl rfl rfl rfl (by kernel_rfl) rfl rfl rfl rfl ?_
      | (refine WD.box hS hM rfl rfl rfl rfl rfl rfl rfl ?_; intro w b hS hM)
      | ((fail_if_success (refine WD.wanted rfl ?_)); refine WD.guard rfl rfl rfl (fun h => ?_) (fun h => ?_) <;> (try simp only [decide_eq_true_eq, decide_eq_false_iff_not] at h) <;> (try (exfalso; omega))))
    | refine seqQ_n ?_
    | refine blkQ_n ?_
    | refine seqQ_x ?_
    | refine seqQ_r ?_
    | refine blkQ_r ?_
    | refine blkQ_hit rfl ?_
    | refine blkQ_miss rfl ?_
    | refine rndQ_x ?_
    | refine rndQ_r ?_
    | refine rdQ_n ?_
    | refine rdQ_x ?_
    | refine rdQ_r ?_
    | refine cutQ_n ?_
    | refine cutQ_r ?_
    | refine cutQ_miss rfl ?_
    | refine endQ_x ?_
    | refine endQ_r ?_)
  exact fin1r rfl rfl ⟨vint (by omega), (St.qClose h1 h2 h3 hS).mutOf (List.Mem.head _)⟩
/-- a job put into a lane -/
def pushU (b : Bool) (u : List Int) (x : Int) : List Int := if b then if u.length < 32 then u ++ [x] else u else u
def pushS (b : Bool) (s : List Int) (x : Int) : List Int := if b then s else if s.length < 32 then s ++ [x] else s
def pushE (b : Bool) (u s : List Int) : Int := if (if b then u else s).length < 32 then 0 else 13
set_option maxHeartbeats 4000000 in
theorem qpush_c (q : Nat) (u s : List Int) (fp : List Nat) (b : Bool) (x : Int) (w0 : World) (hc : (qC q u s fp).holds w0) (hi : inB (qC q u s fp) w0) :
    Cal Try.prog 22 [.pointer (some ⟨q, 0, none⟩), .bool b, .int .i64 x] w0 (fun v w' => v = .int .i64 (pushE b u s) ∧ Mut w0 w' (qC q u s fp) (qC q (pushU b u x) (pushS b s x) fp)) := by
  have lu := ints_len u
  have ls := ints_len s
  obtain ⟨q, rfl⟩ : ∃ x, x = q := ⟨_, rfl⟩
  unfold pushE pushU pushS
  cases b
  · by_cases hr : s.length < 32
    · simp only [Bool.false_eq_true, if_false, if_pos hr]
      refine Cal.mkM hc hi (by kernel_rfl) Try.func22 rfl rfl fun hS => ?_
      obtain ⟨cu, cs, rfl, h1, h2, h3, hS⟩ := St.qOpen hS
      repeat' (first
        | (show WL _ _ _ _ _ _ _; first
          | refine WL.pure rfl rfl rfl rfl ?_
          | refine WL.nil ?_
          | refine WL.load hS rfl rfl (LdOk.box (by repeat (first | exact List.Mem.head _ | apply List.Mem.tail)) rfl) rfl rfl rfl ?_
          | refine WL.add rfl rfl rfl (by omega) rfl rfl rfl ?_
          | refine WL.sub rfl rfl rfl (by omega) rfl rfl rfl ?_
          | (refine WL.store hS rfl rfl rfl (by repeat (first | exact StB.here rfl | apply StB.there)) rfl rfl rfl ?_; intro w hS)
          | (refine WL.box hS rfl rfl rfl rfl rfl ?_; intro w b hS)
          | (refine WL.alloc hS rfl rfl rfl rfl rfl rfl ?_; intro w b hS)
          | refine WL.index rfl rfl rfl rfl (by first | with_reducible assumption | omega) rfl rfl rfl rfl ?_
          | refine WL.index (j := 0) rfl rfl rfl rfl (by omega) rfl rfl rfl rfl ?_
          | refine WL.indexArr rfl rfl rfl rfl (by decide) rfl rfl rfl ?_
          | refine WL.skip rfl rfl rfl ?_
          | refine WL.build rfl rfl rfl rfl rfl ?_
          | (refine WL.slit hS rfl rfl rfl rfl rfl ?_; intro w b hS)
          | refine WL.eqS rfl rfl rfl rfl (by kernel_rfl) rfl rfl rfl ?_
          | refine WL.neS rfl rfl rfl rfl (by kernel_rfl) rfl rfl rfl ?_
          | ((fail_if_success (refine WL.wanted rfl ?_)); refine WL.guard rfl rfl rfl (fun h => ?_) (fun h => ?_) <;> (try simp only [decide_eq_true_eq, decide_eq_false_iff_not] at h) <;> (try (exfalso; omega))))
        | (show WC _ _ _ _ _ _; first
          | (refine WC.selSend hS rfl rfl rfl rfl (by repeat (first | exact Repl.here | apply Repl.there)) (by omega) rfl rfl rfl ?_; intro w hS)
          | refine WC.seq ?_
          | refine WC.region ?_
          | refine WC.block ?_
          | refine WC.skip ?_
          | refine WC.exit ?_
          | refine WC.ret ?_
          | refine WC.condT rfl (by with_reducible rfl) ?_
          | refine WC.condF rfl (by with_reducible rfl) ?_
          | refine WC.condT rfl (by decide) ?_
          | refine WC.condF rfl (by decide) ?_
          | refine WC.condT rfl (decide_eq_true (by first | with_reducible assumption | omega)) ?_
          | refine WC.condF rfl (decide_eq_false (by first | with_reducible assumption | omega)) ?_
          | refine WC.condT rfl (by first | (simp; done) | (simp; omega)) ?_
          | refine WC.condF rfl (by first | (simp; done) | (simp; omega)) ?_
          | (refine WC.cond rfl (fun h => ?_) (fun h => ?_) <;> (try simp only [Bool.not_eq_true', Bool.not_eq_false', Bool.not_eq_eq_eq_not, Bool.not_true, Bool.not_false, beq_iff_eq, beq_eq_false_iff_ne, ne_eq, decide_eq_decide, decide_eq_true_eq, decide_eq_false_iff_not, Bool.and_eq_true, Bool.or_eq_true, Bool.and_eq_false_iff, Bool.or_eq_false_iff] at h) <;> (try (exfalso; omega))))
        | (show WD _ _ _ _ _ _ _ _ _; first
          | refine WD.pure rfl rfl rfl rfl rfl ?_
          | refine WD.nil ?_
          | refine WD.load rfl rfl (LdOk.box (by repeat (first | exact List.Mem.head _ | apply List.Mem.tail)) rfl) rfl rfl rfl rfl ?_
          | refine WD.add rfl rfl rfl (by omega) rfl rfl rfl rfl ?_
          | refine WD.sub rfl rfl rfl (by omega) rfl rfl rfl rfl ?_
          | refine WD.index rfl rfl rfl rfl (by first | with_reducible assumption | omega) rfl rfl rfl rfl rfl ?_
          | refine WD.index (j := 0) rfl rfl rfl rfl (by omega) rfl rfl rfl rfl rfl ?_
          | refine WD.indexArr rfl rfl rfl rfl (by decide) rfl rfl rfl rfl ?_
          | refine WD.pass rfl rfl rfl rfl ?_
          | refine WD.build rfl rfl rfl rfl rfl rfl ?_
          | (refine WD.slit hS hM rfl rfl rfl rfl rfl rfl rfl ?_; intro w b hS hM)
          | refine WD.eqS rfl rfl rfl rfl (by kernel_rfl) rfl rfl rfl rfl ?_
          | refine WD.neS rfl rfl rfl rfl (by kernel_rfl) rfl rfl rfl rfl ?_
          | (refine WD.box hS hM rfl rfl rfl rfl rfl rfl rfl ?_; intro w b hS hM)
          | ((fail_if_success (refine WD.wanted rfl ?_)); refine WD.guard rfl rfl rfl (fun h => ?_) (fun h => ?_) <;> (try simp only [decide_eq_true_eq, decide_eq_false_iff_not] at h) <;> (try (exfalso; omega))))
        | refine seqQ_n ?_
        | refine blkQ_n ?_
        | refine seqQ_x ?_
        | refine seqQ_r ?_
        | refine blkQ_r ?_
        | refine blkQ_hit rfl ?_
        | refine blkQ_miss rfl ?_
        | refine rndQ_x ?_
        | refine rndQ_r ?_
        | refine rdQ_n ?_
        | refine rdQ_x ?_
        | refine rdQ_r ?_
        | refine cutQ_n ?_
        | refine cutQ_r ?_
        | refine cutQ_miss rfl ?_
        | refine endQ_x ?_
        | refine endQ_r ?_)
      rw [ints_snoc] at hS
      exact fin1r rfl rfl ⟨rfl, (St.qClose h1 h2 h3 hS).mutOf (List.Mem.head _)⟩
    · simp only [Bool.false_eq_true, if_false, if_neg hr]
      refine Cal.mkM hc hi (by kernel_rfl) Try.func22 rfl rfl fun hS => ?_
      obtain ⟨cu, cs, rfl, h1, h2, h3, hS⟩ := St.qOpen hS
      repeat' (first
        | (show WL _ _ _ _ _ _ _; first
          | refine WL.pure rfl rfl rfl rfl ?_
          | refine WL.nil ?_
          | refine WL.load hS rfl rfl (LdOk.box (by repeat (first | exact List.Mem.head _ | apply List.Mem.tail)) rfl) rfl rfl rfl ?_
          | refine WL.add rfl rfl rfl (by omega) rfl rfl rfl ?_
          | refine WL.sub rfl rfl rfl (by omega) rfl rfl rfl ?_
          | (refine WL.store hS rfl rfl rfl (by repeat (first | exact StB.here rfl | apply StB.there)) rfl rfl rfl ?_; intro w hS)
          | (refine WL.box hS rfl rfl rfl rfl rfl ?_; intro w b hS)
          | (refine WL.alloc hS rfl rfl rfl rfl rfl rfl ?_; intro w b hS)
          | refine WL.index rfl rfl rfl rfl (by first | with_reducible assumption | omega) rfl rfl rfl rfl ?_
          | refine WL.index (j := 0) rfl rfl rfl rfl (by omega) rfl rfl rfl rfl ?_
          | refine WL.indexArr rfl rfl rfl rfl (by decide) rfl rfl rfl ?_
          | refine WL.skip rfl rfl rfl ?_
          | refine WL.build rfl rfl rfl rfl rfl ?_
          | (refine WL.slit hS rfl rfl rfl rfl rfl ?_; intro w b hS)
          | refine WL.eqS rfl rfl rfl rfl (by kernel_rfl) rfl rfl rfl ?_
          | refine WL.neS rfl rfl rfl rfl (by kernel_rfl) rfl rfl rfl ?_
          | ((fail_if_success (refine WL.wanted rfl ?_)); refine WL.guard rfl rfl rfl (fun h => ?_) (fun h => ?_) <;> (try simp only [decide_eq_true_eq, decide_eq_false_iff_not] at h) <;> (try (exfalso; omega))))
        | (show WC _ _ _ _ _ _; first
          | refine WC.selFull hS rfl rfl rfl (by repeat (first | exact List.Mem.head _ | apply List.Mem.tail)) (by omega) rfl rfl rfl ?_
          | refine WC.seq ?_
          | refine WC.region ?_
          | refine WC.block ?_
          | refine WC.skip ?_
          | refine WC.exit ?_
          | refine WC.ret ?_
          | refine WC.condT rfl (by with_reducible rfl) ?_
          | refine WC.condF rfl (by with_reducible rfl) ?_
          | refine WC.condT rfl (by decide) ?_
          | refine WC.condF rfl (by decide) ?_
          | refine WC.condT rfl (decide_eq_true (by first | with_reducible assumption | omega)) ?_
          | refine WC.condF rfl (decide_eq_false (by first | with_reducible assumption | omega)) ?_
          | refine WC.condT rfl (by first | (simp; done) | (simp; omega)) ?_
          | refine WC.condF rfl (by first | (simp; done) | (simp; omega)) ?_
          | (refine WC.cond rfl (fun h => ?_) (fun h => ?_) <;> (try simp only [Bool.not_eq_true', Bool.not_eq_false', Bool.not_eq_eq_eq_not, Bool.not_true, Bool.not_false, beq_iff_eq, beq_eq_false_iff_ne, ne_eq, decide_eq_decide, decide_eq_true_eq, decide_eq_false_iff_not, Bool.and_eq_true, Bool.or_eq_true, Bool.and_eq_false_iff, Bool.or_eq_false_iff] at h) <;> (try (exfalso; omega))))
        | (show WD _ _ _ _ _ _ _ _ _; first
          | refine WD.pure rfl rfl rfl rfl rfl ?_
          | refine WD.nil ?_
          | refine WD.load rfl rfl (LdOk.box (by repeat (first | exact List.Mem.head _ | apply List.Mem.tail)) rfl) rfl rfl rfl rfl ?_
          | refine WD.add rfl rfl rfl (by omega) rfl rfl rfl rfl ?_
          | refine WD.sub rfl rfl rfl (by omega) rfl rfl rfl rfl ?_
          | refine WD.index rfl rfl rfl rfl (by first | with_reducible assumption | omega) rfl rfl rfl rfl rfl ?_
          | refine WD.index (j := 0) rfl rfl rfl rfl (by omega) rfl rfl rfl rfl rfl ?_
          | refine WD.indexArr rfl rfl rfl rfl (by decide) rfl rfl rfl rfl ?_
          | refine WD.pass rfl rfl rfl rfl ?_
          | refine WD.build rfl rfl rfl rfl rfl rfl ?_
          | (refine WD.slit hS hM rfl rfl rfl rfl rfl rfl rfl ?_; intro w b hS hM)
          | refine WD.eqS rfl rfl rfl rfl (by kernel_rfl) rfl rfl rfl rfl ?_
          | refine WD.neS rfl rfl rfl rfl (by kernel_rfl) rfl rfl rfl rfl ?_
          | (refine WD.box hS hM rfl rfl rfl rfl rfl rfl rfl ?_; intro w b hS hM)
          | ((fail_if_success (refine WD.wanted rfl ?_)); refine WD.guard rfl rfl rfl (fun h => ?_) (fun h => ?_) <;> (try simp only [decide_eq_true_eq, decide_eq_false_iff_not] at h) <;> (try (exfalso; omega))))
        | refine seqQ_n ?_
        | refine blkQ_n ?_
        | refine seqQ_x ?_
        | refine seqQ_r ?_
        | refine blkQ_r ?_
        | refine blkQ_hit rfl ?_
        | refine blkQ_miss rfl ?_
        | refine rndQ_x ?_
        | refine rndQ_r ?_
        | refine rdQ_n ?_
        | refine rdQ_x ?_
        | refine rdQ_r ?_
        | refine cutQ_n ?_
        | refine cutQ_r ?_
        | refine cutQ_miss rfl ?_
        | refine endQ_x ?_
        | refine endQ_r ?_)
      exact fin1r rfl rfl ⟨rfl, (St.qClose h1 h2 h3 hS).mutOf (List.Mem.head _)⟩
  · by_cases hr : u.length < 32
    · simp only [if_true, if_pos hr]
      refine Cal.mkM hc hi (by kernel_rfl) Try.func22 rfl rfl fun hS => ?_
      obtain ⟨cu, cs, rfl, h1, h2, h3, hS⟩ := St.qOpen hS
      repeat' (first
        | (show WL _ _ _ _ _ _ _; first
          | refine WL.pure rfl rfl rfl rfl ?_
          | refine WL.nil ?_
          | refine WL.load hS rfl rfl (LdOk.box (by repeat (first | exact List.Mem.head _ | apply List.Mem.tail)) rfl) rfl rfl rfl ?_
          | refine WL.add rfl rfl rfl (by omega) rfl rfl rfl ?_
          | refine WL.sub rfl rfl rfl (by omega) rfl rfl rfl ?_
          | (refine WL.store hS rfl rfl rfl (by repeat (first | exact StB.here rfl | apply StB.there)) rfl rfl rfl ?_; intro w hS)
          | (refine WL.box hS rfl rfl rfl rfl rfl ?_; intro w b hS)
          | (refine WL.alloc hS rfl rfl rfl rfl rfl rfl ?_; intro w b hS)
          | refine WL.index rfl rfl rfl rfl (by first | with_reducible assumption | omega) rfl rfl rfl rfl ?_
          | refine WL.index (j := 0) rfl rfl rfl rfl (by omega) rfl rfl rfl rfl ?_
          | refine WL.indexArr rfl rfl rfl rfl (by decide) rfl rfl rfl ?_
          | refine WL.skip rfl rfl rfl ?_
          | refine WL.build rfl rfl rfl rfl rfl ?_
          | (refine WL.slit hS rfl rfl rfl rfl rfl ?_; intro w b hS)
          | refine WL.eqS rfl rfl rfl rfl (by kernel_rfl) rfl rfl rfl ?_
          | refine WL.neS rfl rfl rfl rfl (by kernel_rfl) rfl rfl rfl ?_
          | ((fail_if_success (refine WL.wanted rfl ?_)); refine WL.guard rfl rfl rfl (fun h => ?_) (fun h => ?_) <;> (try simp only [decide_eq_true_eq, decide_eq_false_iff_not] at h) <;> (try (exfalso; omega))))
        | (show WC _ _ _ _ _ _; first
          | (refine WC.selSend hS rfl rfl rfl rfl (by repeat (first | exact Repl.here | apply Repl.there)) (by omega) rfl rfl rfl ?_; intro w hS)
          | refine WC.seq ?_
          | refine WC.region ?_
          | refine WC.block ?_
          | refine WC.skip ?_
          | refine WC.exit ?_
          | refine WC.ret ?_
          | refine WC.condT rfl (by with_reducible rfl) ?_
          | refine WC.condF rfl (by with_reducible rfl) ?_
          | refine WC.condT rfl (by decide) ?_
          | refine WC.condF rfl (by decide) ?_
          | refine WC.condT rfl (decide_eq_true (by first | with_reducible assumption | omega)) ?_
          | refine WC.condF rfl (decide_eq_false (by first | with_reducible assumption | omega)) ?_
          | refine WC.condT rfl (by first | (simp; done) | (simp; omega)) ?_
          | refine WC.condF rfl (by first | (simp; done) | (simp; omega)) ?_
          | (refine WC.cond rfl (fun h => ?_) (fun h => ?_) <;> (try simp only [Bool.not_eq_true', Bool.not_eq_false', Bool.not_eq_eq_eq_not, Bool.not_true, Bool.not_false, beq_iff_eq, beq_eq_false_iff_ne, ne_eq, decide_eq_decide, decide_eq_true_eq, decide_eq_false_iff_not, Bool.and_eq_true, Bool.or_eq_true, Bool.and_eq_false_iff, Bool.or_eq_false_iff] at h) <;> (try (exfalso; omega))))
        | (show WD _ _ _ _ _ _ _ _ _; first
          | refine WD.pure rfl rfl rfl rfl rfl ?_
          | refine WD.nil ?_
          | refine WD.load rfl rfl (LdOk.box (by repeat (first | exact List.Mem.head _ | apply List.Mem.tail)) rfl) rfl rfl rfl rfl ?_
          | refine WD.add rfl rfl rfl (by omega) rfl rfl rfl rfl ?_
          | refine WD.sub rfl rfl rfl (by omega) rfl rfl rfl rfl ?_
          | refine WD.index rfl rfl rfl rfl (by first | with_reducible assumption | omega) rfl rfl rfl rfl rfl ?_
          | refine WD.index (j := 0) rfl rfl rfl rfl (by omega) rfl rfl rfl rfl rfl ?_
          | refine WD.indexArr rfl rfl rfl rfl (by decide) rfl rfl rfl rfl ?_
          | refine WD.pass rfl rfl rfl rfl ?_
          | refine WD.build rfl rfl rfl rfl rfl rfl ?_
          | (refine WD.slit hS hM rfl rfl rfl rfl rfl rfl rfl ?_; intro w b hS hM)
          | refine WD.eqS rfl rfl rfl rfl (by kernel_rfl) rfl rfl rfl rfl ?_
          | refine WD.neS rfl rfl rfl rfl (by kernel_rfl) rfl rfl rfl rfl ?_
          | (refine WD.box hS hM rfl rfl rfl rfl rfl rfl rfl ?_; intro w b hS hM)
          | ((fail_if_success (refine WD.wanted rfl ?_)); refine WD.guard rfl rfl rfl (fun h => ?_) (fun h => ?_) <;> (try simp only [decide_eq_true_eq, decide_eq_false_iff_not] at h) <;> (try (exfalso; omega))))
        | refine seqQ_n ?_
        | refine blkQ_n ?_
        | refine seqQ_x ?_
        | refine seqQ_r ?_
        | refine blkQ_r ?_
        | refine blkQ_hit rfl ?_
        | refine blkQ_miss rfl ?_
        | refine rndQ_x ?_
        | refine rndQ_r ?_
        | refine rdQ_n ?_
        | refine rdQ_x ?_
        | refine rdQ_r ?_
        | refine cutQ_n ?_
        | refine cutQ_r ?_
        | refine cutQ_miss rfl ?_
        | refine endQ_x ?_
        | refine endQ_r ?_)
      rw [ints_snoc] at hS
      exact fin1r rfl rfl ⟨rfl, (St.qClose h1 h2 h3 hS).mutOf (List.Mem.head _)⟩
    · simp only [if_true, if_neg hr]
      refine Cal.mkM hc hi (by kernel_rfl) Try.func22 rfl rfl fun hS => ?_
      obtain ⟨cu, cs, rfl, h1, h2, h3, hS⟩ := St.qOpen hS
      repeat' (first
        | (show WL _ _ _ _ _ _ _; first
          | refine WL.pure rfl rfl rfl rfl ?_
          | refine WL.nil ?_
          | refine WL.load hS rfl rfl (LdOk.box (by repeat (first | exact List.Mem.head _ | apply List.Mem.tail)) rfl) rfl rfl rfl ?_
          | refine WL.add rfl rfl rfl (by omega) rfl rfl rfl ?_
          | refine WL.sub rfl rfl rfl (by omega) rfl rfl rfl ?_
          | (refine WL.store hS rfl rfl rfl (by repeat (first | exact StB.here rfl | apply StB.there)) rfl rfl rfl ?_; intro w hS)
          | (refine WL.box hS rfl rfl rfl rfl rfl ?_; intro w b hS)
          | (refine WL.alloc hS rfl rfl rfl rfl rfl rfl ?_; intro w b hS)
          | refine WL.index rfl rfl rfl rfl (by first | with_reducible assumption | omega) rfl rfl rfl rfl ?_
          | refine WL.index (j := 0) rfl rfl rfl rfl (by omega) rfl rfl rfl rfl ?_
          | refine WL.indexArr rfl rfl rfl rfl (by decide) rfl rfl rfl ?_
          | refine WL.skip rfl rfl rfl ?_
          | refine WL.build rfl rfl rfl rfl rfl ?_
          | (refine WL.slit hS rfl rfl rfl rfl rfl ?_; intro w b hS)
          | refine WL.eqS rfl rfl rfl rfl (by kernel_rfl) rfl rfl rfl ?_
          | refine WL.neS rfl rfl rfl rfl (by kernel_rfl) rfl rfl rfl ?_
          | ((fail_if_success (refine WL.wanted rfl ?_)); refine WL.guard rfl rfl rfl (fun h => ?_) (fun h => ?_) <;> (try simp only [decide_eq_true_eq, decide_eq_false_iff_not] at h) <;> (try (exfalso; omega))))
        | (show WC _ _ _ _ _ _; first
          | refine WC.selFull hS rfl rfl rfl (by repeat (first | exact List.Mem.head _ | apply List.Mem.tail)) (by omega) rfl rfl rfl ?_
          | refine WC.seq ?_
          | refine WC.region ?_
          | refine WC.block ?_
          | refine WC.skip ?_
          | refine WC.exit ?_
          | refine WC.ret ?_
          | refine WC.condT rfl (by with_reducible rfl) ?_
          | refine WC.condF rfl (by with_reducible rfl) ?_
          | refine WC.condT rfl (by decide) ?_
          | refine WC.condF rfl (by decide) ?_
          | refine WC.condT rfl (decide_eq_true (by first | with_reducible assumption | omega)) ?_
          | refine WC.condF rfl (decide_eq_false (by first | with_reducible assumption | omega)) ?_
          | refine WC.condT rfl (by first | (simp; done) | (simp; omega)) ?_
          | refine WC.condF rfl (by first | (simp; done) | (simp; omega)) ?_
          | (refine WC.cond rfl (fun h => ?_) (fun h => ?_) <;> (try simp only [Bool.not_eq_true', Bool.not_eq_false', Bool.not_eq_eq_eq_not, Bool.not_true, Bool.not_false, beq_iff_eq, beq_eq_false_iff_ne, ne_eq, decide_eq_decide, decide_eq_true_eq, decide_eq_false_iff_not, Bool.and_eq_true, Bool.or_eq_true, Bool.and_eq_false_iff, Bool.or_eq_false_iff] at h) <;> (try (exfalso; omega))))
        | (show WD _ _ _ _ _ _ _ _ _; first
          | refine WD.pure rfl rfl rfl rfl rfl ?_
          | refine WD.nil ?_
          | refine WD.load rfl rfl (LdOk.box (by repeat (first | exact List.Mem.head _ | apply List.Mem.tail)) rfl) rfl rfl rfl rfl ?_
          | refine WD.add rfl rfl rfl (by omega) rfl rfl rfl rfl ?_
          | refine WD.sub rfl rfl rfl (by omega) rfl rfl rfl rfl ?_
          | refine WD.index rfl rfl rfl rfl (by first | with_reducible assumption | omega) rfl rfl rfl rfl rfl ?_
          | refine WD.index (j := 0) rfl rfl rfl rfl (by omega) rfl rfl rfl rfl rfl ?_
          | refine WD.indexArr rfl rfl rfl rfl (by decide) rfl rfl rfl rfl ?_
          | refine WD.pass rfl rfl rfl rfl ?_
          | refine WD.build rfl rfl rfl rfl rfl rfl ?_
          | (refine WD.slit hS hM rfl rfl rfl rfl rfl rfl rfl ?_; intro w b hS hM)
          | refine WD.eqS rfl rfl rfl rfl (by kernel_rfl) rfl rfl rfl rfl ?_
          | refine WD.neS rfl rfl rfl rfl (by kernel_rfl) rfl rfl rfl rfl ?_
          | (refine WD.box hS hM rfl rfl rfl rfl rfl rfl rfl ?_; intro w b hS hM)
          | ((fail_if_success (refine WD.wanted rfl ?_)); refine WD.guard rfl rfl rfl (fun h => ?_) (fun h => ?_) <;> (try simp only [decide_eq_true_eq, decide_eq_false_iff_not] at h) <;> (try (exfalso; omega))))
        | refine seqQ_n ?_
        | refine blkQ_n ?_
        | refine seqQ_x ?_
        | refine seqQ_r ?_
        | refine blkQ_r ?_
        | refine blkQ_hit rfl ?_
        | refine blkQ_miss rfl ?_
        | refine rndQ_x ?_
        | refine rndQ_r ?_
        | refine rdQ_n ?_
        | refine rdQ_x ?_
        | refine rdQ_r ?_
        | refine cutQ_n ?_
        | refine cutQ_r ?_
        | refine cutQ_miss rfl ?_
        | refine endQ_x ?_
        | refine endQ_r ?_)
      exact fin1r rfl rfl ⟨rfl, (St.qClose h1 h2 h3 hS).mutOf (List.Mem.head _)⟩

/-- the next job -/
def nextV : List Int → List Int → Value
  | x :: _, _ => .tuple #[.int .i64 x, .bool true]
  | [], x :: _ => .tuple #[.int .i64 x, .bool true]
  | [], [] => .tuple #[.int .i64 0, .bool false]
def nextU : List Int → List Int
  | _ :: u => u
  | [] => []
def nextS : List Int → List Int → List Int
  | _ :: _, s => s
  | [], _ :: s => s
  | [], [] => []
set_option maxHeartbeats 4000000 in
theorem qnext_c (q : Nat) (u s : List Int) (fp : List Nat) (w0 : World) (hc : (qC q u s fp).holds w0) (hi : inB (qC q u s fp) w0) :
    Cal Try.prog 24 [.pointer (some ⟨q, 0, none⟩)] w0 (fun v w' => v = nextV u s ∧ Mut w0 w' (qC q u s fp) (qC q (nextU u) (nextS u s) fp)) := by
  rcases u with _ | ⟨x, u⟩
  · rcases s with _ | ⟨x, s⟩
    · refine Cal.mkM hc hi (by kernel_rfl) Try.func24 rfl rfl fun hS => ?_
      obtain ⟨cu, cs, rfl, h1, h2, h3, hS⟩ := St.qOpen hS
      repeat' (first
        | (show WL _ _ _ _ _ _ _; first
          | refine WL.pure rfl rfl rfl rfl ?_
          | refine WL.nil ?_
          | refine WL.load hS rfl rfl (LdOk.box (by repeat (first | exact List.Mem.head _ | apply List.Mem.tail)) rfl) rfl rfl rfl ?_
          | refine WL.add rfl rfl rfl (by omega) rfl rfl rfl ?_
          | refine WL.sub rfl rfl rfl (by omega) rfl rfl rfl ?_
          | (refine WL.store hS rfl rfl rfl (by repeat (first | exact StB.here rfl | apply StB.there)) rfl rfl rfl ?_; intro w hS)
          | (refine WL.box hS rfl rfl rfl rfl rfl ?_; intro w b hS)
          | (refine WL.alloc hS rfl rfl rfl rfl rfl rfl ?_; intro w b hS)
          | refine WL.index rfl rfl rfl rfl (by first | with_reducible assumption | omega) rfl rfl rfl rfl ?_
          | refine WL.index (j := 0) rfl rfl rfl rfl (by omega) rfl rfl rfl rfl ?_
          | refine WL.indexArr rfl rfl rfl rfl (by decide) rfl rfl rfl ?_
          | refine WL.skip rfl rfl rfl ?_
          | refine WL.build rfl rfl rfl rfl rfl ?_
          | (refine WL.slit hS rfl rfl rfl rfl rfl ?_; intro w b hS)
          | refine WL.eqS rfl rfl rfl rfl (by kernel_rfl) rfl rfl rfl ?_
          | refine WL.neS rfl rfl rfl rfl (by kernel_rfl) rfl rfl rfl ?_
          | ((fail_if_success (refine WL.wanted rfl ?_)); refine WL.guard rfl rfl rfl (fun h => ?_) (fun h => ?_) <;> (try simp only [decide_eq_true_eq, decide_eq_false_iff_not] at h) <;> (try (exfalso; omega))))
        | (show WC _ _ _ _ _ _; first
          | refine WC.selNone hS rfl rfl rfl (by repeat (first | exact List.Mem.head _ | apply List.Mem.tail)) rfl rfl rfl ?_
          | refine WC.seq ?_
          | refine WC.region ?_
          | refine WC.block ?_
          | refine WC.skip ?_
          | refine WC.exit ?_
          | refine WC.ret ?_
          | refine WC.condT rfl (by with_reducible rfl) ?_
          | refine WC.condF rfl (by with_reducible rfl) ?_
          | refine WC.condT rfl (by decide) ?_
          | refine WC.condF rfl (by decide) ?_
          | refine WC.condT rfl (decide_eq_true (by first | with_reducible assumption | omega)) ?_
          | refine WC.condF rfl (decide_eq_false (by first | with_reducible assumption | omega)) ?_
          | refine WC.condT rfl (by first | (simp; done) | (simp; omega)) ?_
          | refine WC.condF rfl (by first | (simp; done) | (simp; omega)) ?_
          | (refine WC.cond rfl (fun h => ?_) (fun h => ?_) <;> (try simp only [Bool.not_eq_true', Bool.not_eq_false', Bool.not_eq_eq_eq_not, Bool.not_true, Bool.not_false, beq_iff_eq, beq_eq_false_iff_ne, ne_eq, decide_eq_decide, decide_eq_true_eq, decide_eq_false_iff_not, Bool.and_eq_true, Bool.or_eq_true, Bool.and_eq_false_iff, Bool.or_eq_false_iff] at h) <;> (try (exfalso; omega))))
        | (show WD _ _ _ _ _ _ _ _ _; first
          | refine WD.pure rfl rfl rfl rfl rfl ?_
          | refine WD.nil ?_
          | refine WD.load rfl rfl (LdOk.box (by repeat (first | exact List.Mem.head _ | apply List.Mem.tail)) rfl) rfl rfl rfl rfl ?_
          | refine WD.add rfl rfl rfl (by omega) rfl rfl rfl rfl ?_
          | refine WD.sub rfl rfl rfl (by omega) rfl rfl rfl rfl ?_
          | refine WD.index rfl rfl rfl rfl (by first | with_reducible assumption | omega) rfl rfl rfl rfl rfl ?_
          | refine WD.index (j := 0) rfl rfl rfl rfl (by omega) rfl rfl rfl rfl rfl ?_
          | refine WD.indexArr rfl rfl rfl rfl (by decide) rfl rfl rfl rfl ?_
          | refine WD.pass rfl rfl rfl rfl ?_
          | refine WD.build rfl rfl rfl rfl rfl rfl ?_
          | (refine WD.slit hS hM rfl rfl rfl rfl rfl rfl rfl ?_; intro w b hS hM)
          | refine WD.eqS rfl rfl rfl rfl (by kernel_rfl) rfl rfl rfl rfl ?_
          | refine WD.neS rfl rfl rfl rfl (by kernel_rfl) rfl rfl rfl rfl ?_
          | (refine WD.box hS hM rfl rfl rfl rfl rfl rfl rfl ?_; intro w b hS hM)
          | ((fail_if_success (refine WD.wanted rfl ?_)); refine WD.guard rfl rfl rfl (fun h => ?_) (fun h => ?_) <;> (try simp only [decide_eq_true_eq, decide_eq_false_iff_not] at h) <;> (try (exfalso; omega))))
        | refine seqQ_n ?_
        | refine blkQ_n ?_
        | refine seqQ_x ?_
        | refine seqQ_r ?_
        | refine blkQ_r ?_
        | refine blkQ_hit rfl ?_
        | refine blkQ_miss rfl ?_
        | refine rndQ_x ?_
        | refine rndQ_r ?_
        | refine rdQ_n ?_
        | refine rdQ_x ?_
        | refine rdQ_r ?_
        | refine cutQ_n ?_
        | refine cutQ_r ?_
        | refine cutQ_miss rfl ?_
        | refine endQ_x ?_
        | refine endQ_r ?_)
      exact fin2r rfl rfl rfl ⟨rfl, (St.qClose h1 h2 h3 hS).mutOf (List.Mem.head _)⟩
    · refine Cal.mkM hc hi (by kernel_rfl) Try.func24 rfl rfl fun hS => ?_
      obtain ⟨cu, cs, rfl, h1, h2, h3, hS⟩ := St.qOpen hS
      repeat' (first
        | (show WL _ _ _ _ _ _ _; first
          | refine WL.pure rfl rfl rfl rfl ?_
          | refine WL.nil ?_
          | refine WL.load hS rfl rfl (LdOk.box (by repeat (first | exact List.Mem.head _ | apply List.Mem.tail)) rfl) rfl rfl rfl ?_
          | refine WL.add rfl rfl rfl (by omega) rfl rfl rfl ?_
          | refine WL.sub rfl rfl rfl (by omega) rfl rfl rfl ?_
          | (refine WL.store hS rfl rfl rfl (by repeat (first | exact StB.here rfl | apply StB.there)) rfl rfl rfl ?_; intro w hS)
          | (refine WL.box hS rfl rfl rfl rfl rfl ?_; intro w b hS)
          | (refine WL.alloc hS rfl rfl rfl rfl rfl rfl ?_; intro w b hS)
          | refine WL.index rfl rfl rfl rfl (by first | with_reducible assumption | omega) rfl rfl rfl rfl ?_
          | refine WL.index (j := 0) rfl rfl rfl rfl (by omega) rfl rfl rfl rfl ?_
          | refine WL.indexArr rfl rfl rfl rfl (by decide) rfl rfl rfl ?_
          | refine WL.skip rfl rfl rfl ?_
          | refine WL.build rfl rfl rfl rfl rfl ?_
          | (refine WL.slit hS rfl rfl rfl rfl rfl ?_; intro w b hS)
          | refine WL.eqS rfl rfl rfl rfl (by kernel_rfl) rfl rfl rfl ?_
          | refine WL.neS rfl rfl rfl rfl (by kernel_rfl) rfl rfl rfl ?_
          | ((fail_if_success (refine WL.wanted rfl ?_)); refine WL.guard rfl rfl rfl (fun h => ?_) (fun h => ?_) <;> (try simp only [decide_eq_true_eq, decide_eq_false_iff_not] at h) <;> (try (exfalso; omega))))
        | (show WC _ _ _ _ _ _; first
          | (refine WC.selRecv hS rfl rfl rfl (by repeat (first | exact Repl.here | apply Repl.there)) rfl rfl rfl ?_; intro w hS)
          | refine WC.selNone hS rfl rfl rfl (by repeat (first | exact List.Mem.head _ | apply List.Mem.tail)) rfl rfl rfl ?_
          | refine WC.seq ?_
          | refine WC.region ?_
          | refine WC.block ?_
          | refine WC.skip ?_
          | refine WC.exit ?_
          | refine WC.ret ?_
          | refine WC.condT rfl (by with_reducible rfl) ?_
          | refine WC.condF rfl (by with_reducible rfl) ?_
          | refine WC.condT rfl (by decide) ?_
          | refine WC.condF rfl (by decide) ?_
          | refine WC.condT rfl (decide_eq_true (by first | with_reducible assumption | omega)) ?_
          | refine WC.condF rfl (decide_eq_false (by first | with_reducible assumption | omega)) ?_
          | refine WC.condT rfl (by first | (simp; done) | (simp; omega)) ?_
          | refine WC.condF rfl (by first | (simp; done) | (simp; omega)) ?_
          | (refine WC.cond rfl (fun h => ?_) (fun h => ?_) <;> (try simp only [Bool.not_eq_true', Bool.not_eq_false', Bool.not_eq_eq_eq_not, Bool.not_true, Bool.not_false, beq_iff_eq, beq_eq_false_iff_ne, ne_eq, decide_eq_decide, decide_eq_true_eq, decide_eq_false_iff_not, Bool.and_eq_true, Bool.or_eq_true, Bool.and_eq_false_iff, Bool.or_eq_false_iff] at h) <;> (try (exfalso; omega))))
        | (show WD _ _ _ _ _ _ _ _ _; first
          | refine WD.pure rfl rfl rfl rfl rfl ?_
          | refine WD.nil ?_
          | refine WD.load rfl rfl (LdOk.box (by repeat (first | exact List.Mem.head _ | apply List.Mem.tail)) rfl) rfl rfl rfl rfl ?_
          | refine WD.add rfl rfl rfl (by omega) rfl rfl rfl rfl ?_
          | refine WD.sub rfl rfl rfl (by omega) rfl rfl rfl rfl ?_
          | refine WD.index rfl rfl rfl rfl (by first | with_reducible assumption | omega) rfl rfl rfl rfl rfl ?_
          | refine WD.index (j := 0) rfl rfl rfl rfl (by omega) rfl rfl rfl rfl rfl ?_
          | refine WD.indexArr rfl rfl rfl rfl (by decide) rfl rfl rfl rfl ?_
          | refine WD.pass rfl rfl rfl rfl ?_
          | refine WD.build rfl rfl rfl rfl rfl rfl ?_
          | (refine WD.slit hS hM rfl rfl rfl rfl rfl rfl rfl ?_; intro w b hS hM)
          | refine WD.eqS rfl rfl rfl rfl (by kernel_rfl) rfl rfl rfl rfl ?_
          | refine WD.neS rfl rfl rfl rfl (by kernel_rfl) rfl rfl rfl rfl ?_
          | (refine WD.box hS hM rfl rfl rfl rfl rfl rfl rfl ?_; intro w b hS hM)
          | ((fail_if_success (refine WD.wanted rfl ?_)); refine WD.guard rfl rfl rfl (fun h => ?_) (fun h => ?_) <;> (try simp only [decide_eq_true_eq, decide_eq_false_iff_not] at h) <;> (try (exfalso; omega))))
        | refine seqQ_n ?_
        | refine blkQ_n ?_
        | refine seqQ_x ?_
        | refine seqQ_r ?_
        | refine blkQ_r ?_
        | refine blkQ_hit rfl ?_
        | refine blkQ_miss rfl ?_
        | refine rndQ_x ?_
        | refine rndQ_r ?_
        | refine rdQ_n ?_
        | refine rdQ_x ?_
        | refine rdQ_r ?_
        | refine cutQ_n ?_
        | refine cutQ_r ?_
        | refine cutQ_miss rfl ?_
        | refine endQ_x ?_
        | refine endQ_r ?_)
      exact fin2r rfl rfl rfl ⟨rfl, (St.qClose h1 h2 h3 hS).mutOf (List.Mem.head _)⟩
  · refine Cal.mkM hc hi (by kernel_rfl) Try.func24 rfl rfl fun hS => ?_
    obtain ⟨cu, cs, rfl, h1, h2, h3, hS⟩ := St.qOpen hS
    repeat' (first
      | (show WL _ _ _ _ _ _ _; first
        | refine WL.pure rfl rfl rfl rfl ?_
        | refine WL.nil ?_
        | refine WL.load hS rfl rfl (LdOk.box (by repeat (first | exact List.Mem.head _ | apply List.Mem.tail)) rfl) rfl rfl rfl ?_
        | refine WL.add rfl rfl rfl (by omega) rfl rfl rfl ?_
        | refine WL.sub rfl rfl rfl (by omega) rfl rfl rfl ?_
        | (refine WL.store hS rfl rfl rfl (by repeat (first | exact StB.here rfl | apply StB.there)) rfl rfl rfl ?_; intro w hS)
        | (refine WL.box hS rfl rfl rfl rfl rfl ?_; intro w b hS)
        | (refine WL.alloc hS rfl rfl rfl rfl rfl rfl ?_; intro w b hS)
        | refine WL.index rfl rfl rfl rfl (by first | with_reducible assumption | omega) rfl rfl rfl rfl ?_
        | refine WL.index (j := 0) rfl rfl rfl rfl (by omega) rfl rfl rfl rfl ?_
        | refine WL.indexArr rfl rfl rfl rfl (by decide) rfl rfl rfl ?_
        | refine WL.skip rfl rfl rfl ?_
        | refine WL.build rfl rfl rfl rfl rfl ?_
        | (refine WL.slit hS rfl rfl rfl rfl rfl ?_; intro w b hS)
        | refine WL.eqS rfl rfl rfl rfl (by kernel_rfl) rfl rfl rfl ?_
        | refine WL.neS rfl rfl rfl rfl (by kernel_rfl) rfl rfl rfl ?_
        | ((fail_if_success (refine WL.wanted rfl ?_)); refine WL.guard rfl rfl rfl (fun h => ?_) (fun h => ?_) <;> (try simp only [decide_eq_true_eq, decide_eq_false_iff_not] at h) <;> (try (exfalso; omega))))
      | (show WC _ _ _ _ _ _; first
        | (refine WC.selRecv hS rfl rfl rfl (by repeat (first | exact Repl.here | apply Repl.there)) rfl rfl rfl ?_; intro w hS)
        | refine WC.seq ?_
        | refine WC.region ?_
        | refine WC.block ?_
        | refine WC.skip ?_
        | refine WC.exit ?_
        | refine WC.ret ?_
        | refine WC.condT rfl (by with_reducible rfl) ?_
        | refine WC.condF rfl (by with_reducible rfl) ?_
        | refine WC.condT rfl (by decide) ?_
        | refine WC.condF rfl (by decide) ?_
        | refine WC.condT rfl (decide_eq_true (by first | with_reducible assumption | omega)) ?_
        | refine WC.condF rfl (decide_eq_false (by first | with_reducible assumption | omega)) ?_
        | refine WC.condT rfl (by first | (simp; done) | (simp; omega)) ?_
        | refine WC.condF rfl (by first | (simp; done) | (simp; omega)) ?_
        | (refine WC.cond rfl (fun h => ?_) (fun h => ?_) <;> (try simp only [Bool.not_eq_true', Bool.not_eq_false', Bool.not_eq_eq_eq_not, Bool.not_true, Bool.not_false, beq_iff_eq, beq_eq_false_iff_ne, ne_eq, decide_eq_decide, decide_eq_true_eq, decide_eq_false_iff_not, Bool.and_eq_true, Bool.or_eq_true, Bool.and_eq_false_iff, Bool.or_eq_false_iff] at h) <;> (try (exfalso; omega))))
      | (show WD _ _ _ _ _ _ _ _ _; first
        | refine WD.pure rfl rfl rfl rfl rfl ?_
        | refine WD.nil ?_
        | refine WD.load rfl rfl (LdOk.box (by repeat (first | exact List.Mem.head _ | apply List.Mem.tail)) rfl) rfl rfl rfl rfl ?_
        | refine WD.add rfl rfl rfl (by omega) rfl rfl rfl rfl ?_
        | refine WD.sub rfl rfl rfl (by omega) rfl rfl rfl rfl ?_
        | refine WD.index rfl rfl rfl rfl (by first | with_reducible assumption | omega) rfl rfl rfl rfl rfl ?_
        | refine WD.index (j := 0) rfl rfl rfl rfl (by omega) rfl rfl rfl rfl rfl ?_
        | refine WD.indexArr rfl rfl rfl rfl (by decide) rfl rfl rfl rfl ?_
        | refine WD.pass rfl rfl rfl rfl ?_
        | refine WD.build rfl rfl rfl rfl rfl rfl ?_
        | (refine WD.slit hS hM rfl rfl rfl rfl rfl rfl rfl ?_; intro w b hS hM)
        | refine WD.eqS rfl rfl rfl rfl (by kernel_rfl) rfl rfl rfl rfl ?_
        | refine WD.neS rfl rfl rfl rfl (by kernel_rfl) rfl rfl rfl rfl ?_
        | (refine WD.box hS hM rfl rfl rfl rfl rfl rfl rfl ?_; intro w b hS hM)
        | ((fail_if_success (refine WD.wanted rfl ?_)); refine WD.guard rfl rfl rfl (fun h => ?_) (fun h => ?_) <;> (try simp only [decide_eq_true_eq, decide_eq_false_iff_not] at h) <;> (try (exfalso; omega))))
      | refine seqQ_n ?_
      | refine blkQ_n ?_
      | refine seqQ_x ?_
      | refine seqQ_r ?_
      | refine blkQ_r ?_
      | refine blkQ_hit rfl ?_
      | refine blkQ_miss rfl ?_
      | refine rndQ_x ?_
      | refine rndQ_r ?_
      | refine rdQ_n ?_
      | refine rdQ_x ?_
      | refine rdQ_r ?_
      | refine cutQ_n ?_
      | refine cutQ_r ?_
      | refine cutQ_miss rfl ?_
      | refine endQ_x ?_
      | refine endQ_r ?_)
    exact fin2r rfl rfl rfl ⟨rfl, (St.qClose h1 h2 h3 hS).mutOf (List.Mem.head _)⟩
end Go.Proofs.Ytjmdhakndlhbhaa
