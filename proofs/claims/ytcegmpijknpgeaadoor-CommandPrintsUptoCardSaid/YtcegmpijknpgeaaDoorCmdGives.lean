/- What is proved: the law CommandGives answers true. Conditions: the statement's own bound on the bulk. -/
import Derived.Test.YtcegmpijknpgeaaDoorCmdParse
import Derived.Test.YtcegmpijknpgeaaDoorClose
set_option linter.unusedSimpArgs false
set_option linter.unusedVariables false
namespace Go.Proofs.YtcegmpijknpgeaaDoor
open Go Go.J Go.RowKit

theorem parseAt_c (line : List UInt8) (c : Cmd) (e : Int) (h : parseE line = (c, e)) (w0 : World) (hl : line.length ≤ 4611686018427) : Cal Tryd.prog 7 [str line] w0 (fun v w' => Upd [] w0 w' ∧ v = .tuple #[.agg ⟨cmdV c⟩, .int .i64 e]) :=
  (parse_c line w0 hl).mono fun v w' ⟨h1, h2⟩ => ⟨h1, by rw [h2, h]; rfl⟩
set_option maxHeartbeats 4000000 in
set_option maxRecDepth 100000 in
theorem awake_c (w0 : World) : Cal Tryd.prog 11 [] w0 (fun v w' => Upd [] w0 w' ∧ v = .bool true) := by
  refine Cal.mk' (by kernel_rfl) Tryd.func11 rfl rfl fun hS => ?_
  have hE : parseE [103, 105, 118, 101, 32, 50, 32, 97, 47, 120, 32, 115, 111, 109, 101, 32, 116, 101, 120, 116] = (⟨w_give, 2, 0, [97, 47, 120], [115, 111, 109, 101, 32, 116, 101, 120, 116], 4⟩, 0) := by kernel_rfl
  repeat' (first
    | (show WL _ _ _ _ _ _ _; first
      | refine WL.pure rfl rfl rfl rfl ?_
      | refine WL.nil ?_
      | refine WL.load hS rfl rfl (LdOk.box (by repeat (first | exact List.Mem.head _ | apply List.Mem.tail)) rfl) rfl rfl rfl ?_
      | refine WL.add rfl rfl rfl (by omega) rfl rfl rfl ?_
      | refine WL.sub rfl rfl rfl (by omega) rfl rfl rfl ?_
      | (refine WL.calls hS rfl rfl (parseAt_c _ _ _ hE _ (by decide)) rfl rfl rfl ?_; rintro v w rfl hS)
      | refine WL.conv64 rfl rfl rfl (by omega) rfl rfl rfl ?_
      | refine WL.cat rfl rfl rfl (by omega) rfl rfl rfl ?_
      | refine WL.idxS rfl rfl rfl rfl (by with_reducible assumption) rfl rfl rfl ?_
      | refine WL.lowS rfl rfl rfl rfl (by omega) rfl rfl rfl ?_
      | refine WL.highS rfl rfl rfl rfl (by omega) rfl rfl rfl ?_
      | refine WL.midS rfl rfl rfl rfl rfl (by omega) (by omega) rfl rfl rfl ?_
      | refine WL.maxI rfl rfl rfl rfl rfl rfl ?_
      | refine WL.minI rfl rfl rfl rfl rfl rfl ?_
      | (refine WL.store hS rfl rfl rfl (by repeat (first | exact StB.here rfl | apply StB.there)) rfl rfl rfl ?_; intro w hS)
      | (refine WL.box hS rfl rfl rfl rfl rfl ?_; intro w b hS)
      | (refine WL.alloc hS rfl rfl rfl rfl rfl rfl ?_; intro w b hS)
      | refine WL.index rfl rfl rfl rfl (by first | with_reducible assumption | omega) rfl rfl rfl rfl ?_
      | refine WL.index (j := 0) rfl rfl rfl rfl (by omega) rfl rfl rfl rfl ?_
      | refine WL.indexArr rfl rfl rfl rfl (by decide) rfl rfl rfl ?_
      | refine WL.skip rfl rfl rfl ?_
      | refine WL.build rfl rfl rfl rfl rfl ?_
      | (refine WL.slit hS rfl rfl rfl rfl rfl ?_; intro w b hS)
      | refine WL.eqS rfl rfl rfl rfl (by kernel_rfl) rfl rfl rfl ?_
      | refine WL.neS rfl rfl rfl rfl (by kernel_rfl) rfl rfl rfl ?_
      | ((fail_if_success (refine WL.wanted rfl ?_)); refine WL.guard rfl rfl rfl (fun h => ?_) (fun h => ?_) <;> (try simp only [Classical.not_not, Bool.not_eq_true', Bool.not_eq_false', Bool.not_eq_eq_eq_not, Bool.not_true, Bool.not_false, beq_iff_eq, beq_eq_false_iff_ne, ne_eq, decide_eq_decide, decide_eq_true_eq, decide_eq_false_iff_not, Bool.and_eq_true, Bool.or_eq_true, Bool.and_eq_false_iff, Bool.or_eq_false_iff] at h) <;> (try (exfalso; first | omega | contradiction))))
    | (show WC _ _ _ _ _ _; first
      | refine WC.seq ?_
      | refine WC.region ?_
      | refine WC.block ?_
      | refine WC.skip ?_
      | refine WC.exit ?_
      | refine WC.ret ?_
      | refine WC.condT rfl (by with_reducible rfl) ?_
      | refine WC.condF rfl (by with_reducible rfl) ?_
      | refine WC.condT rfl (by decide) ?_
      | refine WC.condF rfl (by decide) ?_
      | refine WC.condT rfl (decide_eq_true (by first | with_reducible assumption | omega)) ?_
      | refine WC.condF rfl (decide_eq_false (by first | with_reducible assumption | omega)) ?_
      | refine WC.condT rfl (by first | (simp; done) | (simp; omega)) ?_
      | refine WC.condF rfl (by first | (simp; done) | (simp; omega)) ?_
      | (refine WC.cond rfl (fun h => ?_) (fun h => ?_) <;> (try simp only [Classical.not_not, Bool.not_eq_true', Bool.not_eq_false', Bool.not_eq_eq_eq_not, Bool.not_true, Bool.not_false, beq_iff_eq, beq_eq_false_iff_ne, ne_eq, decide_eq_decide, decide_eq_true_eq, decide_eq_false_iff_not, Bool.and_eq_true, Bool.or_eq_true, Bool.and_eq_false_iff, Bool.or_eq_false_iff] at h) <;> (try (exfalso; first | omega | contradiction))))
    | (show WD _ _ _ _ _ _ _ _ _; first
      | refine WD.pure rfl rfl rfl rfl rfl ?_
      | refine WD.nil ?_
      | refine WD.load rfl rfl (LdOk.box (by repeat (first | exact List.Mem.head _ | apply List.Mem.tail)) rfl) rfl rfl rfl rfl ?_
      | refine WD.add rfl rfl rfl (by omega) rfl rfl rfl rfl ?_
      | refine WD.sub rfl rfl rfl (by omega) rfl rfl rfl rfl ?_
      | refine WD.conv64 rfl rfl rfl (by omega) rfl rfl rfl rfl ?_
      | refine WD.index rfl rfl rfl rfl (by first | with_reducible assumption | omega) rfl rfl rfl rfl rfl ?_
      | refine WD.index (j := 0) rfl rfl rfl rfl (by omega) rfl rfl rfl rfl rfl ?_
      | refine WD.indexArr rfl rfl rfl rfl (by decide) rfl rfl rfl rfl ?_
      | refine WD.pass rfl rfl rfl rfl ?_
      | refine WD.skip rfl rfl rfl rfl rfl (hM.ss hS) ?_
      | refine WD.build rfl rfl rfl rfl rfl rfl ?_
      | (refine WD.slit hS hM rfl rfl rfl rfl rfl rfl rfl ?_; intro w b hS hM)
      | refine WD.eqS rfl rfl rfl rfl (by kernel_rfl) rfl rfl rfl rfl ?_
      | refine WD.neS rfl rfl rfl rfl (by kernel_rfl) rfl rfl rfl rfl ?_
      | (refine WD.box hS hM rfl rfl rfl rfl rfl rfl rfl ?_; intro w b hS hM)
      | ((fail_if_success (refine WD.wanted rfl ?_)); refine WD.guard rfl rfl rfl (fun h => ?_) (fun h => ?_) <;> (try simp only [Classical.not_not, Bool.not_eq_true', Bool.not_eq_false', Bool.not_eq_eq_eq_not, Bool.not_true, Bool.not_false, beq_iff_eq, beq_eq_false_iff_ne, ne_eq, decide_eq_decide, decide_eq_true_eq, decide_eq_false_iff_not, Bool.and_eq_true, Bool.or_eq_true, Bool.and_eq_false_iff, Bool.or_eq_false_iff] at h) <;> (try (exfalso; first | omega | contradiction))))
    | refine seqQ_n ?_
    | refine blkQ_n ?_
    | refine seqQ_x ?_
    | refine seqQ_r ?_
    | refine blkQ_r ?_
    | refine blkQ_hit rfl ?_
    | refine blkQ_miss rfl ?_
    | refine rndQ_x ?_
    | refine rndQ_r ?_
    | refine rdQ_n ?_
    | refine rdQ_x ?_
    | refine rdQ_r ?_
    | refine cutQ_n ?_
    | refine cutQ_r ?_
    | refine cutQ_miss rfl ?_
    | refine endQ_x ?_
    | refine endQ_r ?_)
  exact fin1r rfl rfl ⟨hS.upd, vbool (by simp)⟩
set_option maxHeartbeats 4000000 in
set_option maxRecDepth 100000 in
theorem commandGives_c (p text : List UInt8) (w0 : World) (hp : p.length ≤ 1048576) (ht : text.length ≤ 1048576) : Cal Tryd.prog 4 [str p, str text] w0 (fun v w' => Upd [] w0 w' ∧ v = .bool true) := by
  refine Cal.mk' (by kernel_rfl) Tryd.func4 rfl rfl fun hS => ?_
  have hck := fun w0 => rcheck_c p 5 w0 (by omega)
  have h1 : ([103, 105, 118, 101, 32, 49, 32] : List UInt8).length = 7 := rfl
  have h2 : ([103, 105, 118, 101, 32, 49, 32] ++ p).length = 7 + p.length := by rw [List.length_append]; rfl
  have h3 : ([32] : List UInt8).length = 1 := rfl
  have h4 : ([103, 105, 118, 101, 32, 49, 32] ++ p ++ [32]).length = 8 + p.length := by simp; omega
  have h5 : ([103, 105, 118, 101, 32, 49, 32] ++ p ++ [32] ++ text).length = 8 + p.length + text.length := by simp; omega
  by_cases hc : checkE p 5 = 0
  · by_cases hlen : p.length + text.length + 8 ≤ 5000
    · have hE := parse_gives hc hlen
      rw [hc] at hck
      clear hc
      repeat' (first
        | (show WL _ _ _ _ _ _ _; first
          | refine WL.pure rfl rfl rfl rfl ?_
          | refine WL.nil ?_
          | refine WL.load hS rfl rfl (LdOk.box (by repeat (first | exact List.Mem.head _ | apply List.Mem.tail)) rfl) rfl rfl rfl ?_
          | refine WL.add rfl rfl rfl (by omega) rfl rfl rfl ?_
          | refine WL.sub rfl rfl rfl (by omega) rfl rfl rfl ?_
          | (refine WL.calls hS rfl rfl (awake_c _) rfl rfl rfl ?_; rintro v w rfl hS)
          | (refine WL.calls hS rfl rfl (hck _) rfl rfl rfl ?_; rintro v w rfl hS)
          | (refine WL.calls hS rfl rfl (parseAt_c _ _ _ hE _ (by omega)) rfl rfl rfl ?_; rintro v w rfl hS)
          | refine WL.conv64 rfl rfl rfl (by omega) rfl rfl rfl ?_
          | refine WL.cat rfl rfl rfl (by omega) rfl rfl rfl ?_
          | refine WL.idxS rfl rfl rfl rfl (by with_reducible assumption) rfl rfl rfl ?_
          | refine WL.lowS rfl rfl rfl rfl (by omega) rfl rfl rfl ?_
          | refine WL.highS rfl rfl rfl rfl (by omega) rfl rfl rfl ?_
          | refine WL.midS rfl rfl rfl rfl rfl (by omega) (by omega) rfl rfl rfl ?_
          | refine WL.maxI rfl rfl rfl rfl rfl rfl ?_
          | refine WL.minI rfl rfl rfl rfl rfl rfl ?_
          | (refine WL.store hS rfl rfl rfl (by repeat (first | exact StB.here rfl | apply StB.there)) rfl rfl rfl ?_; intro w hS)
          | (refine WL.box hS rfl rfl rfl rfl rfl ?_; intro w b hS)
          | (refine WL.alloc hS rfl rfl rfl rfl rfl rfl ?_; intro w b hS)
          | refine WL.index rfl rfl rfl rfl (by first | with_reducible assumption | omega) rfl rfl rfl rfl ?_
          | refine WL.index (j := 0) rfl rfl rfl rfl (by omega) rfl rfl rfl rfl ?_
          | refine WL.indexArr rfl rfl rfl rfl (by decide) rfl rfl rfl ?_
          | refine WL.skip rfl rfl rfl ?_
          | refine WL.build rfl rfl rfl rfl rfl ?_
          | (refine WL.slit hS rfl rfl rfl rfl rfl ?_; intro w b hS)
          | refine WL.eqS rfl rfl rfl rfl (by kernel_rfl) rfl rfl rfl ?_
          | refine WL.neS rfl rfl rfl rfl (by kernel_rfl) rfl rfl rfl ?_
          | ((fail_if_success (refine WL.wanted rfl ?_)); refine WL.guard rfl rfl rfl (fun h => ?_) (fun h => ?_) <;> (try simp only [Classical.not_not, Bool.not_eq_true', Bool.not_eq_false', Bool.not_eq_eq_eq_not, Bool.not_true, Bool.not_false, beq_iff_eq, beq_eq_false_iff_ne, ne_eq, decide_eq_decide, decide_eq_true_eq, decide_eq_false_iff_not, Bool.and_eq_true, Bool.or_eq_true, Bool.and_eq_false_iff, Bool.or_eq_false_iff] at h) <;> (try (exfalso; first | omega | contradiction))))
        | (show WC _ _ _ _ _ _; first
          | refine WC.seq ?_
          | refine WC.region ?_
          | refine WC.block ?_
          | refine WC.skip ?_
          | refine WC.exit ?_
          | refine WC.ret ?_
          | refine WC.condT rfl (by with_reducible rfl) ?_
          | refine WC.condF rfl (by with_reducible rfl) ?_
          | refine WC.condT rfl (by decide) ?_
          | refine WC.condF rfl (by decide) ?_
          | refine WC.condT rfl (decide_eq_true (by first | with_reducible assumption | omega)) ?_
          | refine WC.condF rfl (decide_eq_false (by first | with_reducible assumption | omega)) ?_
          | refine WC.condT rfl (by first | (simp; done) | (simp; omega)) ?_
          | refine WC.condF rfl (by first | (simp; done) | (simp; omega)) ?_
          | (refine WC.cond rfl (fun h => ?_) (fun h => ?_) <;> (try simp only [Classical.not_not, Bool.not_eq_true', Bool.not_eq_false', Bool.not_eq_eq_eq_not, Bool.not_true, Bool.not_false, beq_iff_eq, beq_eq_false_iff_ne, ne_eq, decide_eq_decide, decide_eq_true_eq, decide_eq_false_iff_not, Bool.and_eq_true, Bool.or_eq_true, Bool.and_eq_false_iff, Bool.or_eq_false_iff] at h) <;> (try (exfalso; first | omega | contradiction))))
        | (show WD _ _ _ _ _ _ _ _ _; first
          | refine WD.pure rfl rfl rfl rfl rfl ?_
          | refine WD.nil ?_
          | refine WD.load rfl rfl (LdOk.box (by repeat (first | exact List.Mem.head _ | apply List.Mem.tail)) rfl) rfl rfl rfl rfl ?_
          | refine WD.add rfl rfl rfl (by omega) rfl rfl rfl rfl ?_
          | refine WD.sub rfl rfl rfl (by omega) rfl rfl rfl rfl ?_
          | refine WD.conv64 rfl rfl rfl (by omega) rfl rfl rfl rfl ?_
          | refine WD.index rfl rfl rfl rfl (by first | with_reducible assumption | omega) rfl rfl rfl rfl rfl ?_
          | refine WD.index (j := 0) rfl rfl rfl rfl (by omega) rfl rfl rfl rfl rfl ?_
          | refine WD.indexArr rfl rfl rfl rfl (by decide) rfl rfl rfl rfl ?_
          | refine WD.pass rfl rfl rfl rfl ?_
          | refine WD.skip rfl rfl rfl rfl rfl (hM.ss hS) ?_
          | refine WD.build rfl rfl rfl rfl rfl rfl ?_
          | (refine WD.slit hS hM rfl rfl rfl rfl rfl rfl rfl ?_; intro w b hS hM)
          | refine WD.eqS rfl rfl rfl rfl (by kernel_rfl) rfl rfl rfl rfl ?_
          | refine WD.neS rfl rfl rfl rfl (by kernel_rfl) rfl rfl rfl rfl ?_
          | (refine WD.box hS hM rfl rfl rfl rfl rfl rfl rfl ?_; intro w b hS hM)
          | ((fail_if_success (refine WD.wanted rfl ?_)); refine WD.guard rfl rfl rfl (fun h => ?_) (fun h => ?_) <;> (try simp only [Classical.not_not, Bool.not_eq_true', Bool.not_eq_false', Bool.not_eq_eq_eq_not, Bool.not_true, Bool.not_false, beq_iff_eq, beq_eq_false_iff_ne, ne_eq, decide_eq_decide, decide_eq_true_eq, decide_eq_false_iff_not, Bool.and_eq_true, Bool.or_eq_true, Bool.and_eq_false_iff, Bool.or_eq_false_iff] at h) <;> (try (exfalso; first | omega | contradiction))))
        | refine seqQ_n ?_
        | refine blkQ_n ?_
        | refine seqQ_x ?_
        | refine seqQ_r ?_
        | refine blkQ_r ?_
        | refine blkQ_hit rfl ?_
        | refine blkQ_miss rfl ?_
        | refine rndQ_x ?_
        | refine rndQ_r ?_
        | refine rdQ_n ?_
        | refine rdQ_x ?_
        | refine rdQ_r ?_
        | refine cutQ_n ?_
        | refine cutQ_r ?_
        | refine cutQ_miss rfl ?_
        | refine endQ_x ?_
        | refine endQ_r ?_)
      all_goals first
        | exact fin1r rfl rfl ⟨hS.upd, vbool (by simp)⟩
        | (exfalso; simp at h; done)
    · have hE := parse_long (line := [103, 105, 118, 101, 32, 49, 32] ++ p ++ [32] ++ text) (by omega)
      rw [hc] at hck
      clear hc
      repeat' (first
        | (show WL _ _ _ _ _ _ _; first
          | refine WL.pure rfl rfl rfl rfl ?_
          | refine WL.nil ?_
          | refine WL.load hS rfl rfl (LdOk.box (by repeat (first | exact List.Mem.head _ | apply List.Mem.tail)) rfl) rfl rfl rfl ?_
          | refine WL.add rfl rfl rfl (by omega) rfl rfl rfl ?_
          | refine WL.sub rfl rfl rfl (by omega) rfl rfl rfl ?_
          | (refine WL.calls hS rfl rfl (awake_c _) rfl rfl rfl ?_; rintro v w rfl hS)
          | (refine WL.calls hS rfl rfl (hck _) rfl rfl rfl ?_; rintro v w rfl hS)
          | (refine WL.calls hS rfl rfl (parseAt_c _ _ _ hE _ (by omega)) rfl rfl rfl ?_; rintro v w rfl hS)
          | refine WL.conv64 rfl rfl rfl (by omega) rfl rfl rfl ?_
          | refine WL.cat rfl rfl rfl (by omega) rfl rfl rfl ?_
          | refine WL.idxS rfl rfl rfl rfl (by with_reducible assumption) rfl rfl rfl ?_
          | refine WL.lowS rfl rfl rfl rfl (by omega) rfl rfl rfl ?_
          | refine WL.highS rfl rfl rfl rfl (by omega) rfl rfl rfl ?_
          | refine WL.midS rfl rfl rfl rfl rfl (by omega) (by omega) rfl rfl rfl ?_
          | refine WL.maxI rfl rfl rfl rfl rfl rfl ?_
          | refine WL.minI rfl rfl rfl rfl rfl rfl ?_
          | (refine WL.store hS rfl rfl rfl (by repeat (first | exact StB.here rfl | apply StB.there)) rfl rfl rfl ?_; intro w hS)
          | (refine WL.box hS rfl rfl rfl rfl rfl ?_; intro w b hS)
          | (refine WL.alloc hS rfl rfl rfl rfl rfl rfl ?_; intro w b hS)
          | refine WL.index rfl rfl rfl rfl (by first | with_reducible assumption | omega) rfl rfl rfl rfl ?_
          | refine WL.index (j := 0) rfl rfl rfl rfl (by omega) rfl rfl rfl rfl ?_
          | refine WL.indexArr rfl rfl rfl rfl (by decide) rfl rfl rfl ?_
          | refine WL.skip rfl rfl rfl ?_
          | refine WL.build rfl rfl rfl rfl rfl ?_
          | (refine WL.slit hS rfl rfl rfl rfl rfl ?_; intro w b hS)
          | refine WL.eqS rfl rfl rfl rfl (by kernel_rfl) rfl rfl rfl ?_
          | refine WL.neS rfl rfl rfl rfl (by kernel_rfl) rfl rfl rfl ?_
          | ((fail_if_success (refine WL.wanted rfl ?_)); refine WL.guard rfl rfl rfl (fun h => ?_) (fun h => ?_) <;> (try simp only [Classical.not_not, Bool.not_eq_true', Bool.not_eq_false', Bool.not_eq_eq_eq_not, Bool.not_true, Bool.not_false, beq_iff_eq, beq_eq_false_iff_ne, ne_eq, decide_eq_decide, decide_eq_true_eq, decide_eq_false_iff_not, Bool.and_eq_true, Bool.or_eq_true, Bool.and_eq_false_iff, Bool.or_eq_false_iff] at h) <;> (try (exfalso; first | omega | contradiction))))
        | (show WC _ _ _ _ _ _; first
          | refine WC.seq ?_
          | refine WC.region ?_
          | refine WC.block ?_
          | refine WC.skip ?_
          | refine WC.exit ?_
          | refine WC.ret ?_
          | refine WC.condT rfl (by with_reducible rfl) ?_
          | refine WC.condF rfl (by with_reducible rfl) ?_
          | refine WC.condT rfl (by decide) ?_
          | refine WC.condF rfl (by decide) ?_
          | refine WC.condT rfl (decide_eq_true (by first | with_reducible assumption | omega)) ?_
          | refine WC.condF rfl (decide_eq_false (by first | with_reducible assumption | omega)) ?_
          | refine WC.condT rfl (by first | (simp; done) | (simp; omega)) ?_
          | refine WC.condF rfl (by first | (simp; done) | (simp; omega)) ?_
          | (refine WC.cond rfl (fun h => ?_) (fun h => ?_) <;> (try simp only [Classical.not_not, Bool.not_eq_true', Bool.not_eq_false', Bool.not_eq_eq_eq_not, Bool.not_true, Bool.not_false, beq_iff_eq, beq_eq_false_iff_ne, ne_eq, decide_eq_decide, decide_eq_true_eq, decide_eq_false_iff_not, Bool.and_eq_true, Bool.or_eq_true, Bool.and_eq_false_iff, Bool.or_eq_false_iff] at h) <;> (try (exfalso; first | omega | contradiction))))
        | (show WD _ _ _ _ _ _ _ _ _; first
          | refine WD.pure rfl rfl rfl rfl rfl ?_
          | refine WD.nil ?_
          | refine WD.load rfl rfl (LdOk.box (by repeat (first | exact List.Mem.head _ | apply List.Mem.tail)) rfl) rfl rfl rfl rfl ?_
          | refine WD.add rfl rfl rfl (by omega) rfl rfl rfl rfl ?_
          | refine WD.sub rfl rfl rfl (by omega) rfl rfl rfl rfl ?_
          | refine WD.conv64 rfl rfl rfl (by omega) rfl rfl rfl rfl ?_
          | refine WD.index rfl rfl rfl rfl (by first | with_reducible assumption | omega) rfl rfl rfl rfl rfl ?_
          | refine WD.index (j := 0) rfl rfl rfl rfl (by omega) rfl rfl rfl rfl rfl ?_
          | refine WD.indexArr rfl rfl rfl rfl (by decide) rfl rfl rfl rfl ?_
          | refine WD.pass rfl rfl rfl rfl ?_
          | refine WD.skip rfl rfl rfl rfl rfl (hM.ss hS) ?_
          | refine WD.build rfl rfl rfl rfl rfl rfl ?_
          | (refine WD.slit hS hM rfl rfl rfl rfl rfl rfl rfl ?_; intro w b hS hM)
          | refine WD.eqS rfl rfl rfl rfl (by kernel_rfl) rfl rfl rfl rfl ?_
          | refine WD.neS rfl rfl rfl rfl (by kernel_rfl) rfl rfl rfl rfl ?_
          | (refine WD.box hS hM rfl rfl rfl rfl rfl rfl rfl ?_; intro w b hS hM)
          | ((fail_if_success (refine WD.wanted rfl ?_)); refine WD.guard rfl rfl rfl (fun h => ?_) (fun h => ?_) <;> (try simp only [Classical.not_not, Bool.not_eq_true', Bool.not_eq_false', Bool.not_eq_eq_eq_not, Bool.not_true, Bool.not_false, beq_iff_eq, beq_eq_false_iff_ne, ne_eq, decide_eq_decide, decide_eq_true_eq, decide_eq_false_iff_not, Bool.and_eq_true, Bool.or_eq_true, Bool.and_eq_false_iff, Bool.or_eq_false_iff] at h) <;> (try (exfalso; first | omega | contradiction))))
        | refine seqQ_n ?_
        | refine blkQ_n ?_
        | refine seqQ_x ?_
        | refine seqQ_r ?_
        | refine blkQ_r ?_
        | refine blkQ_hit rfl ?_
        | refine blkQ_miss rfl ?_
        | refine rndQ_x ?_
        | refine rndQ_r ?_
        | refine rdQ_n ?_
        | refine rdQ_x ?_
        | refine rdQ_r ?_
        | refine cutQ_n ?_
        | refine cutQ_r ?_
        | refine cutQ_miss rfl ?_
        | refine endQ_x ?_
        | refine endQ_r ?_)
      all_goals first
        | exact fin1r rfl rfl ⟨hS.upd, vbool (by simp)⟩
        | (exfalso; simp at h; done)
  · repeat' (first
      | (show WL _ _ _ _ _ _ _; first
        | refine WL.pure rfl rfl rfl rfl ?_
        | refine WL.nil ?_
        | refine WL.load hS rfl rfl (LdOk.box (by repeat (first | exact List.Mem.head _ | apply List.Mem.tail)) rfl) rfl rfl rfl ?_
        | refine WL.add rfl rfl rfl (by omega) rfl rfl rfl ?_
        | refine WL.sub rfl rfl rfl (by omega) rfl rfl rfl ?_
        | (refine WL.calls hS rfl rfl (awake_c _) rfl rfl rfl ?_; rintro v w rfl hS)
        | (refine WL.calls hS rfl rfl (hck _) rfl rfl rfl ?_; rintro v w rfl hS)
        | refine WL.conv64 rfl rfl rfl (by omega) rfl rfl rfl ?_
        | refine WL.cat rfl rfl rfl (by omega) rfl rfl rfl ?_
        | refine WL.idxS rfl rfl rfl rfl (by with_reducible assumption) rfl rfl rfl ?_
        | refine WL.lowS rfl rfl rfl rfl (by omega) rfl rfl rfl ?_
        | refine WL.highS rfl rfl rfl rfl (by omega) rfl rfl rfl ?_
        | refine WL.midS rfl rfl rfl rfl rfl (by omega) (by omega) rfl rfl rfl ?_
        | refine WL.maxI rfl rfl rfl rfl rfl rfl ?_
        | refine WL.minI rfl rfl rfl rfl rfl rfl ?_
        | (refine WL.store hS rfl rfl rfl (by repeat (first | exact StB.here rfl | apply StB.there)) rfl rfl rfl ?_; intro w hS)
        | (refine WL.box hS rfl rfl rfl rfl rfl ?_; intro w b hS)
        | (refine WL.alloc hS rfl rfl rfl rfl rfl rfl ?_; intro w b hS)
        | refine WL.index rfl rfl rfl rfl (by first | with_reducible assumption | omega) rfl rfl rfl rfl ?_
        | refine WL.index (j := 0) rfl rfl rfl rfl (by omega) rfl rfl rfl rfl ?_
        | refine WL.indexArr rfl rfl rfl rfl (by decide) rfl rfl rfl ?_
        | refine WL.skip rfl rfl rfl ?_
        | refine WL.build rfl rfl rfl rfl rfl ?_
        | (refine WL.slit hS rfl rfl rfl rfl rfl ?_; intro w b hS)
        | refine WL.eqS rfl rfl rfl rfl (by kernel_rfl) rfl rfl rfl ?_
        | refine WL.neS rfl rfl rfl rfl (by kernel_rfl) rfl rfl rfl ?_
        | ((fail_if_success (refine WL.wanted rfl ?_)); refine WL.guard rfl rfl rfl (fun h => ?_) (fun h => ?_) <;> (try simp only [Classical.not_not, Bool.not_eq_true', Bool.not_eq_false', Bool.not_eq_eq_eq_not, Bool.not_true, Bool.not_false, beq_iff_eq, beq_eq_false_iff_ne, ne_eq, decide_eq_decide, decide_eq_true_eq, decide_eq_false_iff_not, Bool.and_eq_true, Bool.or_eq_true, Bool.and_eq_false_iff, Bool.or_eq_false_iff] at h) <;> (try (exfalso; first | omega | contradiction))))
      | (show WC _ _ _ _ _ _; first
        | refine WC.seq ?_
        | refine WC.region ?_
        | refine WC.block ?_
        | refine WC.skip ?_
        | refine WC.exit ?_
        | refine WC.ret ?_
        | refine WC.condT rfl (by with_reducible rfl) ?_
        | refine WC.condF rfl (by with_reducible rfl) ?_
        | refine WC.condT rfl (by decide) ?_
        | refine WC.condF rfl (by decide) ?_
        | refine WC.condT rfl (decide_eq_true (by first | with_reducible assumption | omega)) ?_
        | refine WC.condF rfl (decide_eq_false (by first | with_reducible assumption | omega)) ?_
        | refine WC.condT rfl (by first | (simp; done) | (simp; omega)) ?_
        | refine WC.condF rfl (by first | (simp; done) | (simp; omega)) ?_
        | (refine WC.cond rfl (fun h => ?_) (fun h => ?_) <;> (try simp only [Classical.not_not, Bool.not_eq_true', Bool.not_eq_false', Bool.not_eq_eq_eq_not, Bool.not_true, Bool.not_false, beq_iff_eq, beq_eq_false_iff_ne, ne_eq, decide_eq_decide, decide_eq_true_eq, decide_eq_false_iff_not, Bool.and_eq_true, Bool.or_eq_true, Bool.and_eq_false_iff, Bool.or_eq_false_iff] at h) <;> (try (exfalso; first | omega | contradiction))))
      | (show WD _ _ _ _ _ _ _ _ _; first
        | refine WD.pure rfl rfl rfl rfl rfl ?_
        | refine WD.nil ?_
        | refine WD.load rfl rfl (LdOk.box (by repeat (first | exact List.Mem.head _ | apply List.Mem.tail)) rfl) rfl rfl rfl rfl ?_
        | refine WD.add rfl rfl rfl (by omega) rfl rfl rfl rfl ?_
        | refine WD.sub rfl rfl rfl (by omega) rfl rfl rfl rfl ?_
        | refine WD.conv64 rfl rfl rfl (by omega) rfl rfl rfl rfl ?_
        | refine WD.index rfl rfl rfl rfl (by first | with_reducible assumption | omega) rfl rfl rfl rfl rfl ?_
        | refine WD.index (j := 0) rfl rfl rfl rfl (by omega) rfl rfl rfl rfl rfl ?_
        | refine WD.indexArr rfl rfl rfl rfl (by decide) rfl rfl rfl rfl ?_
        | refine WD.pass rfl rfl rfl rfl ?_
        | refine WD.skip rfl rfl rfl rfl rfl (hM.ss hS) ?_
        | refine WD.build rfl rfl rfl rfl rfl rfl ?_
        | (refine WD.slit hS hM rfl rfl rfl rfl rfl rfl rfl ?_; intro w b hS hM)
        | refine WD.eqS rfl rfl rfl rfl (by kernel_rfl) rfl rfl rfl rfl ?_
        | refine WD.neS rfl rfl rfl rfl (by kernel_rfl) rfl rfl rfl rfl ?_
        | (refine WD.box hS hM rfl rfl rfl rfl rfl rfl rfl ?_; intro w b hS hM)
        | ((fail_if_success (refine WD.wanted rfl ?_)); refine WD.guard rfl rfl rfl (fun h => ?_) (fun h => ?_) <;> (try simp only [Classical.not_not, Bool.not_eq_true', Bool.not_eq_false', Bool.not_eq_eq_eq_not, Bool.not_true, Bool.not_false, beq_iff_eq, beq_eq_false_iff_ne, ne_eq, decide_eq_decide, decide_eq_true_eq, decide_eq_false_iff_not, Bool.and_eq_true, Bool.or_eq_true, Bool.and_eq_false_iff, Bool.or_eq_false_iff] at h) <;> (try (exfalso; first | omega | contradiction))))
      | refine seqQ_n ?_
      | refine blkQ_n ?_
      | refine seqQ_x ?_
      | refine seqQ_r ?_
      | refine blkQ_r ?_
      | refine blkQ_hit rfl ?_
      | refine blkQ_miss rfl ?_
      | refine rndQ_x ?_
      | refine rndQ_r ?_
      | refine rdQ_n ?_
      | refine rdQ_x ?_
      | refine rdQ_r ?_
      | refine cutQ_n ?_
      | refine cutQ_r ?_
      | refine cutQ_miss rfl ?_
      | refine endQ_x ?_
      | refine endQ_r ?_)
    all_goals first
      | exact fin1r rfl rfl ⟨hS.upd, vbool (by simp)⟩
      | (exfalso; simp at h; done)
theorem commandGives.key_commandGives (W : World) (v0 v1 : Value) (y0 y1 : List UInt8) (b0 b1 : Nat) (h0 : AStr W v0 y0) (h1 : AStr W v1 y1) (q0 : QStr y0 b0) (q1 : QStr y1 b1) (hb : b0 + b1 ≤ 1048576) :
    Cal Tryd.prog 4 [v0, v1] W (fun v W' => Upd [] W W' ∧ v = .bool true) := by
  obtain rfl := h0
  obtain rfl := h1
  have q0 : y0.length + 1 ≤ b0 := q0
  have q1 : y1.length + 1 ≤ b1 := q1
  exact commandGives_c y0 y1 W (by omega) (by omega)
end Go.Proofs.YtcegmpijknpgeaaDoor
