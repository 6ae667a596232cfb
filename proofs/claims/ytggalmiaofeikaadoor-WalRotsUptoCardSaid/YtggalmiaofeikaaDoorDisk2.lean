/- What is proved: what the program's disk answers and holds: made, asked, a folder made. Conditions: as each names them. -/
import Derived.Test.YtggalmiaofeikaaDoorDisk
set_option linter.unusedSimpArgs false
set_option linter.unusedVariables false
namespace Go.Proofs.YtggalmiaofeikaaDoor
open Go Go.J Go.RowKit

def Dk0 : Dk := ⟨[], [], 0, 0, -1, false⟩
set_option maxHeartbeats 4000000 in
set_option maxRecDepth 100000 in
theorem dnew_c (w0 : World) : Cal Tryd.prog 25 [] w0 (fun v w' => Upd [] w0 w' ∧ ∃ b mb lb, v = .pointer (some ⟨b, 0, none⟩) ∧ New w0 w' (dkC b mb lb Dk0)) := by
  refine Cal.mk' (by kernel_rfl) Tryd.func25 rfl rfl fun hS => ?_
  repeat' (first
    | (show WL _ _ _ _ _ _ _; first
      | refine WL.pure rfl rfl rfl rfl ?_
      | refine WL.nil ?_
      | refine WL.load hS rfl rfl (LdOk.box (by repeat (first | exact List.Mem.head _ | apply List.Mem.tail)) rfl) rfl rfl rfl ?_
      | refine WL.add rfl rfl rfl (by omega) rfl rfl rfl ?_
      | refine WL.sub rfl rfl rfl (by omega) rfl rfl rfl ?_
      | (refine WL.mmake hS rfl rfl rfl rfl rfl ?_; intro w b hS)
      | refine WL.conv64 rfl rfl rfl (by omega) rfl rfl rfl ?_
      | refine WL.cat rfl rfl rfl (by omega) rfl rfl rfl ?_
      | refine WL.idxS rfl rfl rfl rfl (by with_reducible assumption) rfl rfl rfl ?_
      | refine WL.lowS rfl rfl rfl rfl (by omega) rfl rfl rfl ?_
      | refine WL.highS rfl rfl rfl rfl (by omega) rfl rfl rfl ?_
      | refine WL.midS rfl rfl rfl rfl rfl (by omega) (by omega) rfl rfl rfl ?_
      | refine WL.maxI rfl rfl rfl rfl rfl rfl ?_
      | refine WL.minI rfl rfl rfl rfl rfl rfl ?_
      | (refine WL.store hS rfl rfl rfl (by repeat (first | exact StB.here rfl | apply StB.there)) rfl rfl rfl ?_; intro w hS)
      | (refine WL.box hS rfl rfl rfl rfl rfl ?_; intro w b hS)
      | (refine WL.alloc hS rfl rfl rfl rfl rfl rfl ?_; intro w b hS)
      | refine WL.index rfl rfl rfl rfl (by first | with_reducible assumption | omega) rfl rfl rfl rfl ?_
      | refine WL.index (j := 0) rfl rfl rfl rfl (by omega) rfl rfl rfl rfl ?_
      | refine WL.indexArr rfl rfl rfl rfl (by decide) rfl rfl rfl ?_
      | refine WL.skip rfl rfl rfl ?_
      | refine WL.build rfl rfl rfl rfl rfl ?_
      | (refine WL.slit hS rfl rfl rfl rfl rfl ?_; intro w b hS)
      | refine WL.eqS rfl rfl rfl rfl (by kernel_rfl) rfl rfl rfl ?_
      | refine WL.neS rfl rfl rfl rfl (by kernel_rfl) rfl rfl rfl ?_
      | ((fail_if_success (refine WL.wanted rfl ?_)); refine WL.guard rfl rfl rfl (fun h => ?_) (fun h => ?_) <;> (try simp only [Classical.not_not, Bool.not_eq_true', Bool.not_eq_false', Bool.not_eq_eq_eq_not, Bool.not_true, Bool.not_false, beq_iff_eq, beq_eq_false_iff_ne, ne_eq, decide_eq_decide, decide_eq_true_eq, decide_eq_false_iff_not, Bool.and_eq_true, Bool.or_eq_true, Bool.and_eq_false_iff, Bool.or_eq_false_iff] at h) <;> (try (exfalso; first | omega | contradiction))))
    | (show WC _ _ _ _ _ _; first
      | refine WC.seq ?_
      | refine WC.region ?_
      | refine WC.block ?_
      | refine WC.skip ?_
      | refine WC.exit ?_
      | refine WC.ret ?_
      | refine WC.condT rfl (by with_reducible rfl) ?_
      | refine WC.condF rfl (by with_reducible rfl) ?_
      | refine WC.condT rfl (by decide) ?_
      | refine WC.condF rfl (by decide) ?_
      | refine WC.condT rfl (decide_eq_true (by first | with_reducible assumption | omega)) ?_
      | refine WC.condF rfl (decide_eq_false (by first | with_reducible assumption | omega)) ?_
      | refine WC.condT rfl (by first | (simp; done) | (simp; omega)) ?_
      | refine WC.condF rfl (by first | (simp; done) | (simp; omega)) ?_
      | (refine WC.cond rfl (fun h => ?_) (fun h => ?_) <;> (try simp only [Classical.not_not, Bool.not_eq_true', Bool.not_eq_false', Bool.not_eq_eq_eq_not, Bool.not_true, Bool.not_false, beq_iff_eq, beq_eq_false_iff_ne, ne_eq, decide_eq_decide, decide_eq_true_eq, decide_eq_false_iff_not, Bool.and_eq_true, Bool.or_eq_true, Bool.and_eq_false_iff, Bool.or_eq_false_iff] at h) <;> (try (exfalso; first | omega | contradiction))))
    | (show WD _ _ _ _ _ _ _ _ _; first
      | refine WD.pure rfl rfl rfl rfl rfl ?_
      | refine WD.nil ?_
      | refine WD.load rfl rfl (LdOk.box (by repeat (first | exact List.Mem.head _ | apply List.Mem.tail)) rfl) rfl rfl rfl rfl ?_
      | refine WD.add rfl rfl rfl (by omega) rfl rfl rfl rfl ?_
      | refine WD.sub rfl rfl rfl (by omega) rfl rfl rfl rfl ?_
      | refine WD.conv64 rfl rfl rfl (by omega) rfl rfl rfl rfl ?_
      | refine WD.index rfl rfl rfl rfl (by first | with_reducible assumption | omega) rfl rfl rfl rfl rfl ?_
      | refine WD.index (j := 0) rfl rfl rfl rfl (by omega) rfl rfl rfl rfl rfl ?_
      | refine WD.indexArr rfl rfl rfl rfl (by decide) rfl rfl rfl rfl ?_
      | refine WD.pass rfl rfl rfl rfl ?_
      | refine WD.skip rfl rfl rfl rfl rfl (hM.ss hS) ?_
      | refine WD.build rfl rfl rfl rfl rfl rfl ?_
      | (refine WD.slit hS hM rfl rfl rfl rfl rfl rfl rfl ?_; intro w b hS hM)
      | refine WD.eqS rfl rfl rfl rfl (by kernel_rfl) rfl rfl rfl rfl ?_
      | refine WD.neS rfl rfl rfl rfl (by kernel_rfl) rfl rfl rfl rfl ?_
      | (refine WD.box hS hM rfl rfl rfl rfl rfl rfl rfl ?_; intro w b hS hM)
      | ((fail_if_success (refine WD.wanted rfl ?_)); refine WD.guard rfl rfl rfl (fun h => ?_) (fun h => ?_) <;> (try simp only [Classical.not_not, Bool.not_eq_true', Bool.not_eq_false', Bool.not_eq_eq_eq_not, Bool.not_true, Bool.not_false, beq_iff_eq, beq_eq_false_iff_ne, ne_eq, decide_eq_decide, decide_eq_true_eq, decide_eq_false_iff_not, Bool.and_eq_true, Bool.or_eq_true, Bool.and_eq_false_iff, Bool.or_eq_false_iff] at h) <;> (try (exfalso; first | omega | contradiction))))
    | refine seqQ_n ?_
    | refine blkQ_n ?_
    | refine seqQ_x ?_
    | refine seqQ_r ?_
    | refine blkQ_r ?_
    | refine blkQ_hit rfl ?_
    | refine blkQ_miss rfl ?_
    | refine rndQ_x ?_
    | refine rndQ_r ?_
    | refine rdQ_n ?_
    | refine rdQ_x ?_
    | refine rdQ_r ?_
    | refine cutQ_n ?_
    | refine cutQ_r ?_
    | refine cutQ_miss rfl ?_
    | refine endQ_x ?_
    | refine endQ_r ?_)
  have hd := (List.pairwise_cons.1 hS.disj)
  have hd1 := hd.1 _ (List.Mem.head _)
  have hd2 := hd.1 _ (List.Mem.tail _ (List.Mem.head _))
  have hd3 := (List.pairwise_cons.1 hd.2).1 _ (List.Mem.head _)
  simp [Chunk.apart, Chunk.fp] at hd1 hd2 hd3
  have hS := hS.perm ((List.Perm.swap _ _ _).cons _)
  exact fin1r rfl rfl ⟨hS.upd, _, _, _, rfl, (St.dkClose Dk0 hd2 hd1 (Ne.symm hd3) hS).newOf (List.Mem.head _)⟩

def Dk.kind (D : Dk) (p : List UInt8) : Int := if D.has p then (if (D.at p).dir then 1 else 2) else 0
set_option maxHeartbeats 4000000 in
set_option maxRecDepth 100000 in
theorem dkind_c {b mb lb : Nat} {D : Dk} (p : List UInt8) {w0 : World} (h : DkIs b mb lb D w0) : Cal Tryd.prog 19 [.pointer (some ⟨b, 0, none⟩), str p] w0
    (fun v w' => Upd [] w0 w' ∧ v = .int .i64 (D.kind p)) := by
  refine Cal.mk' (by kernel_rfl) Tryd.func19 rfl rfl fun hS => ?_
  obtain ⟨_, _, _, hb, hm, hlm⟩ := h
  have hb : w0.heap[b]? = some (.cells ⟨[.map (some mb), .map (some lb), .int .i64 D.steps, .int .i64 D.stamps, .int .i64 D.armed, .bool D.down]⟩ 57 (0, 0)) := hb
  unfold Dk.kind Dk.has Dk.at
  have hlk := look_it2 D.items p
  generalize (mget D.items p).isSome = has at *
  generalize (mget D.items p).getD It0 = it at *
  obtain ⟨dir, data, kept, loose, anew, stamp⟩ := it
  cases has with
  | false =>
    repeat' (first
      | (show WL _ _ _ _ _ _ _; first
        | refine WL.pure rfl rfl rfl rfl ?_
        | refine WL.nil ?_
        | refine WL.load hS rfl rfl (LdOk.box (by repeat (first | exact List.Mem.head _ | apply List.Mem.tail)) rfl) rfl rfl rfl ?_
        | refine WL.add rfl rfl rfl (by omega) rfl rfl rfl ?_
        | refine WL.sub rfl rfl rfl (by omega) rfl rfl rfl ?_
        | (refine WL.load hS rfl rfl (LdOk.old hb (by repeat (first | exact List.Mem.head _ | apply List.Mem.tail)) rfl) rfl rfl rfl ?_)
        | (refine WL.mget hS rfl rfl rfl rfl (MapOk.old hm (by repeat (first | exact List.Mem.head _ | apply List.Mem.tail))) hlk rfl rfl rfl ?_)
        | refine WL.conv64 rfl rfl rfl (by omega) rfl rfl rfl ?_
        | refine WL.cat rfl rfl rfl (by omega) rfl rfl rfl ?_
        | refine WL.idxS rfl rfl rfl rfl (by with_reducible assumption) rfl rfl rfl ?_
        | refine WL.lowS rfl rfl rfl rfl (by omega) rfl rfl rfl ?_
        | refine WL.highS rfl rfl rfl rfl (by omega) rfl rfl rfl ?_
        | refine WL.midS rfl rfl rfl rfl rfl (by omega) (by omega) rfl rfl rfl ?_
        | refine WL.maxI rfl rfl rfl rfl rfl rfl ?_
        | refine WL.minI rfl rfl rfl rfl rfl rfl ?_
        | (refine WL.store hS rfl rfl rfl (by repeat (first | exact StB.here rfl | apply StB.there)) rfl rfl rfl ?_; intro w hS)
        | (refine WL.box hS rfl rfl rfl rfl rfl ?_; intro w b hS)
        | (refine WL.alloc hS rfl rfl rfl rfl rfl rfl ?_; intro w b hS)
        | refine WL.index rfl rfl rfl rfl (by first | with_reducible assumption | omega) rfl rfl rfl rfl ?_
        | refine WL.index (j := 0) rfl rfl rfl rfl (by omega) rfl rfl rfl rfl ?_
        | refine WL.indexArr rfl rfl rfl rfl (by decide) rfl rfl rfl ?_
        | refine WL.skip rfl rfl rfl ?_
        | refine WL.build rfl rfl rfl rfl rfl ?_
        | (refine WL.slit hS rfl rfl rfl rfl rfl ?_; intro w b hS)
        | refine WL.eqS rfl rfl rfl rfl (by kernel_rfl) rfl rfl rfl ?_
        | refine WL.neS rfl rfl rfl rfl (by kernel_rfl) rfl rfl rfl ?_
        | ((fail_if_success (refine WL.wanted rfl ?_)); refine WL.guard rfl rfl rfl (fun h => ?_) (fun h => ?_) <;> (try simp only [Classical.not_not, Bool.not_eq_true', Bool.not_eq_false', Bool.not_eq_eq_eq_not, Bool.not_true, Bool.not_false, beq_iff_eq, beq_eq_false_iff_ne, ne_eq, decide_eq_decide, decide_eq_true_eq, decide_eq_false_iff_not, Bool.and_eq_true, Bool.or_eq_true, Bool.and_eq_false_iff, Bool.or_eq_false_iff] at h) <;> (try (exfalso; first | omega | contradiction))))
      | (show WC _ _ _ _ _ _; first
        | refine WC.seq ?_
        | refine WC.region ?_
        | refine WC.block ?_
        | refine WC.skip ?_
        | refine WC.exit ?_
        | refine WC.ret ?_
        | refine WC.condT rfl (by with_reducible rfl) ?_
        | refine WC.condF rfl (by with_reducible rfl) ?_
        | refine WC.condT rfl (by decide) ?_
        | refine WC.condF rfl (by decide) ?_
        | refine WC.condT rfl (decide_eq_true (by first | with_reducible assumption | omega)) ?_
        | refine WC.condF rfl (decide_eq_false (by first | with_reducible assumption | omega)) ?_
        | refine WC.condT rfl (by first | (simp; done) | (simp; omega)) ?_
        | refine WC.condF rfl (by first | (simp; done) | (simp; omega)) ?_
        | (refine WC.cond rfl (fun h => ?_) (fun h => ?_) <;> (try simp only [Classical.not_not, Bool.not_eq_true', Bool.not_eq_false', Bool.not_eq_eq_eq_not, Bool.not_true, Bool.not_false, beq_iff_eq, beq_eq_false_iff_ne, ne_eq, decide_eq_decide, decide_eq_true_eq, decide_eq_false_iff_not, Bool.and_eq_true, Bool.or_eq_true, Bool.and_eq_false_iff, Bool.or_eq_false_iff] at h) <;> (try (exfalso; first | omega | contradiction))))
      | (show WD _ _ _ _ _ _ _ _ _; first
        | refine WD.pure rfl rfl rfl rfl rfl ?_
        | refine WD.nil ?_
        | refine WD.load rfl rfl (LdOk.box (by repeat (first | exact List.Mem.head _ | apply List.Mem.tail)) rfl) rfl rfl rfl rfl ?_
        | refine WD.add rfl rfl rfl (by omega) rfl rfl rfl rfl ?_
        | refine WD.sub rfl rfl rfl (by omega) rfl rfl rfl rfl ?_
        | refine WD.conv64 rfl rfl rfl (by omega) rfl rfl rfl rfl ?_
        | refine WD.index rfl rfl rfl rfl (by first | with_reducible assumption | omega) rfl rfl rfl rfl rfl ?_
        | refine WD.index (j := 0) rfl rfl rfl rfl (by omega) rfl rfl rfl rfl rfl ?_
        | refine WD.indexArr rfl rfl rfl rfl (by decide) rfl rfl rfl rfl ?_
        | refine WD.pass rfl rfl rfl rfl ?_
        | refine WD.skip rfl rfl rfl rfl rfl (hM.ss hS) ?_
        | refine WD.build rfl rfl rfl rfl rfl rfl ?_
        | (refine WD.slit hS hM rfl rfl rfl rfl rfl rfl rfl ?_; intro w b hS hM)
        | refine WD.eqS rfl rfl rfl rfl (by kernel_rfl) rfl rfl rfl rfl ?_
        | refine WD.neS rfl rfl rfl rfl (by kernel_rfl) rfl rfl rfl rfl ?_
        | (refine WD.box hS hM rfl rfl rfl rfl rfl rfl rfl ?_; intro w b hS hM)
        | ((fail_if_success (refine WD.wanted rfl ?_)); refine WD.guard rfl rfl rfl (fun h => ?_) (fun h => ?_) <;> (try simp only [Classical.not_not, Bool.not_eq_true', Bool.not_eq_false', Bool.not_eq_eq_eq_not, Bool.not_true, Bool.not_false, beq_iff_eq, beq_eq_false_iff_ne, ne_eq, decide_eq_decide, decide_eq_true_eq, decide_eq_false_iff_not, Bool.and_eq_true, Bool.or_eq_true, Bool.and_eq_false_iff, Bool.or_eq_false_iff] at h) <;> (try (exfalso; first | omega | contradiction))))
      | refine seqQ_n ?_
      | refine blkQ_n ?_
      | refine seqQ_x ?_
      | refine seqQ_r ?_
      | refine blkQ_r ?_
      | refine blkQ_hit rfl ?_
      | refine blkQ_miss rfl ?_
      | refine rndQ_x ?_
      | refine rndQ_r ?_
      | refine rdQ_n ?_
      | refine rdQ_x ?_
      | refine rdQ_r ?_
      | refine cutQ_n ?_
      | refine cutQ_r ?_
      | refine cutQ_miss rfl ?_
      | refine endQ_x ?_
      | refine endQ_r ?_)
    exact fin1r rfl rfl ⟨hS.upd, rfl⟩
  | true =>
    cases dir with
    | true =>
      repeat' (first
        | (show WL _ _ _ _ _ _ _; first
          | refine WL.pure rfl rfl rfl rfl ?_
          | refine WL.nil ?_
          | refine WL.load hS rfl rfl (LdOk.box (by repeat (first | exact List.Mem.head _ | apply List.Mem.tail)) rfl) rfl rfl rfl ?_
          | refine WL.add rfl rfl rfl (by omega) rfl rfl rfl ?_
          | refine WL.sub rfl rfl rfl (by omega) rfl rfl rfl ?_
          | (refine WL.load hS rfl rfl (LdOk.old hb (by repeat (first | exact List.Mem.head _ | apply List.Mem.tail)) rfl) rfl rfl rfl ?_)
          | (refine WL.mget hS rfl rfl rfl rfl (MapOk.old hm (by repeat (first | exact List.Mem.head _ | apply List.Mem.tail))) hlk rfl rfl rfl ?_)
          | refine WL.conv64 rfl rfl rfl (by omega) rfl rfl rfl ?_
          | refine WL.cat rfl rfl rfl (by omega) rfl rfl rfl ?_
          | refine WL.idxS rfl rfl rfl rfl (by with_reducible assumption) rfl rfl rfl ?_
          | refine WL.lowS rfl rfl rfl rfl (by omega) rfl rfl rfl ?_
          | refine WL.highS rfl rfl rfl rfl (by omega) rfl rfl rfl ?_
          | refine WL.midS rfl rfl rfl rfl rfl (by omega) (by omega) rfl rfl rfl ?_
          | refine WL.maxI rfl rfl rfl rfl rfl rfl ?_
          | refine WL.minI rfl rfl rfl rfl rfl rfl ?_
          | (refine WL.store hS rfl rfl rfl (by repeat (first | exact StB.here rfl | apply StB.there)) rfl rfl rfl ?_; intro w hS)
          | (refine WL.box hS rfl rfl rfl rfl rfl ?_; intro w b hS)
          | (refine WL.alloc hS rfl rfl rfl rfl rfl rfl ?_; intro w b hS)
          | refine WL.index rfl rfl rfl rfl (by first | with_reducible assumption | omega) rfl rfl rfl rfl ?_
          | refine WL.index (j := 0) rfl rfl rfl rfl (by omega) rfl rfl rfl rfl ?_
          | refine WL.indexArr rfl rfl rfl rfl (by decide) rfl rfl rfl ?_
          | refine WL.skip rfl rfl rfl ?_
          | refine WL.build rfl rfl rfl rfl rfl ?_
          | (refine WL.slit hS rfl rfl rfl rfl rfl ?_; intro w b hS)
          | refine WL.eqS rfl rfl rfl rfl (by kernel_rfl) rfl rfl rfl ?_
          | refine WL.neS rfl rfl rfl rfl (by kernel_rfl) rfl rfl rfl ?_
          | ((fail_if_success (refine WL.wanted rfl ?_)); refine WL.guard rfl rfl rfl (fun h => ?_) (fun h => ?_) <;> (try simp only [Classical.not_not, Bool.not_eq_true', Bool.not_eq_false', Bool.not_eq_eq_eq_not, Bool.not_true, Bool.not_false, beq_iff_eq, beq_eq_false_iff_ne, ne_eq, decide_eq_decide, decide_eq_true_eq, decide_eq_false_iff_not, Bool.and_eq_true, Bool.or_eq_true, Bool.and_eq_false_iff, Bool.or_eq_false_iff] at h) <;> (try (exfalso; first | omega | contradiction))))
        | (show WC _ _ _ _ _ _; first
          | refine WC.seq ?_
          | refine WC.region ?_
          | refine WC.block ?_
          | refine WC.skip ?_
          | refine WC.exit ?_
          | refine WC.ret ?_
          | refine WC.condT rfl (by with_reducible rfl) ?_
          | refine WC.condF rfl (by with_reducible rfl) ?_
          | refine WC.condT rfl (by decide) ?_
          | refine WC.condF rfl (by decide) ?_
          | refine WC.condT rfl (decide_eq_true (by first | with_reducible assumption | omega)) ?_
          | refine WC.condF rfl (decide_eq_false (by first | with_reducible assumption | omega)) ?_
          | refine WC.condT rfl (by first | (simp; done) | (simp; omega)) ?_
          | refine WC.condF rfl (by first | (simp; done) | (simp; omega)) ?_
          | (refine WC.cond rfl (fun h => ?_) (fun h => ?_) <;> (try simp only [Classical.not_not, Bool.not_eq_true', Bool.not_eq_false', Bool.not_eq_eq_eq_not, Bool.not_true, Bool.not_false, beq_iff_eq, beq_eq_false_iff_ne, ne_eq, decide_eq_decide, decide_eq_true_eq, decide_eq_false_iff_not, Bool.and_eq_true, Bool.or_eq_true, Bool.and_eq_false_iff, Bool.or_eq_false_iff] at h) <;> (try (exfalso; first | omega | contradiction))))
        | (show WD _ _ _ _ _ _ _ _ _; first
          | refine WD.pure rfl rfl rfl rfl rfl ?_
          | refine WD.nil ?_
          | refine WD.load rfl rfl (LdOk.box (by repeat (first | exact List.Mem.head _ | apply List.Mem.tail)) rfl) rfl rfl rfl rfl ?_
          | refine WD.add rfl rfl rfl (by omega) rfl rfl rfl rfl ?_
          | refine WD.sub rfl rfl rfl (by omega) rfl rfl rfl rfl ?_
          | refine WD.conv64 rfl rfl rfl (by omega) rfl rfl rfl rfl ?_
          | refine WD.index rfl rfl rfl rfl (by first | with_reducible assumption | omega) rfl rfl rfl rfl rfl ?_
          | refine WD.index (j := 0) rfl rfl rfl rfl (by omega) rfl rfl rfl rfl rfl ?_
          | refine WD.indexArr rfl rfl rfl rfl (by decide) rfl rfl rfl rfl ?_
          | refine WD.pass rfl rfl rfl rfl ?_
          | refine WD.skip rfl rfl rfl rfl rfl (hM.ss hS) ?_
          | refine WD.build rfl rfl rfl rfl rfl rfl ?_
          | (refine WD.slit hS hM rfl rfl rfl rfl rfl rfl rfl ?_; intro w b hS hM)
          | refine WD.eqS rfl rfl rfl rfl (by kernel_rfl) rfl rfl rfl rfl ?_
          | refine WD.neS rfl rfl rfl rfl (by kernel_rfl) rfl rfl rfl rfl ?_
          | (refine WD.box hS hM rfl rfl rfl rfl rfl rfl rfl ?_; intro w b hS hM)
          | ((fail_if_success (refine WD.wanted rfl ?_)); refine WD.guard rfl rfl rfl (fun h => ?_) (fun h => ?_) <;> (try simp only [Classical.not_not, Bool.not_eq_true', Bool.not_eq_false', Bool.not_eq_eq_eq_not, Bool.not_true, Bool.not_false, beq_iff_eq, beq_eq_false_iff_ne, ne_eq, decide_eq_decide, decide_eq_true_eq, decide_eq_false_iff_not, Bool.and_eq_true, Bool.or_eq_true, Bool.and_eq_false_iff, Bool.or_eq_false_iff] at h) <;> (try (exfalso; first | omega | contradiction))))
        | refine seqQ_n ?_
        | refine blkQ_n ?_
        | refine seqQ_x ?_
        | refine seqQ_r ?_
        | refine blkQ_r ?_
        | refine blkQ_hit rfl ?_
        | refine blkQ_miss rfl ?_
        | refine rndQ_x ?_
        | refine rndQ_r ?_
        | refine rdQ_n ?_
        | refine rdQ_x ?_
        | refine rdQ_r ?_
        | refine cutQ_n ?_
        | refine cutQ_r ?_
        | refine cutQ_miss rfl ?_
        | refine endQ_x ?_
        | refine endQ_r ?_)
      exact fin1r rfl rfl ⟨hS.upd, rfl⟩
    | false =>
      repeat' (first
        | (show WL _ _ _ _ _ _ _; first
          | refine WL.pure rfl rfl rfl rfl ?_
          | refine WL.nil ?_
          | refine WL.load hS rfl rfl (LdOk.box (by repeat (first | exact List.Mem.head _ | apply List.Mem.tail)) rfl) rfl rfl rfl ?_
          | refine WL.add rfl rfl rfl (by omega) rfl rfl rfl ?_
          | refine WL.sub rfl rfl rfl (by omega) rfl rfl rfl ?_
          | (refine WL.load hS rfl rfl (LdOk.old hb (by repeat (first | exact List.Mem.head _ | apply List.Mem.tail)) rfl) rfl rfl rfl ?_)
          | (refine WL.mget hS rfl rfl rfl rfl (MapOk.old hm (by repeat (first | exact List.Mem.head _ | apply List.Mem.tail))) hlk rfl rfl rfl ?_)
          | refine WL.conv64 rfl rfl rfl (by omega) rfl rfl rfl ?_
          | refine WL.cat rfl rfl rfl (by omega) rfl rfl rfl ?_
          | refine WL.idxS rfl rfl rfl rfl (by with_reducible assumption) rfl rfl rfl ?_
          | refine WL.lowS rfl rfl rfl rfl (by omega) rfl rfl rfl ?_
          | refine WL.highS rfl rfl rfl rfl (by omega) rfl rfl rfl ?_
          | refine WL.midS rfl rfl rfl rfl rfl (by omega) (by omega) rfl rfl rfl ?_
          | refine WL.maxI rfl rfl rfl rfl rfl rfl ?_
          | refine WL.minI rfl rfl rfl rfl rfl rfl ?_
          | (refine WL.store hS rfl rfl rfl (by repeat (first | exact StB.here rfl | apply StB.there)) rfl rfl rfl ?_; intro w hS)
          | (refine WL.box hS rfl rfl rfl rfl rfl ?_; intro w b hS)
          | (refine WL.alloc hS rfl rfl rfl rfl rfl rfl ?_; intro w b hS)
          | refine WL.index rfl rfl rfl rfl (by first | with_reducible assumption | omega) rfl rfl rfl rfl ?_
          | refine WL.index (j := 0) rfl rfl rfl rfl (by omega) rfl rfl rfl rfl ?_
          | refine WL.indexArr rfl rfl rfl rfl (by decide) rfl rfl rfl ?_
          | refine WL.skip rfl rfl rfl ?_
          | refine WL.build rfl rfl rfl rfl rfl ?_
          | (refine WL.slit hS rfl rfl rfl rfl rfl ?_; intro w b hS)
          | refine WL.eqS rfl rfl rfl rfl (by kernel_rfl) rfl rfl rfl ?_
          | refine WL.neS rfl rfl rfl rfl (by kernel_rfl) rfl rfl rfl ?_
          | ((fail_if_success (refine WL.wanted rfl ?_)); refine WL.guard rfl rfl rfl (fun h => ?_) (fun h => ?_) <;> (try simp only [Classical.not_not, Bool.not_eq_true', Bool.not_eq_false', Bool.not_eq_eq_eq_not, Bool.not_true, Bool.not_false, beq_iff_eq, beq_eq_false_iff_ne, ne_eq, decide_eq_decide, decide_eq_true_eq, decide_eq_false_iff_not, Bool.and_eq_true, Bool.or_eq_true, Bool.and_eq_false_iff, Bool.or_eq_false_iff] at h) <;> (try (exfalso; first | omega | contradiction))))
        | (show WC _ _ _ _ _ _; first
          | refine WC.seq ?_
          | refine WC.region ?_
          | refine WC.block ?_
          | refine WC.skip ?_
          | refine WC.exit ?_
          | refine WC.ret ?_
          | refine WC.condT rfl (by with_reducible rfl) ?_
          | refine WC.condF rfl (by with_reducible rfl) ?_
          | refine WC.condT rfl (by decide) ?_
          | refine WC.condF rfl (by decide) ?_
          | refine WC.condT rfl (decide_eq_true (by first | with_reducible assumption | omega)) ?_
          | refine WC.condF rfl (decide_eq_false (by first | with_reducible assumption | omega)) ?_
          | refine WC.condT rfl (by first | (simp; done) | (simp; omega)) ?_
          | refine WC.condF rfl (by first | (simp; done) | (simp; omega)) ?_
          | (refine WC.cond rfl (fun h => ?_) (fun h => ?_) <;> (try simp only [Classical.not_not, Bool.not_eq_true', Bool.not_eq_false', Bool.not_eq_eq_eq_not, Bool.not_true, Bool.not_false, beq_iff_eq, beq_eq_false_iff_ne, ne_eq, decide_eq_decide, decide_eq_true_eq, decide_eq_false_iff_not, Bool.and_eq_true, Bool.or_eq_true, Bool.and_eq_false_iff, Bool.or_eq_false_iff] at h) <;> (try (exfalso; first | omega | contradiction))))
        | (show WD _ _ _ _ _ _ _ _ _; first
          | refine WD.pure rfl rfl rfl rfl rfl ?_
          | refine WD.nil ?_
          | refine WD.load rfl rfl (LdOk.box (by repeat (first | exact List.Mem.head _ | apply List.Mem.tail)) rfl) rfl rfl rfl rfl ?_
          | refine WD.add rfl rfl rfl (by omega) rfl rfl rfl rfl ?_
          | refine WD.sub rfl rfl rfl (by omega) rfl rfl rfl rfl ?_
          | refine WD.conv64 rfl rfl rfl (by omega) rfl rfl rfl rfl ?_
          | refine WD.index rfl rfl rfl rfl (by first | with_reducible assumption | omega) rfl rfl rfl rfl rfl ?_
          | refine WD.index (j := 0) rfl rfl rfl rfl (by omega) rfl rfl rfl rfl rfl ?_
          | refine WD.indexArr rfl rfl rfl rfl (by decide) rfl rfl rfl rfl ?_
          | refine WD.pass rfl rfl rfl rfl ?_
          | refine WD.skip rfl rfl rfl rfl rfl (hM.ss hS) ?_
          | refine WD.build rfl rfl rfl rfl rfl rfl ?_
          | (refine WD.slit hS hM rfl rfl rfl rfl rfl rfl rfl ?_; intro w b hS hM)
          | refine WD.eqS rfl rfl rfl rfl (by kernel_rfl) rfl rfl rfl rfl ?_
          | refine WD.neS rfl rfl rfl rfl (by kernel_rfl) rfl rfl rfl rfl ?_
          | (refine WD.box hS hM rfl rfl rfl rfl rfl rfl rfl ?_; intro w b hS hM)
          | ((fail_if_success (refine WD.wanted rfl ?_)); refine WD.guard rfl rfl rfl (fun h => ?_) (fun h => ?_) <;> (try simp only [Classical.not_not, Bool.not_eq_true', Bool.not_eq_false', Bool.not_eq_eq_eq_not, Bool.not_true, Bool.not_false, beq_iff_eq, beq_eq_false_iff_ne, ne_eq, decide_eq_decide, decide_eq_true_eq, decide_eq_false_iff_not, Bool.and_eq_true, Bool.or_eq_true, Bool.and_eq_false_iff, Bool.or_eq_false_iff] at h) <;> (try (exfalso; first | omega | contradiction))))
        | refine seqQ_n ?_
        | refine blkQ_n ?_
        | refine seqQ_x ?_
        | refine seqQ_r ?_
        | refine blkQ_r ?_
        | refine blkQ_hit rfl ?_
        | refine blkQ_miss rfl ?_
        | refine rndQ_x ?_
        | refine rndQ_r ?_
        | refine rdQ_n ?_
        | refine rdQ_x ?_
        | refine rdQ_r ?_
        | refine cutQ_n ?_
        | refine cutQ_r ?_
        | refine cutQ_miss rfl ?_
        | refine endQ_x ?_
        | refine endQ_r ?_)
      exact fin1r rfl rfl ⟨hS.upd, rfl⟩

def Dk.file (D : Dk) (p : List UInt8) : Int := if D.may p 1 ≠ 0 then D.may p 1 else if D.has p then (if (D.at p).dir then 12 else 0) else 11
set_option maxHeartbeats 4000000 in
set_option maxRecDepth 100000 in
theorem dfile_c {b mb lb : Nat} {D : Dk} (p : List UInt8) {w0 : World} (h : DkIs b mb lb D w0) (hl : p.length ≤ 1099511627) : Cal Tryd.prog 29 [.pointer (some ⟨b, 0, none⟩), str p] w0
    (fun v w' => Upd [] w0 w' ∧ v = .int .i64 (D.file p)) := by
  have hmay := fun (w : World) (h : DkIs b mb lb D w) => may_c p 1 h hl
  refine Cal.mk' (by kernel_rfl) Tryd.func29 rfl rfl fun hS => ?_
  have h' := h
  obtain ⟨_, _, _, hb, hm, hlm⟩ := h
  have hb : w0.heap[b]? = some (.cells ⟨[.map (some mb), .map (some lb), .int .i64 D.steps, .int .i64 D.stamps, .int .i64 D.armed, .bool D.down]⟩ 57 (0, 0)) := hb
  unfold Dk.file Dk.has Dk.at
  have hlk := look_it2 D.items p
  by_cases he : D.may p 1 = 0
  · rw [if_neg (by simp [he])]
    generalize (mget D.items p).isSome = has at *
    generalize (mget D.items p).getD It0 = it at *
    obtain ⟨dir, data, kept, loose, anew, stamp⟩ := it
    have hcase : has = false ∨ (has = true ∧ dir = true) ∨ (has = true ∧ dir = false) := by cases has <;> cases dir <;> simp
    rcases hcase with rfl | ⟨rfl, rfl⟩ | ⟨rfl, rfl⟩
    all_goals
      repeat' (first
        | (show WL _ _ _ _ _ _ _; first
          | refine WL.pure rfl rfl rfl rfl ?_
          | refine WL.nil ?_
          | refine WL.load hS rfl rfl (LdOk.box (by repeat (first | exact List.Mem.head _ | apply List.Mem.tail)) rfl) rfl rfl rfl ?_
          | refine WL.add rfl rfl rfl (by omega) rfl rfl rfl ?_
          | refine WL.sub rfl rfl rfl (by omega) rfl rfl rfl ?_
          | (refine WL.calls hS rfl rfl (hmay _ h') rfl rfl rfl ?_; rintro v w rfl hS; rw [he])
          | (refine WL.load hS rfl rfl (LdOk.old hb (by repeat (first | exact List.Mem.head _ | apply List.Mem.tail)) rfl) rfl rfl rfl ?_)
          | (refine WL.mget hS rfl rfl rfl rfl (MapOk.old hm (by repeat (first | exact List.Mem.head _ | apply List.Mem.tail))) hlk rfl rfl rfl ?_)
          | refine WL.conv64 rfl rfl rfl (by omega) rfl rfl rfl ?_
          | refine WL.cat rfl rfl rfl (by omega) rfl rfl rfl ?_
          | refine WL.idxS rfl rfl rfl rfl (by with_reducible assumption) rfl rfl rfl ?_
          | refine WL.lowS rfl rfl rfl rfl (by omega) rfl rfl rfl ?_
          | refine WL.highS rfl rfl rfl rfl (by omega) rfl rfl rfl ?_
          | refine WL.midS rfl rfl rfl rfl rfl (by omega) (by omega) rfl rfl rfl ?_
          | refine WL.maxI rfl rfl rfl rfl rfl rfl ?_
          | refine WL.minI rfl rfl rfl rfl rfl rfl ?_
          | (refine WL.store hS rfl rfl rfl (by repeat (first | exact StB.here rfl | apply StB.there)) rfl rfl rfl ?_; intro w hS)
          | (refine WL.box hS rfl rfl rfl rfl rfl ?_; intro w b hS)
          | (refine WL.alloc hS rfl rfl rfl rfl rfl rfl ?_; intro w b hS)
          | refine WL.index rfl rfl rfl rfl (by first | with_reducible assumption | omega) rfl rfl rfl rfl ?_
          | refine WL.index (j := 0) rfl rfl rfl rfl (by omega) rfl rfl rfl rfl ?_
          | refine WL.indexArr rfl rfl rfl rfl (by decide) rfl rfl rfl ?_
          | refine WL.skip rfl rfl rfl ?_
          | refine WL.build rfl rfl rfl rfl rfl ?_
          | (refine WL.slit hS rfl rfl rfl rfl rfl ?_; intro w b hS)
          | refine WL.eqS rfl rfl rfl rfl (by kernel_rfl) rfl rfl rfl ?_
          | refine WL.neS rfl rfl rfl rfl (by kernel_rfl) rfl rfl rfl ?_
          | ((fail_if_success (refine WL.wanted rfl ?_)); refine WL.guard rfl rfl rfl (fun h => ?_) (fun h => ?_) <;> (try simp only [Classical.not_not, Bool.not_eq_true', Bool.not_eq_false', Bool.not_eq_eq_eq_not, Bool.not_true, Bool.not_false, beq_iff_eq, beq_eq_false_iff_ne, ne_eq, decide_eq_decide, decide_eq_true_eq, decide_eq_false_iff_not, Bool.and_eq_true, Bool.or_eq_true, Bool.and_eq_false_iff, Bool.or_eq_false_iff] at h) <;> (try (exfalso; first | omega | contradiction))))
        | (show WC _ _ _ _ _ _; first
          | refine WC.seq ?_
          | refine WC.region ?_
          | refine WC.block ?_
          | refine WC.skip ?_
          | refine WC.exit ?_
          | refine WC.ret ?_
          | refine WC.condT rfl (by with_reducible rfl) ?_
          | refine WC.condF rfl (by with_reducible rfl) ?_
          | refine WC.condT rfl (by decide) ?_
          | refine WC.condF rfl (by decide) ?_
          | refine WC.condT rfl (decide_eq_true (by first | with_reducible assumption | omega)) ?_
          | refine WC.condF rfl (decide_eq_false (by first | with_reducible assumption | omega)) ?_
          | refine WC.condT rfl (by first | (simp; done) | (simp; omega)) ?_
          | refine WC.condF rfl (by first | (simp; done) | (simp; omega)) ?_
          | (refine WC.cond rfl (fun h => ?_) (fun h => ?_) <;> (try simp only [Classical.not_not, Bool.not_eq_true', Bool.not_eq_false', Bool.not_eq_eq_eq_not, Bool.not_true, Bool.not_false, beq_iff_eq, beq_eq_false_iff_ne, ne_eq, decide_eq_decide, decide_eq_true_eq, decide_eq_false_iff_not, Bool.and_eq_true, Bool.or_eq_true, Bool.and_eq_false_iff, Bool.or_eq_false_iff] at h) <;> (try (exfalso; first | omega | contradiction))))
        | (show WD _ _ _ _ _ _ _ _ _; first
          | refine WD.pure rfl rfl rfl rfl rfl ?_
          | refine WD.nil ?_
          | refine WD.load rfl rfl (LdOk.box (by repeat (first | exact List.Mem.head _ | apply List.Mem.tail)) rfl) rfl rfl rfl rfl ?_
          | refine WD.add rfl rfl rfl (by omega) rfl rfl rfl rfl ?_
          | refine WD.sub rfl rfl rfl (by omega) rfl rfl rfl rfl ?_
          | refine WD.conv64 rfl rfl rfl (by omega) rfl rfl rfl rfl ?_
          | refine WD.index rfl rfl rfl rfl (by first | with_reducible assumption | omega) rfl rfl rfl rfl rfl ?_
          | refine WD.index (j := 0) rfl rfl rfl rfl (by omega) rfl rfl rfl rfl rfl ?_
          | refine WD.indexArr rfl rfl rfl rfl (by decide) rfl rfl rfl rfl ?_
          | refine WD.pass rfl rfl rfl rfl ?_
          | refine WD.skip rfl rfl rfl rfl rfl (hM.ss hS) ?_
          | refine WD.build rfl rfl rfl rfl rfl rfl ?_
          | (refine WD.slit hS hM rfl rfl rfl rfl rfl rfl rfl ?_; intro w b hS hM)
          | refine WD.eqS rfl rfl rfl rfl (by kernel_rfl) rfl rfl rfl rfl ?_
          | refine WD.neS rfl rfl rfl rfl (by kernel_rfl) rfl rfl rfl rfl ?_
          | (refine WD.box hS hM rfl rfl rfl rfl rfl rfl rfl ?_; intro w b hS hM)
          | ((fail_if_success (refine WD.wanted rfl ?_)); refine WD.guard rfl rfl rfl (fun h => ?_) (fun h => ?_) <;> (try simp only [Classical.not_not, Bool.not_eq_true', Bool.not_eq_false', Bool.not_eq_eq_eq_not, Bool.not_true, Bool.not_false, beq_iff_eq, beq_eq_false_iff_ne, ne_eq, decide_eq_decide, decide_eq_true_eq, decide_eq_false_iff_not, Bool.and_eq_true, Bool.or_eq_true, Bool.and_eq_false_iff, Bool.or_eq_false_iff] at h) <;> (try (exfalso; first | omega | contradiction))))
        | refine seqQ_n ?_
        | refine blkQ_n ?_
        | refine seqQ_x ?_
        | refine seqQ_r ?_
        | refine blkQ_r ?_
        | refine blkQ_hit rfl ?_
        | refine blkQ_miss rfl ?_
        | refine rndQ_x ?_
        | refine rndQ_r ?_
        | refine rdQ_n ?_
        | refine rdQ_x ?_
        | refine rdQ_r ?_
        | refine cutQ_n ?_
        | refine cutQ_r ?_
        | refine cutQ_miss rfl ?_
        | refine endQ_x ?_
        | refine endQ_r ?_)
      exact fin1r rfl rfl ⟨hS.upd, rfl⟩
  · rw [if_pos he]
    repeat' (first
      | (show WL _ _ _ _ _ _ _; first
        | refine WL.pure rfl rfl rfl rfl ?_
        | refine WL.nil ?_
        | refine WL.load hS rfl rfl (LdOk.box (by repeat (first | exact List.Mem.head _ | apply List.Mem.tail)) rfl) rfl rfl rfl ?_
        | refine WL.add rfl rfl rfl (by omega) rfl rfl rfl ?_
        | refine WL.sub rfl rfl rfl (by omega) rfl rfl rfl ?_
        | (refine WL.calls hS rfl rfl (hmay _ h') rfl rfl rfl ?_; rintro v w rfl hS)
        | refine WL.conv64 rfl rfl rfl (by omega) rfl rfl rfl ?_
        | refine WL.cat rfl rfl rfl (by omega) rfl rfl rfl ?_
        | refine WL.idxS rfl rfl rfl rfl (by with_reducible assumption) rfl rfl rfl ?_
        | refine WL.lowS rfl rfl rfl rfl (by omega) rfl rfl rfl ?_
        | refine WL.highS rfl rfl rfl rfl (by omega) rfl rfl rfl ?_
        | refine WL.midS rfl rfl rfl rfl rfl (by omega) (by omega) rfl rfl rfl ?_
        | refine WL.maxI rfl rfl rfl rfl rfl rfl ?_
        | refine WL.minI rfl rfl rfl rfl rfl rfl ?_
        | (refine WL.store hS rfl rfl rfl (by repeat (first | exact StB.here rfl | apply StB.there)) rfl rfl rfl ?_; intro w hS)
        | (refine WL.box hS rfl rfl rfl rfl rfl ?_; intro w b hS)
        | (refine WL.alloc hS rfl rfl rfl rfl rfl rfl ?_; intro w b hS)
        | refine WL.index rfl rfl rfl rfl (by first | with_reducible assumption | omega) rfl rfl rfl rfl ?_
        | refine WL.index (j := 0) rfl rfl rfl rfl (by omega) rfl rfl rfl rfl ?_
        | refine WL.indexArr rfl rfl rfl rfl (by decide) rfl rfl rfl ?_
        | refine WL.skip rfl rfl rfl ?_
        | refine WL.build rfl rfl rfl rfl rfl ?_
        | (refine WL.slit hS rfl rfl rfl rfl rfl ?_; intro w b hS)
        | refine WL.eqS rfl rfl rfl rfl (by kernel_rfl) rfl rfl rfl ?_
        | refine WL.neS rfl rfl rfl rfl (by kernel_rfl) rfl rfl rfl ?_
        | ((fail_if_success (refine WL.wanted rfl ?_)); refine WL.guard rfl rfl rfl (fun h => ?_) (fun h => ?_) <;> (try simp only [Classical.not_not, Bool.not_eq_true', Bool.not_eq_false', Bool.not_eq_eq_eq_not, Bool.not_true, Bool.not_false, beq_iff_eq, beq_eq_false_iff_ne, ne_eq, decide_eq_decide, decide_eq_true_eq, decide_eq_false_iff_not, Bool.and_eq_true, Bool.or_eq_true, Bool.and_eq_false_iff, Bool.or_eq_false_iff] at h) <;> (try (exfalso; first | omega | contradiction))))
      | (show WC _ _ _ _ _ _; first
        | refine WC.seq ?_
        | refine WC.region ?_
        | refine WC.block ?_
        | refine WC.skip ?_
        | refine WC.exit ?_
        | refine WC.ret ?_
        | refine WC.condT rfl (by with_reducible rfl) ?_
        | refine WC.condF rfl (by with_reducible rfl) ?_
        | refine WC.condT rfl (by decide) ?_
        | refine WC.condF rfl (by decide) ?_
        | refine WC.condT rfl (decide_eq_true (by first | with_reducible assumption | omega)) ?_
        | refine WC.condF rfl (decide_eq_false (by first | with_reducible assumption | omega)) ?_
        | refine WC.condT rfl (by first | (simp; done) | (simp; omega)) ?_
        | refine WC.condF rfl (by first | (simp; done) | (simp; omega)) ?_
        | (refine WC.cond rfl (fun h => ?_) (fun h => ?_) <;> (try simp only [Classical.not_not, Bool.not_eq_true', Bool.not_eq_false', Bool.not_eq_eq_eq_not, Bool.not_true, Bool.not_false, beq_iff_eq, beq_eq_false_iff_ne, ne_eq, decide_eq_decide, decide_eq_true_eq, decide_eq_false_iff_not, Bool.and_eq_true, Bool.or_eq_true, Bool.and_eq_false_iff, Bool.or_eq_false_iff] at h) <;> (try (exfalso; first | omega | contradiction))))
      | (show WD _ _ _ _ _ _ _ _ _; first
        | refine WD.pure rfl rfl rfl rfl rfl ?_
        | refine WD.nil ?_
        | refine WD.load rfl rfl (LdOk.box (by repeat (first | exact List.Mem.head _ | apply List.Mem.tail)) rfl) rfl rfl rfl rfl ?_
        | refine WD.add rfl rfl rfl (by omega) rfl rfl rfl rfl ?_
        | refine WD.sub rfl rfl rfl (by omega) rfl rfl rfl rfl ?_
        | refine WD.conv64 rfl rfl rfl (by omega) rfl rfl rfl rfl ?_
        | refine WD.index rfl rfl rfl rfl (by first | with_reducible assumption | omega) rfl rfl rfl rfl rfl ?_
        | refine WD.index (j := 0) rfl rfl rfl rfl (by omega) rfl rfl rfl rfl rfl ?_
        | refine WD.indexArr rfl rfl rfl rfl (by decide) rfl rfl rfl rfl ?_
        | refine WD.pass rfl rfl rfl rfl ?_
        | refine WD.skip rfl rfl rfl rfl rfl (hM.ss hS) ?_
        | refine WD.build rfl rfl rfl rfl rfl rfl ?_
        | (refine WD.slit hS hM rfl rfl rfl rfl rfl rfl rfl ?_; intro w b hS hM)
        | refine WD.eqS rfl rfl rfl rfl (by kernel_rfl) rfl rfl rfl rfl ?_
        | refine WD.neS rfl rfl rfl rfl (by kernel_rfl) rfl rfl rfl rfl ?_
        | (refine WD.box hS hM rfl rfl rfl rfl rfl rfl rfl ?_; intro w b hS hM)
        | ((fail_if_success (refine WD.wanted rfl ?_)); refine WD.guard rfl rfl rfl (fun h => ?_) (fun h => ?_) <;> (try simp only [Classical.not_not, Bool.not_eq_true', Bool.not_eq_false', Bool.not_eq_eq_eq_not, Bool.not_true, Bool.not_false, beq_iff_eq, beq_eq_false_iff_ne, ne_eq, decide_eq_decide, decide_eq_true_eq, decide_eq_false_iff_not, Bool.and_eq_true, Bool.or_eq_true, Bool.and_eq_false_iff, Bool.or_eq_false_iff] at h) <;> (try (exfalso; first | omega | contradiction))))
      | refine seqQ_n ?_
      | refine blkQ_n ?_
      | refine seqQ_x ?_
      | refine seqQ_r ?_
      | refine blkQ_r ?_
      | refine blkQ_hit rfl ?_
      | refine blkQ_miss rfl ?_
      | refine rndQ_x ?_
      | refine rndQ_r ?_
      | refine rdQ_n ?_
      | refine rdQ_x ?_
      | refine rdQ_r ?_
      | refine cutQ_n ?_
      | refine cutQ_r ?_
      | refine cutQ_miss rfl ?_
      | refine endQ_x ?_
      | refine endQ_r ?_)
    exact fin1r rfl rfl ⟨hS.upd, rfl⟩

theorem LdOk.dk {P : Program} {H : List Chunk} {Z : List Snap} {ty : TypeId} {v : Value} {b mb lb off : Nat} {D : Dk} (hm : dkC b mb lb D ∈ H) (hv : getV P ty [.map (some mb), .map (some lb), .int .i64 D.steps, .int .i64 D.stamps, .int .i64 D.armed, .bool D.down] off = some v) : LdOk P H Z ty ⟨b, off, none⟩ v := by
  refine ⟨fun w0 M w Hn Zn hS => ?_⟩
  have hb := (hS.holds _ (List.mem_append_right _ hm)).1.2.2.2.1
  have := run_loadVar_cells (o := 0) hv (cell_box hb)
  rwa [Nat.zero_add] at this
theorem MapOk.dk {H : List Chunk} {Z : List Snap} {b mb lb : Nat} {D : Dk} (hm : dkC b mb lb D ∈ H) : MapOk H Z mb (mmap encIt D.items) := ⟨fun w0 M w Hn Zn hS => (hS.holds _ (List.mem_append_right _ hm)).1.2.2.2.2.1⟩
theorem MapOk.dkL {H : List Chunk} {Z : List Snap} {b mb lb : Nat} {D : Dk} (hm : dkC b mb lb D ∈ H) : MapOk H Z lb (mmap encI D.limits) := ⟨fun w0 M w Hn Zn hS => (hS.holds _ (List.mem_append_right _ hm)).1.2.2.2.2.2⟩

theorem St.dkPut {w0 w : World} {M : List Nat} {H : List Chunk} {Z : List Snap} {b mb lb : Nat} {D : Dk} {p : List UInt8} {x : It} (h1 : b ≠ mb) (h2 : b ≠ lb) (h3 : mb ≠ lb)
    (hS : St w0 M w (.box b 57 [.map (some mb), .map (some lb), .int .i64 D.steps, .int .i64 D.stamps, .int .i64 D.armed, .bool D.down] :: mapC mb (mset (mmap encIt D.items) p (encIt x)) :: mapC lb (mmap encI D.limits) :: H) Z) : St w0 M w (dkC b mb lb { D with items := mset D.items p x } :: H) Z := by
  rw [mset_map] at hS
  exact St.dkClose { D with items := mset D.items p x } h1 h2 h3 hS
/-- the answer, and the disk behind it -/
def Dk.mkdir (D : Dk) (p : List UInt8) : Int × Dk := if D.may p 0 ≠ 0 then (D.may p 0, D) else if D.under p = false then (11, D) else if D.has p = true ∧ (D.at p).dir = false then (12, D) else if D.stepE ≠ 0 then (D.stepE, D.step) else (0, { D.step with items := mset D.step.items p { It0 with dir := true } })
set_option maxHeartbeats 8000000 in
set_option maxRecDepth 100000 in
theorem mkdir_c {q mb lb : Nat} {D : Dk} (p : List UInt8) {w0 : World} (hc : (dkC q mb lb D).holds w0) (hi : inB (dkC q mb lb D) w0) (hl : p.length ≤ 1099511627) : Cal Tryd.prog 26 [.pointer (some ⟨q, 0, none⟩), str p] w0
    (fun v w' => v = .int .i64 (D.mkdir p).1 ∧ Mut w0 w' (dkC q mb lb D) (dkC q mb lb (D.mkdir p).2)) := by
  refine Cal.mkM hc hi (by kernel_rfl) Tryd.func26 rfl rfl fun hS => ?_
  by_cases he : D.may p 0 = 0
  · have hlk := look_it2 D.items p
    have hhas : D.has p = (mget D.items p).isSome := rfl
    have hat : D.at p = (mget D.items p).getD It0 := rfl
    rw [← hhas, ← hat] at hlk
    clear hhas hat
    by_cases hu : D.under p = false
    · have hR : D.mkdir p = (11, D) := by unfold Dk.mkdir; rw [if_neg (by simp [he]), if_pos hu]
      rw [hR]
      repeat' (first
        | (show WL _ _ _ _ _ _ _; first
          | refine WL.pure rfl rfl rfl rfl ?_
          | refine WL.nil ?_
          | refine WL.load hS rfl rfl (LdOk.box (by repeat (first | exact List.Mem.head _ | apply List.Mem.tail)) rfl) rfl rfl rfl ?_
          | refine WL.add rfl rfl rfl (by omega) rfl rfl rfl ?_
          | refine WL.sub rfl rfl rfl (by omega) rfl rfl rfl ?_
          | (refine WL.calls hS rfl rfl (may_c p 0 (hS.holds (dkC q mb lb D) (by repeat (first | exact List.Mem.head _ | apply List.Mem.tail))).1 hl) rfl rfl rfl ?_; rintro v w rfl hS; rw [he])
          | (refine WL.load hS rfl rfl (LdOk.dk (by repeat (first | exact List.Mem.head _ | apply List.Mem.tail)) rfl) rfl rfl rfl ?_)
          | (refine WL.mget hS rfl rfl rfl rfl (MapOk.dk (by repeat (first | exact List.Mem.head _ | apply List.Mem.tail))) hlk rfl rfl rfl ?_)
          | (refine WL.calls hS rfl rfl (dunder_c p (D := D) (hS.holds (dkC q mb lb D) (by repeat (first | exact List.Mem.head _ | apply List.Mem.tail))).1 hl) rfl rfl rfl ?_; rintro v w rfl hS; rw [hu])
          | refine WL.conv64 rfl rfl rfl (by omega) rfl rfl rfl ?_
          | refine WL.cat rfl rfl rfl (by omega) rfl rfl rfl ?_
          | refine WL.idxS rfl rfl rfl rfl (by with_reducible assumption) rfl rfl rfl ?_
          | refine WL.lowS rfl rfl rfl rfl (by omega) rfl rfl rfl ?_
          | refine WL.highS rfl rfl rfl rfl (by omega) rfl rfl rfl ?_
          | refine WL.midS rfl rfl rfl rfl rfl (by omega) (by omega) rfl rfl rfl ?_
          | refine WL.maxI rfl rfl rfl rfl rfl rfl ?_
          | refine WL.minI rfl rfl rfl rfl rfl rfl ?_
          | (refine WL.store hS rfl rfl rfl (by repeat (first | exact StB.here rfl | apply StB.there)) rfl rfl rfl ?_; intro w hS)
          | (refine WL.box hS rfl rfl rfl rfl rfl ?_; intro w b hS)
          | (refine WL.alloc hS rfl rfl rfl rfl rfl rfl ?_; intro w b hS)
          | refine WL.index rfl rfl rfl rfl (by first | with_reducible assumption | omega) rfl rfl rfl rfl ?_
          | refine WL.index (j := 0) rfl rfl rfl rfl (by omega) rfl rfl rfl rfl ?_
          | refine WL.indexArr rfl rfl rfl rfl (by decide) rfl rfl rfl ?_
          | refine WL.skip rfl rfl rfl ?_
          | refine WL.build rfl rfl rfl rfl rfl ?_
          | (refine WL.slit hS rfl rfl rfl rfl rfl ?_; intro w b hS)
          | refine WL.eqS rfl rfl rfl rfl (by kernel_rfl) rfl rfl rfl ?_
          | refine WL.neS rfl rfl rfl rfl (by kernel_rfl) rfl rfl rfl ?_
          | ((fail_if_success (refine WL.wanted rfl ?_)); refine WL.guard rfl rfl rfl (fun h => ?_) (fun h => ?_) <;> (try simp only [Classical.not_not, Bool.not_eq_true', Bool.not_eq_false', Bool.not_eq_eq_eq_not, Bool.not_true, Bool.not_false, beq_iff_eq, beq_eq_false_iff_ne, ne_eq, decide_eq_decide, decide_eq_true_eq, decide_eq_false_iff_not, Bool.and_eq_true, Bool.or_eq_true, Bool.and_eq_false_iff, Bool.or_eq_false_iff] at h) <;> (try (exfalso; first | omega | contradiction))))
        | (show WC _ _ _ _ _ _; first
          | refine WC.seq ?_
          | refine WC.region ?_
          | refine WC.block ?_
          | refine WC.skip ?_
          | refine WC.exit ?_
          | refine WC.ret ?_
          | refine WC.condT rfl (by with_reducible rfl) ?_
          | refine WC.condF rfl (by with_reducible rfl) ?_
          | refine WC.condT rfl (by decide) ?_
          | refine WC.condF rfl (by decide) ?_
          | refine WC.condT rfl (decide_eq_true (by first | with_reducible assumption | omega)) ?_
          | refine WC.condF rfl (decide_eq_false (by first | with_reducible assumption | omega)) ?_
          | refine WC.condT rfl (by first | (simp; done) | (simp; omega)) ?_
          | refine WC.condF rfl (by first | (simp; done) | (simp; omega)) ?_
          | (refine WC.cond rfl (fun h => ?_) (fun h => ?_) <;> (try simp only [Classical.not_not, Bool.not_eq_true', Bool.not_eq_false', Bool.not_eq_eq_eq_not, Bool.not_true, Bool.not_false, beq_iff_eq, beq_eq_false_iff_ne, ne_eq, decide_eq_decide, decide_eq_true_eq, decide_eq_false_iff_not, Bool.and_eq_true, Bool.or_eq_true, Bool.and_eq_false_iff, Bool.or_eq_false_iff] at h) <;> (try (exfalso; first | omega | contradiction))))
        | (show WD _ _ _ _ _ _ _ _ _; first
          | refine WD.pure rfl rfl rfl rfl rfl ?_
          | refine WD.nil ?_
          | refine WD.load rfl rfl (LdOk.box (by repeat (first | exact List.Mem.head _ | apply List.Mem.tail)) rfl) rfl rfl rfl rfl ?_
          | refine WD.add rfl rfl rfl (by omega) rfl rfl rfl rfl ?_
          | refine WD.sub rfl rfl rfl (by omega) rfl rfl rfl rfl ?_
          | refine WD.conv64 rfl rfl rfl (by omega) rfl rfl rfl rfl ?_
          | refine WD.index rfl rfl rfl rfl (by first | with_reducible assumption | omega) rfl rfl rfl rfl rfl ?_
          | refine WD.index (j := 0) rfl rfl rfl rfl (by omega) rfl rfl rfl rfl rfl ?_
          | refine WD.indexArr rfl rfl rfl rfl (by decide) rfl rfl rfl rfl ?_
          | refine WD.pass rfl rfl rfl rfl ?_
          | refine WD.skip rfl rfl rfl rfl rfl (hM.ss hS) ?_
          | refine WD.build rfl rfl rfl rfl rfl rfl ?_
          | (refine WD.slit hS hM rfl rfl rfl rfl rfl rfl rfl ?_; intro w b hS hM)
          | refine WD.eqS rfl rfl rfl rfl (by kernel_rfl) rfl rfl rfl rfl ?_
          | refine WD.neS rfl rfl rfl rfl (by kernel_rfl) rfl rfl rfl rfl ?_
          | (refine WD.box hS hM rfl rfl rfl rfl rfl rfl rfl ?_; intro w b hS hM)
          | ((fail_if_success (refine WD.wanted rfl ?_)); refine WD.guard rfl rfl rfl (fun h => ?_) (fun h => ?_) <;> (try simp only [Classical.not_not, Bool.not_eq_true', Bool.not_eq_false', Bool.not_eq_eq_eq_not, Bool.not_true, Bool.not_false, beq_iff_eq, beq_eq_false_iff_ne, ne_eq, decide_eq_decide, decide_eq_true_eq, decide_eq_false_iff_not, Bool.and_eq_true, Bool.or_eq_true, Bool.and_eq_false_iff, Bool.or_eq_false_iff] at h) <;> (try (exfalso; first | omega | contradiction))))
        | refine seqQ_n ?_
        | refine blkQ_n ?_
        | refine seqQ_x ?_
        | refine seqQ_r ?_
        | refine blkQ_r ?_
        | refine blkQ_hit rfl ?_
        | refine blkQ_miss rfl ?_
        | refine rndQ_x ?_
        | refine rndQ_r ?_
        | refine rdQ_n ?_
        | refine rdQ_x ?_
        | refine rdQ_r ?_
        | refine cutQ_n ?_
        | refine cutQ_r ?_
        | refine cutQ_miss rfl ?_
        | refine endQ_x ?_
        | refine endQ_r ?_)
      exact fin1r rfl rfl ⟨rfl, hS.mutOf (by repeat (first | exact List.Mem.head _ | apply List.Mem.tail))⟩
    · have hu' : D.under p = true := by simpa using hu
      by_cases hd : D.has p = true ∧ (D.at p).dir = false
      · have hR : D.mkdir p = (12, D) := by unfold Dk.mkdir; rw [if_neg (by simp [he]), if_neg hu, if_pos hd]
        rw [hR]
        generalize D.has p = has at *
        generalize D.at p = it at *
        obtain ⟨dir, data, kept, loose, anew, stamp⟩ := it
        obtain ⟨rfl, hd2⟩ := hd
        dsimp only at hd2
        subst hd2
        repeat' (first
          | (show WL _ _ _ _ _ _ _; first
            | refine WL.pure rfl rfl rfl rfl ?_
            | refine WL.nil ?_
            | refine WL.load hS rfl rfl (LdOk.box (by repeat (first | exact List.Mem.head _ | apply List.Mem.tail)) rfl) rfl rfl rfl ?_
            | refine WL.add rfl rfl rfl (by omega) rfl rfl rfl ?_
            | refine WL.sub rfl rfl rfl (by omega) rfl rfl rfl ?_
            | (refine WL.calls hS rfl rfl (may_c p 0 (hS.holds (dkC q mb lb D) (by repeat (first | exact List.Mem.head _ | apply List.Mem.tail))).1 hl) rfl rfl rfl ?_; rintro v w rfl hS; rw [he])
            | (refine WL.load hS rfl rfl (LdOk.dk (by repeat (first | exact List.Mem.head _ | apply List.Mem.tail)) rfl) rfl rfl rfl ?_)
            | (refine WL.mget hS rfl rfl rfl rfl (MapOk.dk (by repeat (first | exact List.Mem.head _ | apply List.Mem.tail))) hlk rfl rfl rfl ?_)
            | (refine WL.calls hS rfl rfl (dunder_c p (D := D) (hS.holds (dkC q mb lb D) (by repeat (first | exact List.Mem.head _ | apply List.Mem.tail))).1 hl) rfl rfl rfl ?_; rintro v w rfl hS; rw [hu'])
            | refine WL.conv64 rfl rfl rfl (by omega) rfl rfl rfl ?_
            | refine WL.cat rfl rfl rfl (by omega) rfl rfl rfl ?_
            | refine WL.idxS rfl rfl rfl rfl (by with_reducible assumption) rfl rfl rfl ?_
            | refine WL.lowS rfl rfl rfl rfl (by omega) rfl rfl rfl ?_
            | refine WL.highS rfl rfl rfl rfl (by omega) rfl rfl rfl ?_
            | refine WL.midS rfl rfl rfl rfl rfl (by omega) (by omega) rfl rfl rfl ?_
            | refine WL.maxI rfl rfl rfl rfl rfl rfl ?_
            | refine WL.minI rfl rfl rfl rfl rfl rfl ?_
            | (refine WL.store hS rfl rfl rfl (by repeat (first | exact StB.here rfl | apply StB.there)) rfl rfl rfl ?_; intro w hS)
            | (refine WL.box hS rfl rfl rfl rfl rfl ?_; intro w b hS)
            | (refine WL.alloc hS rfl rfl rfl rfl rfl rfl ?_; intro w b hS)
            | refine WL.index rfl rfl rfl rfl (by first | with_reducible assumption | omega) rfl rfl rfl rfl ?_
            | refine WL.index (j := 0) rfl rfl rfl rfl (by omega) rfl rfl rfl rfl ?_
            | refine WL.indexArr rfl rfl rfl rfl (by decide) rfl rfl rfl ?_
            | refine WL.skip rfl rfl rfl ?_
            | refine WL.build rfl rfl rfl rfl rfl ?_
            | (refine WL.slit hS rfl rfl rfl rfl rfl ?_; intro w b hS)
            | refine WL.eqS rfl rfl rfl rfl (by kernel_rfl) rfl rfl rfl ?_
            | refine WL.neS rfl rfl rfl rfl (by kernel_rfl) rfl rfl rfl ?_
            | ((fail_if_success (refine WL.wanted rfl ?_)); refine WL.guard rfl rfl rfl (fun h => ?_) (fun h => ?_) <;> (try simp only [Classical.not_not, Bool.not_eq_true', Bool.not_eq_false', Bool.not_eq_eq_eq_not, Bool.not_true, Bool.not_false, beq_iff_eq, beq_eq_false_iff_ne, ne_eq, decide_eq_decide, decide_eq_true_eq, decide_eq_false_iff_not, Bool.and_eq_true, Bool.or_eq_true, Bool.and_eq_false_iff, Bool.or_eq_false_iff] at h) <;> (try (exfalso; first | omega | contradiction))))
          | (show WC _ _ _ _ _ _; first
            | refine WC.seq ?_
            | refine WC.region ?_
            | refine WC.block ?_
            | refine WC.skip ?_
            | refine WC.exit ?_
            | refine WC.ret ?_
            | refine WC.condT rfl (by with_reducible rfl) ?_
            | refine WC.condF rfl (by with_reducible rfl) ?_
            | refine WC.condT rfl (by decide) ?_
            | refine WC.condF rfl (by decide) ?_
            | refine WC.condT rfl (decide_eq_true (by first | with_reducible assumption | omega)) ?_
            | refine WC.condF rfl (decide_eq_false (by first | with_reducible assumption | omega)) ?_
            | refine WC.condT rfl (by first | (simp; done) | (simp; omega)) ?_
            | refine WC.condF rfl (by first | (simp; done) | (simp; omega)) ?_
            | (refine WC.cond rfl (fun h => ?_) (fun h => ?_) <;> (try simp only [Classical.not_not, Bool.not_eq_true', Bool.not_eq_false', Bool.not_eq_eq_eq_not, Bool.not_true, Bool.not_false, beq_iff_eq, beq_eq_false_iff_ne, ne_eq, decide_eq_decide, decide_eq_true_eq, decide_eq_false_iff_not, Bool.and_eq_true, Bool.or_eq_true, Bool.and_eq_false_iff, Bool.or_eq_false_iff] at h) <;> (try (exfalso; first | omega | contradiction))))
          | (show WD _ _ _ _ _ _ _ _ _; first
            | refine WD.pure rfl rfl rfl rfl rfl ?_
            | refine WD.nil ?_
            | refine WD.load rfl rfl (LdOk.box (by repeat (first | exact List.Mem.head _ | apply List.Mem.tail)) rfl) rfl rfl rfl rfl ?_
            | refine WD.add rfl rfl rfl (by omega) rfl rfl rfl rfl ?_
            | refine WD.sub rfl rfl rfl (by omega) rfl rfl rfl rfl ?_
            | refine WD.conv64 rfl rfl rfl (by omega) rfl rfl rfl rfl ?_
            | refine WD.index rfl rfl rfl rfl (by first | with_reducible assumption | omega) rfl rfl rfl rfl rfl ?_
            | refine WD.index (j := 0) rfl rfl rfl rfl (by omega) rfl rfl rfl rfl rfl ?_
            | refine WD.indexArr rfl rfl rfl rfl (by decide) rfl rfl rfl rfl ?_
            | refine WD.pass rfl rfl rfl rfl ?_
            | refine WD.skip rfl rfl rfl rfl rfl (hM.ss hS) ?_
            | refine WD.build rfl rfl rfl rfl rfl rfl ?_
            | (refine WD.slit hS hM rfl rfl rfl rfl rfl rfl rfl ?_; intro w b hS hM)
            | refine WD.eqS rfl rfl rfl rfl (by kernel_rfl) rfl rfl rfl rfl ?_
            | refine WD.neS rfl rfl rfl rfl (by kernel_rfl) rfl rfl rfl rfl ?_
            | (refine WD.box hS hM rfl rfl rfl rfl rfl rfl rfl ?_; intro w b hS hM)
            | ((fail_if_success (refine WD.wanted rfl ?_)); refine WD.guard rfl rfl rfl (fun h => ?_) (fun h => ?_) <;> (try simp only [Classical.not_not, Bool.not_eq_true', Bool.not_eq_false', Bool.not_eq_eq_eq_not, Bool.not_true, Bool.not_false, beq_iff_eq, beq_eq_false_iff_ne, ne_eq, decide_eq_decide, decide_eq_true_eq, decide_eq_false_iff_not, Bool.and_eq_true, Bool.or_eq_true, Bool.and_eq_false_iff, Bool.or_eq_false_iff] at h) <;> (try (exfalso; first | omega | contradiction))))
          | refine seqQ_n ?_
          | refine blkQ_n ?_
          | refine seqQ_x ?_
          | refine seqQ_r ?_
          | refine blkQ_r ?_
          | refine blkQ_hit rfl ?_
          | refine blkQ_miss rfl ?_
          | refine rndQ_x ?_
          | refine rndQ_r ?_
          | refine rdQ_n ?_
          | refine rdQ_x ?_
          | refine rdQ_r ?_
          | refine cutQ_n ?_
          | refine cutQ_r ?_
          | refine cutQ_miss rfl ?_
          | refine endQ_x ?_
          | refine endQ_r ?_)
        exact fin1r rfl rfl ⟨rfl, hS.mutOf (by repeat (first | exact List.Mem.head _ | apply List.Mem.tail))⟩
      · have hcase : (D.has p = false) ∨ (D.has p = true ∧ (D.at p).dir = true) := by
          cases h1 : D.has p
          · exact .inl rfl
          · refine .inr ⟨rfl, ?_⟩
            cases h2 : (D.at p).dir
            · exact absurd ⟨h1, h2⟩ hd
            · rfl
        by_cases hs : D.stepE = 0
        · have hR : D.mkdir p = (0, { D.step with items := mset D.step.items p { It0 with dir := true } }) := by unfold Dk.mkdir; rw [if_neg (by simp [he]), if_neg hu, if_neg hd, if_neg (by simp [hs])]
          rw [hR]
          clear hR hd hu
          generalize D.has p = has at *
          generalize D.at p = it at *
          obtain ⟨dir, data, kept, loose, anew, stamp⟩ := it
          rcases hcase with rfl | ⟨rfl, hd2⟩
          case' inr => (dsimp only at hd2; subst hd2)
          all_goals
            repeat' (first
              | (show WL _ _ _ _ _ _ _; first
                | refine WL.pure rfl rfl rfl rfl ?_
                | refine WL.nil ?_
                | refine WL.load hS rfl rfl (LdOk.box (by repeat (first | exact List.Mem.head _ | apply List.Mem.tail)) rfl) rfl rfl rfl ?_
                | refine WL.add rfl rfl rfl (by omega) rfl rfl rfl ?_
                | refine WL.sub rfl rfl rfl (by omega) rfl rfl rfl ?_
                | (refine WL.calls hS rfl rfl (may_c p 0 (hS.holds (dkC q mb lb D) (by repeat (first | exact List.Mem.head _ | apply List.Mem.tail))).1 hl) rfl rfl rfl ?_; rintro v w rfl hS; rw [he])
                | (refine WL.load hS rfl rfl (LdOk.dk (by repeat (first | exact List.Mem.head _ | apply List.Mem.tail)) rfl) rfl rfl rfl ?_)
                | (refine WL.mget hS rfl rfl rfl rfl (MapOk.dk (by repeat (first | exact List.Mem.head _ | apply List.Mem.tail))) hlk rfl rfl rfl ?_)
                | (refine WL.calls hS rfl rfl (dunder_c p (D := D) (hS.holds (dkC q mb lb D) (by repeat (first | exact List.Mem.head _ | apply List.Mem.tail))).1 hl) rfl rfl rfl ?_; rintro v w rfl hS; rw [hu'])
                | (refine WL.callG rfl rfl (step_c (D := D) (hS.holds (dkC q mb lb D) (by repeat (first | exact List.Mem.head _ | apply List.Mem.tail))) (hS.inB_of (by repeat (first | exact List.Mem.head _ | apply List.Mem.tail)))) rfl rfl rfl ?_; rintro v w ⟨rfl, hmut⟩; have hS := hS.mut hmut (by repeat (first | exact Repl.here | apply Repl.there)); clear hmut; rw [hs])
                | (obtain ⟨h1, h2, h3, hS⟩ := St.dkOpen (St.pull (c := dkC q mb lb D.step) hS (by repeat (first | exact Pull.here | apply Pull.there))); refine WL.mset hS (.inl rfl) rfl rfl rfl rfl (by repeat (first | exact Repl.here | apply Repl.there)) rfl rfl ?_; clear hS; intro w hS)
                | refine WL.conv64 rfl rfl rfl (by omega) rfl rfl rfl ?_
                | refine WL.cat rfl rfl rfl (by omega) rfl rfl rfl ?_
                | refine WL.idxS rfl rfl rfl rfl (by with_reducible assumption) rfl rfl rfl ?_
                | refine WL.lowS rfl rfl rfl rfl (by omega) rfl rfl rfl ?_
                | refine WL.highS rfl rfl rfl rfl (by omega) rfl rfl rfl ?_
                | refine WL.midS rfl rfl rfl rfl rfl (by omega) (by omega) rfl rfl rfl ?_
                | refine WL.maxI rfl rfl rfl rfl rfl rfl ?_
                | refine WL.minI rfl rfl rfl rfl rfl rfl ?_
                | (refine WL.store hS rfl rfl rfl (by repeat (first | exact StB.here rfl | apply StB.there)) rfl rfl rfl ?_; intro w hS)
                | (refine WL.box hS rfl rfl rfl rfl rfl ?_; intro w b hS)
                | (refine WL.alloc hS rfl rfl rfl rfl rfl rfl ?_; intro w b hS)
                | refine WL.index rfl rfl rfl rfl (by first | with_reducible assumption | omega) rfl rfl rfl rfl ?_
                | refine WL.index (j := 0) rfl rfl rfl rfl (by omega) rfl rfl rfl rfl ?_
                | refine WL.indexArr rfl rfl rfl rfl (by decide) rfl rfl rfl ?_
                | refine WL.skip rfl rfl rfl ?_
                | refine WL.build rfl rfl rfl rfl rfl ?_
                | (refine WL.slit hS rfl rfl rfl rfl rfl ?_; intro w b hS)
                | refine WL.eqS rfl rfl rfl rfl (by kernel_rfl) rfl rfl rfl ?_
                | refine WL.neS rfl rfl rfl rfl (by kernel_rfl) rfl rfl rfl ?_
                | ((fail_if_success (refine WL.wanted rfl ?_)); refine WL.guard rfl rfl rfl (fun h => ?_) (fun h => ?_) <;> (try simp only [Classical.not_not, Bool.not_eq_true', Bool.not_eq_false', Bool.not_eq_eq_eq_not, Bool.not_true, Bool.not_false, beq_iff_eq, beq_eq_false_iff_ne, ne_eq, decide_eq_decide, decide_eq_true_eq, decide_eq_false_iff_not, Bool.and_eq_true, Bool.or_eq_true, Bool.and_eq_false_iff, Bool.or_eq_false_iff] at h) <;> (try (exfalso; first | omega | contradiction))))
              | (show WC _ _ _ _ _ _; first
                | refine WC.seq ?_
                | refine WC.region ?_
                | refine WC.block ?_
                | refine WC.skip ?_
                | refine WC.exit ?_
                | refine WC.ret ?_
                | refine WC.condT rfl (by with_reducible rfl) ?_
                | refine WC.condF rfl (by with_reducible rfl) ?_
                | refine WC.condT rfl (by decide) ?_
                | refine WC.condF rfl (by decide) ?_
                | refine WC.condT rfl (decide_eq_true (by first | with_reducible assumption | omega)) ?_
                | refine WC.condF rfl (decide_eq_false (by first | with_reducible assumption | omega)) ?_
                | refine WC.condT rfl (by first | (simp; done) | (simp; omega)) ?_
                | refine WC.condF rfl (by first | (simp; done) | (simp; omega)) ?_
                | (refine WC.cond rfl (fun h => ?_) (fun h => ?_) <;> (try simp only [Classical.not_not, Bool.not_eq_true', Bool.not_eq_false', Bool.not_eq_eq_eq_not, Bool.not_true, Bool.not_false, beq_iff_eq, beq_eq_false_iff_ne, ne_eq, decide_eq_decide, decide_eq_true_eq, decide_eq_false_iff_not, Bool.and_eq_true, Bool.or_eq_true, Bool.and_eq_false_iff, Bool.or_eq_false_iff] at h) <;> (try (exfalso; first | omega | contradiction))))
              | (show WD _ _ _ _ _ _ _ _ _; first
                | refine WD.pure rfl rfl rfl rfl rfl ?_
                | refine WD.nil ?_
                | refine WD.load rfl rfl (LdOk.box (by repeat (first | exact List.Mem.head _ | apply List.Mem.tail)) rfl) rfl rfl rfl rfl ?_
                | refine WD.add rfl rfl rfl (by omega) rfl rfl rfl rfl ?_
                | refine WD.sub rfl rfl rfl (by omega) rfl rfl rfl rfl ?_
                | refine WD.conv64 rfl rfl rfl (by omega) rfl rfl rfl rfl ?_
                | refine WD.index rfl rfl rfl rfl (by first | with_reducible assumption | omega) rfl rfl rfl rfl rfl ?_
                | refine WD.index (j := 0) rfl rfl rfl rfl (by omega) rfl rfl rfl rfl rfl ?_
                | refine WD.indexArr rfl rfl rfl rfl (by decide) rfl rfl rfl rfl ?_
                | refine WD.pass rfl rfl rfl rfl ?_
                | refine WD.skip rfl rfl rfl rfl rfl (hM.ss hS) ?_
                | refine WD.build rfl rfl rfl rfl rfl rfl ?_
                | (refine WD.slit hS hM rfl rfl rfl rfl rfl rfl rfl ?_; intro w b hS hM)
                | refine WD.eqS rfl rfl rfl rfl (by kernel_rfl) rfl rfl rfl rfl ?_
                | refine WD.neS rfl rfl rfl rfl (by kernel_rfl) rfl rfl rfl rfl ?_
                | (refine WD.box hS hM rfl rfl rfl rfl rfl rfl rfl ?_; intro w b hS hM)
                | ((fail_if_success (refine WD.wanted rfl ?_)); refine WD.guard rfl rfl rfl (fun h => ?_) (fun h => ?_) <;> (try simp only [Classical.not_not, Bool.not_eq_true', Bool.not_eq_false', Bool.not_eq_eq_eq_not, Bool.not_true, Bool.not_false, beq_iff_eq, beq_eq_false_iff_ne, ne_eq, decide_eq_decide, decide_eq_true_eq, decide_eq_false_iff_not, Bool.and_eq_true, Bool.or_eq_true, Bool.and_eq_false_iff, Bool.or_eq_false_iff] at h) <;> (try (exfalso; first | omega | contradiction))))
              | refine seqQ_n ?_
              | refine blkQ_n ?_
              | refine seqQ_x ?_
              | refine seqQ_r ?_
              | refine blkQ_r ?_
              | refine blkQ_hit rfl ?_
              | refine blkQ_miss rfl ?_
              | refine rndQ_x ?_
              | refine rndQ_r ?_
              | refine rdQ_n ?_
              | refine rdQ_x ?_
              | refine rdQ_r ?_
              | refine cutQ_n ?_
              | refine cutQ_r ?_
              | refine cutQ_miss rfl ?_
              | refine endQ_x ?_
              | refine endQ_r ?_)
            exact fin1r rfl rfl ⟨rfl, (St.dkPut h1 h2 h3 hS).mutOf (List.Mem.head _)⟩
        · have hs2 : D.stepE = 14 := by unfold Dk.stepE at hs ⊢; split at hs <;> simp_all
          have hR : D.mkdir p = (14, D.step) := by unfold Dk.mkdir; rw [if_neg (by simp [he]), if_neg hu, if_neg hd, if_pos hs, hs2]
          rw [hR]
          clear hR hd hu hs
          have hs := hs2
          generalize D.has p = has at *
          generalize D.at p = it at *
          obtain ⟨dir, data, kept, loose, anew, stamp⟩ := it
          rcases hcase with rfl | ⟨rfl, hd2⟩
          case' inr => (dsimp only at hd2; subst hd2)
          all_goals
            repeat' (first
              | (show WL _ _ _ _ _ _ _; first
                | refine WL.pure rfl rfl rfl rfl ?_
                | refine WL.nil ?_
                | refine WL.load hS rfl rfl (LdOk.box (by repeat (first | exact List.Mem.head _ | apply List.Mem.tail)) rfl) rfl rfl rfl ?_
                | refine WL.add rfl rfl rfl (by omega) rfl rfl rfl ?_
                | refine WL.sub rfl rfl rfl (by omega) rfl rfl rfl ?_
                | (refine WL.calls hS rfl rfl (may_c p 0 (hS.holds (dkC q mb lb D) (by repeat (first | exact List.Mem.head _ | apply List.Mem.tail))).1 hl) rfl rfl rfl ?_; rintro v w rfl hS; rw [he])
                | (refine WL.load hS rfl rfl (LdOk.dk (by repeat (first | exact List.Mem.head _ | apply List.Mem.tail)) rfl) rfl rfl rfl ?_)
                | (refine WL.mget hS rfl rfl rfl rfl (MapOk.dk (by repeat (first | exact List.Mem.head _ | apply List.Mem.tail))) hlk rfl rfl rfl ?_)
                | (refine WL.calls hS rfl rfl (dunder_c p (D := D) (hS.holds (dkC q mb lb D) (by repeat (first | exact List.Mem.head _ | apply List.Mem.tail))).1 hl) rfl rfl rfl ?_; rintro v w rfl hS; rw [hu'])
                | (refine WL.callG rfl rfl (step_c (D := D) (hS.holds (dkC q mb lb D) (by repeat (first | exact List.Mem.head _ | apply List.Mem.tail))) (hS.inB_of (by repeat (first | exact List.Mem.head _ | apply List.Mem.tail)))) rfl rfl rfl ?_; rintro v w ⟨rfl, hmut⟩; have hS := hS.mut hmut (by repeat (first | exact Repl.here | apply Repl.there)); clear hmut; rw [hs])
                | (obtain ⟨h1, h2, h3, hS⟩ := St.dkOpen (St.pull (c := dkC q mb lb D.step) hS (by repeat (first | exact Pull.here | apply Pull.there))); refine WL.mset hS (.inl rfl) rfl rfl rfl rfl (by repeat (first | exact Repl.here | apply Repl.there)) rfl rfl ?_; clear hS; intro w hS)
                | refine WL.conv64 rfl rfl rfl (by omega) rfl rfl rfl ?_
                | refine WL.cat rfl rfl rfl (by omega) rfl rfl rfl ?_
                | refine WL.idxS rfl rfl rfl rfl (by with_reducible assumption) rfl rfl rfl ?_
                | refine WL.lowS rfl rfl rfl rfl (by omega) rfl rfl rfl ?_
                | refine WL.highS rfl rfl rfl rfl (by omega) rfl rfl rfl ?_
                | refine WL.midS rfl rfl rfl rfl rfl (by omega) (by omega) rfl rfl rfl ?_
                | refine WL.maxI rfl rfl rfl rfl rfl rfl ?_
                | refine WL.minI rfl rfl rfl rfl rfl rfl ?_
                | (refine WL.store hS rfl rfl rfl (by repeat (first | exact StB.here rfl | apply StB.there)) rfl rfl rfl ?_; intro w hS)
                | (refine WL.box hS rfl rfl rfl rfl rfl ?_; intro w b hS)
                | (refine WL.alloc hS rfl rfl rfl rfl rfl rfl ?_; intro w b hS)
                | refine WL.index rfl rfl rfl rfl (by first | with_reducible assumption | omega) rfl rfl rfl rfl ?_
                | refine WL.index (j := 0) rfl rfl rfl rfl (by omega) rfl rfl rfl rfl ?_
                | refine WL.indexArr rfl rfl rfl rfl (by decide) rfl rfl rfl ?_
                | refine WL.skip rfl rfl rfl ?_
                | refine WL.build rfl rfl rfl rfl rfl ?_
                | (refine WL.slit hS rfl rfl rfl rfl rfl ?_; intro w b hS)
                | refine WL.eqS rfl rfl rfl rfl (by kernel_rfl) rfl rfl rfl ?_
                | refine WL.neS rfl rfl rfl rfl (by kernel_rfl) rfl rfl rfl ?_
                | ((fail_if_success (refine WL.wanted rfl ?_)); refine WL.guard rfl rfl rfl (fun h => ?_) (fun h => ?_) <;> (try simp only [Classical.not_not, Bool.not_eq_true', Bool.not_eq_false', Bool.not_eq_eq_eq_not, Bool.not_true, Bool.not_false, beq_iff_eq, beq_eq_false_iff_ne, ne_eq, decide_eq_decide, decide_eq_true_eq, decide_eq_false_iff_not, Bool.and_eq_true, Bool.or_eq_true, Bool.and_eq_false_iff, Bool.or_eq_false_iff] at h) <;> (try (exfalso; first | omega | contradiction))))
              | (show WC _ _ _ _ _ _; first
                | refine WC.seq ?_
                | refine WC.region ?_
                | refine WC.block ?_
                | refine WC.skip ?_
                | refine WC.exit ?_
                | refine WC.ret ?_
                | refine WC.condT rfl (by with_reducible rfl) ?_
                | refine WC.condF rfl (by with_reducible rfl) ?_
                | refine WC.condT rfl (by decide) ?_
                | refine WC.condF rfl (by decide) ?_
                | refine WC.condT rfl (decide_eq_true (by first | with_reducible assumption | omega)) ?_
                | refine WC.condF rfl (decide_eq_false (by first | with_reducible assumption | omega)) ?_
                | refine WC.condT rfl (by first | (simp; done) | (simp; omega)) ?_
                | refine WC.condF rfl (by first | (simp; done) | (simp; omega)) ?_
                | (refine WC.cond rfl (fun h => ?_) (fun h => ?_) <;> (try simp only [Classical.not_not, Bool.not_eq_true', Bool.not_eq_false', Bool.not_eq_eq_eq_not, Bool.not_true, Bool.not_false, beq_iff_eq, beq_eq_false_iff_ne, ne_eq, decide_eq_decide, decide_eq_true_eq, decide_eq_false_iff_not, Bool.and_eq_true, Bool.or_eq_true, Bool.and_eq_false_iff, Bool.or_eq_false_iff] at h) <;> (try (exfalso; first | omega | contradiction))))
              | (show WD _ _ _ _ _ _ _ _ _; first
                | refine WD.pure rfl rfl rfl rfl rfl ?_
                | refine WD.nil ?_
                | refine WD.load rfl rfl (LdOk.box (by repeat (first | exact List.Mem.head _ | apply List.Mem.tail)) rfl) rfl rfl rfl rfl ?_
                | refine WD.add rfl rfl rfl (by omega) rfl rfl rfl rfl ?_
                | refine WD.sub rfl rfl rfl (by omega) rfl rfl rfl rfl ?_
                | refine WD.conv64 rfl rfl rfl (by omega) rfl rfl rfl rfl ?_
                | refine WD.index rfl rfl rfl rfl (by first | with_reducible assumption | omega) rfl rfl rfl rfl rfl ?_
                | refine WD.index (j := 0) rfl rfl rfl rfl (by omega) rfl rfl rfl rfl rfl ?_
                | refine WD.indexArr rfl rfl rfl rfl (by decide) rfl rfl rfl rfl ?_
                | refine WD.pass rfl rfl rfl rfl ?_
                | refine WD.skip rfl rfl rfl rfl rfl (hM.ss hS) ?_
                | refine WD.build rfl rfl rfl rfl rfl rfl ?_
                | (refine WD.slit hS hM rfl rfl rfl rfl rfl rfl rfl ?_; intro w b hS hM)
                | refine WD.eqS rfl rfl rfl rfl (by kernel_rfl) rfl rfl rfl rfl ?_
                | refine WD.neS rfl rfl rfl rfl (by kernel_rfl) rfl rfl rfl rfl ?_
                | (refine WD.box hS hM rfl rfl rfl rfl rfl rfl rfl ?_; intro w b hS hM)
                | ((fail_if_success (refine WD.wanted rfl ?_)); refine WD.guard rfl rfl rfl (fun h => ?_) (fun h => ?_) <;> (try simp only [Classical.not_not, Bool.not_eq_true', Bool.not_eq_false', Bool.not_eq_eq_eq_not, Bool.not_true, Bool.not_false, beq_iff_eq, beq_eq_false_iff_ne, ne_eq, decide_eq_decide, decide_eq_true_eq, decide_eq_false_iff_not, Bool.and_eq_true, Bool.or_eq_true, Bool.and_eq_false_iff, Bool.or_eq_false_iff] at h) <;> (try (exfalso; first | omega | contradiction))))
              | refine seqQ_n ?_
              | refine blkQ_n ?_
              | refine seqQ_x ?_
              | refine seqQ_r ?_
              | refine blkQ_r ?_
              | refine blkQ_hit rfl ?_
              | refine blkQ_miss rfl ?_
              | refine rndQ_x ?_
              | refine rndQ_r ?_
              | refine rdQ_n ?_
              | refine rdQ_x ?_
              | refine rdQ_r ?_
              | refine cutQ_n ?_
              | refine cutQ_r ?_
              | refine cutQ_miss rfl ?_
              | refine endQ_x ?_
              | refine endQ_r ?_)
            exact fin1r rfl rfl ⟨rfl, hS.mutOf (by repeat (first | exact List.Mem.head _ | apply List.Mem.tail))⟩
  · have hR : D.mkdir p = (D.may p 0, D) := by unfold Dk.mkdir; rw [if_pos he]
    rw [hR]
    repeat' (first
      | (show WL _ _ _ _ _ _ _; first
        | refine WL.pure rfl rfl rfl rfl ?_
        | refine WL.nil ?_
        | refine WL.load hS rfl rfl (LdOk.box (by repeat (first | exact List.Mem.head _ | apply List.Mem.tail)) rfl) rfl rfl rfl ?_
        | refine WL.add rfl rfl rfl (by omega) rfl rfl rfl ?_
        | refine WL.sub rfl rfl rfl (by omega) rfl rfl rfl ?_
        | (refine WL.calls hS rfl rfl (may_c p 0 (hS.holds (dkC q mb lb D) (by repeat (first | exact List.Mem.head _ | apply List.Mem.tail))).1 hl) rfl rfl rfl ?_; rintro v w rfl hS)
        | refine WL.conv64 rfl rfl rfl (by omega) rfl rfl rfl ?_
        | refine WL.cat rfl rfl rfl (by omega) rfl rfl rfl ?_
        | refine WL.idxS rfl rfl rfl rfl (by with_reducible assumption) rfl rfl rfl ?_
        | refine WL.lowS rfl rfl rfl rfl (by omega) rfl rfl rfl ?_
        | refine WL.highS rfl rfl rfl rfl (by omega) rfl rfl rfl ?_
        | refine WL.midS rfl rfl rfl rfl rfl (by omega) (by omega) rfl rfl rfl ?_
        | refine WL.maxI rfl rfl rfl rfl rfl rfl ?_
        | refine WL.minI rfl rfl rfl rfl rfl rfl ?_
        | (refine WL.store hS rfl rfl rfl (by repeat (first | exact StB.here rfl | apply StB.there)) rfl rfl rfl ?_; intro w hS)
        | (refine WL.box hS rfl rfl rfl rfl rfl ?_; intro w b hS)
        | (refine WL.alloc hS rfl rfl rfl rfl rfl rfl ?_; intro w b hS)
        | refine WL.index rfl rfl rfl rfl (by first | with_reducible assumption | omega) rfl rfl rfl rfl ?_
        | refine WL.index (j := 0) rfl rfl rfl rfl (by omega) rfl rfl rfl rfl ?_
        | refine WL.indexArr rfl rfl rfl rfl (by decide) rfl rfl rfl ?_
        | refine WL.skip rfl rfl rfl ?_
        | refine WL.build rfl rfl rfl rfl rfl ?_
        | (refine WL.slit hS rfl rfl rfl rfl rfl ?_; intro w b hS)
        | refine WL.eqS rfl rfl rfl rfl (by kernel_rfl) rfl rfl rfl ?_
        | refine WL.neS rfl rfl rfl rfl (by kernel_rfl) rfl rfl rfl ?_
        | ((fail_if_success (refine WL.wanted rfl ?_)); refine WL.guard rfl rfl rfl (fun h => ?_) (fun h => ?_) <;> (try simp only [Classical.not_not, Bool.not_eq_true', Bool.not_eq_false', Bool.not_eq_eq_eq_not, Bool.not_true, Bool.not_false, beq_iff_eq, beq_eq_false_iff_ne, ne_eq, decide_eq_decide, decide_eq_true_eq, decide_eq_false_iff_not, Bool.and_eq_true, Bool.or_eq_true, Bool.and_eq_false_iff, Bool.or_eq_false_iff] at h) <;> (try (exfalso; first | omega | contradiction))))
      | (show WC _ _ _ _ _ _; first
        | refine WC.seq ?_
        | refine WC.region ?_
        | refine WC.block ?_
        | refine WC.skip ?_
        | refine WC.exit ?_
        | refine WC.ret ?_
        | refine WC.condT rfl (by with_reducible rfl) ?_
        | refine WC.condF rfl (by with_reducible rfl) ?_
        | refine WC.condT rfl (by decide) ?_
        | refine WC.condF rfl (by decide) ?_
        | refine WC.condT rfl (decide_eq_true (by first | with_reducible assumption | omega)) ?_
        | refine WC.condF rfl (decide_eq_false (by first | with_reducible assumption | omega)) ?_
        | refine WC.condT rfl (by first | (simp; done) | (simp; omega)) ?_
        | refine WC.condF rfl (by first | (simp; done) | (simp; omega)) ?_
        | (refine WC.cond rfl (fun h => ?_) (fun h => ?_) <;> (try simp only [Classical.not_not, Bool.not_eq_true', Bool.not_eq_false', Bool.not_eq_eq_eq_not, Bool.not_true, Bool.not_false, beq_iff_eq, beq_eq_false_iff_ne, ne_eq, decide_eq_decide, decide_eq_true_eq, decide_eq_false_iff_not, Bool.and_eq_true, Bool.or_eq_true, Bool.and_eq_false_iff, Bool.or_eq_false_iff] at h) <;> (try (exfalso; first | omega | contradiction))))
      | (show WD _ _ _ _ _ _ _ _ _; first
        | refine WD.pure rfl rfl rfl rfl rfl ?_
        | refine WD.nil ?_
        | refine WD.load rfl rfl (LdOk.box (by repeat (first | exact List.Mem.head _ | apply List.Mem.tail)) rfl) rfl rfl rfl rfl ?_
        | refine WD.add rfl rfl rfl (by omega) rfl rfl rfl rfl ?_
        | refine WD.sub rfl rfl rfl (by omega) rfl rfl rfl rfl ?_
        | refine WD.conv64 rfl rfl rfl (by omega) rfl rfl rfl rfl ?_
        | refine WD.index rfl rfl rfl rfl (by first | with_reducible assumption | omega) rfl rfl rfl rfl rfl ?_
        | refine WD.index (j := 0) rfl rfl rfl rfl (by omega) rfl rfl rfl rfl rfl ?_
        | refine WD.indexArr rfl rfl rfl rfl (by decide) rfl rfl rfl rfl ?_
        | refine WD.pass rfl rfl rfl rfl ?_
        | refine WD.skip rfl rfl rfl rfl rfl (hM.ss hS) ?_
        | refine WD.build rfl rfl rfl rfl rfl rfl ?_
        | (refine WD.slit hS hM rfl rfl rfl rfl rfl rfl rfl ?_; intro w b hS hM)
        | refine WD.eqS rfl rfl rfl rfl (by kernel_rfl) rfl rfl rfl rfl ?_
        | refine WD.neS rfl rfl rfl rfl (by kernel_rfl) rfl rfl rfl rfl ?_
        | (refine WD.box hS hM rfl rfl rfl rfl rfl rfl rfl ?_; intro w b hS hM)
        | ((fail_if_success (refine WD.wanted rfl ?_)); refine WD.guard rfl rfl rfl (fun h => ?_) (fun h => ?_) <;> (try simp only [Classical.not_not, Bool.not_eq_true', Bool.not_eq_false', Bool.not_eq_eq_eq_not, Bool.not_true, Bool.not_false, beq_iff_eq, beq_eq_false_iff_ne, ne_eq, decide_eq_decide, decide_eq_true_eq, decide_eq_false_iff_not, Bool.and_eq_true, Bool.or_eq_true, Bool.and_eq_false_iff, Bool.or_eq_false_iff] at h) <;> (try (exfalso; first | omega | contradiction))))
      | refine seqQ_n ?_
      | refine blkQ_n ?_
      | refine seqQ_x ?_
      | refine seqQ_r ?_
      | refine blkQ_r ?_
      | refine blkQ_hit rfl ?_
      | refine blkQ_miss rfl ?_
      | refine rndQ_x ?_
      | refine rndQ_r ?_
      | refine rdQ_n ?_
      | refine rdQ_x ?_
      | refine rdQ_r ?_
      | refine cutQ_n ?_
      | refine cutQ_r ?_
      | refine cutQ_miss rfl ?_
      | refine endQ_x ?_
      | refine endQ_r ?_)
    exact fin1r rfl rfl ⟨rfl, hS.mutOf (by repeat (first | exact List.Mem.head _ | apply List.Mem.tail))⟩
end Go.Proofs.YtggalmiaofeikaaDoor
