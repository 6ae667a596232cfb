/- What is proved: the law RetainGrows answers true. Conditions: what the records take fits an int. -/
import Derived.Test.YtjmdhakndlhbhaaRetKeeps
set_option linter.unusedSimpArgs false
set_option linter.unusedVariables false
namespace Go.Proofs.Ytjmdhakndlhbhaa
open Go Go.J Go.RowKit

/-- a rule that drops more drops no fewer -/
theorem dropsL_mono {c q a c' q' a' : Int} (l : List Rec) (h : ∀ r ∈ l, ∀ s : Int, (q < s ∨ (0 < a ∧ a < c - r.tick)) → (q' < s ∨ (0 < a' ∧ a' < c' - r.tick))) :
    dropsL c q a l ≤ dropsL c' q' a' l := by
  induction l with
  | nil => simp [dropsL]
  | cons r l ih =>
    have ih := ih fun x hx => h x (List.mem_cons_of_mem _ hx)
    have h0 := h r (List.mem_cons_self ..) (sumSz (r :: l) : Int)
    unfold dropsL
    by_cases hc : q < (sumSz (r :: l) : Int) ∨ (0 < a ∧ a < c - r.tick)
    · rw [if_pos hc, if_pos (h0 hc)]; omega
    · rw [if_neg hc]; omega
theorem dropsL_len (c q a : Int) (l : List Rec) : dropsL c q a l ≤ l.length := by
  induction l with
  | nil => simp [dropsL]
  | cons r l ih => unfold dropsL; split <;> simp only [List.length_cons] <;> omega

set_option maxHeartbeats 4000000 in
theorem grows_c (rs : List Rec) (A : Option Addr) (cap : Nat) (clock quota age : Int) (w0 : World) (hA : SlAt cRec (Old w0) w0 A rs) (hb : sumSz rs ≤ 4611686018427387904) :
    Cal Try.prog 5 [.slice A rs.length cap, .int .i64 clock, .int .i64 quota, .int .i64 age] w0 (fun v w' => Upd [] w0 w' ∧ v = .bool true) := by
  have hlen := sumSz_len rs
  refine Cal.mk' (by kernel_rfl) Try.func5 rfl rfl fun hS => ?_
  rcases hm : mayB rs clock quota age
  · repeat' (first
      | (show WL _ _ _ _ _ _ _; first
        | refine WL.pure rfl rfl rfl rfl ?_
        | refine WL.nil ?_
        | refine WL.load hS rfl rfl (LdOk.box (by repeat (first | exact List.Mem.head _ | apply List.Mem.tail)) rfl) rfl rfl rfl ?_
        | refine WL.add rfl rfl rfl (by omega) rfl rfl rfl ?_
        | refine WL.sub rfl rfl rfl (by omega) rfl rfl rfl ?_
        | (refine WL.calls hS rfl rfl (awake_c _) rfl rfl rfl ?_; rintro v w rfl hS)
        | (refine WL.calls hS rfl rfl (may_c rs A cap clock quota age _ (hS.slO (z := ⟨w0, Old w0⟩) (by repeat (first | exact List.Mem.head _ | apply List.Mem.tail)) hA) (by omega)) rfl rfl rfl ?_; rintro v w rfl hS; rw [hm])
        | (refine WL.store hS rfl rfl rfl (by repeat (first | exact StB.here rfl | apply StB.there)) rfl rfl rfl ?_; intro w hS)
        | (refine WL.box hS rfl rfl rfl rfl rfl ?_; intro w b hS)
        | (refine WL.alloc hS rfl rfl rfl rfl rfl rfl ?_; intro w b hS)
        | refine WL.index rfl rfl rfl rfl (by assumption) rfl rfl rfl rfl ?_
        | refine WL.indexArr rfl rfl rfl rfl (by decide) rfl rfl rfl ?_
        | refine WL.skip rfl rfl rfl ?_
        | refine WL.build rfl rfl rfl rfl rfl ?_
        | (refine WL.slit hS rfl rfl rfl rfl rfl ?_; intro w b hS)
        | refine WL.eqS rfl rfl rfl rfl (by kernel_rfl) rfl rfl rfl ?_
        | refine WL.neS rfl rfl rfl rfl (by kernel_rfl) rfl rfl rfl ?_
        | ((fail_if_success (refine WL.wanted rfl ?_)); refine WL.guard rfl rfl rfl (fun h => ?_) (fun h => ?_) <;> (try simp only [decide_eq_true_eq, decide_eq_false_iff_not] at h) <;> (try (exfalso; omega))))
      | (show WC _ _ _ _ _ _; first
        | refine WC.seq ?_
        | refine WC.region ?_
        | refine WC.block ?_
        | refine WC.skip ?_
        | refine WC.exit ?_
        | refine WC.ret ?_
        | refine WC.condT rfl rfl ?_
        | refine WC.condF rfl rfl ?_
        | refine WC.condT rfl (decide_eq_true (by omega)) ?_
        | refine WC.condF rfl (decide_eq_false (by omega)) ?_
        | (refine WC.cond rfl (fun h => ?_) (fun h => ?_) <;> (try simp only [decide_eq_true_eq, decide_eq_false_iff_not] at h) <;> (try (exfalso; omega))))
      | (show WD _ _ _ _ _ _ _ _ _; first
        | refine WD.pure rfl rfl rfl rfl rfl ?_
        | refine WD.nil ?_
        | refine WD.load rfl rfl (LdOk.box (by repeat (first | exact List.Mem.head _ | apply List.Mem.tail)) rfl) rfl rfl rfl rfl ?_
        | refine WD.add rfl rfl rfl (by omega) rfl rfl rfl rfl ?_
        | refine WD.sub rfl rfl rfl (by omega) rfl rfl rfl rfl ?_
        | refine WD.index rfl rfl rfl rfl (by assumption) rfl rfl rfl rfl rfl ?_
        | refine WD.indexArr rfl rfl rfl rfl (by decide) rfl rfl rfl rfl ?_
        | refine WD.pass rfl rfl rfl rfl ?_
        | refine WD.build rfl rfl rfl rfl rfl rfl ?_
        | (refine WD.slit hS hM rfl rfl rfl rfl rfl rfl rfl ?_; intro w b hS hM)
        | refine WD.eqS rfl rfl rfl rfl (by kernel_rfl) rfl rfl rfl rfl ?_
        | refine WD.neS rfl rfl rfl rfl (by kernel_rfl) rfl rfl rfl rfl ?_
        | (refine WD.box hS hM rfl rfl rfl rfl rfl rfl rfl ?_; intro w b hS hM)
        | ((fail_if_success (refine WD.wanted rfl ?_)); refine WD.guard rfl rfl rfl (fun h => ?_) (fun h => ?_) <;> (try simp only [decide_eq_true_eq, decide_eq_false_iff_not] at h) <;> (try (exfalso; omega))))
      | refine seqQ_n ?_
      | refine blkQ_n ?_
      | refine seqQ_x ?_
      | refine seqQ_r ?_
      | refine blkQ_r ?_
      | refine blkQ_hit rfl ?_
      | refine blkQ_miss rfl ?_
      | refine rndQ_x ?_
      | refine rndQ_r ?_
      | refine rdQ_n ?_
      | refine rdQ_x ?_
      | refine rdQ_r ?_)
    exact fin1r rfl rfl ⟨hS.upd, rfl⟩
  · obtain ⟨ht, hc⟩ := mayB_true hm
    have m1 : dropsL clock (quota + 100) age rs ≤ dropsL clock quota age rs := dropsL_mono rs fun r _ s h => by omega
    have m2 : 0 < age → dropsL clock quota (age + 1) rs ≤ dropsL clock quota age rs := fun h0 => dropsL_mono rs fun r _ s h => by omega
    have m3 : dropsL clock quota age rs ≤ dropsL (clock + 1) quota age rs := dropsL_mono rs fun r _ s h => by omega
    have m4 : dropsL clock quota 0 rs ≤ dropsL clock quota age rs := dropsL_mono rs fun r _ s h => by omega
    have l1 := dropsL_len clock quota age rs
    have l2 := dropsL_len (clock + 1) quota age rs
    have m2' : age = 0 ∨ dropsL clock quota (age + 1) rs ≤ dropsL clock quota age rs := if e : age = 0 then .inl e else .inr (m2 (by omega))
    clear m2
    obtain ⟨HT, rfl⟩ : ∃ h : (∀ k (h : k < rs.length), 0 ≤ rs[k].tick ∧ rs[k].tick ≤ 1099511627776), h = ht := ⟨_, rfl⟩
    rcases m2' with rfl | m2
    all_goals
      repeat' (first
        | (show WL _ _ _ _ _ _ _; first
          | refine WL.pure rfl rfl rfl rfl ?_
          | refine WL.nil ?_
          | refine WL.load hS rfl rfl (LdOk.box (by repeat (first | exact List.Mem.head _ | apply List.Mem.tail)) rfl) rfl rfl rfl ?_
          | refine WL.add rfl rfl rfl (by omega) rfl rfl rfl ?_
          | refine WL.sub rfl rfl rfl (by omega) rfl rfl rfl ?_
          | (refine WL.calls hS rfl rfl (awake_c _) rfl rfl rfl ?_; rintro v w rfl hS)
          | (refine WL.calls hS rfl rfl (may_c rs A cap clock quota _ _ (hS.slO (z := ⟨w0, Old w0⟩) (by repeat (first | exact List.Mem.head _ | apply List.Mem.tail)) hA) (by omega)) rfl rfl rfl ?_; rintro v w rfl hS; rw [hm])
          | (refine WL.calls hS rfl rfl (drops_c rs A cap _ _ _ _ (hS.slO (z := ⟨w0, Old w0⟩) (by repeat (first | exact List.Mem.head _ | apply List.Mem.tail)) hA) hb (by omega) (fun k h => by have := HT k h; omega)) rfl rfl rfl ?_; rintro v w rfl hS)
          | (refine WL.store hS rfl rfl rfl (by repeat (first | exact StB.here rfl | apply StB.there)) rfl rfl rfl ?_; intro w hS)
          | (refine WL.box hS rfl rfl rfl rfl rfl ?_; intro w b hS)
          | (refine WL.alloc hS rfl rfl rfl rfl rfl rfl ?_; intro w b hS)
          | refine WL.index rfl rfl rfl rfl (by assumption) rfl rfl rfl rfl ?_
          | refine WL.indexArr rfl rfl rfl rfl (by decide) rfl rfl rfl ?_
          | refine WL.skip rfl rfl rfl ?_
          | refine WL.build rfl rfl rfl rfl rfl ?_
          | (refine WL.slit hS rfl rfl rfl rfl rfl ?_; intro w b hS)
          | refine WL.eqS rfl rfl rfl rfl (by kernel_rfl) rfl rfl rfl ?_
          | refine WL.neS rfl rfl rfl rfl (by kernel_rfl) rfl rfl rfl ?_
          | ((fail_if_success (refine WL.wanted rfl ?_)); refine WL.guard rfl rfl rfl (fun h => ?_) (fun h => ?_) <;> (try simp only [decide_eq_true_eq, decide_eq_false_iff_not] at h) <;> (try (exfalso; omega))))
        | (show WC _ _ _ _ _ _; first
          | refine WC.seq ?_
          | refine WC.region ?_
          | refine WC.block ?_
          | refine WC.skip ?_
          | refine WC.exit ?_
          | refine WC.ret ?_
          | refine WC.condT rfl rfl ?_
          | refine WC.condF rfl rfl ?_
          | refine WC.condT rfl (decide_eq_true (by omega)) ?_
          | refine WC.condF rfl (decide_eq_false (by omega)) ?_
          | (refine WC.cond rfl (fun h => ?_) (fun h => ?_) <;> (try simp only [decide_eq_true_eq, decide_eq_false_iff_not] at h) <;> (try (exfalso; omega))))
        | (show WD _ _ _ _ _ _ _ _ _; first
          | refine WD.pure rfl rfl rfl rfl rfl ?_
          | refine WD.nil ?_
          | refine WD.load rfl rfl (LdOk.box (by repeat (first | exact List.Mem.head _ | apply List.Mem.tail)) rfl) rfl rfl rfl rfl ?_
          | refine WD.add rfl rfl rfl (by omega) rfl rfl rfl rfl ?_
          | refine WD.sub rfl rfl rfl (by omega) rfl rfl rfl rfl ?_
          | refine WD.index rfl rfl rfl rfl (by assumption) rfl rfl rfl rfl rfl ?_
          | refine WD.indexArr rfl rfl rfl rfl (by decide) rfl rfl rfl rfl ?_
          | refine WD.pass rfl rfl rfl rfl ?_
          | refine WD.build rfl rfl rfl rfl rfl rfl ?_
          | (refine WD.slit hS hM rfl rfl rfl rfl rfl rfl rfl ?_; intro w b hS hM)
          | refine WD.eqS rfl rfl rfl rfl (by kernel_rfl) rfl rfl rfl rfl ?_
          | refine WD.neS rfl rfl rfl rfl (by kernel_rfl) rfl rfl rfl rfl ?_
          | (refine WD.box hS hM rfl rfl rfl rfl rfl rfl rfl ?_; intro w b hS hM)
          | ((fail_if_success (refine WD.wanted rfl ?_)); refine WD.guard rfl rfl rfl (fun h => ?_) (fun h => ?_) <;> (try simp only [decide_eq_true_eq, decide_eq_false_iff_not] at h) <;> (try (exfalso; omega))))
        | refine seqQ_n ?_
        | refine blkQ_n ?_
        | refine seqQ_x ?_
        | refine seqQ_r ?_
        | refine blkQ_r ?_
        | refine blkQ_hit rfl ?_
        | refine blkQ_miss rfl ?_
        | refine rndQ_x ?_
        | refine rndQ_r ?_
        | refine rdQ_n ?_
        | refine rdQ_x ?_
        | refine rdQ_r ?_)
    all_goals exact fin1r rfl rfl ⟨hS.upd, by first | rfl | (refine vbool (decide_eq_true ?_); omega) | (refine vbool ?_; simp; done) | (refine vbool ?_; simp; omega)⟩
end Go.Proofs.Ytjmdhakndlhbhaa
