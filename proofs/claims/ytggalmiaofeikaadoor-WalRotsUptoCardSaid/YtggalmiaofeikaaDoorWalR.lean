/- What is proved: the law WalRots answers true. Conditions: texts of bounded length. -/
import Derived.Test.YtggalmiaofeikaaDoorWalL
import Derived.Test.YtggalmiaofeikaaDoorTurn
set_option linter.unusedSimpArgs false
set_option linter.unusedVariables false
namespace Go.Proofs.YtggalmiaofeikaaDoor
open Go Go.J Go.RowKit

theorem lP_len : lP.length ≤ 1099511620 := by decide
theorem frames_len_le : ∀ l : List (List UInt8), (∀ s ∈ l, s.length < 18446744073709551616) → (frames l).length ≤ 14 * l.length + (l.map List.length).sum
  | [], _ => by simp [frames]
  | s :: l, h => by
    have := frames_len_le l (fun u hu => h u (by simp [hu]))
    have h2 := putN_len10 (h s (by simp))
    have e : (frames (s :: l)).length = (packE s).length + (frames l).length := by simp [frames]
    rw [e, packE_len]
    simp only [List.length_cons, List.map_cons, List.sum_cons]
    omega
theorem frames_take (l : List (List UInt8)) (k : Nat) (h : k < l.length) : frames (l.take (k + 1)) = frames (l.take k) ++ packE l[k] := by
  rw [List.take_succ_eq_append_getElem h, frames_app, frames_one]
theorem frames_split (l : List (List UInt8)) (k : Nat) (h : k < l.length) : frames l = frames (l.take k) ++ (packE l[k] ++ frames (l.drop (k + 1))) := by
  have e : l = l.take k ++ (l[k] :: l.drop (k + 1)) := by simp
  conv => lhs; rw [e]
  rw [frames_app, show frames (l[k] :: l.drop (k + 1)) = packE l[k] ++ frames (l.drop (k + 1)) from List.flatMap_cons]
theorem sum_take_le (l : List (List UInt8)) (k : Nat) : ((l.take k).map List.length).sum ≤ (l.map List.length).sum := by
  conv => rhs; rw [← List.take_append_drop k l]
  rw [List.map_append, List.sum_append]; omega
theorem mem_le_sum : ∀ (l : List (List UInt8)) (s : List UInt8), s ∈ l → s.length ≤ (l.map List.length).sum
  | x :: l, s, h => by
    simp only [List.map_cons, List.sum_cons]
    rcases List.mem_cons.1 h with rfl | h
    · omega
    · have := mem_le_sum l s h; omega
theorem xor_ne (c : UInt8) (m : Nat) (h : m < 8) : UInt8.ofNat (c.toNat ^^^ 2 ^ m) ≠ c := fun e => by
  have hc := c.toNat_lt
  have hp := pow_lt256 h
  have h2 := congrArg UInt8.toNat e
  rw [ofNat_toNat (Nat.xor_lt_two_pow (n := 8) (by omega) (by omega))] at h2
  have h3 := congrArg (fun n => c.toNat ^^^ n) h2
  simp only [← Nat.xor_assoc, Nat.xor_self, Nat.zero_xor] at h3
  have : 0 < 2 ^ m := Nat.pow_pos (by omega)
  omega
/-- one bit of a frame behind its length turned -/
theorem turn_frames (l : List (List UInt8)) (k : Nat) (h : k < l.length) (bit : Nat) (h1 : 8 * (putN l[k].length).length ≤ bit) (h2 : bit < 8 * (packE l[k]).length) (b : Int) (hb : b = 8 * ((frames (l.take k)).length : Int) + bit) :
    ∃ j x, turnE (frames l) b = frames (l.take k) ++ ((packE l[k]).set j x ++ frames (l.drop (k + 1))) ∧ (packE l[k])[j]? ≠ some x ∧ (putN l[k].length).length ≤ j ∧ j < (packE l[k]).length := by
  have hs := frames_split l k h
  have hlen := congrArg List.length hs
  rw [List.length_append, List.length_append] at hlen
  have hK : turnK (frames l) b = 8 * (frames (l.take k)).length + bit := by
    unfold turnK
    rw [hb, Int.emod_eq_of_lt (by omega) (by omega)]
    omega
  have hj : bit / 8 < (packE l[k]).length := by omega
  have e8 : (8 * (frames (l.take k)).length + bit) / 8 = (frames (l.take k)).length + bit / 8 := by omega
  have e9 : (8 * (frames (l.take k)).length + bit) % 8 = bit % 8 := by omega
  have hg : (frames l)[(frames (l.take k)).length + bit / 8]? = some (packE l[k])[bit / 8] := by
    rw [hs, List.getElem?_append_right (by omega), Nat.add_sub_cancel_left, List.getElem?_append_left hj, List.getElem?_eq_getElem hj]
  refine ⟨bit / 8, UInt8.ofNat ((packE l[k])[bit / 8].toNat ^^^ 2 ^ (bit % 8)), ?_, ?_, by omega, hj⟩
  · unfold turnE
    rw [hK, e8, e9, hg]
    dsimp only
    conv => lhs; rw [hs]
    rw [List.set_append_right _ _ (by omega), Nat.add_sub_cancel_left, List.set_append_left _ _ hj]
  · rw [List.getElem?_eq_getElem hj]
    intro e
    exact xor_ne _ (bit % 8) (by omega) (Option.some.inj e).symm
theorem rot_calm (d k : List UInt8) (lo an : Bool) (s st sp b : Int) : (Dl ⟨false, d, k, lo, an, s⟩ st sp (-1) false).rot lP b = (0, Dl ⟨false, turnE d b, turnE k b, lo, an, IntKind.i64.wrap (sp + 1)⟩ st (IntKind.i64.wrap (sp + 1)) (-1) false) := by kernel_rfl
theorem open_rot (l r : List (List UInt8)) (u : List UInt8) (j : Nat) (x : UInt8) (h : ∀ v ∈ l ++ [u], v.length < 9223372036854775808) (h1 : (putN u.length).length ≤ j) (h2 : j < (packE u).length) (hx : (packE u)[j]? ≠ some x) (k : List UInt8) (lo an : Bool) (s st sp : Int) :
    ∃ D', walOpen (Dl ⟨false, frames l ++ ((packE u).set j x ++ frames r), k, lo, an, s⟩ st sp (-1) false) lP = (0, some ⟨lP, l, true⟩, D') := by
  unfold walOpen
  rw [kind_l _ _ _ _ _ rfl, if_neg (by decide), read_l]
  dsimp only
  rw [if_neg (by decide), scanE_rot l r u j x h h1 h2 hx, fill_calm]
  exact ⟨_, rfl⟩
theorem SlAt.take {α : Type} {c : Cod α} {F : Nat → Prop} {w : World} {A : Option Addr} {xs : List α} (h : SlAt c F w A xs) (n : Nat) : SlAt c F w A (xs.take n) := by
  intro k hk
  rw [List.length_take] at hk
  obtain ⟨b, o, es, h1, h2, h3, h4⟩ := h k (by omega)
  exact ⟨b, o, es, h1, h2, h3, by rw [List.getElem_take]; exact h4⟩
section
variable {P : Program} {N : Nat} {f : Fr} {w : World} {Q : Post} {ops : List Oper} {q : Qs} {l : List Nat} {i : Nat} {S : World → Prop}
theorem WD.sliceTo {t e : TypeId} {size : Nat} {x y : Operand} {g off n cap j : Nat} {k : IntKind} (ho : (ix ops i).op = .slice t x none (some y) none) (he : Go.J.elemOf P t = some (e, size)) (hx : ev f x = .slice (some ⟨g, off, none⟩) n cap) (hy : ev f y = .int k (Int.ofNat j)) (hj : j ≤ cap)
    (hq : q.contains i = true) (hg : wants ops f (ix ops i) = true) {d : Nat} (hd : (ix ops i).dst = some d) (hn : Nat.blt d N = true) (h : WD P N S ops q l (up f d (.slice (some ⟨g, off, none⟩) j cap)) w Q) : WD P N S ops q (i :: l) f w Q :=
  .take hq hd hn (.inl ⟨hg, fun _ _ => run_sliceHigh ho he hx hy hj⟩) h
end
set_option maxHeartbeats 16000000 in
set_option maxRecDepth 100000 in
theorem walRots_c (recs : List (List UInt8)) (A : Option Addr) (cap : Nat) (at_ bit : Int) (w0 : World) (hA : SlAt cStr (Old w0) w0 A recs) (hcap : recs.length ≤ cap) (hl : (recs.map List.length).sum ≤ 1048576) :
    Cal Tryd.prog 4 [.slice A recs.length cap, .int .i64 at_, .int .i64 bit] w0 (fun v w' => Upd [] w0 w' ∧ v = .bool true) := by
  refine Cal.mk' (by kernel_rfl) Tryd.func4 rfl rfl fun hS => ?_
  by_cases c1 : at_ < 0 ∨ (recs.length : Int) ≤ at_ ∨ 40 < recs.length
  · rcases c1 with c1 | c1 | c1
    all_goals
      repeat' (first
        | (show WL _ _ _ _ _ _ _; first
          | refine WL.pure rfl rfl rfl rfl ?_
          | refine WL.nil ?_
          | refine WL.load hS rfl rfl (LdOk.box (by repeat (first | exact List.Mem.head _ | apply List.Mem.tail)) rfl) rfl rfl rfl ?_
          | refine WL.add rfl rfl rfl (by omega) rfl rfl rfl ?_
          | refine WL.sub rfl rfl rfl (by omega) rfl rfl rfl ?_
          | (refine WL.callL (D := []) hS (by repeat (first | exact Pulls.nil | (apply Pulls.cons; focus (repeat (first | exact Pull.here | apply Pull.there))))) rfl rfl (fun hI => made_c _) rfl rfl rfl ?_; rintro v w ⟨q, mb, lb, rfl, hm⟩ hS; replace hS := hS _ hm; clear hm)
          | (refine WL.calls hS rfl rfl (wawake_c _) rfl rfl rfl ?_; rintro v w rfl hS)
          | refine WL.conv64 rfl rfl rfl (by omega) rfl rfl rfl ?_
          | refine WL.cat rfl rfl rfl (by omega) rfl rfl rfl ?_
          | refine WL.idxS rfl rfl rfl rfl (by with_reducible assumption) rfl rfl rfl ?_
          | refine WL.lowS rfl rfl rfl rfl (by omega) rfl rfl rfl ?_
          | refine WL.highS rfl rfl rfl rfl (by omega) rfl rfl rfl ?_
          | refine WL.midS rfl rfl rfl rfl rfl (by omega) (by omega) rfl rfl rfl ?_
          | refine WL.maxI rfl rfl rfl rfl rfl rfl ?_
          | refine WL.minI rfl rfl rfl rfl rfl rfl ?_
          | (refine WL.store hS rfl rfl rfl (by repeat (first | exact StB.here rfl | apply StB.there)) rfl rfl rfl ?_; intro w hS)
          | (refine WL.box hS rfl rfl rfl rfl rfl ?_; intro w b hS)
          | (refine WL.alloc hS rfl rfl rfl rfl rfl rfl ?_; intro w b hS)
          | refine WL.index rfl rfl rfl rfl (by first | with_reducible assumption | omega) rfl rfl rfl rfl ?_
          | refine WL.index (j := 0) rfl rfl rfl rfl (by omega) rfl rfl rfl rfl ?_
          | refine WL.indexArr rfl rfl rfl rfl (by decide) rfl rfl rfl ?_
          | refine WL.skip rfl rfl rfl ?_
          | refine WL.build rfl rfl rfl rfl rfl ?_
          | (refine WL.slit hS rfl rfl rfl rfl rfl ?_; intro w b hS)
          | refine WL.eqS rfl rfl rfl rfl (by kernel_rfl) rfl rfl rfl ?_
          | refine WL.neS rfl rfl rfl rfl (by kernel_rfl) rfl rfl rfl ?_
          | ((fail_if_success (refine WL.wanted rfl ?_)); refine WL.guard rfl rfl rfl (fun h => ?_) (fun h => ?_) <;> (try simp only [Classical.not_not, Bool.not_eq_true', Bool.not_eq_false', Bool.not_eq_eq_eq_not, Bool.not_true, Bool.not_false, beq_iff_eq, beq_eq_false_iff_ne, ne_eq, decide_eq_decide, decide_eq_true_eq, decide_eq_false_iff_not, Bool.and_eq_true, Bool.or_eq_true, Bool.and_eq_false_iff, Bool.or_eq_false_iff] at h) <;> (try (exfalso; first | omega | contradiction))))
        | (show WC _ _ _ _ _ _; first
          | refine WC.seq ?_
          | refine WC.region ?_
          | refine WC.block ?_
          | refine WC.skip ?_
          | refine WC.exit ?_
          | refine WC.ret ?_
          | refine WC.condT rfl (by with_reducible rfl) ?_
          | refine WC.condF rfl (by with_reducible rfl) ?_
          | refine WC.condT rfl (by decide) ?_
          | refine WC.condF rfl (by decide) ?_
          | refine WC.condT rfl (decide_eq_true (by first | with_reducible assumption | omega)) ?_
          | refine WC.condF rfl (decide_eq_false (by first | with_reducible assumption | omega)) ?_
          | refine WC.condT rfl (by first | (simp; done) | (simp; omega)) ?_
          | refine WC.condF rfl (by first | (simp; done) | (simp; omega)) ?_
          | (refine WC.cond rfl (fun h => ?_) (fun h => ?_) <;> (try simp only [Classical.not_not, Bool.not_eq_true', Bool.not_eq_false', Bool.not_eq_eq_eq_not, Bool.not_true, Bool.not_false, beq_iff_eq, beq_eq_false_iff_ne, ne_eq, decide_eq_decide, decide_eq_true_eq, decide_eq_false_iff_not, Bool.and_eq_true, Bool.or_eq_true, Bool.and_eq_false_iff, Bool.or_eq_false_iff] at h) <;> (try (exfalso; first | omega | contradiction))))
        | (show WD _ _ _ _ _ _ _ _ _; first
          | refine WD.pure rfl rfl rfl rfl rfl ?_
          | refine WD.nil ?_
          | refine WD.load rfl rfl (LdOk.box (by repeat (first | exact List.Mem.head _ | apply List.Mem.tail)) rfl) rfl rfl rfl rfl ?_
          | refine WD.add rfl rfl rfl (by omega) rfl rfl rfl rfl ?_
          | refine WD.sub rfl rfl rfl (by omega) rfl rfl rfl rfl ?_
          | refine WD.conv64 rfl rfl rfl (by omega) rfl rfl rfl rfl ?_
          | refine WD.index rfl rfl rfl rfl (by first | with_reducible assumption | omega) rfl rfl rfl rfl rfl ?_
          | refine WD.index (j := 0) rfl rfl rfl rfl (by omega) rfl rfl rfl rfl rfl ?_
          | refine WD.indexArr rfl rfl rfl rfl (by decide) rfl rfl rfl rfl ?_
          | refine WD.pass rfl rfl rfl rfl ?_
          | refine WD.skip rfl rfl rfl rfl rfl (hM.ss hS) ?_
          | refine WD.build rfl rfl rfl rfl rfl rfl ?_
          | (refine WD.slit hS hM rfl rfl rfl rfl rfl rfl rfl ?_; intro w b hS hM)
          | refine WD.eqS rfl rfl rfl rfl (by kernel_rfl) rfl rfl rfl rfl ?_
          | refine WD.neS rfl rfl rfl rfl (by kernel_rfl) rfl rfl rfl rfl ?_
          | (refine WD.box hS hM rfl rfl rfl rfl rfl rfl rfl ?_; intro w b hS hM)
          | ((fail_if_success (refine WD.wanted rfl ?_)); refine WD.guard rfl rfl rfl (fun h => ?_) (fun h => ?_) <;> (try simp only [Classical.not_not, Bool.not_eq_true', Bool.not_eq_false', Bool.not_eq_eq_eq_not, Bool.not_true, Bool.not_false, beq_iff_eq, beq_eq_false_iff_ne, ne_eq, decide_eq_decide, decide_eq_true_eq, decide_eq_false_iff_not, Bool.and_eq_true, Bool.or_eq_true, Bool.and_eq_false_iff, Bool.or_eq_false_iff] at h) <;> (try (exfalso; first | omega | contradiction))))
        | refine seqQ_n ?_
        | refine blkQ_n ?_
        | refine seqQ_x ?_
        | refine seqQ_r ?_
        | refine blkQ_r ?_
        | refine blkQ_hit rfl ?_
        | refine blkQ_miss rfl ?_
        | refine rndQ_x ?_
        | refine rndQ_r ?_
        | refine rdQ_n ?_
        | refine rdQ_x ?_
        | refine rdQ_r ?_
        | refine cutQ_n ?_
        | refine cutQ_r ?_
        | refine cutQ_miss rfl ?_
        | refine endQ_x ?_
        | refine endQ_r ?_)
      all_goals exact fin1r rfl rfl ⟨hS.upd, rfl⟩
  · obtain ⟨a, rfl⟩ : ∃ a : Nat, at_ = (a : Int) := ⟨at_.toNat, by omega⟩
    have ha : a < recs.length := by omega
    have hn : recs.length ≤ 40 := by omega
    clear c1
    have hsm : ∀ s ∈ recs, s.length ≤ 1048576 := fun s hs => Nat.le_trans (mem_le_sum recs s hs) hl
    have hsm' : ∀ s ∈ recs, s.length < 9223372036854775808 := fun s hs => by have := hsm s hs; omega
    have hfl : ∀ k, (frames (recs.take k)).length ≤ 2000000 := fun k => by
      have h1 := frames_len_le (recs.take k) (fun s hs => by have := hsm s (List.mem_of_mem_take hs); omega)
      have h2 := sum_take_le recs k
      have h3 : (recs.take k).length ≤ 40 := by rw [List.length_take]; omega
      omega
    repeat' (first
      | (show WL _ _ _ _ _ _ _; first
        | refine WL.pure rfl rfl rfl rfl ?_
        | refine WL.nil ?_
        | refine WL.load hS rfl rfl (LdOk.box (by repeat (first | exact List.Mem.head _ | apply List.Mem.tail)) rfl) rfl rfl rfl ?_
        | refine WL.add rfl rfl rfl (by omega) rfl rfl rfl ?_
        | refine WL.sub rfl rfl rfl (by omega) rfl rfl rfl ?_
        | (refine WL.callL (D := []) hS (by repeat (first | exact Pulls.nil | (apply Pulls.cons; focus (repeat (first | exact Pull.here | apply Pull.there))))) rfl rfl (fun hI => made_c _) rfl rfl rfl ?_; rintro v w ⟨q, mb, lb, rfl, hm⟩ hS; replace hS := hS _ hm; clear hm)
        | (refine WL.calls hS rfl rfl (wawake_c _) rfl rfl rfl ?_; rintro v w rfl hS)
        | (refine WL.callL (D := [dkC q mb lb Dv0]) hS (by repeat (first | exact Pulls.nil | (apply Pulls.cons; focus (repeat (first | exact Pull.here | apply Pull.there))))) rfl rfl (fun hI => open_c lP hI (by decide) Sm_v) rfl rfl rfl ?_; rintro v w hR hS; rw [open_new] at hR; obtain ⟨L, fp, rfl, hm⟩ := hR; replace hS := hS _ hm; clear hm)
        | refine WL.conv64 rfl rfl rfl (by omega) rfl rfl rfl ?_
        | refine WL.cat rfl rfl rfl (by omega) rfl rfl rfl ?_
        | refine WL.idxS rfl rfl rfl rfl (by with_reducible assumption) rfl rfl rfl ?_
        | refine WL.lowS rfl rfl rfl rfl (by omega) rfl rfl rfl ?_
        | refine WL.highS rfl rfl rfl rfl (by omega) rfl rfl rfl ?_
        | refine WL.midS rfl rfl rfl rfl rfl (by omega) (by omega) rfl rfl rfl ?_
        | refine WL.maxI rfl rfl rfl rfl rfl rfl ?_
        | refine WL.minI rfl rfl rfl rfl rfl rfl ?_
        | (refine WL.store hS rfl rfl rfl (by repeat (first | exact StB.here rfl | apply StB.there)) rfl rfl rfl ?_; intro w hS)
        | (refine WL.box hS rfl rfl rfl rfl rfl ?_; intro w b hS)
        | (refine WL.alloc hS rfl rfl rfl rfl rfl rfl ?_; intro w b hS)
        | refine WL.index rfl rfl rfl rfl (by first | with_reducible assumption | omega) rfl rfl rfl rfl ?_
        | refine WL.index (j := 0) rfl rfl rfl rfl (by omega) rfl rfl rfl rfl ?_
        | refine WL.indexArr rfl rfl rfl rfl (by decide) rfl rfl rfl ?_
        | refine WL.skip rfl rfl rfl ?_
        | refine WL.build rfl rfl rfl rfl rfl ?_
        | (refine WL.slit hS rfl rfl rfl rfl rfl ?_; intro w b hS)
        | refine WL.eqS rfl rfl rfl rfl (by kernel_rfl) rfl rfl rfl ?_
        | refine WL.neS rfl rfl rfl rfl (by kernel_rfl) rfl rfl rfl ?_
        | ((fail_if_success (refine WL.wanted rfl ?_)); refine WL.guard rfl rfl rfl (fun h => ?_) (fun h => ?_) <;> (try simp only [Classical.not_not, Bool.not_eq_true', Bool.not_eq_false', Bool.not_eq_eq_eq_not, Bool.not_true, Bool.not_false, beq_iff_eq, beq_eq_false_iff_ne, ne_eq, decide_eq_decide, decide_eq_true_eq, decide_eq_false_iff_not, Bool.and_eq_true, Bool.or_eq_true, Bool.and_eq_false_iff, Bool.or_eq_false_iff] at h) <;> (try (exfalso; first | omega | contradiction))))
      | (show WC _ _ _ _ _ _; first
        | refine WC.seq ?_
        | refine WC.region ?_
        | refine WC.block ?_
        | refine WC.skip ?_
        | refine WC.exit ?_
        | refine WC.ret ?_
        | refine WC.condT rfl (by with_reducible rfl) ?_
        | refine WC.condF rfl (by with_reducible rfl) ?_
        | refine WC.condT rfl (by decide) ?_
        | refine WC.condF rfl (by decide) ?_
        | refine WC.condT rfl (decide_eq_true (by first | with_reducible assumption | omega)) ?_
        | refine WC.condF rfl (decide_eq_false (by first | with_reducible assumption | omega)) ?_
        | refine WC.condT rfl (by first | (simp; done) | (simp; omega)) ?_
        | refine WC.condF rfl (by first | (simp; done) | (simp; omega)) ?_
        | (refine WC.cond rfl (fun h => ?_) (fun h => ?_) <;> (try simp only [Classical.not_not, Bool.not_eq_true', Bool.not_eq_false', Bool.not_eq_eq_eq_not, Bool.not_true, Bool.not_false, beq_iff_eq, beq_eq_false_iff_ne, ne_eq, decide_eq_decide, decide_eq_true_eq, decide_eq_false_iff_not, Bool.and_eq_true, Bool.or_eq_true, Bool.and_eq_false_iff, Bool.or_eq_false_iff] at h) <;> (try (exfalso; first | omega | contradiction))))
      | (show WD _ _ _ _ _ _ _ _ _; first
        | refine WD.pure rfl rfl rfl rfl rfl ?_
        | refine WD.nil ?_
        | refine WD.load rfl rfl (LdOk.box (by repeat (first | exact List.Mem.head _ | apply List.Mem.tail)) rfl) rfl rfl rfl rfl ?_
        | refine WD.add rfl rfl rfl (by omega) rfl rfl rfl rfl ?_
        | refine WD.sub rfl rfl rfl (by omega) rfl rfl rfl rfl ?_
        | refine WD.conv64 rfl rfl rfl (by omega) rfl rfl rfl rfl ?_
        | refine WD.index rfl rfl rfl rfl (by first | with_reducible assumption | omega) rfl rfl rfl rfl rfl ?_
        | refine WD.index (j := 0) rfl rfl rfl rfl (by omega) rfl rfl rfl rfl rfl ?_
        | refine WD.indexArr rfl rfl rfl rfl (by decide) rfl rfl rfl rfl ?_
        | refine WD.pass rfl rfl rfl rfl ?_
        | refine WD.skip rfl rfl rfl rfl rfl (hM.ss hS) ?_
        | refine WD.build rfl rfl rfl rfl rfl rfl ?_
        | (refine WD.slit hS hM rfl rfl rfl rfl rfl rfl rfl ?_; intro w b hS hM)
        | refine WD.eqS rfl rfl rfl rfl (by kernel_rfl) rfl rfl rfl rfl ?_
        | refine WD.neS rfl rfl rfl rfl (by kernel_rfl) rfl rfl rfl rfl ?_
        | (refine WD.box hS hM rfl rfl rfl rfl rfl rfl rfl ?_; intro w b hS hM)
        | ((fail_if_success (refine WD.wanted rfl ?_)); refine WD.guard rfl rfl rfl (fun h => ?_) (fun h => ?_) <;> (try simp only [Classical.not_not, Bool.not_eq_true', Bool.not_eq_false', Bool.not_eq_eq_eq_not, Bool.not_true, Bool.not_false, beq_iff_eq, beq_eq_false_iff_ne, ne_eq, decide_eq_decide, decide_eq_true_eq, decide_eq_false_iff_not, Bool.and_eq_true, Bool.or_eq_true, Bool.and_eq_false_iff, Bool.or_eq_false_iff] at h) <;> (try (exfalso; first | omega | contradiction))))
      | refine seqQ_n ?_
      | refine blkQ_n ?_
      | refine seqQ_x ?_
      | refine seqQ_r ?_
      | refine blkQ_r ?_
      | refine blkQ_hit rfl ?_
      | refine blkQ_miss rfl ?_
      | refine rndQ_x ?_
      | refine rndQ_r ?_
      | refine rdQ_n ?_
      | refine rdQ_x ?_
      | refine rdQ_r ?_
      | refine cutQ_n ?_
      | refine cutQ_r ?_
      | refine cutQ_miss rfl ?_
      | refine endQ_x ?_
      | refine endQ_r ?_)
    refine WC.loop (σ := Nat × List Nat × Int × Int × Int) [0, 1, 2, 7, 8] (fun (k, fp, s, st, sp) => [(10, .int .i64 ((frames (recs.take (min k a))).length : Int)), (11, .int .i64 (k : Int))])
      (fun (k, fp, s, st, sp) w => k ≤ recs.length ∧ St w0 [] w [lgC L q ⟨lP, recs.take k, false⟩ fp, dkC q mb lb (Dl ⟨false, frames (recs.take k), frames (recs.take k), false, false, s⟩ st sp (-1) false)] [⟨w0, Old w0⟩])
      (fun (k, _) => recs.length - k) (0, fp, 2, 4, 2) ⟨Nat.zero_le _, hS⟩ ⟨by simp [frames]; rfl, rfl, trivial⟩ ?_
    clear hS
    rintro ⟨k, fp, s, st, sp⟩ g w ⟨hk, hS⟩
    show WC _ _ _ (lf _ [(10, .int .i64 ((frames (recs.take (min k a))).length : Int)), (11, .int .i64 (k : Int))] _ _) _ _
    by_cases hlt : k < recs.length
    · obtain ⟨b1, o1, e1, rfl, f1, r1, rfl⟩ := hA.at_ hlt
      change w0.rangeAt b1 (o1 + k * 1) [str recs[k]] at r1
      obtain ⟨s', st', sp', hadd⟩ := add_calm ⟨lP, recs.take k, false⟩ rfl (frames (recs.take k)) (frames (recs.take k)) recs[k] false false s st sp
      have hrl := hsm recs[k] (List.getElem_mem hlt)
      have hfk := hfl k
      have hft := frames_take recs k hlt
      have htk : recs.take (k + 1) = recs.take k ++ [recs[k]] := List.take_succ_eq_append_getElem hlt
      have hpk := packE_len recs[k]
      have hpn := putN_len10 (n := recs[k].length) (by omega)
      have hfa := hfl (min k a)
      have htl : (recs.take k).length ≤ 4194304 := by rw [List.length_take]; omega
      generalize recs[k] = r at *
      rcases Nat.lt_or_ge k a with hka | hka
      case' inl => have hm1 : min k a = k ∧ min (k + 1) a = k + 1 := by omega
      case' inr => have hm1 : min k a = a ∧ min (k + 1) a = a := by omega
      all_goals rw [hm1.1] at hfa ⊢
      all_goals
        repeat' (first
          | (show WL _ _ _ _ _ _ _; first
            | refine WL.pure rfl rfl rfl rfl ?_
            | refine WL.nil ?_
            | refine WL.load hS rfl rfl (LdOk.box (by repeat (first | exact List.Mem.head _ | apply List.Mem.tail)) rfl) rfl rfl rfl ?_
            | refine WL.add rfl rfl rfl (by omega) rfl rfl rfl ?_
            | refine WL.sub rfl rfl rfl (by omega) rfl rfl rfl ?_
            | (refine WL.load hS rfl rfl (LdOk.snap0 f1 r1 (by repeat (first | exact List.Mem.head _ | apply List.Mem.tail)) rfl) rfl rfl rfl ?_)
            | (refine WL.callL (D := [lgC L q ⟨lP, recs.take k, false⟩ fp, dkC q mb lb _]) hS (by repeat (first | exact Pulls.nil | (apply Pulls.cons; focus (repeat (first | exact Pull.here | apply Pull.there))))) rfl rfl (fun hI => add_c r hI hadd lP_len rfl (by omega) (by show (frames (recs.take k)).length ≤ _; omega) htl) rfl rfl rfl ?_; rintro v w ⟨rfl, fp', hm⟩ hS; replace hS := hS _ hm; clear hm)
            | (refine WL.calls hS rfl rfl (pack_c r _ (by omega)) rfl rfl rfl ?_; rintro v w rfl hS)
            | refine WL.conv64 rfl rfl rfl (by omega) rfl rfl rfl ?_
            | refine WL.cat rfl rfl rfl (by omega) rfl rfl rfl ?_
            | refine WL.idxS rfl rfl rfl rfl (by with_reducible assumption) rfl rfl rfl ?_
            | refine WL.lowS rfl rfl rfl rfl (by omega) rfl rfl rfl ?_
            | refine WL.highS rfl rfl rfl rfl (by omega) rfl rfl rfl ?_
            | refine WL.midS rfl rfl rfl rfl rfl (by omega) (by omega) rfl rfl rfl ?_
            | refine WL.maxI rfl rfl rfl rfl rfl rfl ?_
            | refine WL.minI rfl rfl rfl rfl rfl rfl ?_
            | (refine WL.store hS rfl rfl rfl (by repeat (first | exact StB.here rfl | apply StB.there)) rfl rfl rfl ?_; intro w hS)
            | (refine WL.box hS rfl rfl rfl rfl rfl ?_; intro w b hS)
            | (refine WL.alloc hS rfl rfl rfl rfl rfl rfl ?_; intro w b hS)
            | refine WL.index rfl rfl rfl rfl (by first | with_reducible assumption | omega) rfl rfl rfl rfl ?_
            | refine WL.index (j := 0) rfl rfl rfl rfl (by omega) rfl rfl rfl rfl ?_
            | refine WL.indexArr rfl rfl rfl rfl (by decide) rfl rfl rfl ?_
            | refine WL.skip rfl rfl rfl ?_
            | refine WL.build rfl rfl rfl rfl rfl ?_
            | (refine WL.slit hS rfl rfl rfl rfl rfl ?_; intro w b hS)
            | refine WL.eqS rfl rfl rfl rfl (by kernel_rfl) rfl rfl rfl ?_
            | refine WL.neS rfl rfl rfl rfl (by kernel_rfl) rfl rfl rfl ?_
            | ((fail_if_success (refine WL.wanted rfl ?_)); refine WL.guard rfl rfl rfl (fun h => ?_) (fun h => ?_) <;> (try simp only [Classical.not_not, Bool.not_eq_true', Bool.not_eq_false', Bool.not_eq_eq_eq_not, Bool.not_true, Bool.not_false, beq_iff_eq, beq_eq_false_iff_ne, ne_eq, decide_eq_decide, decide_eq_true_eq, decide_eq_false_iff_not, Bool.and_eq_true, Bool.or_eq_true, Bool.and_eq_false_iff, Bool.or_eq_false_iff] at h) <;> (try (exfalso; first | omega | contradiction))))
          | (show WC _ _ _ _ _ _; first
            | refine WC.seq ?_
            | refine WC.region ?_
            | refine WC.block ?_
            | refine WC.skip ?_
            | refine WC.exit ?_
            | refine WC.ret ?_
            | refine WC.condT rfl (by with_reducible rfl) ?_
            | refine WC.condF rfl (by with_reducible rfl) ?_
            | refine WC.condT rfl (by decide) ?_
            | refine WC.condF rfl (by decide) ?_
            | refine WC.condT rfl (decide_eq_true (by first | with_reducible assumption | omega)) ?_
            | refine WC.condF rfl (decide_eq_false (by first | with_reducible assumption | omega)) ?_
            | refine WC.condT rfl (by first | (simp; done) | (simp; omega)) ?_
            | refine WC.condF rfl (by first | (simp; done) | (simp; omega)) ?_
            | (refine WC.cond rfl (fun h => ?_) (fun h => ?_) <;> (try simp only [Classical.not_not, Bool.not_eq_true', Bool.not_eq_false', Bool.not_eq_eq_eq_not, Bool.not_true, Bool.not_false, beq_iff_eq, beq_eq_false_iff_ne, ne_eq, decide_eq_decide, decide_eq_true_eq, decide_eq_false_iff_not, Bool.and_eq_true, Bool.or_eq_true, Bool.and_eq_false_iff, Bool.or_eq_false_iff] at h) <;> (try (exfalso; first | omega | contradiction))))
          | (show WD _ _ _ _ _ _ _ _ _; first
            | refine WD.pure rfl rfl rfl rfl rfl ?_
            | refine WD.nil ?_
            | refine WD.load rfl rfl (LdOk.box (by repeat (first | exact List.Mem.head _ | apply List.Mem.tail)) rfl) rfl rfl rfl rfl ?_
            | refine WD.add rfl rfl rfl (by omega) rfl rfl rfl rfl ?_
            | refine WD.sub rfl rfl rfl (by omega) rfl rfl rfl rfl ?_
            | refine WD.conv64 rfl rfl rfl (by omega) rfl rfl rfl rfl ?_
            | refine WD.index rfl rfl rfl rfl (by first | with_reducible assumption | omega) rfl rfl rfl rfl rfl ?_
            | refine WD.index (j := 0) rfl rfl rfl rfl (by omega) rfl rfl rfl rfl rfl ?_
            | refine WD.indexArr rfl rfl rfl rfl (by decide) rfl rfl rfl rfl ?_
            | refine WD.pass rfl rfl rfl rfl ?_
            | refine WD.skip rfl rfl rfl rfl rfl (hM.ss hS) ?_
            | refine WD.build rfl rfl rfl rfl rfl rfl ?_
            | (refine WD.slit hS hM rfl rfl rfl rfl rfl rfl rfl ?_; intro w b hS hM)
            | refine WD.eqS rfl rfl rfl rfl (by kernel_rfl) rfl rfl rfl rfl ?_
            | refine WD.neS rfl rfl rfl rfl (by kernel_rfl) rfl rfl rfl rfl ?_
            | (refine WD.box hS hM rfl rfl rfl rfl rfl rfl rfl ?_; intro w b hS hM)
            | ((fail_if_success (refine WD.wanted rfl ?_)); refine WD.guard rfl rfl rfl (fun h => ?_) (fun h => ?_) <;> (try simp only [Classical.not_not, Bool.not_eq_true', Bool.not_eq_false', Bool.not_eq_eq_eq_not, Bool.not_true, Bool.not_false, beq_iff_eq, beq_eq_false_iff_ne, ne_eq, decide_eq_decide, decide_eq_true_eq, decide_eq_false_iff_not, Bool.and_eq_true, Bool.or_eq_true, Bool.and_eq_false_iff, Bool.or_eq_false_iff] at h) <;> (try (exfalso; first | omega | contradiction))))
          | refine seqQ_n ?_
          | refine blkQ_n ?_
          | refine seqQ_x ?_
          | refine seqQ_r ?_
          | refine blkQ_r ?_
          | refine blkQ_hit rfl ?_
          | refine blkQ_miss rfl ?_
          | refine rndQ_x ?_
          | refine rndQ_r ?_
          | refine rdQ_n ?_
          | refine rdQ_x ?_
          | refine rdQ_r ?_
          | refine cutQ_n ?_
          | refine cutQ_r ?_
          | refine cutQ_miss rfl ?_
          | refine endQ_x ?_
          | refine endQ_r ?_)
        refine rndQ_n (k + 1, fp', s', st', sp') ⟨by omega, ?_⟩ (by show recs.length - (k + 1) < recs.length - k; omega) ⟨vint ?_, vint (by omega), trivial⟩ ⟨rfl, rfl, rfl, rfl, rfl, trivial⟩
        · rw [htk, frames_app, frames_one]; exact hS
        · show _ = ((frames (recs.take (min (k + 1) a))).length : Int)
          rw [hm1.2]
          try rw [hft, List.length_append]
          try omega
    · have hke : k = recs.length := by omega
      subst hke
      rw [List.take_length] at hS
      rw [Nat.min_eq_right (Nat.le_of_lt ha)]
      obtain ⟨b1, o1, e1, rfl, f1, r1, rfl⟩ := hA.at_ ha
      change w0.rangeAt b1 (o1 + a * 1) [str recs[a]] at r1
      have hrl := hsm recs[a] (List.getElem_mem ha)
      have hpk := packE_len recs[a]
      have hpn := putN_len10 (n := recs[a].length) (by omega)
      have hpp := putN_pos recs[a].length
      have hfa := hfl a
      have hfw : (frames recs).length ≤ 2000000 := by have := hfl recs.length; rwa [List.take_length] at this
      by_cases c2 : bit < 8 * ((putN recs[a].length).length : Int) ∨ 8 * ((packE recs[a]).length : Int) ≤ bit
      · generalize recs[a] = r at *
        rcases c2 with c2 | c2
        all_goals
          repeat' (first
            | (show WL _ _ _ _ _ _ _; first
              | refine WL.pure rfl rfl rfl rfl ?_
              | refine WL.nil ?_
              | refine WL.load hS rfl rfl (LdOk.box (by repeat (first | exact List.Mem.head _ | apply List.Mem.tail)) rfl) rfl rfl rfl ?_
              | refine WL.add rfl rfl rfl (by omega) rfl rfl rfl ?_
              | refine WL.sub rfl rfl rfl (by omega) rfl rfl rfl ?_
              | (refine WL.load hS rfl rfl (LdOk.snap0 f1 r1 (by repeat (first | exact List.Mem.head _ | apply List.Mem.tail)) rfl) rfl rfl rfl ?_)
              | (refine WL.calls hS rfl rfl (pack_c r _ (by omega)) rfl rfl rfl ?_; rintro v w rfl hS)
              | (refine WL.mul rfl rfl rfl (by omega) rfl rfl rfl ?_)
              | refine WL.conv64 rfl rfl rfl (by omega) rfl rfl rfl ?_
              | refine WL.cat rfl rfl rfl (by omega) rfl rfl rfl ?_
              | refine WL.idxS rfl rfl rfl rfl (by with_reducible assumption) rfl rfl rfl ?_
              | refine WL.lowS rfl rfl rfl rfl (by omega) rfl rfl rfl ?_
              | refine WL.highS rfl rfl rfl rfl (by omega) rfl rfl rfl ?_
              | refine WL.midS rfl rfl rfl rfl rfl (by omega) (by omega) rfl rfl rfl ?_
              | refine WL.maxI rfl rfl rfl rfl rfl rfl ?_
              | refine WL.minI rfl rfl rfl rfl rfl rfl ?_
              | (refine WL.store hS rfl rfl rfl (by repeat (first | exact StB.here rfl | apply StB.there)) rfl rfl rfl ?_; intro w hS)
              | (refine WL.box hS rfl rfl rfl rfl rfl ?_; intro w b hS)
              | (refine WL.alloc hS rfl rfl rfl rfl rfl rfl ?_; intro w b hS)
              | refine WL.index rfl rfl rfl rfl (by first | with_reducible assumption | omega) rfl rfl rfl rfl ?_
              | refine WL.index (j := 0) rfl rfl rfl rfl (by omega) rfl rfl rfl rfl ?_
              | refine WL.indexArr rfl rfl rfl rfl (by decide) rfl rfl rfl ?_
              | refine WL.skip rfl rfl rfl ?_
              | refine WL.build rfl rfl rfl rfl rfl ?_
              | (refine WL.slit hS rfl rfl rfl rfl rfl ?_; intro w b hS)
              | refine WL.eqS rfl rfl rfl rfl (by kernel_rfl) rfl rfl rfl ?_
              | refine WL.neS rfl rfl rfl rfl (by kernel_rfl) rfl rfl rfl ?_
              | ((fail_if_success (refine WL.wanted rfl ?_)); refine WL.guard rfl rfl rfl (fun h => ?_) (fun h => ?_) <;> (try simp only [Classical.not_not, Bool.not_eq_true', Bool.not_eq_false', Bool.not_eq_eq_eq_not, Bool.not_true, Bool.not_false, beq_iff_eq, beq_eq_false_iff_ne, ne_eq, decide_eq_decide, decide_eq_true_eq, decide_eq_false_iff_not, Bool.and_eq_true, Bool.or_eq_true, Bool.and_eq_false_iff, Bool.or_eq_false_iff] at h) <;> (try (exfalso; first | omega | contradiction))))
            | (show WC _ _ _ _ _ _; first
              | refine WC.seq ?_
              | refine WC.region ?_
              | refine WC.block ?_
              | refine WC.skip ?_
              | refine WC.exit ?_
              | refine WC.ret ?_
              | refine WC.condT rfl (by with_reducible rfl) ?_
              | refine WC.condF rfl (by with_reducible rfl) ?_
              | refine WC.condT rfl (by decide) ?_
              | refine WC.condF rfl (by decide) ?_
              | refine WC.condT rfl (decide_eq_true (by first | with_reducible assumption | omega)) ?_
              | refine WC.condF rfl (decide_eq_false (by first | with_reducible assumption | omega)) ?_
              | refine WC.condT rfl (by first | (simp; done) | (simp; omega)) ?_
              | refine WC.condF rfl (by first | (simp; done) | (simp; omega)) ?_
              | (refine WC.cond rfl (fun h => ?_) (fun h => ?_) <;> (try simp only [Classical.not_not, Bool.not_eq_true', Bool.not_eq_false', Bool.not_eq_eq_eq_not, Bool.not_true, Bool.not_false, beq_iff_eq, beq_eq_false_iff_ne, ne_eq, decide_eq_decide, decide_eq_true_eq, decide_eq_false_iff_not, Bool.and_eq_true, Bool.or_eq_true, Bool.and_eq_false_iff, Bool.or_eq_false_iff] at h) <;> (try (exfalso; first | omega | contradiction))))
            | (show WD _ _ _ _ _ _ _ _ _; first
              | refine WD.pure rfl rfl rfl rfl rfl ?_
              | refine WD.nil ?_
              | refine WD.load rfl rfl (LdOk.box (by repeat (first | exact List.Mem.head _ | apply List.Mem.tail)) rfl) rfl rfl rfl rfl ?_
              | refine WD.add rfl rfl rfl (by omega) rfl rfl rfl rfl ?_
              | refine WD.sub rfl rfl rfl (by omega) rfl rfl rfl rfl ?_
              | refine WD.conv64 rfl rfl rfl (by omega) rfl rfl rfl rfl ?_
              | refine WD.index rfl rfl rfl rfl (by first | with_reducible assumption | omega) rfl rfl rfl rfl rfl ?_
              | refine WD.index (j := 0) rfl rfl rfl rfl (by omega) rfl rfl rfl rfl rfl ?_
              | refine WD.indexArr rfl rfl rfl rfl (by decide) rfl rfl rfl rfl ?_
              | refine WD.pass rfl rfl rfl rfl ?_
              | refine WD.skip rfl rfl rfl rfl rfl (hM.ss hS) ?_
              | refine WD.build rfl rfl rfl rfl rfl rfl ?_
              | (refine WD.slit hS hM rfl rfl rfl rfl rfl rfl rfl ?_; intro w b hS hM)
              | refine WD.eqS rfl rfl rfl rfl (by kernel_rfl) rfl rfl rfl rfl ?_
              | refine WD.neS rfl rfl rfl rfl (by kernel_rfl) rfl rfl rfl rfl ?_
              | (refine WD.box hS hM rfl rfl rfl rfl rfl rfl rfl ?_; intro w b hS hM)
              | ((fail_if_success (refine WD.wanted rfl ?_)); refine WD.guard rfl rfl rfl (fun h => ?_) (fun h => ?_) <;> (try simp only [Classical.not_not, Bool.not_eq_true', Bool.not_eq_false', Bool.not_eq_eq_eq_not, Bool.not_true, Bool.not_false, beq_iff_eq, beq_eq_false_iff_ne, ne_eq, decide_eq_decide, decide_eq_true_eq, decide_eq_false_iff_not, Bool.and_eq_true, Bool.or_eq_true, Bool.and_eq_false_iff, Bool.or_eq_false_iff] at h) <;> (try (exfalso; first | omega | contradiction))))
            | refine seqQ_n ?_
            | refine blkQ_n ?_
            | refine seqQ_x ?_
            | refine seqQ_r ?_
            | refine blkQ_r ?_
            | refine blkQ_hit rfl ?_
            | refine blkQ_miss rfl ?_
            | refine rndQ_x ?_
            | refine rndQ_r ?_
            | refine rdQ_n ?_
            | refine rdQ_x ?_
            | refine rdQ_r ?_
            | refine cutQ_n ?_
            | refine cutQ_r ?_
            | refine cutQ_miss rfl ?_
            | refine endQ_x ?_
            | refine endQ_r ?_)
          all_goals exact fin1r rfl rfl ⟨hS.upd, rfl⟩
      · obtain ⟨bi, rfl⟩ : ∃ b : Nat, bit = (b : Int) := ⟨bit.toNat, by omega⟩
        obtain ⟨j, x, ht, hx, hj1, hj2⟩ := turn_frames recs a ha bi (by omega) (by omega) (8 * ((frames (recs.take a)).length : Int) + bi) rfl
        obtain ⟨D', ho⟩ := open_rot (recs.take a) (recs.drop (a + 1)) recs[a] j x (fun v hv => by
          rcases List.mem_append.1 hv with hv | hv
          · exact hsm' v (List.mem_of_mem_take hv)
          · rw [List.mem_singleton.1 hv]; omega) hj1 hj2 hx (turnE (frames recs) (8 * ((frames (recs.take a)).length : Int) + bi)) false false (IntKind.i64.wrap (sp + 1)) st (IntKind.i64.wrap (sp + 1))
        rw [← ht] at ho
        have hrt := rot_calm (frames recs) (frames recs) false false s st sp (8 * ((frames (recs.take a)).length : Int) + bi)
        have hT := turnE_len (frames recs) (8 * ((frames (recs.take a)).length : Int) + bi)
        have htl : (recs.take a).length = a := by rw [List.length_take]; omega
        have hb1 : 8 * (putN recs[a].length).length ≤ bi := by omega
        have hb2 : bi < 8 * (packE recs[a]).length := by omega
        clear c2 ht hx hj1 hj2
        generalize recs[a] = r at *
        repeat' (first
          | (show WL _ _ _ _ _ _ _; first
            | refine WL.pure rfl rfl rfl rfl ?_
            | refine WL.nil ?_
            | refine WL.load hS rfl rfl (LdOk.box (by repeat (first | exact List.Mem.head _ | apply List.Mem.tail)) rfl) rfl rfl rfl ?_
            | refine WL.add rfl rfl rfl (by omega) rfl rfl rfl ?_
            | refine WL.sub rfl rfl rfl (by omega) rfl rfl rfl ?_
            | (refine WL.load hS rfl rfl (LdOk.snap0 f1 r1 (by repeat (first | exact List.Mem.head _ | apply List.Mem.tail)) rfl) rfl rfl rfl ?_)
            | (refine WL.calls hS rfl rfl (pack_c r _ (by omega)) rfl rfl rfl ?_; rintro v w rfl hS)
            | (refine WL.mul rfl rfl rfl (by omega) rfl rfl rfl ?_)
            | (refine WL.callL (D := [dkC q mb lb (Dl ⟨false, frames recs, frames recs, false, false, s⟩ st sp (-1) false)]) hS (by repeat (first | exact Pulls.nil | (apply Pulls.cons; focus (repeat (first | exact Pull.here | apply Pull.there))))) rfl rfl (fun hI => rot_c lP (8 * ((frames (recs.take a)).length : Int) + bi) hI.head hI.headB (by decide) (by show (frames recs).length ≤ _; omega) (by show (frames recs).length ≤ _; omega)) rfl rfl rfl ?_; rintro v w ⟨rfl, hm⟩ hS; replace hS := hS _ (.of1 hm); clear hm; rw [hrt] at hS ⊢)
            | (refine WL.callL (D := [dkC q mb lb _]) hS (by repeat (first | exact Pulls.nil | (apply Pulls.cons; focus (repeat (first | exact Pull.here | apply Pull.there))))) rfl rfl (fun hI => open_c lP hI lP_len (Sm_l (by rw [hT]; omega))) rfl rfl rfl ?_; rintro v w hR hS; rw [ho] at hR; obtain ⟨L2, fp2, rfl, hm⟩ := hR; replace hS := hS _ hm; clear hm)
            | refine WL.conv64 rfl rfl rfl (by omega) rfl rfl rfl ?_
            | refine WL.cat rfl rfl rfl (by omega) rfl rfl rfl ?_
            | refine WL.idxS rfl rfl rfl rfl (by with_reducible assumption) rfl rfl rfl ?_
            | refine WL.lowS rfl rfl rfl rfl (by omega) rfl rfl rfl ?_
            | refine WL.highS rfl rfl rfl rfl (by omega) rfl rfl rfl ?_
            | refine WL.midS rfl rfl rfl rfl rfl (by omega) (by omega) rfl rfl rfl ?_
            | refine WL.maxI rfl rfl rfl rfl rfl rfl ?_
            | refine WL.minI rfl rfl rfl rfl rfl rfl ?_
            | (refine WL.store hS rfl rfl rfl (by repeat (first | exact StB.here rfl | apply StB.there)) rfl rfl rfl ?_; intro w hS)
            | (refine WL.box hS rfl rfl rfl rfl rfl ?_; intro w b hS)
            | (refine WL.alloc hS rfl rfl rfl rfl rfl rfl ?_; intro w b hS)
            | refine WL.index rfl rfl rfl rfl (by first | with_reducible assumption | omega) rfl rfl rfl rfl ?_
            | refine WL.index (j := 0) rfl rfl rfl rfl (by omega) rfl rfl rfl rfl ?_
            | refine WL.indexArr rfl rfl rfl rfl (by decide) rfl rfl rfl ?_
            | refine WL.skip rfl rfl rfl ?_
            | refine WL.build rfl rfl rfl rfl rfl ?_
            | (refine WL.slit hS rfl rfl rfl rfl rfl ?_; intro w b hS)
            | refine WL.eqS rfl rfl rfl rfl (by kernel_rfl) rfl rfl rfl ?_
            | refine WL.neS rfl rfl rfl rfl (by kernel_rfl) rfl rfl rfl ?_
            | ((fail_if_success (refine WL.wanted rfl ?_)); refine WL.guard rfl rfl rfl (fun h => ?_) (fun h => ?_) <;> (try simp only [Classical.not_not, Bool.not_eq_true', Bool.not_eq_false', Bool.not_eq_eq_eq_not, Bool.not_true, Bool.not_false, beq_iff_eq, beq_eq_false_iff_ne, ne_eq, decide_eq_decide, decide_eq_true_eq, decide_eq_false_iff_not, Bool.and_eq_true, Bool.or_eq_true, Bool.and_eq_false_iff, Bool.or_eq_false_iff] at h) <;> (try (exfalso; first | omega | contradiction))))
          | (show WC _ _ _ _ _ _; first
            | refine WC.seq ?_
            | refine WC.region ?_
            | refine WC.block ?_
            | refine WC.skip ?_
            | refine WC.exit ?_
            | refine WC.ret ?_
            | (show WC _ _ (Code.region _ (List.toArray [_, _, _, _, _, _, _, _, _, _, _, _, _, _, _, _, _, _, _]) true) _ _ _; refine WC.drawL [lgC L2 q ⟨lP, recs.take a, true⟩ fp2] hS (by repeat (first | exact Pulls.nil | (apply Pulls.cons; focus (repeat (first | exact Pull.here | apply Pull.there))))) [0,1,2,3,4,5,6,7,9,10,11,13,14,15,17,18] [0,1,2,3,4,5,6,7,8,9,10,11,13,14,15,12,16,17,18] (by kernel_rfl) (by kernel_rfl) ?_; clear hS; intro w hS hM)
            | refine WC.condT rfl (by with_reducible rfl) ?_
            | refine WC.condF rfl (by with_reducible rfl) ?_
            | refine WC.condT rfl (by decide) ?_
            | refine WC.condF rfl (by decide) ?_
            | refine WC.condT rfl (decide_eq_true (by first | with_reducible assumption | omega)) ?_
            | refine WC.condF rfl (decide_eq_false (by first | with_reducible assumption | omega)) ?_
            | refine WC.condT rfl (by first | (simp; done) | (simp; omega)) ?_
            | refine WC.condF rfl (by first | (simp; done) | (simp; omega)) ?_
            | (refine WC.cond rfl (fun h => ?_) (fun h => ?_) <;> (try simp only [Classical.not_not, Bool.not_eq_true', Bool.not_eq_false', Bool.not_eq_eq_eq_not, Bool.not_true, Bool.not_false, beq_iff_eq, beq_eq_false_iff_ne, ne_eq, decide_eq_decide, decide_eq_true_eq, decide_eq_false_iff_not, Bool.and_eq_true, Bool.or_eq_true, Bool.and_eq_false_iff, Bool.or_eq_false_iff] at h) <;> (try (exfalso; first | omega | contradiction))))
          | (show WD _ _ _ _ _ _ _ _ _; first
            | refine WD.pure rfl rfl rfl rfl rfl ?_
            | refine WD.nil ?_
            | refine WD.load rfl rfl (LdOk.box (by repeat (first | exact List.Mem.head _ | apply List.Mem.tail)) rfl) rfl rfl rfl rfl ?_
            | refine WD.add rfl rfl rfl (by omega) rfl rfl rfl rfl ?_
            | refine WD.sub rfl rfl rfl (by omega) rfl rfl rfl rfl ?_
            | (refine WD.sliceTo rfl rfl rfl rfl (by omega) rfl rfl rfl rfl ?_)
            | (refine WD.callL (D := [lgC L2 q ⟨lP, recs.take a, true⟩ fp2]) hS (by repeat (first | exact Pulls.nil | (apply Pulls.cons; focus (repeat (first | exact Pull.here | apply Pull.there))))) (.refl _ _) rfl rfl (fun hI => damaged_c hI) rfl rfl rfl rfl rfl ?_; rintro v w ⟨rfl, hm⟩; refine ⟨_, hm, fun hS hM => ?_⟩; clear hm)
            | (refine WD.callL (D := [lgC L2 q ⟨lP, recs.take a, true⟩ fp2]) hS (by repeat (first | exact Pulls.nil | (apply Pulls.cons; focus (repeat (first | exact Pull.here | apply Pull.there))))) (.refl _ _) rfl rfl (fun hI => records_c hI (by rw [htl]; omega)) rfl rfl rfl rfl rfl ?_; rintro v w ⟨A3, cap3, rfl, hm⟩; refine ⟨_, hm, fun hS hM => ?_⟩; clear hm)
            | (refine WD.calls hS hM rfl rfl (same_n (recs.take a) (recs.take a) rfl htl.symm (hS.ownSl (l := recs.take a) (enc := fun s => [str s]) (hsz := fun _ => rfl) (by decide) (by repeat (first | exact List.Mem.head _ | apply List.Mem.tail))) (hS.slO (z := ⟨w0, Old w0⟩) (by repeat (first | exact List.Mem.head _ | apply List.Mem.tail)) (SlAt.take hA a)) (by rw [htl]; omega)) rfl rfl rfl rfl rfl ?_; clear hS; rintro v w rfl hS)
            | refine WD.conv64 rfl rfl rfl (by omega) rfl rfl rfl rfl ?_
            | refine WD.index rfl rfl rfl rfl (by first | with_reducible assumption | omega) rfl rfl rfl rfl rfl ?_
            | refine WD.index (j := 0) rfl rfl rfl rfl (by omega) rfl rfl rfl rfl rfl ?_
            | refine WD.indexArr rfl rfl rfl rfl (by decide) rfl rfl rfl rfl ?_
            | refine WD.pass rfl rfl rfl rfl ?_
            | refine WD.skip rfl rfl rfl rfl rfl (hM.ss hS) ?_
            | refine WD.build rfl rfl rfl rfl rfl rfl ?_
            | (refine WD.slit hS hM rfl rfl rfl rfl rfl rfl rfl ?_; intro w b hS hM)
            | refine WD.eqS rfl rfl rfl rfl (by kernel_rfl) rfl rfl rfl rfl ?_
            | refine WD.neS rfl rfl rfl rfl (by kernel_rfl) rfl rfl rfl rfl ?_
            | (refine WD.box hS hM rfl rfl rfl rfl rfl rfl rfl ?_; intro w b hS hM)
            | ((fail_if_success (refine WD.wanted rfl ?_)); refine WD.guard rfl rfl rfl (fun h => ?_) (fun h => ?_) <;> (try simp only [Classical.not_not, Bool.not_eq_true', Bool.not_eq_false', Bool.not_eq_eq_eq_not, Bool.not_true, Bool.not_false, beq_iff_eq, beq_eq_false_iff_ne, ne_eq, decide_eq_decide, decide_eq_true_eq, decide_eq_false_iff_not, Bool.and_eq_true, Bool.or_eq_true, Bool.and_eq_false_iff, Bool.or_eq_false_iff] at h) <;> (try (exfalso; first | omega | contradiction))))
          | refine seqQ_n ?_
          | refine blkQ_n ?_
          | refine seqQ_x ?_
          | refine seqQ_r ?_
          | refine blkQ_r ?_
          | refine blkQ_hit rfl ?_
          | refine blkQ_miss rfl ?_
          | refine rndQ_x ?_
          | refine rndQ_r ?_
          | refine rdQ_n ?_
          | refine rdQ_x ?_
          | refine rdQ_r ?_
          | refine cutQ_n ?_
          | refine cutQ_r ?_
          | refine cutQ_miss rfl ?_
          | refine endQ_x ?_
          | refine endQ_r ?_)
        exact fin1r rfl rfl ⟨hS.upd, vbool (by simp)⟩
theorem arg_strs : Arg Tryd.prog 29 (ASl cStr) (QL QStr) := Arg.slice Tryd.underlying29 (Opens.slice Tryd.underlying29 (by kernel_rfl) (by decide) (Opens.str Tryd.underlying9))
theorem ql_sum : ∀ {xs : List (List UInt8)} {bs : List Nat}, bs.length = xs.length → (∀ i (h : i < xs.length) (h' : i < bs.length), QStr xs[i] bs[i]) → (xs.map List.length).sum + xs.length ≤ bs.sum
  | [], [], _, _ => Nat.le_refl _
  | x :: xs, b :: bs, hl, h => by
    have h0 : x.length + 1 ≤ b := h 0 (by simp) (by simp)
    have := ql_sum (xs := xs) (bs := bs) (by simpa using hl) (fun i h1 h2 => h (i + 1) (by simpa using h1) (by simpa using h2))
    simp only [List.map_cons, List.sum_cons, List.length_cons]
    omega
theorem ql_strs {xs : List (List UInt8)} {b : Nat} (h : QL QStr xs b) : (xs.map List.length).sum + xs.length + 1 ≤ b := by
  obtain ⟨bs, h1, h2, h3⟩ := h
  have := ql_sum h1 h2
  omega
theorem walRots.key_walRots (W : World) (v0 v1 v2 : Value) (y0 : List (List UInt8)) (y1 y2 : Int) (b0 b1 b2 : Nat) (h0 : ASl cStr W v0 y0) (h1 : AInt W v1 y1) (h2 : AInt W v2 y2) (q0 : QL QStr y0 b0) (q1 : QInt y1 b1) (q2 : QInt y2 b2) (hb : b0 + b1 + b2 ≤ 1048576) :
    Cal Tryd.prog 4 [v0, v1, v2] W (fun v W' => Upd [] W W' ∧ v = .bool true) := by
  obtain ⟨A, cap, rfl, hcap, hsl⟩ := h0
  obtain rfl := h1
  obtain rfl := h2
  exact walRots_c y0 A cap y1 y2 W hsl hcap (by have := ql_strs q0; omega)
end Go.Proofs.YtggalmiaofeikaaDoor
