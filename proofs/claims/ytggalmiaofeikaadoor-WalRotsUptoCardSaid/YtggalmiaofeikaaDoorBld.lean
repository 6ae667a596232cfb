/- What is proved: what a builder of texts (strings.Builder) does. Conditions: no more than 2^40 bytes. -/
import Derived.Test.YtggalmiaofeikaaDoorRows
import Derived.Test.YtggalmiaofeikaaDoorJW
set_option linter.unusedSimpArgs false
set_option linter.unusedVariables false
namespace Go.Proofs.YtggalmiaofeikaaDoor
open Go Go.J Go.RowKit

def sbD (b : Nat) (p A : Option Addr) (n cap : Nat) (s : List UInt8) : List Chunk := [.box b 81 [.pointer p, .slice A n cap], .own (.slice A n cap) 5 1 n (byteC s)]
/-- a builder that has been used -/
def sbU (b : Nat) (s : List UInt8) (D : List Chunk) : Prop := ∃ A n cap, D = sbD b (some ⟨b, 0, none⟩) A n cap s ∧ (A = none ∨ cap ≠ 0)
def sbφ (b : Nat) (s : List UInt8) (D : List Chunk) : Prop := (D = sbD b none none 0 0 [] ∧ s = []) ∨ sbU b s D
abbrev sbC (b : Nat) (s : List UInt8) (fp : List Nat) : Chunk := objC (sbφ b s) fp
abbrev sbK (b : Nat) (s : List UInt8) (fp : List Nat) : Chunk := objC (sbU b s) fp

set_option maxHeartbeats 4000000 in
set_option maxRecDepth 100000 in
theorem bcheck_c (b : Nat) (s : List UInt8) (fp : List Nat) (w0 : World) (hc : (sbC b s fp).holds w0) (hi : inB (sbC b s fp) w0) : Cal Tryd.prog 68 [.pointer (some ⟨b, 0, none⟩)] w0
    (fun v w' => v = .tuple #[] ∧ ∃ fp', Mut w0 w' (sbC b s fp) (sbK b s fp')) := by
  refine Cal.mkM hc hi (by kernel_rfl) Tryd.func68 rfl rfl fun hS => ?_
  have hne : ExtIs Tryd.prog 87 Extern.AbiNoEscape.same := ⟨_, Tryd.func87, by kernel_rfl, by kernel_rfl, by kernel_rfl, by kernel_rfl⟩
  obtain ⟨D, hφ, hfp, hS⟩ := hS.objOpen
  rcases hφ with ⟨rfl, rfl⟩ | ⟨A, n, cap, rfl, hA⟩
  · replace hS : St w0 (sbC b [] fp).fp w0 [.box b 81 [.pointer none, .slice none 0 0], .own (.slice none 0 0) 5 1 0 (byteC [])] _ := hS
    repeat' (first
      | (show WL _ _ _ _ _ _ _; first
        | refine WL.pure rfl rfl rfl rfl ?_
        | refine WL.nil ?_
        | refine WL.load hS rfl rfl (LdOk.box (by repeat (first | exact List.Mem.head _ | apply List.Mem.tail)) rfl) rfl rfl rfl ?_
        | refine WL.add rfl rfl rfl (by omega) rfl rfl rfl ?_
        | refine WL.sub rfl rfl rfl (by omega) rfl rfl rfl ?_
        | (refine WL.toU hS rfl rfl (by kernel_rfl) rfl (by repeat (first | exact List.Mem.head _ | apply List.Mem.tail)) (by decide) rfl rfl rfl ?_)
        | (refine WL.ext rfl rfl hne (run_noEsc _) rfl rfl rfl ?_)
        | (refine WL.fromU hS rfl (by kernel_rfl) rfl rfl (by repeat (first | exact List.Mem.head _ | apply List.Mem.tail)) (by kernel_rfl) rfl rfl rfl ?_)
        | refine WL.conv64 rfl rfl rfl (by omega) rfl rfl rfl ?_
        | refine WL.cat rfl rfl rfl (by omega) rfl rfl rfl ?_
        | refine WL.idxS rfl rfl rfl rfl (by with_reducible assumption) rfl rfl rfl ?_
        | refine WL.lowS rfl rfl rfl rfl (by omega) rfl rfl rfl ?_
        | refine WL.highS rfl rfl rfl rfl (by omega) rfl rfl rfl ?_
        | refine WL.midS rfl rfl rfl rfl rfl (by omega) (by omega) rfl rfl rfl ?_
        | refine WL.maxI rfl rfl rfl rfl rfl rfl ?_
        | refine WL.minI rfl rfl rfl rfl rfl rfl ?_
        | (refine WL.store hS rfl rfl rfl (by repeat (first | exact StB.here rfl | apply StB.there)) rfl rfl rfl ?_; intro w hS)
        | (refine WL.box hS rfl rfl rfl rfl rfl ?_; intro w b hS)
        | (refine WL.alloc hS rfl rfl rfl rfl rfl rfl ?_; intro w b hS)
        | refine WL.index rfl rfl rfl rfl (by first | with_reducible assumption | omega) rfl rfl rfl rfl ?_
        | refine WL.index (j := 0) rfl rfl rfl rfl (by omega) rfl rfl rfl rfl ?_
        | refine WL.indexArr rfl rfl rfl rfl (by decide) rfl rfl rfl ?_
        | refine WL.skip rfl rfl rfl ?_
        | refine WL.build rfl rfl rfl rfl rfl ?_
        | (refine WL.slit hS rfl rfl rfl rfl rfl ?_; intro w b hS)
        | refine WL.eqS rfl rfl rfl rfl (by kernel_rfl) rfl rfl rfl ?_
        | refine WL.neS rfl rfl rfl rfl (by kernel_rfl) rfl rfl rfl ?_
        | ((fail_if_success (refine WL.wanted rfl ?_)); refine WL.guard rfl rfl rfl (fun h => ?_) (fun h => ?_) <;> (try simp only [Classical.not_not, Bool.not_eq_true', Bool.not_eq_false', Bool.not_eq_eq_eq_not, Bool.not_true, Bool.not_false, beq_iff_eq, beq_eq_false_iff_ne, ne_eq, decide_eq_decide, decide_eq_true_eq, decide_eq_false_iff_not, Bool.and_eq_true, Bool.or_eq_true, Bool.and_eq_false_iff, Bool.or_eq_false_iff] at h) <;> (try (exfalso; first | omega | contradiction))))
      | (show WC _ _ _ _ _ _; first
        | refine WC.seq ?_
        | refine WC.region ?_
        | refine WC.block ?_
        | refine WC.skip ?_
        | refine WC.exit ?_
        | refine WC.ret ?_
        | refine WC.condT rfl (by with_reducible rfl) ?_
        | refine WC.condF rfl (by with_reducible rfl) ?_
        | refine WC.condT rfl (by decide) ?_
        | refine WC.condF rfl (by decide) ?_
        | refine WC.condT rfl (decide_eq_true (by first | with_reducible assumption | omega)) ?_
        | refine WC.condF rfl (decide_eq_false (by first | with_reducible assumption | omega)) ?_
        | refine WC.condT rfl (by first | (simp; done) | (simp; omega)) ?_
        | refine WC.condF rfl (by first | (simp; done) | (simp; omega)) ?_
        | (refine WC.cond rfl (fun h => ?_) (fun h => ?_) <;> (try simp only [Classical.not_not, Bool.not_eq_true', Bool.not_eq_false', Bool.not_eq_eq_eq_not, Bool.not_true, Bool.not_false, beq_iff_eq, beq_eq_false_iff_ne, ne_eq, decide_eq_decide, decide_eq_true_eq, decide_eq_false_iff_not, Bool.and_eq_true, Bool.or_eq_true, Bool.and_eq_false_iff, Bool.or_eq_false_iff] at h) <;> (try (exfalso; first | omega | contradiction))))
      | (show WD _ _ _ _ _ _ _ _ _; first
        | refine WD.pure rfl rfl rfl rfl rfl ?_
        | refine WD.nil ?_
        | refine WD.load rfl rfl (LdOk.box (by repeat (first | exact List.Mem.head _ | apply List.Mem.tail)) rfl) rfl rfl rfl rfl ?_
        | refine WD.add rfl rfl rfl (by omega) rfl rfl rfl rfl ?_
        | refine WD.sub rfl rfl rfl (by omega) rfl rfl rfl rfl ?_
        | refine WD.conv64 rfl rfl rfl (by omega) rfl rfl rfl rfl ?_
        | refine WD.index rfl rfl rfl rfl (by first | with_reducible assumption | omega) rfl rfl rfl rfl rfl ?_
        | refine WD.index (j := 0) rfl rfl rfl rfl (by omega) rfl rfl rfl rfl rfl ?_
        | refine WD.indexArr rfl rfl rfl rfl (by decide) rfl rfl rfl rfl ?_
        | refine WD.pass rfl rfl rfl rfl ?_
        | refine WD.skip rfl rfl rfl rfl rfl (hM.ss hS) ?_
        | refine WD.build rfl rfl rfl rfl rfl rfl ?_
        | (refine WD.slit hS hM rfl rfl rfl rfl rfl rfl rfl ?_; intro w b hS hM)
        | refine WD.eqS rfl rfl rfl rfl (by kernel_rfl) rfl rfl rfl rfl ?_
        | refine WD.neS rfl rfl rfl rfl (by kernel_rfl) rfl rfl rfl rfl ?_
        | (refine WD.box hS hM rfl rfl rfl rfl rfl rfl rfl ?_; intro w b hS hM)
        | ((fail_if_success (refine WD.wanted rfl ?_)); refine WD.guard rfl rfl rfl (fun h => ?_) (fun h => ?_) <;> (try simp only [Classical.not_not, Bool.not_eq_true', Bool.not_eq_false', Bool.not_eq_eq_eq_not, Bool.not_true, Bool.not_false, beq_iff_eq, beq_eq_false_iff_ne, ne_eq, decide_eq_decide, decide_eq_true_eq, decide_eq_false_iff_not, Bool.and_eq_true, Bool.or_eq_true, Bool.and_eq_false_iff, Bool.or_eq_false_iff] at h) <;> (try (exfalso; first | omega | contradiction))))
      | refine seqQ_n ?_
      | refine blkQ_n ?_
      | refine seqQ_x ?_
      | refine seqQ_r ?_
      | refine blkQ_r ?_
      | refine blkQ_hit rfl ?_
      | refine blkQ_miss rfl ?_
      | refine rndQ_x ?_
      | refine rndQ_r ?_
      | refine rdQ_n ?_
      | refine rdQ_x ?_
      | refine rdQ_r ?_
      | refine cutQ_n ?_
      | refine cutQ_r ?_
      | refine cutQ_miss rfl ?_
      | refine endQ_x ?_
      | refine endQ_r ?_)
    exact fin0n rfl ⟨rfl, _, (St.objClose (H := []) (φ := sbU b []) (D := sbD b (some ⟨b, 0, none⟩) none 0 0 []) hS ⟨_, _, _, rfl, .inl rfl⟩).mutOf (List.Mem.head _)⟩
  · replace hS : St w0 (sbC b s fp).fp w0 [.box b 81 [.pointer (some ⟨b, 0, none⟩), .slice A n cap], .own (.slice A n cap) 5 1 n (byteC s)] _ := hS
    repeat' (first
      | (show WL _ _ _ _ _ _ _; first
        | refine WL.pure rfl rfl rfl rfl ?_
        | refine WL.nil ?_
        | refine WL.load hS rfl rfl (LdOk.box (by repeat (first | exact List.Mem.head _ | apply List.Mem.tail)) rfl) rfl rfl rfl ?_
        | refine WL.add rfl rfl rfl (by omega) rfl rfl rfl ?_
        | refine WL.sub rfl rfl rfl (by omega) rfl rfl rfl ?_
        | (refine WL.neSame rfl rfl rfl rfl rfl rfl rfl ?_)
        | refine WL.conv64 rfl rfl rfl (by omega) rfl rfl rfl ?_
        | refine WL.cat rfl rfl rfl (by omega) rfl rfl rfl ?_
        | refine WL.idxS rfl rfl rfl rfl (by with_reducible assumption) rfl rfl rfl ?_
        | refine WL.lowS rfl rfl rfl rfl (by omega) rfl rfl rfl ?_
        | refine WL.highS rfl rfl rfl rfl (by omega) rfl rfl rfl ?_
        | refine WL.midS rfl rfl rfl rfl rfl (by omega) (by omega) rfl rfl rfl ?_
        | refine WL.maxI rfl rfl rfl rfl rfl rfl ?_
        | refine WL.minI rfl rfl rfl rfl rfl rfl ?_
        | (refine WL.store hS rfl rfl rfl (by repeat (first | exact StB.here rfl | apply StB.there)) rfl rfl rfl ?_; intro w hS)
        | (refine WL.box hS rfl rfl rfl rfl rfl ?_; intro w b hS)
        | (refine WL.alloc hS rfl rfl rfl rfl rfl rfl ?_; intro w b hS)
        | refine WL.index rfl rfl rfl rfl (by first | with_reducible assumption | omega) rfl rfl rfl rfl ?_
        | refine WL.index (j := 0) rfl rfl rfl rfl (by omega) rfl rfl rfl rfl ?_
        | refine WL.indexArr rfl rfl rfl rfl (by decide) rfl rfl rfl ?_
        | refine WL.skip rfl rfl rfl ?_
        | refine WL.build rfl rfl rfl rfl rfl ?_
        | (refine WL.slit hS rfl rfl rfl rfl rfl ?_; intro w b hS)
        | refine WL.eqS rfl rfl rfl rfl (by kernel_rfl) rfl rfl rfl ?_
        | refine WL.neS rfl rfl rfl rfl (by kernel_rfl) rfl rfl rfl ?_
        | ((fail_if_success (refine WL.wanted rfl ?_)); refine WL.guard rfl rfl rfl (fun h => ?_) (fun h => ?_) <;> (try simp only [Classical.not_not, Bool.not_eq_true', Bool.not_eq_false', Bool.not_eq_eq_eq_not, Bool.not_true, Bool.not_false, beq_iff_eq, beq_eq_false_iff_ne, ne_eq, decide_eq_decide, decide_eq_true_eq, decide_eq_false_iff_not, Bool.and_eq_true, Bool.or_eq_true, Bool.and_eq_false_iff, Bool.or_eq_false_iff] at h) <;> (try (exfalso; first | omega | contradiction))))
      | (show WC _ _ _ _ _ _; first
        | refine WC.seq ?_
        | refine WC.region ?_
        | refine WC.block ?_
        | refine WC.skip ?_
        | refine WC.exit ?_
        | refine WC.ret ?_
        | refine WC.condT rfl (by with_reducible rfl) ?_
        | refine WC.condF rfl (by with_reducible rfl) ?_
        | refine WC.condT rfl (by decide) ?_
        | refine WC.condF rfl (by decide) ?_
        | refine WC.condT rfl (decide_eq_true (by first | with_reducible assumption | omega)) ?_
        | refine WC.condF rfl (decide_eq_false (by first | with_reducible assumption | omega)) ?_
        | refine WC.condT rfl (by first | (simp; done) | (simp; omega)) ?_
        | refine WC.condF rfl (by first | (simp; done) | (simp; omega)) ?_
        | (refine WC.cond rfl (fun h => ?_) (fun h => ?_) <;> (try simp only [Classical.not_not, Bool.not_eq_true', Bool.not_eq_false', Bool.not_eq_eq_eq_not, Bool.not_true, Bool.not_false, beq_iff_eq, beq_eq_false_iff_ne, ne_eq, decide_eq_decide, decide_eq_true_eq, decide_eq_false_iff_not, Bool.and_eq_true, Bool.or_eq_true, Bool.and_eq_false_iff, Bool.or_eq_false_iff] at h) <;> (try (exfalso; first | omega | contradiction))))
      | (show WD _ _ _ _ _ _ _ _ _; first
        | refine WD.pure rfl rfl rfl rfl rfl ?_
        | refine WD.nil ?_
        | refine WD.load rfl rfl (LdOk.box (by repeat (first | exact List.Mem.head _ | apply List.Mem.tail)) rfl) rfl rfl rfl rfl ?_
        | refine WD.add rfl rfl rfl (by omega) rfl rfl rfl rfl ?_
        | refine WD.sub rfl rfl rfl (by omega) rfl rfl rfl rfl ?_
        | refine WD.conv64 rfl rfl rfl (by omega) rfl rfl rfl rfl ?_
        | refine WD.index rfl rfl rfl rfl (by first | with_reducible assumption | omega) rfl rfl rfl rfl rfl ?_
        | refine WD.index (j := 0) rfl rfl rfl rfl (by omega) rfl rfl rfl rfl rfl ?_
        | refine WD.indexArr rfl rfl rfl rfl (by decide) rfl rfl rfl rfl ?_
        | refine WD.pass rfl rfl rfl rfl ?_
        | refine WD.skip rfl rfl rfl rfl rfl (hM.ss hS) ?_
        | refine WD.build rfl rfl rfl rfl rfl rfl ?_
        | (refine WD.slit hS hM rfl rfl rfl rfl rfl rfl rfl ?_; intro w b hS hM)
        | refine WD.eqS rfl rfl rfl rfl (by kernel_rfl) rfl rfl rfl rfl ?_
        | refine WD.neS rfl rfl rfl rfl (by kernel_rfl) rfl rfl rfl rfl ?_
        | (refine WD.box hS hM rfl rfl rfl rfl rfl rfl rfl ?_; intro w b hS hM)
        | ((fail_if_success (refine WD.wanted rfl ?_)); refine WD.guard rfl rfl rfl (fun h => ?_) (fun h => ?_) <;> (try simp only [Classical.not_not, Bool.not_eq_true', Bool.not_eq_false', Bool.not_eq_eq_eq_not, Bool.not_true, Bool.not_false, beq_iff_eq, beq_eq_false_iff_ne, ne_eq, decide_eq_decide, decide_eq_true_eq, decide_eq_false_iff_not, Bool.and_eq_true, Bool.or_eq_true, Bool.and_eq_false_iff, Bool.or_eq_false_iff] at h) <;> (try (exfalso; first | omega | contradiction))))
      | refine seqQ_n ?_
      | refine blkQ_n ?_
      | refine seqQ_x ?_
      | refine seqQ_r ?_
      | refine blkQ_r ?_
      | refine blkQ_hit rfl ?_
      | refine blkQ_miss rfl ?_
      | refine rndQ_x ?_
      | refine rndQ_r ?_
      | refine rdQ_n ?_
      | refine rdQ_x ?_
      | refine rdQ_r ?_
      | refine cutQ_n ?_
      | refine cutQ_r ?_
      | refine cutQ_miss rfl ?_
      | refine endQ_x ?_
      | refine endQ_r ?_)
    exact fin0n rfl ⟨rfl, _, (St.objClose (H := []) (φ := sbU b s) (D := sbD b (some ⟨b, 0, none⟩) A n cap s) hS ⟨_, _, _, rfl, hA⟩).mutOf (List.Mem.head _)⟩
set_option maxHeartbeats 4000000 in
set_option maxRecDepth 100000 in
theorem bwrite_c (q : Nat) (s : List UInt8) (fp : List Nat) (c : UInt8) (w0 : World) (hc : (sbC q s fp).holds w0) (hi : inB (sbC q s fp) w0) (hl : s.length ≤ 1099511627776) : Cal Tryd.prog 57 [.pointer (some ⟨q, 0, none⟩), .int .u8 (c.toNat : Int)] w0
    (fun v w' => v = .nilIface ∧ ∃ fp', Mut w0 w' (sbC q s fp) (sbC q (s ++ [c]) fp')) := by
  refine Cal.mkM hc hi (by kernel_rfl) Tryd.func57 rfl rfl fun hS => ?_
  repeat' (first
    | (show WL _ _ _ _ _ _ _; first
      | refine WL.pure rfl rfl rfl rfl ?_
      | refine WL.nil ?_
      | refine WL.load hS rfl rfl (LdOk.box (by repeat (first | exact List.Mem.head _ | apply List.Mem.tail)) rfl) rfl rfl rfl ?_
      | refine WL.add rfl rfl rfl (by omega) rfl rfl rfl ?_
      | refine WL.sub rfl rfl rfl (by omega) rfl rfl rfl ?_
      | (refine WL.callG rfl rfl (bcheck_c q s fp _ (hS.holds _ (List.Mem.head _)) (hS.inB_of (List.Mem.head _))) rfl rfl rfl ?_; rintro v w ⟨rfl, fp', hmut⟩; have hS := hS.mut hmut .here; obtain ⟨D, ⟨A, n, cap, rfl, hA⟩, hfp, hS⟩ := hS.objOpen; replace hS : St w0 _ w [.box q 81 [.pointer (some ⟨q, 0, none⟩), .slice A n cap], .own (.slice A n cap) 5 1 n (byteC s)] _ := hS; have hlen := (hS.own_len (List.Mem.tail _ (List.Mem.head _))).1; rw [byteC_len, Nat.mul_one] at hlen)
      | (refine WL.app hS rfl rfl rfl rfl (.box (by repeat (first | exact List.Mem.head _ | apply List.Mem.tail))) rfl rfl (fun A' cap' => by repeat (first | exact Repl.here | apply Repl.there)) (by omega) rfl rfl rfl ?_; intro A2 cap2 w hS)
      | refine WL.conv64 rfl rfl rfl (by omega) rfl rfl rfl ?_
      | refine WL.cat rfl rfl rfl (by omega) rfl rfl rfl ?_
      | refine WL.idxS rfl rfl rfl rfl (by with_reducible assumption) rfl rfl rfl ?_
      | refine WL.lowS rfl rfl rfl rfl (by omega) rfl rfl rfl ?_
      | refine WL.highS rfl rfl rfl rfl (by omega) rfl rfl rfl ?_
      | refine WL.midS rfl rfl rfl rfl rfl (by omega) (by omega) rfl rfl rfl ?_
      | refine WL.maxI rfl rfl rfl rfl rfl rfl ?_
      | refine WL.minI rfl rfl rfl rfl rfl rfl ?_
      | (refine WL.store hS rfl rfl rfl (by repeat (first | exact StB.here rfl | apply StB.there)) rfl rfl rfl ?_; intro w hS)
      | (refine WL.box hS rfl rfl rfl rfl rfl ?_; intro w b hS)
      | (refine WL.alloc hS rfl rfl rfl rfl rfl rfl ?_; intro w b hS)
      | refine WL.index rfl rfl rfl rfl (by first | with_reducible assumption | omega) rfl rfl rfl rfl ?_
      | refine WL.index (j := 0) rfl rfl rfl rfl (by omega) rfl rfl rfl rfl ?_
      | refine WL.indexArr rfl rfl rfl rfl (by decide) rfl rfl rfl ?_
      | refine WL.skip rfl rfl rfl ?_
      | refine WL.build rfl rfl rfl rfl rfl ?_
      | (refine WL.slit hS rfl rfl rfl rfl rfl ?_; intro w b hS)
      | refine WL.eqS rfl rfl rfl rfl (by kernel_rfl) rfl rfl rfl ?_
      | refine WL.neS rfl rfl rfl rfl (by kernel_rfl) rfl rfl rfl ?_
      | ((fail_if_success (refine WL.wanted rfl ?_)); refine WL.guard rfl rfl rfl (fun h => ?_) (fun h => ?_) <;> (try simp only [Classical.not_not, Bool.not_eq_true', Bool.not_eq_false', Bool.not_eq_eq_eq_not, Bool.not_true, Bool.not_false, beq_iff_eq, beq_eq_false_iff_ne, ne_eq, decide_eq_decide, decide_eq_true_eq, decide_eq_false_iff_not, Bool.and_eq_true, Bool.or_eq_true, Bool.and_eq_false_iff, Bool.or_eq_false_iff] at h) <;> (try (exfalso; first | omega | contradiction))))
    | (show WC _ _ _ _ _ _; first
      | refine WC.seq ?_
      | refine WC.region ?_
      | refine WC.block ?_
      | refine WC.skip ?_
      | refine WC.exit ?_
      | refine WC.ret ?_
      | refine WC.condT rfl (by with_reducible rfl) ?_
      | refine WC.condF rfl (by with_reducible rfl) ?_
      | refine WC.condT rfl (by decide) ?_
      | refine WC.condF rfl (by decide) ?_
      | refine WC.condT rfl (decide_eq_true (by first | with_reducible assumption | omega)) ?_
      | refine WC.condF rfl (decide_eq_false (by first | with_reducible assumption | omega)) ?_
      | refine WC.condT rfl (by first | (simp; done) | (simp; omega)) ?_
      | refine WC.condF rfl (by first | (simp; done) | (simp; omega)) ?_
      | (refine WC.cond rfl (fun h => ?_) (fun h => ?_) <;> (try simp only [Classical.not_not, Bool.not_eq_true', Bool.not_eq_false', Bool.not_eq_eq_eq_not, Bool.not_true, Bool.not_false, beq_iff_eq, beq_eq_false_iff_ne, ne_eq, decide_eq_decide, decide_eq_true_eq, decide_eq_false_iff_not, Bool.and_eq_true, Bool.or_eq_true, Bool.and_eq_false_iff, Bool.or_eq_false_iff] at h) <;> (try (exfalso; first | omega | contradiction))))
    | (show WD _ _ _ _ _ _ _ _ _; first
      | refine WD.pure rfl rfl rfl rfl rfl ?_
      | refine WD.nil ?_
      | refine WD.load rfl rfl (LdOk.box (by repeat (first | exact List.Mem.head _ | apply List.Mem.tail)) rfl) rfl rfl rfl rfl ?_
      | refine WD.add rfl rfl rfl (by omega) rfl rfl rfl rfl ?_
      | refine WD.sub rfl rfl rfl (by omega) rfl rfl rfl rfl ?_
      | refine WD.conv64 rfl rfl rfl (by omega) rfl rfl rfl rfl ?_
      | refine WD.index rfl rfl rfl rfl (by first | with_reducible assumption | omega) rfl rfl rfl rfl rfl ?_
      | refine WD.index (j := 0) rfl rfl rfl rfl (by omega) rfl rfl rfl rfl rfl ?_
      | refine WD.indexArr rfl rfl rfl rfl (by decide) rfl rfl rfl rfl ?_
      | refine WD.pass rfl rfl rfl rfl ?_
      | refine WD.skip rfl rfl rfl rfl rfl (hM.ss hS) ?_
      | refine WD.build rfl rfl rfl rfl rfl rfl ?_
      | (refine WD.slit hS hM rfl rfl rfl rfl rfl rfl rfl ?_; intro w b hS hM)
      | refine WD.eqS rfl rfl rfl rfl (by kernel_rfl) rfl rfl rfl rfl ?_
      | refine WD.neS rfl rfl rfl rfl (by kernel_rfl) rfl rfl rfl rfl ?_
      | (refine WD.box hS hM rfl rfl rfl rfl rfl rfl rfl ?_; intro w b hS hM)
      | ((fail_if_success (refine WD.wanted rfl ?_)); refine WD.guard rfl rfl rfl (fun h => ?_) (fun h => ?_) <;> (try simp only [Classical.not_not, Bool.not_eq_true', Bool.not_eq_false', Bool.not_eq_eq_eq_not, Bool.not_true, Bool.not_false, beq_iff_eq, beq_eq_false_iff_ne, ne_eq, decide_eq_decide, decide_eq_true_eq, decide_eq_false_iff_not, Bool.and_eq_true, Bool.or_eq_true, Bool.and_eq_false_iff, Bool.or_eq_false_iff] at h) <;> (try (exfalso; first | omega | contradiction))))
    | refine seqQ_n ?_
    | refine blkQ_n ?_
    | refine seqQ_x ?_
    | refine seqQ_r ?_
    | refine blkQ_r ?_
    | refine blkQ_hit rfl ?_
    | refine blkQ_miss rfl ?_
    | refine rndQ_x ?_
    | refine rndQ_r ?_
    | refine rdQ_n ?_
    | refine rdQ_x ?_
    | refine rdQ_r ?_
    | refine cutQ_n ?_
    | refine cutQ_r ?_
    | refine cutQ_miss rfl ?_
    | refine endQ_x ?_
    | refine endQ_r ?_)
  exact fin1r rfl rfl ⟨rfl, _, (St.objClose (H := []) (φ := sbφ q (s ++ [c])) (D := sbD q (some ⟨q, 0, none⟩) A2 (n + 1) cap2 (s ++ [c])) (by rw [sbD, byteC_app]; exact hS.drop) (.inr ⟨_, _, _, rfl, .inr (by have := (hS.own_len (List.Mem.tail _ (List.Mem.tail _ (List.Mem.head _)))).2.2; omega)⟩)).mutOf (List.Mem.head _)⟩

set_option maxHeartbeats 4000000 in
set_option maxRecDepth 100000 in
/-- what the text is: the builder is behind it of no more use -/
theorem bstring_c (q : Nat) (s : List UInt8) (fp : List Nat) (w0 : World) (hc : (sbC q s fp).holds w0) (hi : inB (sbC q s fp) w0) (hl : s.length ≤ 1099511627776) : Cal Tryd.prog 58 [.pointer (some ⟨q, 0, none⟩)] w0
    (fun v w' => v = str s ∧ Upd fp w0 w') := by
  refine Cal.mkM hc hi (by kernel_rfl) Tryd.func58 rfl rfl fun hS => ?_
  obtain ⟨D, hφ, hfp, hS⟩ := hS.objOpen
  obtain ⟨p, A, n, cap, rfl, hA⟩ : ∃ p A n cap, D = sbD q p A n cap s ∧ (A = none ∨ cap ≠ 0) := by
    rcases hφ with ⟨rfl, rfl⟩ | ⟨A, n, cap, rfl, hA⟩
    · exact ⟨_, _, _, _, rfl, .inl rfl⟩
    · exact ⟨_, _, _, _, rfl, hA⟩
  replace hS : St w0 (sbC q s fp).fp w0 [.box q 81 [.pointer p, .slice A n cap], .own (.slice A n cap) 5 1 n (byteC s)] _ := hS
  have hlen := (hS.own_len (List.Mem.tail _ (List.Mem.head _))).1
  rw [byteC_len, Nat.mul_one] at hlen
  subst hlen
  replace hS := hS.perm (.swap _ _ _)
  clear hφ
  repeat' (first
    | (show WL _ _ _ _ _ _ _; first
      | refine WL.pure rfl rfl rfl rfl ?_
      | refine WL.nil ?_
      | refine WL.load hS rfl rfl (LdOk.box (by repeat (first | exact List.Mem.head _ | apply List.Mem.tail)) rfl) rfl rfl rfl ?_
      | refine WL.add rfl rfl rfl (by omega) rfl rfl rfl ?_
      | refine WL.sub rfl rfl rfl (by omega) rfl rfl rfl ?_
      | refine WL.conv64 rfl rfl rfl (by omega) rfl rfl rfl ?_
      | refine WL.cat rfl rfl rfl (by omega) rfl rfl rfl ?_
      | refine WL.idxS rfl rfl rfl rfl (by with_reducible assumption) rfl rfl rfl ?_
      | refine WL.lowS rfl rfl rfl rfl (by omega) rfl rfl rfl ?_
      | refine WL.highS rfl rfl rfl rfl (by omega) rfl rfl rfl ?_
      | refine WL.midS rfl rfl rfl rfl rfl (by omega) (by omega) rfl rfl rfl ?_
      | refine WL.maxI rfl rfl rfl rfl rfl rfl ?_
      | refine WL.minI rfl rfl rfl rfl rfl rfl ?_
      | (refine WL.store hS rfl rfl rfl (by repeat (first | exact StB.here rfl | apply StB.there)) rfl rfl rfl ?_; intro w hS)
      | (refine WL.box hS rfl rfl rfl rfl rfl ?_; intro w b hS)
      | (refine WL.alloc hS rfl rfl rfl rfl rfl rfl ?_; intro w b hS)
      | refine WL.index rfl rfl rfl rfl (by first | with_reducible assumption | omega) rfl rfl rfl rfl ?_
      | refine WL.index (j := 0) rfl rfl rfl rfl (by omega) rfl rfl rfl rfl ?_
      | refine WL.indexArr rfl rfl rfl rfl (by decide) rfl rfl rfl ?_
      | refine WL.skip rfl rfl rfl ?_
      | refine WL.build rfl rfl rfl rfl rfl ?_
      | (refine WL.slit hS rfl rfl rfl rfl rfl ?_; intro w b hS)
      | refine WL.eqS rfl rfl rfl rfl (by kernel_rfl) rfl rfl rfl ?_
      | refine WL.neS rfl rfl rfl rfl (by kernel_rfl) rfl rfl rfl ?_
      | ((fail_if_success (refine WL.wanted rfl ?_)); refine WL.guard rfl rfl rfl (fun h => ?_) (fun h => ?_) <;> (try simp only [Classical.not_not, Bool.not_eq_true', Bool.not_eq_false', Bool.not_eq_eq_eq_not, Bool.not_true, Bool.not_false, beq_iff_eq, beq_eq_false_iff_ne, ne_eq, decide_eq_decide, decide_eq_true_eq, decide_eq_false_iff_not, Bool.and_eq_true, Bool.or_eq_true, Bool.and_eq_false_iff, Bool.or_eq_false_iff] at h) <;> (try (exfalso; first | omega | contradiction))))
    | (show WC _ _ _ _ _ _; first
      | refine WC.seq ?_
      | refine WC.region ?_
      | refine WC.block ?_
      | refine WC.skip ?_
      | refine WC.exit ?_
      | refine WC.ret ?_
      | refine WC.condT rfl (by with_reducible rfl) ?_
      | refine WC.condF rfl (by with_reducible rfl) ?_
      | refine WC.condT rfl (by decide) ?_
      | refine WC.condF rfl (by decide) ?_
      | refine WC.condT rfl (decide_eq_true (by first | with_reducible assumption | omega)) ?_
      | refine WC.condF rfl (decide_eq_false (by first | with_reducible assumption | omega)) ?_
      | refine WC.condT rfl (by first | (simp; done) | (simp; omega)) ?_
      | refine WC.condF rfl (by first | (simp; done) | (simp; omega)) ?_
      | (refine WC.cond rfl (fun h => ?_) (fun h => ?_) <;> (try simp only [Classical.not_not, Bool.not_eq_true', Bool.not_eq_false', Bool.not_eq_eq_eq_not, Bool.not_true, Bool.not_false, beq_iff_eq, beq_eq_false_iff_ne, ne_eq, decide_eq_decide, decide_eq_true_eq, decide_eq_false_iff_not, Bool.and_eq_true, Bool.or_eq_true, Bool.and_eq_false_iff, Bool.or_eq_false_iff] at h) <;> (try (exfalso; first | omega | contradiction))))
    | (show WD _ _ _ _ _ _ _ _ _; first
      | refine WD.pure rfl rfl rfl rfl rfl ?_
      | refine WD.nil ?_
      | refine WD.load rfl rfl (LdOk.box (by repeat (first | exact List.Mem.head _ | apply List.Mem.tail)) rfl) rfl rfl rfl rfl ?_
      | refine WD.add rfl rfl rfl (by omega) rfl rfl rfl rfl ?_
      | refine WD.sub rfl rfl rfl (by omega) rfl rfl rfl rfl ?_
      | refine WD.conv64 rfl rfl rfl (by omega) rfl rfl rfl rfl ?_
      | refine WD.index rfl rfl rfl rfl (by first | with_reducible assumption | omega) rfl rfl rfl rfl rfl ?_
      | refine WD.index (j := 0) rfl rfl rfl rfl (by omega) rfl rfl rfl rfl rfl ?_
      | refine WD.indexArr rfl rfl rfl rfl (by decide) rfl rfl rfl rfl ?_
      | refine WD.pass rfl rfl rfl rfl ?_
      | refine WD.skip rfl rfl rfl rfl rfl (hM.ss hS) ?_
      | refine WD.build rfl rfl rfl rfl rfl rfl ?_
      | (refine WD.slit hS hM rfl rfl rfl rfl rfl rfl rfl ?_; intro w b hS hM)
      | refine WD.eqS rfl rfl rfl rfl (by kernel_rfl) rfl rfl rfl rfl ?_
      | refine WD.neS rfl rfl rfl rfl (by kernel_rfl) rfl rfl rfl rfl ?_
      | (refine WD.box hS hM rfl rfl rfl rfl rfl rfl rfl ?_; intro w b hS hM)
      | ((fail_if_success (refine WD.wanted rfl ?_)); refine WD.guard rfl rfl rfl (fun h => ?_) (fun h => ?_) <;> (try simp only [Classical.not_not, Bool.not_eq_true', Bool.not_eq_false', Bool.not_eq_eq_eq_not, Bool.not_true, Bool.not_false, beq_iff_eq, beq_eq_false_iff_ne, ne_eq, decide_eq_decide, decide_eq_true_eq, decide_eq_false_iff_not, Bool.and_eq_true, Bool.or_eq_true, Bool.and_eq_false_iff, Bool.or_eq_false_iff] at h) <;> (try (exfalso; first | omega | contradiction))))
    | refine seqQ_n ?_
    | refine blkQ_n ?_
    | refine seqQ_x ?_
    | refine seqQ_r ?_
    | refine blkQ_r ?_
    | refine blkQ_hit rfl ?_
    | refine blkQ_miss rfl ?_
    | refine rndQ_x ?_
    | refine rndQ_r ?_
    | refine rdQ_n ?_
    | refine rdQ_x ?_
    | refine rdQ_r ?_
    | refine cutQ_n ?_
    | refine cutQ_r ?_
    | refine cutQ_miss rfl ?_
    | refine endQ_x ?_
    | refine endQ_r ?_)
  refine WC.drawC hS [0,1,2,3,5,6,7,8,9,11] [0,1,2,3,5,6,7,8,9,4,10,11] (by kernel_rfl) (by kernel_rfl) ?_
  clear hS
  intro w hS hM
  repeat' (first
    | (show WL _ _ _ _ _ _ _; first
      | refine WL.pure rfl rfl rfl rfl ?_
      | refine WL.nil ?_
      | refine WL.load hS rfl rfl (LdOk.box (by repeat (first | exact List.Mem.head _ | apply List.Mem.tail)) rfl) rfl rfl rfl ?_
      | refine WL.add rfl rfl rfl (by omega) rfl rfl rfl ?_
      | refine WL.sub rfl rfl rfl (by omega) rfl rfl rfl ?_
      | refine WL.conv64 rfl rfl rfl (by omega) rfl rfl rfl ?_
      | refine WL.cat rfl rfl rfl (by omega) rfl rfl rfl ?_
      | refine WL.idxS rfl rfl rfl rfl (by with_reducible assumption) rfl rfl rfl ?_
      | refine WL.lowS rfl rfl rfl rfl (by omega) rfl rfl rfl ?_
      | refine WL.highS rfl rfl rfl rfl (by omega) rfl rfl rfl ?_
      | refine WL.midS rfl rfl rfl rfl rfl (by omega) (by omega) rfl rfl rfl ?_
      | refine WL.maxI rfl rfl rfl rfl rfl rfl ?_
      | refine WL.minI rfl rfl rfl rfl rfl rfl ?_
      | (refine WL.store hS rfl rfl rfl (by repeat (first | exact StB.here rfl | apply StB.there)) rfl rfl rfl ?_; intro w hS)
      | (refine WL.box hS rfl rfl rfl rfl rfl ?_; intro w b hS)
      | (refine WL.alloc hS rfl rfl rfl rfl rfl rfl ?_; intro w b hS)
      | refine WL.index rfl rfl rfl rfl (by first | with_reducible assumption | omega) rfl rfl rfl rfl ?_
      | refine WL.index (j := 0) rfl rfl rfl rfl (by omega) rfl rfl rfl rfl ?_
      | refine WL.indexArr rfl rfl rfl rfl (by decide) rfl rfl rfl ?_
      | refine WL.skip rfl rfl rfl ?_
      | refine WL.build rfl rfl rfl rfl rfl ?_
      | (refine WL.slit hS rfl rfl rfl rfl rfl ?_; intro w b hS)
      | refine WL.eqS rfl rfl rfl rfl (by kernel_rfl) rfl rfl rfl ?_
      | refine WL.neS rfl rfl rfl rfl (by kernel_rfl) rfl rfl rfl ?_
      | ((fail_if_success (refine WL.wanted rfl ?_)); refine WL.guard rfl rfl rfl (fun h => ?_) (fun h => ?_) <;> (try simp only [Classical.not_not, Bool.not_eq_true', Bool.not_eq_false', Bool.not_eq_eq_eq_not, Bool.not_true, Bool.not_false, beq_iff_eq, beq_eq_false_iff_ne, ne_eq, decide_eq_decide, decide_eq_true_eq, decide_eq_false_iff_not, Bool.and_eq_true, Bool.or_eq_true, Bool.and_eq_false_iff, Bool.or_eq_false_iff] at h) <;> (try (exfalso; first | omega | contradiction))))
    | (show WC _ _ _ _ _ _; first
      | refine WC.seq ?_
      | refine WC.region ?_
      | refine WC.block ?_
      | refine WC.skip ?_
      | refine WC.exit ?_
      | refine WC.ret ?_
      | refine WC.condT rfl (by with_reducible rfl) ?_
      | refine WC.condF rfl (by with_reducible rfl) ?_
      | refine WC.condT rfl (by decide) ?_
      | refine WC.condF rfl (by decide) ?_
      | refine WC.condT rfl (decide_eq_true (by first | with_reducible assumption | omega)) ?_
      | refine WC.condF rfl (decide_eq_false (by first | with_reducible assumption | omega)) ?_
      | refine WC.condT rfl (by first | (simp; done) | (simp; omega)) ?_
      | refine WC.condF rfl (by first | (simp; done) | (simp; omega)) ?_
      | (refine WC.cond rfl (fun h => ?_) (fun h => ?_) <;> (try simp only [Classical.not_not, Bool.not_eq_true', Bool.not_eq_false', Bool.not_eq_eq_eq_not, Bool.not_true, Bool.not_false, beq_iff_eq, beq_eq_false_iff_ne, ne_eq, decide_eq_decide, decide_eq_true_eq, decide_eq_false_iff_not, Bool.and_eq_true, Bool.or_eq_true, Bool.and_eq_false_iff, Bool.or_eq_false_iff] at h) <;> (try (exfalso; first | omega | contradiction))))
    | (show WD _ _ _ _ _ _ _ _ _; first
      | refine WD.pure rfl rfl rfl rfl rfl ?_
      | refine WD.nil ?_
      | refine WD.load rfl rfl (LdOk.box (by repeat (first | exact List.Mem.head _ | apply List.Mem.tail)) rfl) rfl rfl rfl rfl ?_
      | refine WD.add rfl rfl rfl (by omega) rfl rfl rfl rfl ?_
      | refine WD.sub rfl rfl rfl (by omega) rfl rfl rfl rfl ?_
      | (refine WD.sliceData hS hM rfl rfl hA rfl rfl rfl rfl rfl ?_)
      | (refine WD.unsStr hS (More.refl _ _) rfl rfl rfl rfl (by omega) rfl rfl rfl rfl rfl ?_; clear hS hM; intro w hS)
      | refine WD.conv64 rfl rfl rfl (by omega) rfl rfl rfl rfl ?_
      | refine WD.index rfl rfl rfl rfl (by first | with_reducible assumption | omega) rfl rfl rfl rfl rfl ?_
      | refine WD.index (j := 0) rfl rfl rfl rfl (by omega) rfl rfl rfl rfl rfl ?_
      | refine WD.indexArr rfl rfl rfl rfl (by decide) rfl rfl rfl rfl ?_
      | refine WD.pass rfl rfl rfl rfl ?_
      | refine WD.skip rfl rfl rfl rfl rfl (hM.ss hS) ?_
      | refine WD.build rfl rfl rfl rfl rfl rfl ?_
      | (refine WD.slit hS hM rfl rfl rfl rfl rfl rfl rfl ?_; intro w b hS hM)
      | refine WD.eqS rfl rfl rfl rfl (by kernel_rfl) rfl rfl rfl rfl ?_
      | refine WD.neS rfl rfl rfl rfl (by kernel_rfl) rfl rfl rfl rfl ?_
      | (refine WD.box hS hM rfl rfl rfl rfl rfl rfl rfl ?_; intro w b hS hM)
      | ((fail_if_success (refine WD.wanted rfl ?_)); refine WD.guard rfl rfl rfl (fun h => ?_) (fun h => ?_) <;> (try simp only [Classical.not_not, Bool.not_eq_true', Bool.not_eq_false', Bool.not_eq_eq_eq_not, Bool.not_true, Bool.not_false, beq_iff_eq, beq_eq_false_iff_ne, ne_eq, decide_eq_decide, decide_eq_true_eq, decide_eq_false_iff_not, Bool.and_eq_true, Bool.or_eq_true, Bool.and_eq_false_iff, Bool.or_eq_false_iff] at h) <;> (try (exfalso; first | omega | contradiction))))
    | refine seqQ_n ?_
    | refine blkQ_n ?_
    | refine seqQ_x ?_
    | refine seqQ_r ?_
    | refine blkQ_r ?_
    | refine blkQ_hit rfl ?_
    | refine blkQ_miss rfl ?_
    | refine rndQ_x ?_
    | refine rndQ_r ?_
    | refine rdQ_n ?_
    | refine rdQ_x ?_
    | refine rdQ_r ?_
    | refine cutQ_n ?_
    | refine cutQ_r ?_
    | refine cutQ_miss rfl ?_
    | refine endQ_x ?_
    | refine endQ_r ?_)
  exact fin1r rfl rfl ⟨rfl, hS.upd⟩
end Go.Proofs.YtggalmiaofeikaaDoor
