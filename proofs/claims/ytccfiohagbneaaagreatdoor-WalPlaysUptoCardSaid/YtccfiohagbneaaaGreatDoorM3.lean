/- What is proved: contracts and plain facts that the law leans on (texts put together). Conditions: as each names them. -/
import Derived.Test.YtccfiohagbneaaaGreatDoorM2
import Derived.Laws.IdiomStrings
import Derived.Laws.IdiomCopy
import Derived.Lib.AppendStr
import Derived.Lib.Bytealg
set_option linter.unusedSimpArgs false
set_option linter.unusedVariables false
/- What is proved: what the package frame reckons and writes. Conditions: as each names them. -/
set_option linter.unusedSimpArgs false
set_option linter.unusedVariables false
namespace Go.Proofs.YtccfiohagbneaaaGreatDoor
open Go Go.J Go.RowKit

set_option maxHeartbeats 4000000 in
set_option maxRecDepth 100000 in
theorem sum_c (s : List UInt8) (w0 : World) (hl : s.length ≤ 1099511627776) : Cal Tryz.prog 133 [str s] w0 (fun v w' => Upd [] w0 w' ∧ v = .int .u32 ((sumE s : Nat) : Int)) := by
  refine Cal.mk' (by kernel_rfl) Tryz.func133 rfl rfl fun hS => ?_
  repeat' (first
    | (show WL _ _ _ _ _ _ _; first
      | refine WL.pure rfl rfl rfl rfl ?_
      | refine WL.nil ?_)
    | (show WC _ _ _ _ _ _; first
      | refine WC.seq ?_
      | refine WC.region ?_
      | refine WC.block ?_)
    | refine seqQ_n ?_)
  refine WC.loop (σ := Nat × Nat) [0, 6] (fun (k, c) => [(3, .int .u32 (c : Int)), (7, .int .i64 (k : Int))]) (fun (k, c) w => k ≤ s.length ∧ c = crcL 4294967295 (s.take k) ∧ St w0 [] w [] _) (fun (k, _) => s.length - k) (0, 4294967295) ⟨Nat.zero_le _, rfl, hS⟩ ⟨rfl, rfl, trivial⟩ ?_
  clear hS
  rintro ⟨k, c⟩ g w ⟨hk, hc, hS⟩
  have hclt : c < 4294967296 := by rw [hc]; exact crcL_lt _ (by omega)
  by_cases hlt : k < s.length
  · have hx : s[k]? = some s[k] := List.getElem?_eq_getElem hlt
    have hnx : crcL 4294967295 (s.take (k + 1)) = crcB c s[k] := by rw [List.take_succ_eq_append_getElem hlt, crcL_snoc, ← hc]
    generalize s[k] = x at *
    clear hc
    have hm := u32_mix hclt x
    have hx0 := crcB_lt hclt x
    have hx1 : c ^^^ x.toNat < 4294967296 := Nat.xor_lt_two_pow (n := 32) hclt (by have := x.toNat_lt; omega)
    repeat' (first
      | (show WL _ _ _ _ _ _ _; first
        | refine WL.pure rfl rfl rfl rfl ?_
        | refine WL.nil ?_
        | refine WL.idxS rfl rfl rfl rfl (by with_reducible assumption) rfl rfl rfl ?_)
      | (show WC _ _ _ _ _ _; first
        | refine WC.seq ?_
        | refine WC.region ?_
        | refine WC.block ?_
        | refine WC.skip ?_
        | refine WC.condT rfl (decide_eq_true (by first | with_reducible assumption | omega)) ?_)
      | refine seqQ_n ?_)
    refine WC.loop (σ := Nat × Nat) [0, 6, 7] (fun (j, e) => [(3, .int .u32 (e : Int)), (16, .int .i64 (j : Int))]) (fun (j, e) w => j ≤ 8 ∧ crcN (8 - j) e = crcB c x ∧ e < 4294967296 ∧ St w0 [] w [] _) (fun (j, _) => 8 - j) (0, c ^^^ x.toNat) ⟨by omega, rfl, hx1, hS⟩ ⟨congrArg (Value.int .u32) hm, rfl, trivial⟩ ?_
    clear hS
    rintro ⟨j, e⟩ g w ⟨hj, he, helt, hS⟩
    by_cases h8 : j < 8
    · have hst := u32_step helt
      repeat' (first
        | (show WL _ _ _ _ _ _ _; first
          | refine WL.pure rfl rfl rfl rfl ?_
          | refine WL.nil ?_
          | refine WL.add rfl rfl rfl (by omega) rfl rfl rfl ?_
          | (refine WL.shr rfl rfl rfl (by decide) rfl rfl rfl ?_))
        | (show WC _ _ _ _ _ _; first
          | refine WC.seq ?_
          | refine WC.region ?_
          | refine WC.block ?_
          | refine WC.skip ?_
          | refine WC.condT rfl (decide_eq_true (by first | with_reducible assumption | omega)) ?_)
        | refine seqQ_n ?_
        | refine blkQ_n ?_)
      exact rndQ_n (j + 1, crcS e) ⟨by omega, by rw [← he, show 8 - j = (8 - (j + 1)) + 1 by omega]; rfl, crcS_lt helt, hS⟩ (by show 8 - (j + 1) < 8 - j; omega) ⟨congrArg (Value.int .u32) hst, vint (by omega), trivial⟩ ⟨rfl, rfl, rfl, trivial⟩
    · obtain rfl : j = 8 := by omega
      have he : e = crcB c x := he
      subst he
      repeat' (first
        | (show WL _ _ _ _ _ _ _; first
          | refine WL.pure rfl rfl rfl rfl ?_
          | refine WL.nil ?_
          | refine WL.add rfl rfl rfl (by omega) rfl rfl rfl ?_)
        | (show WC _ _ _ _ _ _; first
          | refine WC.seq ?_
          | refine WC.region ?_
          | refine WC.exit ?_
          | refine WC.condF rfl (by decide) ?_)
        | refine seqQ_n ?_
        | refine blkQ_n ?_
        | refine seqQ_x ?_
        | refine blkQ_hit rfl ?_
        | refine rndQ_x ?_)
      exact rndQ_n (k + 1, crcB c x) ⟨by omega, hnx.symm, hS⟩ (by show s.length - (k + 1) < s.length - k; omega) ⟨rfl, vint (by omega), trivial⟩ ⟨rfl, rfl, trivial⟩
  · have hks : s.take k = s := List.take_of_length_le (by omega)
    rw [hks] at hc
    subst hc
    have hcm := u32_comp hclt
    repeat' (first
      | (show WL _ _ _ _ _ _ _; first
        | refine WL.pure rfl rfl rfl rfl ?_
        | refine WL.nil ?_
        | (refine WL.comp rfl rfl rfl rfl rfl ?_))
      | (show WC _ _ _ _ _ _; first
        | refine WC.seq ?_
        | refine WC.region ?_
        | refine WC.exit ?_
        | refine WC.ret ?_
        | refine WC.condF rfl (decide_eq_false (by first | with_reducible assumption | omega)) ?_)
      | refine seqQ_n ?_
      | refine seqQ_x ?_
      | refine blkQ_hit rfl ?_
      | refine rndQ_x ?_)
    exact fin1r rfl rfl ⟨hS.upd, congrArg (Value.int .u32) hcm⟩

set_option maxHeartbeats 4000000 in
set_option maxRecDepth 100000 in
theorem pack_c (s : List UInt8) (w0 : World) (hl : s.length ≤ 1099511627776) : Cal Tryz.prog 71 [str s] w0 (fun v w' => Upd [] w0 w' ∧ v = str (packE s)) := by
  refine Cal.mk' (by kernel_rfl) Tryz.func71 rfl rfl fun hS => ?_
  have h4 := le4_bytes (sumE_lt s)
  have hp := putN_len10 (n := s.length) (by omega)
  have htl : (textE s).length = (putN s.length).length + s.length := by unfold textE; simp
  have hl4 : (le4 (sumE s)).length = 4 := rfl
  repeat' (first
    | (show WL _ _ _ _ _ _ _; first
      | refine WL.pure rfl rfl rfl rfl ?_
      | refine WL.nil ?_
      | (refine WL.calls hS rfl rfl (sum_c s _ (by omega)) rfl rfl rfl ?_; rintro v w rfl hS))
    | (show WC _ _ _ _ _ _; first
      | refine WC.seq ?_
      | refine WC.region ?_)
    | refine seqQ_n ?_)
  refine WC.drawP hS [0,2,3,4,5,6,7,8,9,10,11,12,15,16] [0,2,3,4,5,6,7,8,9,10,11,12] (.two 1 [13,14,15,16] .nil 13 [] (.two 1 [14,15,16] .nil 14 [1,15,16] .nil)) (by kernel_rfl) (by kernel_rfl) ?_
  clear hS
  intro w hS hM
  repeat' (first
    | (show WC _ _ _ _ _ _; first
      | refine WC.ret ?_)
    | (show WD _ _ _ _ _ _ _ _ _; first
      | refine WD.pure rfl rfl rfl rfl rfl ?_
      | refine WD.nil ?_
      | (refine WD.shr rfl rfl rfl (by decide) rfl rfl rfl rfl ?_)
      | (refine WD.fork ?_ ?_)
      | (refine WD.calls hS hM rfl rfl (wtext_c s _ (by omega)) rfl rfl rfl rfl rfl ?_; clear hS; rintro v w rfl hS)
      | (refine WD.b2sBox (s := le4 (sumE s)) hS hM rfl rfl (by kernel_rfl) rfl (by repeat (first | exact List.Mem.head _ | apply List.Mem.tail)) h4 rfl (by decide) rfl rfl rfl rfl rfl ?_)
      | (refine WD.cat rfl rfl rfl (by omega) rfl rfl rfl rfl ?_)
      | (refine WD.slit hS hM rfl rfl rfl rfl rfl rfl rfl ?_; intro w b hS hM))
    | (refine WDo.calls hS hM rfl rfl (wtext_c s _ (by omega)) rfl rfl rfl rfl ?_; clear hS; rintro v w rfl hS)
    | (refine WDo.slit hS hM rfl rfl rfl rfl rfl rfl ?_; clear hS hM; intro w b hS hM)
    | (refine WDo.b2sBox (s := le4 (sumE s)) hS hM rfl rfl (by kernel_rfl) rfl (by repeat (first | exact List.Mem.head _ | apply List.Mem.tail)) h4 rfl (by decide) rfl rfl rfl rfl ?_)
    | refine seqQ_n ?_)
  all_goals exact fin1r rfl rfl ⟨hS.upd, rfl⟩
end Go.Proofs.YtccfiohagbneaaaGreatDoor

/- What is proved: what the package frame reads. Conditions: no more than 2^40 bytes. -/
set_option linter.unusedSimpArgs false
set_option linter.unusedVariables false
namespace Go.Proofs.YtccfiohagbneaaaGreatDoor
open Go Go.J Go.RowKit

/-- the text of the frame at the head of the bytes, the frame's length, the error -/
def readE (t : List UInt8) : List UInt8 × Nat × Int :=
  if (rtextE t).2.2 = 0 then (if t.length < (rtextE t).2.1 + 4 then ([], 0, 2) else if packE (rtextE t).1 = t.take ((rtextE t).2.1 + 4) then ((rtextE t).1, (rtextE t).2.1 + 4, 0) else ([], 0, 6)) else ([], 0, (rtextE t).2.2)
def frV (p : Nat) (r : List UInt8 × Nat × Int) : Value := if r.2.2 = 0 then .tuple #[str r.1, .int .i64 ((p + r.2.1 : Nat) : Int), .int .i64 0] else .tuple #[str [], .int .i64 0, .int .i64 r.2.2]
theorem frV_ok {p u : Nat} {x : List UInt8} {b : Int} (hb : b = ((p + u : Nat) : Int)) : Value.tuple #[str x, .int .i64 b, .int .i64 0] = frV p (x, u, 0) := by subst hb; simp [frV]
theorem frV_no {p u : Nat} {x : List UInt8} {e : Int} (he : e ≠ 0) : Value.tuple #[str [], .int .i64 0, .int .i64 e] = frV p (x, u, e) := by simp [frV, he]
theorem rtextE_le (t : List UInt8) (h : (rtextE t).2.2 = 0) : (rtextE t).2.1 ≤ t.length ∧ (rtextE t).1.length ≤ t.length := by
  unfold rtextE at *
  by_cases h1 : (uintE t).2.2 = 0
  · rw [if_pos h1] at h ⊢
    by_cases h2 : (uintE t).1 + (uintE t).2.1 ≤ t.length
    · rw [if_pos h2]; exact ⟨h2, by simp; omega⟩
    · rw [if_neg h2] at h; simp at h
  · rw [if_neg h1] at h; exact absurd h h1

set_option maxHeartbeats 8000000 in
set_option maxRecDepth 100000 in
theorem fread_c (s : List UInt8) (p : Nat) (w0 : World) (hp : p ≤ s.length) (hl : s.length ≤ 1099511627776) : Cal Tryz.prog 127 [str s, .int .i64 (p : Int)] w0
    (fun v w' => Upd [] w0 w' ∧ v = frV p (readE (s.drop p))) := by
  refine Cal.mk' (by kernel_rfl) Tryz.func127 rfl rfl fun hS => ?_
  have hlen : (s.drop p).length = s.length - p := by simp
  have hok := rtextE_le (s.drop p)
  rcases hu : rtextE (s.drop p) with ⟨x, u, e⟩
  rw [hu] at hok
  have hu0 : rtextE ((s.drop p).drop 0) = (x, u, e) := hu
  have hr : readE (s.drop p) = if e = 0 then (if s.length - p < u + 4 then ([], 0, 2) else if packE x = (s.drop p).take (u + 4) then (x, u + 4, 0) else ([], 0, 6)) else ([], 0, e) := by unfold readE; rw [hu, hlen]
  rw [hr]
  clear hr hu
  by_cases he : e = 0
  · subst he
    obtain ⟨hul, hxl⟩ := hok rfl
    dsimp only at hul hxl
    rw [hlen] at hul hxl
    clear hok
    rw [if_pos rfl]
    have hle : (((s.drop p).length : Nat) : Int) - ((0 + u : Nat) : Int) = ((s.length - p - u : Nat) : Int) := by rw [hlen]; omega
    by_cases h4 : s.length - p < u + 4
    · rw [if_pos h4]
      repeat' (first
        | (show WL _ _ _ _ _ _ _; first
          | refine WL.pure rfl rfl rfl rfl ?_
          | refine WL.nil ?_
          | (refine WL.lowS (j := p) rfl rfl rfl rfl (by omega) rfl rfl rfl ?_)
          | (refine WL.callG rfl rfl (wnew_c (s.drop p) _) rfl rfl rfl ?_; rintro v w ⟨hup, r, rfl, hnew⟩; have hS := hS.new hup hnew)
          | (refine WL.callG rfl rfl (rtext_e hu0 (hS.holds _ (List.Mem.head _)) (hS.inB_of (List.Mem.head _)) (by omega) (by omega)) rfl rfl rfl ?_; rintro v w ⟨rfl, hmut⟩; have hS := hS.mut hmut .here; clear hmut)
          | (refine WL.callG rfl rfl (left_c r (s.drop p) (0 + u) _ (hS.holds _ (List.Mem.head _)) (by omega) (by omega)) rfl rfl rfl ?_; rintro v w ⟨hup, rfl⟩; have hS := hS.upd0 hup; clear hup; rw [hle]))
        | (show WC _ _ _ _ _ _; first
          | refine WC.seq ?_
          | refine WC.region ?_
          | refine WC.skip ?_
          | refine WC.ret ?_
          | refine WC.condF rfl (by decide) ?_
          | refine WC.condT rfl (decide_eq_true (by first | with_reducible assumption | omega)) ?_
          | refine WC.condF rfl (decide_eq_false (by first | with_reducible assumption | omega)) ?_)
        | refine seqQ_n ?_
        | refine seqQ_r ?_)
      exact fin3r rfl rfl rfl rfl ⟨hS.upd, frV_no (by decide)⟩
    · rw [if_neg h4]
      have hnext : (s.length : Int) - ((s.length - p - u : Nat) : Int) + 4 = Int.ofNat (p + u + 4) := by show _ = ((p + u + 4 : Nat) : Int); omega
      have hcut : (s.take (p + u + 4)).drop p = (s.drop p).take (u + 4) := by rw [List.drop_take]; congr 1; omega
      by_cases hpk : packE x = (s.drop p).take (u + 4)
      case' pos => rw [if_pos hpk]
      case' neg => rw [if_neg hpk]
      all_goals
        repeat' (first
          | (show WL _ _ _ _ _ _ _; first
            | refine WL.pure rfl rfl rfl rfl ?_
            | refine WL.nil ?_
            | refine WL.add rfl rfl rfl (by omega) rfl rfl rfl ?_
            | refine WL.sub rfl rfl rfl (by omega) rfl rfl rfl ?_
            | (refine WL.lowS (j := p) rfl rfl rfl rfl (by omega) rfl rfl rfl ?_)
            | (refine WL.callG rfl rfl (wnew_c (s.drop p) _) rfl rfl rfl ?_; rintro v w ⟨hup, r, rfl, hnew⟩; have hS := hS.new hup hnew)
            | (refine WL.callG rfl rfl (rtext_e hu0 (hS.holds _ (List.Mem.head _)) (hS.inB_of (List.Mem.head _)) (by omega) (by omega)) rfl rfl rfl ?_; rintro v w ⟨rfl, hmut⟩; have hS := hS.mut hmut .here; clear hmut)
            | (refine WL.callG rfl rfl (left_c r (s.drop p) (0 + u) _ (hS.holds _ (List.Mem.head _)) (by omega) (by omega)) rfl rfl rfl ?_; rintro v w ⟨hup, rfl⟩; have hS := hS.upd0 hup; clear hup; rw [hle]))
          | (show WC _ _ _ _ _ _; first
            | refine WC.seq ?_
            | refine WC.region ?_
            | refine WC.skip ?_
            | refine WC.ret ?_
            | (show WC _ _ (Code.region _ (List.toArray [_, _, _, _, _, _, _]) true) _ _ _; refine WC.drawS hS [0,2,3,4,5,6] [0,2,3,4,5,1,6] (by kernel_rfl) (by kernel_rfl) ?_; clear hS; intro w hS hM)
            | refine WC.condF rfl (by decide) ?_
            | refine WC.condT rfl (decide_eq_true (by first | with_reducible assumption | omega)) ?_
            | refine WC.condF rfl (decide_eq_false (by first | with_reducible assumption | omega)) ?_
            | refine WC.condF rfl (by first | (simp; done) | (simp; omega)) ?_)
          | (show WD _ _ _ _ _ _ _ _ _; first
            | refine WD.pure rfl rfl rfl rfl rfl ?_
            | refine WD.nil ?_
            | (refine WD.midS (a := p) (b := p + u + 4) rfl rfl rfl rfl (congrArg (Value.int .i64) hnext) (by omega) (by omega) rfl rfl rfl rfl ?_; rw [hcut])
            | (refine WD.calls hS hM rfl rfl (pack_c x _ (by omega)) rfl rfl rfl rfl rfl ?_; clear hS; rintro v w rfl hS))
          | refine seqQ_n ?_
          | refine seqQ_r ?_)
        all_goals first
          | exact fin3r rfl rfl rfl rfl ⟨hS.upd, frV_no (by decide)⟩
          | exact fin3r rfl rfl rfl rfl ⟨hS.upd, frV_ok (by omega)⟩
  · rw [if_neg he]
    repeat' (first
      | (show WL _ _ _ _ _ _ _; first
        | refine WL.pure rfl rfl rfl rfl ?_
        | refine WL.nil ?_
        | (refine WL.lowS (j := p) rfl rfl rfl rfl (by omega) rfl rfl rfl ?_)
        | (refine WL.callG rfl rfl (wnew_c (s.drop p) _) rfl rfl rfl ?_; rintro v w ⟨hup, r, rfl, hnew⟩; have hS := hS.new hup hnew)
        | (refine WL.callG rfl rfl (rtext_e hu0 (hS.holds _ (List.Mem.head _)) (hS.inB_of (List.Mem.head _)) (by omega) (by omega)) rfl rfl rfl ?_; rintro v w ⟨rfl, hmut⟩; have hS := hS.mut hmut .here; clear hmut))
      | (show WC _ _ _ _ _ _; first
        | refine WC.seq ?_
        | refine WC.region ?_
        | refine WC.skip ?_
        | refine WC.ret ?_
        | refine WC.condT rfl (decide_eq_true (by first | with_reducible assumption | omega)) ?_
        | refine WC.condF rfl (decide_eq_false (by first | with_reducible assumption | omega)) ?_)
      | refine seqQ_n ?_
      | refine seqQ_r ?_)
    exact fin3r rfl rfl rfl rfl ⟨hS.upd, frV_no he⟩
end Go.Proofs.YtccfiohagbneaaaGreatDoor

/- What is proved: what the package frame's scan tells. Conditions: no more than 2^40 bytes. -/
set_option linter.unusedSimpArgs false
set_option linter.unusedVariables false
namespace Go.Proofs.YtccfiohagbneaaaGreatDoor
open Go Go.J Go.RowKit

def scanF : Nat → List UInt8 → List (List UInt8) × Nat × Int
  | 0, _ => ([], 0, 0)
  | k + 1, t => if t = [] then ([], 0, 0) else if (readE t).2.2 = 0 then ((readE t).1 :: (scanF k (t.drop (readE t).2.1)).1, (readE t).2.1 + (scanF k (t.drop (readE t).2.1)).2.1, (scanF k (t.drop (readE t).2.1)).2.2) else ([], 0, (readE t).2.2)
/-- the texts of all frames from the front on, how many bytes they have, why no more -/
def scanE (t : List UInt8) : List (List UInt8) × Nat × Int := scanF t.length t
theorem readE_le (t : List UInt8) (h : (readE t).2.2 = 0) : 4 ≤ (readE t).2.1 ∧ (readE t).2.1 ≤ t.length ∧ (readE t).1.length ≤ t.length := by
  have hr := rtextE_le t
  unfold readE at *
  by_cases h1 : (rtextE t).2.2 = 0
  · rw [if_pos h1] at h ⊢
    by_cases h2 : t.length < (rtextE t).2.1 + 4
    · rw [if_pos h2] at h; simp at h
    · rw [if_neg h2] at h ⊢
      split at h
      · rename_i h3
        rw [if_pos h3]
        have := (hr h1).2
        refine ⟨by show 4 ≤ (rtextE t).2.1 + 4; omega, by show (rtextE t).2.1 + 4 ≤ _; omega, this⟩
      · simp at h
  · rw [if_neg h1] at h; exact absurd h h1
def scV (A : Option Addr) (n cap g : Nat) (e : Int) : Value := .tuple #[.slice A n cap, .int .i64 (g : Int), .int .i64 e]

set_option maxHeartbeats 8000000 in
set_option maxRecDepth 100000 in
theorem fscan_c (s : List UInt8) (w0 : World) (hl : s.length ≤ 1099511627776) : Cal Tryz.prog 67 [str s] w0
    (fun v w' => Upd [] w0 w' ∧ ∃ A cap, v = scV A (scanE s).1.length cap (scanE s).2.1 (scanE s).2.2 ∧ New w0 w' (.own (.slice A (scanE s).1.length cap) 9 1 (scanE s).1.length (strs (scanE s).1))) := by
  refine Cal.mk' (by kernel_rfl) Tryz.func67 rfl rfl fun hS => ?_
  repeat' (first
    | (show WL _ _ _ _ _ _ _; first
      | refine WL.pure rfl rfl rfl rfl ?_
      | refine WL.nil ?_)
    | (show WC _ _ _ _ _ _; first
      | refine WC.seq ?_
      | refine WC.region ?_
      | refine WC.block ?_)
    | refine seqQ_n ?_)
  have hS := hS.nilRow 9 1
  refine WC.loop (σ := Nat × List (List UInt8) × Nat × Option Addr × Nat × Nat) [0] (fun (p, done, n, A, cap, k) => [(2, .slice A n cap), (3, .int .i64 (p : Int))])
    (fun (p, done, n, A, cap, k) w => p ≤ s.length ∧ s.length - p ≤ k ∧ n = done.length ∧ n ≤ p ∧ scanE s = (done ++ (scanF k (s.drop p)).1, p + (scanF k (s.drop p)).2.1, (scanF k (s.drop p)).2.2) ∧ St w0 [] w [.own (.slice A n cap) 9 1 n (strs done)] _)
    (fun (p, _) => s.length - p) (0, [], 0, none, 0, s.length) ⟨Nat.zero_le _, by omega, rfl, Nat.zero_le _, by simp [scanE], hS⟩ ⟨rfl, rfl, trivial⟩ ?_
  clear hS
  rintro ⟨p, done, n, A, cap, k⟩ g w ⟨hp, hk, hn, hnp, hsc, hS⟩
  by_cases hlt : p < s.length
  · have hne : s.drop p ≠ [] := by intro e; have := congrArg List.length e; simp at this; omega
    obtain ⟨k, rfl⟩ : ∃ k', k = k' + 1 := ⟨k - 1, by omega⟩
    have hle := readE_le (s.drop p)
    rcases hr : readE (s.drop p) with ⟨x, u, e⟩
    simp only [scanF, if_neg hne, hr] at hsc
    rw [hr] at hle
    have hlen : (s.drop p).length = s.length - p := by simp
    by_cases he : e = 0
    · subst he
      rw [if_pos rfl] at hsc
      obtain ⟨h4, hu, hx⟩ := hle rfl
      dsimp only at h4 hu hx
      rw [hlen] at hu hx
      have hdd : (s.drop p).drop u = s.drop (p + u) := by rw [List.drop_drop]
      rw [hdd] at hsc
      have hfv : frV p (x, u, 0) = .tuple #[str x, .int .i64 ((p + u : Nat) : Int), .int .i64 0] := by simp [frV]
      clear hle
      repeat' (first
        | (show WL _ _ _ _ _ _ _; first
          | refine WL.pure rfl rfl rfl rfl ?_
          | refine WL.nil ?_
          | (refine WL.calls hS rfl rfl (fread_c s p _ (by omega) (by omega)) rfl rfl rfl ?_; rintro v w rfl hS; rw [hr, hfv])
          | (refine WL.app hS rfl rfl rfl rfl (RdOk.box (by repeat (first | exact List.Mem.head _ | apply List.Mem.tail))) rfl rfl (fun A cap => by repeat (first | exact Repl.here | apply Repl.there)) (by omega) rfl rfl rfl ?_; intro A cap w hS)
          | (refine WL.slit hS rfl rfl rfl rfl rfl ?_; intro w b hS))
        | (show WC _ _ _ _ _ _; first
          | refine WC.seq ?_
          | refine WC.region ?_
          | refine WC.block ?_
          | refine WC.skip ?_
          | refine WC.condF rfl (by decide) ?_
          | refine WC.condT rfl (decide_eq_true (by first | with_reducible assumption | omega)) ?_)
        | refine seqQ_n ?_
        | refine blkQ_n ?_)
      exact rndQ_n (p + u, done ++ [x], n + 1, _, _, k) ⟨by omega, by omega, by simp [hn], by omega, by rw [hsc]; simp [Nat.add_assoc], by rw [← strs_snoc]; exact hS.drop⟩ (by show s.length - (p + u) < s.length - p; omega) ⟨rfl, rfl, trivial⟩ ⟨rfl, trivial⟩
    · rw [if_neg he] at hsc
      have hfv : frV p (x, u, e) = .tuple #[str [], .int .i64 0, .int .i64 e] := by simp [frV, he]
      simp only [List.append_nil, Nat.add_zero] at hsc
      rw [hsc]
      clear hle
      repeat' (first
        | (show WL _ _ _ _ _ _ _; first
          | refine WL.pure rfl rfl rfl rfl ?_
          | refine WL.nil ?_
          | (refine WL.calls hS rfl rfl (fread_c s p _ (by omega) (by omega)) rfl rfl rfl ?_; rintro v w rfl hS; rw [hr, hfv]))
        | (show WC _ _ _ _ _ _; first
          | refine WC.seq ?_
          | refine WC.region ?_
          | refine WC.block ?_
          | refine WC.skip ?_
          | refine WC.ret ?_
          | refine WC.condT rfl (decide_eq_true (by first | with_reducible assumption | omega)) ?_)
        | refine seqQ_n ?_
        | refine seqQ_r ?_
        | refine blkQ_r ?_
        | refine rndQ_r ?_)
      subst hn
      exact fin3r rfl rfl rfl rfl ⟨hS.upd, _, _, rfl, hS.newOf (List.Mem.head _)⟩
  · have hde : s.drop p = [] := List.drop_of_length_le (by omega)
    have hsf : scanF k [] = ([], 0, 0) := by cases k <;> simp [scanF]
    rw [hde, hsf] at hsc
    simp only [List.append_nil, Nat.add_zero] at hsc
    rw [hsc]
    repeat' (first
      | (show WL _ _ _ _ _ _ _; first
        | refine WL.pure rfl rfl rfl rfl ?_
        | refine WL.nil ?_)
      | (show WC _ _ _ _ _ _; first
        | refine WC.seq ?_
        | refine WC.region ?_
        | refine WC.exit ?_
        | refine WC.ret ?_
        | refine WC.condF rfl (decide_eq_false (by first | with_reducible assumption | omega)) ?_)
      | refine seqQ_n ?_
      | refine seqQ_x ?_
      | refine blkQ_hit rfl ?_
      | refine rndQ_x ?_)
    subst hn
    exact fin3r rfl rfl rfl rfl ⟨hS.upd, _, _, rfl, hS.newOf (List.Mem.head _)⟩
end Go.Proofs.YtccfiohagbneaaaGreatDoor

/- What is proved: functions that change several chunks at once. Conditions: as each rule names them. -/
set_option linter.unusedSimpArgs false
set_option linter.unusedVariables false
namespace Go.J
open Go Go.RowKit

def fps (D : List Chunk) : List Nat := D.flatMap Chunk.fp
theorem mem_fps {D : List Chunk} {b : Nat} : b ∈ fps D ↔ ∃ c ∈ D, b ∈ c.fp := by simp [fps]
/-- D has become D' -/
structure MutL (w w' : World) (D D' : List Chunk) : Prop where
  upd : Upd (fps D) w w'
  holds : ∀ c ∈ D', c.holds w'
  fp : ∀ c ∈ D', ∀ b ∈ c.fp, b ∈ fps D ∨ (w.heap.size ≤ b ∧ b < w'.heap.size)
  disj : D'.Pairwise Chunk.apart
structure InL (w : World) (D : List Chunk) : Prop where
  holds : ∀ c ∈ D, c.holds w
  inb : ∀ c ∈ D, inB c w
  disj : D.Pairwise Chunk.apart
inductive Pulls : List Chunk → List Chunk → List Chunk → Prop where
  | nil {H : List Chunk} : Pulls [] H H
  | cons {c : Chunk} {D H H1 H2 : List Chunk} : Pull c H H1 → Pulls D H1 H2 → Pulls (c :: D) H H2
theorem Pulls.perm {D H H' : List Chunk} (h : Pulls D H H') : H.Perm (D ++ H') := by
  induction h with
  | nil => exact .refl _
  | cons h _ ih => exact h.perm.trans (.cons _ ih)
section
variable {w0 w w' : World} {M : List Nat} {H H' D D' : List Chunk} {Z : List Snap} {c c' : Chunk}
theorem St.pulls (hS : St w0 M w H Z) (h : Pulls D H H') : St w0 M w (D ++ H') Z := hS.perm h.perm
theorem St.inL (hS : St w0 M w (D ++ H) Z) : InL w D :=
  ⟨fun c hc => hS.holds c (List.mem_append_left _ hc), fun c hc b hb => (hS.inb c (List.mem_append_left _ hc) b hb).1, (List.pairwise_append.1 hS.disj).1⟩
theorem St.mutL (hS : St w0 M w (D ++ H) Z) (hm : MutL w w' D D') : St w0 M w' (D' ++ H) Z := by
  have hin : ∀ b ∈ fps D, b < w.heap.size ∧ (w0.heap.size ≤ b ∨ b ∈ M) := fun b hb => by
    obtain ⟨c, hc, hb⟩ := mem_fps.1 hb
    exact hS.inb c (List.mem_append_left _ hc) b hb
  have hap : ∀ d ∈ H, ∀ b ∈ d.fp, b ∉ fps D := fun d hd b hb hbD => by
    obtain ⟨c, hc, hb2⟩ := mem_fps.1 hbD
    exact (List.pairwise_append.1 hS.disj).2.2 c hc d hd b hb2 hb
  refine ⟨?_, ?_, ?_, ?_, ?_⟩
  · exact ⟨hm.upd.os.trans hS.upd.os, hm.upd.tape.trans hS.upd.tape, hm.upd.output.trans hS.upd.output, Nat.le_trans hS.upd.size hm.upd.size, fun b hb hn => by
      have hn' : b ∉ fps D := fun h => by
        rcases (hin b h).2 with h1 | h1
        · omega
        · exact hn h1
      exact (hm.upd.block b (Nat.lt_of_lt_of_le hb hS.upd.size) hn').trans (hS.upd.block b hb hn)⟩
  · intro d hd
    rcases List.mem_append.1 hd with h | h
    · exact hm.holds d h
    · exact Chunk.keep (hS.holds d (List.mem_append_right _ h)) fun b hb => hm.upd.block b (hS.inb d (List.mem_append_right _ h) b hb).1 (hap d h b hb)
  · intro d hd b hb
    rcases List.mem_append.1 hd with h | h
    · rcases hm.fp d h b hb with h1 | h1
      · exact ⟨Nat.lt_of_lt_of_le (hin b h1).1 hm.upd.size, (hin b h1).2⟩
      · exact ⟨h1.2, .inl (Nat.le_trans hS.upd.size h1.1)⟩
    · have := hS.inb d (List.mem_append_right _ h) b hb
      exact ⟨Nat.lt_of_lt_of_le this.1 hm.upd.size, this.2⟩
  · refine List.pairwise_append.2 ⟨hm.disj, (List.pairwise_append.1 hS.disj).2.1, fun c hc d hd b hb hbd => ?_⟩
    rcases hm.fp c hc b hb with h1 | h1
    · exact hap d hd b hbd h1
    · have := (hS.inb d (List.mem_append_right _ hd) b hbd).1; omega
  · intro z hz b hb
    obtain ⟨h1, h2, h3⟩ := hS.snap z hz b hb
    have hn : b ∉ fps D := fun h => by
      obtain ⟨c, hc, hb2⟩ := mem_fps.1 h
      exact h3 c (List.mem_append_left _ hc) hb2
    refine ⟨Nat.lt_of_lt_of_le h1 hm.upd.size, (hm.upd.block b h1 hn).trans h2, fun d hd hbd => ?_⟩
    rcases List.mem_append.1 hd with h | h
    · rcases hm.fp d h b hbd with h4 | h4
      · exact hn h4
      · omega
    · exact h3 d (List.mem_append_right _ h) hbd
theorem St.initL (h : InL w D) : St w (fps D) w D [⟨w, fun b => b < w.heap.size ∧ b ∉ fps D⟩] :=
  ⟨.refl _ _, h.holds, fun c hc b hb => ⟨h.inb c hc b hb, .inr (mem_fps.2 ⟨c, hc, hb⟩)⟩, h.disj, fun z hz b hbz => by
    simp at hz; subst hz; exact ⟨hbz.1, rfl, fun d hd hbd => hbz.2 (mem_fps.2 ⟨d, hd, hbd⟩)⟩⟩
theorem St.mutLOf (hS : St w0 (fps D) w (D' ++ H) Z) : MutL w0 w D D' :=
  ⟨hS.upd, fun c hc => hS.holds c (List.mem_append_left _ hc), fun c hc b hb => by
    have h := hS.inb c (List.mem_append_left _ hc) b hb
    rcases h.2 with h2 | h2
    · exact .inr ⟨h2, h.1⟩
    · exact .inl h2, (List.pairwise_append.1 hS.disj).1⟩
theorem St.mutLp (hS : St w0 (fps D) w H Z) (hp : Pulls D' H H') : MutL w0 w D D' := (hS.pulls hp).mutLOf
theorem MutL.of1 (h : Mut w w' c c') : MutL w w' [c] [c'] :=
  ⟨by simpa [fps] using h.upd, by simpa using h.holds, by simpa [fps] using h.fp, by simp⟩
theorem MutL.to1 (h : MutL w w' [c] [c']) : Mut w w' c c' :=
  ⟨by simpa [fps] using h.upd, by simpa using h.holds, by simpa [fps] using h.fp⟩
theorem InL.of1 (h : c.holds w) (hi : inB c w) : InL w [c] := ⟨by simpa using h, by simpa using hi, by simp⟩
theorem InL.head (h : InL w (c :: D)) : c.holds w := h.holds c (List.mem_cons_self ..)
theorem InL.headB (h : InL w (c :: D)) : inB c w := h.inb c (List.mem_cons_self ..)
theorem InL.sub (h : InL w D) (hp : Pulls D' D H) : InL w D' := by
  have hp := hp.perm
  refine ⟨fun c hc => h.holds c (hp.mem_iff.2 (List.mem_append_left _ hc)), fun c hc => h.inb c (hp.mem_iff.2 (List.mem_append_left _ hc)), ?_⟩
  exact (List.pairwise_append.1 ((hp.pairwise_iff (fun {a b} h => Chunk.apart_symm h)).1 h.disj)).1
theorem MutL.refl (h : InL w D) : MutL w w D D :=
  ⟨.refl _ _, h.holds, fun c hc b hb => .inl (mem_fps.2 ⟨c, hc, hb⟩), h.disj⟩
/-- chunks that nobody asks for any more -/
theorem MutL.drop (h : MutL w w' D (c :: D')) : MutL w w' D D' :=
  ⟨h.upd, fun d hd => h.holds d (List.mem_cons_of_mem _ hd), fun d hd => h.fp d (List.mem_cons_of_mem _ hd), (List.pairwise_cons.1 h.disj).2⟩
theorem St.droplast2 {D H' : List Chunk} (hS : St w0 M w H Z) (hp : Pulls D H H') : St w0 M w D Z := by
  have h := hS.pulls hp
  exact ⟨h.upd, fun c hc => h.holds c (List.mem_append_left _ hc), fun c hc => h.inb c (List.mem_append_left _ hc), (List.pairwise_append.1 h.disj).1, fun z hz b hb => by
    obtain ⟨h1, h2, h3⟩ := h.snap z hz b hb
    exact ⟨h1, h2, fun d hd => h3 d (List.mem_append_left _ hd)⟩⟩
theorem St.droplast (hS : St w0 M w (D ++ H) Z) : St w0 M w D Z :=
  ⟨hS.upd, fun c hc => hS.holds c (List.mem_append_left _ hc), fun c hc => hS.inb c (List.mem_append_left _ hc), (List.pairwise_append.1 hS.disj).1, fun z hz b hb => by
    obtain ⟨h1, h2, h3⟩ := hS.snap z hz b hb
    exact ⟨h1, h2, fun d hd => h3 d (List.mem_append_left _ hd)⟩⟩
end
theorem Cal.mkL {P : Program} {fid : FuncId} {fn : Func} {c : Code} {args : List Value} {w : World} {R : Value → World → Prop} {D : List Chunk} (hi : InL w D) (hk : callOk P fid = true)
    (hf : P.funcs[fid]? = some fn) (hb : fn.body = some c) (hn : Nat.ble args.length fn.ntmps = true)
    (h : St w (fps D) w D [⟨w, fun b => b < w.heap.size ∧ b ∉ fps D⟩] → WC P fn.ntmps c (fr0 args) w (funQ P fn.results fn (Ret R))) : Cal P fid args w R :=
  ⟨hk, J.calls hf hb hn (h (St.initL hi))⟩
section
variable {P : Program} {N : Fz} {f : Fr} {w w0 : World} {Q : Post} {ops l : List Oper} {o : Oper} {M : List Nat} {H H' D : List Chunk} {Z : List Snap}
/-- values whose forms are known -/
def evN (ρ : Operand → Value) : List Operand → Option (List Value)
  | [] => some []
  | x :: xs => match nfv (ρ x) with
    | some v => match evN ρ xs with
      | some r => some (v :: r)
      | none => none
    | none => none
theorem evN_eq {ρ : Operand → Value} : ∀ {l : List Operand} {r : List Value}, evN ρ l = some r → l.map ρ = r
  | [], r, h => by simp only [evN, Option.some.injEq] at h; subst h; rfl
  | x :: xs, r, h => by
    unfold evN at h
    cases h1 : nfv (ρ x) with
    | none => rw [h1] at h; cases h
    | some v =>
      rw [h1] at h
      cases h2 : evN ρ xs with
      | none => rw [h2] at h; cases h
      | some r' =>
        rw [h2] at h
        simp only [Option.some.injEq] at h
        rw [List.map_cons, evN_eq h2, ← h, ← nfv_eq h1]
theorem WL.mkF {fn : Fn} {first cap : List Operand} {fl cl : List Value} (ho : o.op = .makeFunc fn ⟨first⟩ ⟨cap⟩) (h1 : evN (ev f) first = some fl) (h2 : evN (ev f) cap = some cl)
    (hg : wants ops f o = true) {d : Nat} (hd : o.dst = some d) (hn : N.ok d = true) (h : WL P N ops l (up f d (.func fn ⟨fl⟩ ⟨cl⟩)) w Q) : WL P N ops (o :: l) f w Q := by
  refine .pure (v := .func fn ⟨fl⟩ ⟨cl⟩) ?_ hg hd hn h
  unfold pureV
  rw [ho]
  simp only [pureOp, evN_eq h1, evN_eq h2]
  rfl
/-- append of nothing -/
theorem run_app0 {ρ : Operand → Value} {s x : Operand} {t e : TypeId} {size bytes n cap c : Nat} {A : Option Addr} (ho : o.op = .call ⟨.builtin .append, ⟨[s, x]⟩, ⟨[t, t]⟩⟩) (hi : appOf P t = some (e, size, bytes))
    (hs : ρ s = .slice A n cap) (hx : ρ x = .slice none 0 c) (hc : n ≤ cap) : (execOp ρ o).run P w = .ok (.value (.slice A n cap)) w := by
  obtain ⟨i, z, hu, hinfo, hz, rfl, rfl, hzs, h0, h0b⟩ := appOf_spec hi
  have hr : (Builtin.append_ #[t, t] o.type #[.slice A n cap, .slice none 0 c]).run P w = .ok (.slice A n cap) w := by
    cases A with
    | none => simp [Builtin.append_, run_underlying hu, sizeOf, typeInfo, hinfo, Builtin.lenOf, Builtin.firstCells, hc]
    | some a => simp [Builtin.append_, run_underlying hu, sizeOf, typeInfo, hinfo, Builtin.lenOf, Builtin.firstCells, hc, storeCells]
  unfold execOp
  simp only [ho, resolve, invoke, builtin, Sem.run_bind, Sem.run_pure, Result.andThen_ok, List.map_toArray, List.map_cons, List.map_nil, hs, hx, hr]
/-- cells that a slice value leads to, or none -/
def RdSl (H : List Chunk) (Z : List Snap) (B : Option Addr) (m : Nat) (news : List Value) : Prop := (B = none ∧ m = 0 ∧ news = []) ∨ ∃ b off, B = some ⟨b, off, none⟩ ∧ RdOk H Z b off news
theorem RdSl.own {A : Option Addr} {n cap n' : Nat} {e : TypeId} {size : Nat} {xs : List Value} (hS : St w0 M w H Z) (hm : Chunk.own (.slice A n cap) e size n' xs ∈ H) : RdSl H Z A n xs := by
  have h := hS.holds _ hm
  rcases h.2 with ⟨h2, rfl⟩ | ⟨g, off, cap', cur, h2, _⟩
  · simp only [Value.slice.injEq] at h2
    obtain ⟨rfl, rfl, rfl⟩ := h2
    exact .inl ⟨rfl, rfl, List.eq_nil_of_length_eq_zero (by rw [h.1, Nat.zero_mul])⟩
  · simp only [Value.slice.injEq] at h2
    obtain ⟨rfl, rfl, rfl⟩ := h2
    exact .inr ⟨g, off, rfl, .own0 hm⟩
theorem WL.appS {s x : Operand} {t e : TypeId} {size bytes n m cap c : Nat} {A B : Option Addr} {xs news : List Value} {H' : Option Addr → Nat → List Chunk} (hS : St w0 M w H Z) (ho : o.op = .call ⟨.builtin .append, ⟨[s, x]⟩, ⟨[t, t]⟩⟩) (hi : appOf P t = some (e, size, bytes))
    (hs : ev f s = .slice A n cap) (hx : ev f x = .slice B m c) (hnews : RdSl H Z B m news) (hl : news.length = m * size) (h1 : one news = true)
    (hr : ∀ A' cap', Repl (.own (.slice A n cap) e size n xs) (.own (.slice A' (n + m) cap') e size (n + m) (xs ++ news)) H (H' A' cap')) (hb : (n + m) * bytes ≤ 140737488355328)
    (hg : wants ops f o = true) {d : Nat} (hd : o.dst = some d) (hn : N.ok d = true)
    (h : ∀ A' cap' w', St w0 M w' (H' A' cap') Z → WL P N ops l (up f d (.slice A' (n + m) cap')) w' Q) : WL P N ops (o :: l) f w Q := by
  rcases hnews with ⟨rfl, rfl, rfl⟩ | ⟨b, off, rfl, hnews⟩
  · have hc := (hS.own_len (hr none 0).mem).2.2
    have h' := h A cap w (hS.recast (hr A cap) (fun h => by simpa using h) (fun b hb => hb))
    exact .val hg hd hn (run_app0 ho hi hs hx hc) h'
  · exact .app hS ho hi hs hx hnews hl h1 hr hb hg hd hn h
/-- a call that may change the chunks D -/
theorem WL.callL {fid : FuncId} {xs : List Operand} {ts : Array TypeId} {args : List Value} {R : Value → World → Prop} (hS : St w0 M w H Z) (hp : Pulls D H H') (ho : o.op = .call ⟨.value (.func fid), ⟨xs⟩, ts⟩) (ha : xs.map (ev f) = args) (hc : InL w D → Cal P fid args w R)
    (hg : wants ops f o = true) {d : Nat} (hd : o.dst = some d) (hn : N.ok d = true) (h : ∀ v w', R v w' → (∀ D', MutL w w' D D' → St w0 M w' (D' ++ H') Z) → WL P N ops l (up f d v) w' Q) : WL P N ops (o :: l) f w Q :=
  have hS' := hS.pulls hp
  .callG ho ha (hc hS'.inL) hg hd hn fun v w' hR => h v w' hR fun D' hm => hS'.mutL hm
theorem WL.callFL {x : Operand} {xs : List Operand} {ts : Array TypeId} {fid : FuncId} {first cap args : List Value} {R : Value → World → Prop} (hS : St w0 M w H Z) (hp : Pulls D H H') (ho : o.op = .call ⟨.value x, ⟨xs⟩, ts⟩) (hx : ev f x = .func (.func fid) ⟨first⟩ ⟨cap⟩) (ha : first ++ xs.map (ev f) ++ cap = args) (hc : InL w D → Cal P fid args w R)
    (hg : wants ops f o = true) {d : Nat} (hd : o.dst = some d) (hn : N.ok d = true) (h : ∀ v w', R v w' → (∀ D', MutL w w' D D' → St w0 M w' (D' ++ H') Z) → WL P N ops l (up f d v) w' Q) : WL P N ops (o :: l) f w Q :=
  have hS' := hS.pulls hp
  .callF ho hx ha (hc hS'.inL) hg hd hn fun v w' hR => h v w' hR fun D' hm => hS'.mutL hm
end
section
variable {P : Program} {N : Fz} {f : Fr} {w w0 : World} {Q : Post} {ops : List Oper} {M : List Nat} {H0 H H' D : List Chunk} {Z0 Z : List Snap} {q : Qs} {l : List Nat} {i : Nat}
theorem More.app {D' : List Chunk} (h : More H0 Z0 H Z) : More H0 Z0 (D' ++ H) Z := by
  obtain ⟨a, b, h1, h2⟩ := h; exact ⟨D' ++ a, b, by rw [h1, List.append_assoc], h2⟩
/-- a region that draws its order, and does not lean on D -/
theorem WC.drawL {id : Nat} (D : List Chunk) (hS : St w0 M w H Z) (hp : Pulls D H H') (q l : List Nat) (hm : P.follows .mixedOrders = true)
    (hk : (Region.noSelect ops.toArray && ordOk ops.toArray ⟨q, .nil⟩ (Array.replicate ops.toArray.size false) l && Nat.beq l.length ops.length) = true)
    (h : ∀ w', St w0 M w' (D ++ H') Z → More H' Z (D ++ H') Z → WD P N (SS w0 M H' Z) ops ⟨q, .nil⟩ l f w' Q) (hok : okR N ops = true := by rfl) : WC P N (.region id ops.toArray true) f w Q := by
  have hS' := hS.pulls hp
  simp only [Bool.and_eq_true] at hk
  exact WC.draw (SS w0 M H' Z) ⟨q, .nil⟩ l hm hk.1.1 hk.1.2 hk.2 ((More.app (.refl _ _)).ss hS'.drew) (h _ hS'.drew (More.app (.refl _ _))) hok
/-- a call in such a region -/
theorem WD.callL {fid : FuncId} {xs : List Operand} {ts : Array TypeId} {args : List Value} {R : Value → World → Prop} (hS : St w0 M w H Z) (hp : Pulls D H H') (hM : More H0 Z0 H' Z) (ho : (ix ops i).op = .call ⟨.value (.func fid), ⟨xs⟩, ts⟩) (ha : xs.map (ev f) = args)
    (hc : InL w D → Cal P fid args w R) (hq : q.contains i = false) (hi : Nat.blt i ops.length = true) (hg : wants ops f (ix ops i) = true) {d : Nat} (hd : (ix ops i).dst = some d) (hn : N.ok d = true)
    (h : ∀ v w', R v w' → ∃ D', MutL w w' D D' ∧ (St w0 M w' (D' ++ H') Z → More H0 Z0 (D' ++ H') Z → WD P N (SS w0 M H0 Z0) ops q l (up f d v) w' Q)) : WD P N (SS w0 M H0 Z0) ops q (i :: l) f w Q :=
  have hS' := hS.pulls hp
  .enter hq hi hg hd hn (run_callOp ho ha (hc hS'.inL).ok) (hc hS'.inL).calls fun v w' hR => by
    obtain ⟨D', hm, hk⟩ := h v w' hR
    have hS2 := hS'.mutL hm
    exact ⟨(More.app hM).ss hS2, hk hS2 (More.app hM)⟩
/-- a region that draws its order, of which the effect 'i' and those behind it spoil what was known -/
theorem WC.drawV {id : Nat} (hS : St w0 M w H Z) (q l : List Nat) (i : Nat) (l2 : List Nat) (hm : P.follows .mixedOrders = true)
    (hk : (Region.noSelect ops.toArray && ordOk ops.toArray ⟨q, .piv i l2⟩ (Array.replicate ops.toArray.size false) l && Nat.beq (l.length + (l2.length + 1)) ops.length) = true)
    (h : ∀ w', St w0 M w' H Z → More H Z H Z → WD P N (SS w0 M H Z) ops ⟨q, .piv i l2⟩ l f w' Q) (hok : okR N ops = true := by rfl) : WC P N (.region id ops.toArray true) f w Q := by
  simp only [Bool.and_eq_true] at hk
  exact WC.draw (SS w0 M H Z) ⟨q, .piv i l2⟩ l hm hk.1.1 hk.1.2 hk.2 ((More.refl H Z).ss hS.drew) (h _ hS.drew (.refl _ _)) hok
theorem SS.any (hS : St w0 M w H Z) : SS w0 M [] [] w := ⟨H, Z, by simpa using hS⟩
theorem More.none : More [] [] H Z := ⟨H, Z, by simp, by simp⟩
theorem WD.pivStore {qs : List Nat} {ty : TypeId} {x y : Operand} {b off : Nat} {vs : List Value} {S : World → Prop} (hS : St w0 M w H Z) (ho : (ix ops i).op = .store ty x y) (hx : ev f x = .pointer (some ⟨b, off, none⟩)) (hy : cellsO (ev f y) = some vs) (hr : StB b off vs H H') (hn : tySize P ty = some vs.length)
    (hi : Nat.blt i ops.length = true) (hg : wants ops f (ix ops i) = true) (hd : (ix ops i).dst = none) (h : ∀ w', St w0 M w' H' Z → More [] [] H' Z → WD P N (SS w0 M [] []) ops ⟨qs, .nil⟩ l f w' Q) : WD P N S ops ⟨qs, .piv i l⟩ [] f w Q := by
  refine .piv (S2 := SS w0 M [] []) ?_
  obtain ⟨t, cs, cs', hrp, hs⟩ := hr.repl
  have hy' := cellsO_eq hy
  have hb := hS.holds _ hrp.mem
  have hrun := run_storeBox (P := P) ho hx hb (by rw [hy']; exact hs) (by rw [hy']; exact hn)
  have hS' := hS.setBox hrp
  exact .unit0 hi hg hd hrun (SS.any hS') (h _ hS' .none)
end
end Go.J

/- What is proved: plain facts on frames: what was packed is read, and a turned bit is told. Conditions: texts of bounded length. -/
set_option linter.unusedSimpArgs false
set_option linter.unusedVariables false
namespace Go.J
open Go

theorem crcS_inj {a b : Nat} (ha : a < 4294967296) (hb : b < 4294967296) (h : crcS a = crcS b) : a = b := by
  have t : ∀ m, m < 2147483648 → m.testBit 31 = false := fun m hm => Nat.testBit_lt_two_pow (by omega)
  have tp : (3988292384 : Nat).testBit 31 = true := by decide
  unfold crcS at h
  have h31 := congrArg (fun n => Nat.testBit n 31) h
  simp only [Nat.testBit_xor, t (a / 2) (by omega), t (b / 2) (by omega), Bool.false_bne] at h31
  by_cases pa : a % 2 = 1 <;> by_cases pb : b % 2 = 1
  · rw [if_pos pa, if_pos pb] at h
    have := congrArg (fun n => n ^^^ 3988292384) h
    simp only [Nat.xor_assoc, Nat.xor_self, Nat.xor_zero] at this
    omega
  · rw [if_pos pa, if_neg pb] at h31; simp [tp] at h31
  · rw [if_neg pa, if_pos pb] at h31; simp [tp] at h31
  · rw [if_neg pa, if_neg pb] at h
    simp only [Nat.xor_zero] at h
    omega
theorem crcN_inj : ∀ (j : Nat) {a b : Nat}, a < 4294967296 → b < 4294967296 → crcN j a = crcN j b → a = b
  | 0, _, _, _, _, h => h
  | j + 1, _, _, ha, hb, h => crcS_inj ha hb (crcN_inj j (crcS_lt ha) (crcS_lt hb) h)
theorem xor_lt32 {a : Nat} (h : a < 4294967296) (x : UInt8) : a ^^^ x.toNat < 4294967296 := Nat.xor_lt_two_pow (n := 32) h (by have := x.toNat_lt; omega)
theorem crcB_inj {a b : Nat} (ha : a < 4294967296) (hb : b < 4294967296) {x : UInt8} (h : crcB a x = crcB b x) : a = b := by
  have h := crcN_inj 8 (xor_lt32 ha x) (xor_lt32 hb x) h
  have := congrArg (fun n => n ^^^ x.toNat) h
  simpa only [Nat.xor_assoc, Nat.xor_self, Nat.xor_zero] using this
theorem crcB_inj2 {a : Nat} (ha : a < 4294967296) {x y : UInt8} (h : crcB a x = crcB a y) : x = y := by
  have h := crcN_inj 8 (xor_lt32 ha x) (xor_lt32 ha y) h
  have := congrArg (fun n => a ^^^ n) h
  simp only [← Nat.xor_assoc, Nat.xor_self, Nat.zero_xor] at this
  exact UInt8.toNat.inj this
theorem crcL_inj : ∀ (s : List UInt8) {a b : Nat}, a < 4294967296 → b < 4294967296 → crcL a s = crcL b s → a = b
  | [], _, _, _, _, h => h
  | x :: s, _, _, ha, hb, h => crcB_inj ha hb (crcL_inj s (crcB_lt ha x) (crcB_lt hb x) h)
/-- one byte that is another one makes another checksum -/
theorem sumE_byte (u v : List UInt8) (x y : UInt8) (h : sumE (u ++ x :: v) = sumE (u ++ y :: v)) : x = y := by
  have h2 := congrArg (fun n => 4294967295 ^^^ n) h
  simp only [sumE, ← Nat.xor_assoc, Nat.xor_self, Nat.zero_xor] at h2
  unfold crcL at h2
  rw [List.foldl_append, List.foldl_append] at h2
  have hu : crcL 4294967295 u < 4294967296 := crcL_lt u (by omega)
  exact crcB_inj2 hu (crcL_inj v (crcB_lt hu x) (crcB_lt hu y) h2)
theorem le4_inj {a b : Nat} (ha : a < 4294967296) (hb : b < 4294967296) (h : le4 a = le4 b) : a = b := by
  simp only [le4, List.cons.injEq, and_true] at h
  obtain ⟨h1, h2, h3, h4⟩ := h
  have k : ∀ n m : Nat, n < 256 → m < 256 → UInt8.ofNat n = UInt8.ofNat m → n = m := fun n m hn hm h => by
    have := congrArg UInt8.toNat h
    rwa [ofNat_toNat hn, ofNat_toNat hm] at this
  have h1 := k _ _ (by omega) (by omega) h1
  have h2 := k _ _ (by omega) (by omega) h2
  have h3 := k _ _ (by omega) (by omega) h3
  have h4 := k _ _ (by omega) (by omega) h4
  omega
theorem le4_len (n : Nat) : (le4 n).length = 4 := rfl
end Go.J
namespace Go.Proofs.YtccfiohagbneaaaGreatDoor
open Go Go.J Go.RowKit
theorem uintE_put (n : Nat) (hn : n < 9223372036854775808) (t : List UInt8) : uintE (putN n ++ t) = (n, (putN n).length, 0) := by
  have h := varE_put n n (Nat.le_refl _) 0 0 t (.inr rfl) (by omega) (by simp; omega)
  simp only [Nat.pow_zero, Nat.mul_one, Nat.zero_add] at h
  unfold uintE
  rw [h]
  simp [hn]
theorem rtextE_text (s t : List UInt8) (h : s.length < 9223372036854775808) : rtextE (putN s.length ++ (s ++ t)) = (s, s.length + (putN s.length).length, 0) := by
  unfold rtextE
  rw [uintE_put _ h]
  simp only [if_true, List.length_append]
  rw [if_pos (by omega)]
  simp
/-- what was packed is read -/
theorem readE_pack (s t : List UInt8) (h : s.length < 9223372036854775808) : readE (packE s ++ t) = (s, (packE s).length, 0) := by
  have e : packE s ++ t = putN s.length ++ (s ++ (le4 (sumE s) ++ t)) := by simp [packE, textE]
  have hl : (packE s).length = s.length + (putN s.length).length + 4 := by simp [packE, textE, le4_len]; omega
  unfold readE
  rw [e, rtextE_text s _ h, ← e]
  simp only [if_true]
  rw [if_neg (by simp [hl]), if_pos (by rw [← hl]; simp), ← hl]
theorem append_eq_of_len {α : Type} {a b c d : List α} (h : a ++ b = c ++ d) (hl : a.length = c.length) : a = c ∧ b = d := List.append_inj h hl
/-- a frame of which a byte behind the length is another one is refused: its checksum doesn't hold -/
theorem readE_rot (s : List UInt8) (j : Nat) (x : UInt8) (t : List UInt8) (h : s.length < 9223372036854775808) (h1 : (putN s.length).length ≤ j) (h2 : j < (packE s).length) (hx : (packE s)[j]? ≠ some x) :
    readE ((packE s).set j x ++ t) = ([], 0, 6) := by
  have hl : (packE s).length = s.length + (putN s.length).length + 4 := by simp [packE, textE, le4_len]; omega
  -- the text and the four bytes, of which one is another
  have key : ∃ s' z, (packE s).set j x = putN s.length ++ (s' ++ z) ∧ s'.length = s.length ∧ z.length = 4 ∧ z ≠ le4 (sumE s') := by
    by_cases hj : j < (putN s.length).length + s.length
    · obtain ⟨k, rfl⟩ : ∃ k, j = (putN s.length).length + k := ⟨j - (putN s.length).length, by omega⟩
      have hk : k < s.length := by omega
      refine ⟨s.set k x, le4 (sumE s), ?_, by simp, le4_len _, fun he => hx ?_⟩
      · unfold packE textE
        rw [List.append_assoc, List.set_append_right _ _ (by omega), List.set_append_left _ _ (by omega), Nat.add_sub_cancel_left]
      · have he := le4_inj (sumE_lt _) (sumE_lt _) he
        have hs : s = s.take k ++ s[k] :: s.drop (k + 1) := by simp
        have hs' : s.set k x = s.take k ++ x :: s.drop (k + 1) := List.set_eq_take_append_cons_drop .. |>.trans (by rw [if_pos hk])
        rw [hs'] at he
        have he2 : sumE (s.take k ++ s[k] :: s.drop (k + 1)) = sumE (s.take k ++ x :: s.drop (k + 1)) := by rw [← hs]; exact he
        have := sumE_byte _ _ _ _ he2
        unfold packE textE
        rw [List.append_assoc, List.getElem?_append_right (by omega), Nat.add_sub_cancel_left, List.getElem?_append_left hk, List.getElem?_eq_getElem hk, this]
    · obtain ⟨k, rfl⟩ : ∃ k, j = (putN s.length).length + s.length + k := ⟨j - ((putN s.length).length + s.length), by omega⟩
      have hk : k < 4 := by omega
      refine ⟨s, (le4 (sumE s)).set k x, ?_, rfl, by simp [le4_len], fun he => hx ?_⟩
      · unfold packE textE
        rw [List.append_assoc, List.set_append_right _ _ (by omega), List.set_append_right _ _ (by omega)]
        congr 3; omega
      · unfold packE textE
        rw [List.append_assoc, List.getElem?_append_right (by omega), List.getElem?_append_right (by omega)]
        have e2 : (putN s.length).length + s.length + k - (putN s.length).length - s.length = k := by omega
        rw [e2, ← he, List.getElem?_set_self (by simpa [le4_len] using hk)]
  obtain ⟨s', z, e, hs', hz, hne⟩ := key
  have e2 : (packE s).set j x ++ t = putN s'.length ++ (s' ++ (z ++ t)) := by rw [e, hs']; simp
  unfold readE
  rw [e2, rtextE_text s' _ (by omega)]
  simp only [if_true, List.length_append]
  rw [if_neg (by omega), if_neg ?_]
  intro hp
  have ht : (putN s'.length ++ (s' ++ (z ++ t))).take (s'.length + (putN s'.length).length + 4) = putN s'.length ++ (s' ++ z) := by
    have : putN s'.length ++ (s' ++ (z ++ t)) = (putN s'.length ++ (s' ++ z)) ++ t := by simp
    rw [this, List.take_append_of_le_length (by simp; omega), List.take_of_length_le (by simp; omega)]
  rw [ht] at hp
  unfold packE textE at hp
  rw [List.append_assoc] at hp
  have := List.append_cancel_left (List.append_cancel_left hp)
  exact hne this.symm
end Go.Proofs.YtccfiohagbneaaaGreatDoor

/- What is proved: plain facts on a file of frames: what is read of it whole, torn, or rotten. Conditions: texts of bounded length. -/
set_option linter.unusedSimpArgs false
set_option linter.unusedVariables false
namespace Go.Proofs.YtccfiohagbneaaaGreatDoor
open Go Go.J Go.RowKit

def frames (l : List (List UInt8)) : List UInt8 := l.flatMap packE
theorem frames_app (a b : List (List UInt8)) : frames (a ++ b) = frames a ++ frames b := List.flatMap_append
theorem frames_one (s : List UInt8) : frames [s] = packE s := by simp [frames]
theorem packE_len (s : List UInt8) : (packE s).length = (putN s.length).length + s.length + 4 := by simp [packE, textE, le4_len]; omega
theorem putN_pos (n : Nat) : 0 < (putN n).length := by
  rcases Nat.eq_zero_or_pos (putN n).length with h | h
  · exact absurd (List.eq_nil_of_length_eq_zero h) (putN_ne n)
  · exact h
theorem scanF_fuel : ∀ (k k' : Nat) (t : List UInt8), t.length ≤ k → t.length ≤ k' → scanF k t = scanF k' t
  | 0, k', t, h, h' => by
    obtain rfl : t = [] := List.eq_nil_of_length_eq_zero (by omega)
    cases k' with
    | zero => rfl
    | succ k' => simp [scanF]
  | k + 1, 0, t, h, h' => by
    obtain rfl : t = [] := List.eq_nil_of_length_eq_zero (by omega)
    simp [scanF]
  | k + 1, k' + 1, t, h, h' => by
    unfold scanF
    by_cases h0 : t = []
    · rw [if_pos h0, if_pos h0]
    · rw [if_neg h0, if_neg h0]
      by_cases he : (readE t).2.2 = 0
      · rw [if_pos he, if_pos he]
        have := readE_le t he
        have hd : (t.drop (readE t).2.1).length ≤ k ∧ (t.drop (readE t).2.1).length ≤ k' := by rw [List.length_drop]; omega
        rw [scanF_fuel k k' _ hd.1 hd.2]
      · rw [if_neg he, if_neg he]
theorem scanE_nil : scanE [] = ([], 0, 0) := rfl
theorem scanE_bad {t : List UInt8} (h0 : t ≠ []) (he : (readE t).2.2 ≠ 0) : scanE t = ([], 0, (readE t).2.2) := by
  unfold scanE
  cases t with
  | nil => exact absurd rfl h0
  | cons c t => rw [List.length_cons]; unfold scanF; rw [if_neg h0, if_neg he]
theorem scanE_cons (s t : List UInt8) (h : s.length < 9223372036854775808) : scanE (packE s ++ t) = (s :: (scanE t).1, (packE s).length + (scanE t).2.1, (scanE t).2.2) := by
  have hr := readE_pack s t h
  have hl := packE_len s
  have hp := putN_pos s.length
  unfold scanE
  obtain ⟨k, hk⟩ : ∃ k, (packE s ++ t).length = k + 1 := ⟨(packE s ++ t).length - 1, by rw [List.length_append]; omega⟩
  rw [hk]
  have hne : packE s ++ t ≠ [] := fun hh => by rw [hh] at hk; simp at hk
  conv => lhs; unfold scanF
  rw [if_neg hne, hr]
  simp only [if_true]
  have hd : (packE s ++ t).drop (packE s).length = t := by simp
  rw [hd, scanF_fuel k t.length t (by rw [List.length_append] at hk; omega) (Nat.le_refl _)]
theorem scanE_frames : ∀ (l : List (List UInt8)) (t : List UInt8), (∀ s ∈ l, s.length < 9223372036854775808) → scanE (frames l ++ t) = (l ++ (scanE t).1, (frames l).length + (scanE t).2.1, (scanE t).2.2)
  | [], t, _ => by simp [frames]
  | s :: l, t, h => by
    have e : frames (s :: l) ++ t = packE s ++ (frames l ++ t) := by simp [frames]
    have e2 : (frames (s :: l)).length = (packE s).length + (frames l).length := by simp [frames]
    rw [e, scanE_cons s _ (h s (by simp)), scanE_frames l t (fun u hu => h u (by simp [hu])), e2]
    simp [Nat.add_assoc]
theorem scanE_whole (l : List (List UInt8)) (h : ∀ s ∈ l, s.length < 9223372036854775808) : scanE (frames l) = (l, (frames l).length, 0) := by
  have := scanE_frames l [] h
  simpa [scanE_nil] using this
/-- numbers cut short -/
theorem varE_short : ∀ (k m : Nat), m ≤ k → ∀ (i x j : Nat), i ≤ 9 → m * 128 ^ i < 18446744073709551616 → j < (putN m).length → varE ((putN m).take j) i x = (0, 0, 2)
  | k, m, hk, i, x, 0, _, _, _ => by simp [varE]
  | k, m, hk, i, x, j + 1, hi, hm, hj => by
    by_cases hs : m < 128
    · rw [putN_small hs] at hj; simp at hj
    · rw [putN_big hs] at hj ⊢
      rw [List.take_succ_cons]
      have hc : (UInt8.ofNat (m % 128 + 128)).toNat = m % 128 + 128 := ofNat_toNat (by omega)
      have hp : 0 < 128 ^ i := Nat.pow_pos (by omega)
      have hi9 : i ≠ 9 := by
        rintro rfl
        rw [pow128_9] at hm; omega
      unfold varE
      rw [hc, if_neg (by omega), if_pos (by omega)]
      cases k with
      | zero => omega
      | succ k =>
        refine varE_short k (m / 128) (by omega) (i + 1) _ j (by omega) ?_ (by simpa using hj)
        have : m / 128 * 128 ≤ m := Nat.div_mul_le_self ..
        calc m / 128 * 128 ^ (i + 1) = m / 128 * 128 * 128 ^ i := by rw [Nat.pow_succ, Nat.mul_comm (128 ^ i), Nat.mul_assoc]
          _ ≤ m * 128 ^ i := Nat.mul_le_mul_right _ this
          _ < _ := hm
/-- a frame that is torn -/
theorem readE_torn (s : List UInt8) (j : Nat) (h : s.length < 9223372036854775808) (hj : j < (packE s).length) : readE ((packE s).take j) = ([], 0, 2) := by
  have hl := packE_len s
  unfold readE
  by_cases h1 : j < (putN s.length).length
  · have e : (packE s).take j = (putN s.length).take j := by unfold packE textE; rw [List.append_assoc, List.take_append_of_le_length (by omega)]
    have : uintE ((putN s.length).take j) = (0, 0, 2) := by
      unfold uintE
      rw [varE_short _ s.length (Nat.le_refl _) 0 0 j (by omega) (by simp; omega) h1]
      rfl
    have hr : rtextE ((packE s).take j) = ([], 0, 2) := by rw [e]; unfold rtextE; rw [this]; rfl
    rw [hr]; rfl
  · have e : (packE s).take j = putN s.length ++ (s ++ le4 (sumE s)).take (j - (putN s.length).length) := by
      unfold packE textE; rw [List.append_assoc, List.take_append, List.take_of_length_le (by omega)]
    have hu := uintE_put s.length h ((s ++ le4 (sumE s)).take (j - (putN s.length).length))
    rw [← e] at hu
    have hlen : ((packE s).take j).length = j := by rw [List.length_take]; omega
    by_cases h2 : j < (putN s.length).length + s.length
    · have hr : rtextE ((packE s).take j) = ([], 0, 2) := by
        unfold rtextE; rw [hu]
        simp only [if_true]
        rw [if_neg (by rw [hlen]; omega)]
      rw [hr]; rfl
    · have hr : rtextE ((packE s).take j) = (s, s.length + (putN s.length).length, 0) := by
        have e3 : (s ++ le4 (sumE s)).take (j - (putN s.length).length) = s ++ (le4 (sumE s)).take (j - (putN s.length).length - s.length) := by
          rw [List.take_append, List.take_of_length_le (l := s) (by omega)]
        rw [e, e3]
        exact rtextE_text s _ h
      rw [hr]
      simp only [if_true]
      rw [if_pos (by rw [hlen]; omega)]
theorem scanE_torn (l : List (List UInt8)) (s : List UInt8) (j : Nat) (h : ∀ u ∈ l ++ [s], u.length < 9223372036854775808) (hj : j < (packE s).length) (h0 : 0 < j) :
    scanE (frames l ++ (packE s).take j) = (l, (frames l).length, 2) := by
  have hr := readE_torn s j (h s (by simp)) hj
  have hne : (packE s).take j ≠ [] := fun hh => by
    have := congrArg List.length hh
    rw [List.length_take, List.length_nil] at this; omega
  rw [scanE_frames l _ (fun u hu => h u (by simp [hu])), scanE_bad hne (by rw [hr]; decide), hr]
  simp
/-- a turned bit behind a record's length -/
theorem scanE_rot (l r : List (List UInt8)) (s : List UInt8) (j : Nat) (x : UInt8) (h : ∀ u ∈ l ++ [s], u.length < 9223372036854775808) (h1 : (putN s.length).length ≤ j) (h2 : j < (packE s).length) (hx : (packE s)[j]? ≠ some x) :
    scanE (frames l ++ ((packE s).set j x ++ frames r)) = (l, (frames l).length, 6) := by
  have hr := readE_rot s j x (frames r) (h s (by simp)) h1 h2 hx
  have hne : (packE s).set j x ++ frames r ≠ [] := fun hh => by
    have := congrArg List.length hh
    simp at this; rw [this.1] at h2; simp at h2
  rw [scanE_frames l _ (fun u hu => h u (by simp [hu])), scanE_bad hne (by rw [hr]; decide), hr]
  simp
end Go.Proofs.YtccfiohagbneaaaGreatDoor

/- What is proved: what the journal does to its file and to itself. Conditions: no limit at the disk, texts of bounded length. -/
set_option linter.unusedSimpArgs false
set_option linter.unusedVariables false
namespace Go.Proofs.YtccfiohagbneaaaGreatDoor
open Go Go.J Go.RowKit

/-- no limits, and no file is great -/
def Dk.Sm (D : Dk) (B : Nat) : Prop := D.limits = [] ∧ ∀ x ∈ D.items, x.2.data.length ≤ B
theorem mget_mem {β : Type} {m : List (List UInt8 × β)} {x : List UInt8} {v : β} (h : mget m x = some v) : (x, v) ∈ m := by
  induction m with
  | nil => simp [mget] at h
  | cons p r ih =>
    obtain ⟨k, u⟩ := p
    unfold mget at h
    by_cases e : x = k
    · rw [if_pos e] at h; simp only [Option.some.injEq] at h; subst e; subst h; exact List.mem_cons_self ..
    · rw [if_neg e] at h; exact List.mem_cons_of_mem _ (ih h)
theorem mem_mset {β : Type} {m : List (List UInt8 × β)} {x : List UInt8} {v : β} {y : List UInt8 × β} (h : y ∈ mset m x v) : y ∈ m ∨ y.2 = v := by
  induction m with
  | nil => simp [mset] at h; exact .inr (by rw [h])
  | cons p r ih =>
    obtain ⟨k, u⟩ := p
    unfold mset at h
    by_cases e : x = k
    · rw [if_pos e] at h
      rcases List.mem_cons.1 h with rfl | h
      · exact .inr rfl
      · exact .inl (List.mem_cons_of_mem _ h)
    · rw [if_neg e] at h
      rcases List.mem_cons.1 h with rfl | h
      · exact .inl (List.mem_cons_self ..)
      · rcases ih h with h | h
        · exact .inl (List.mem_cons_of_mem _ h)
        · exact .inr h
theorem Dk.Sm.at_ {D : Dk} {B : Nat} (h : D.Sm B) (p : List UInt8) : (D.at p).data.length ≤ B := by
  unfold Dk.at
  cases e : mget D.items p with
  | none => exact Nat.zero_le _
  | some x => exact h.2 _ (mget_mem e)
theorem Dk.Sm.no {D : Dk} {B : Nat} (h : D.Sm B) (p : List UInt8) : mget D.limits p = none := by rw [h.1]; rfl
theorem Dk.step_items (D : Dk) : D.step.items = D.items := by unfold Dk.step; split <;> rfl
theorem Dk.step_limits (D : Dk) : D.step.limits = D.limits := by unfold Dk.step; split <;> rfl
theorem Dk.step_at (D : Dk) (p : List UInt8) : D.step.at p = D.at p := by unfold Dk.at; rw [Dk.step_items]
theorem Dk.Sm.step {D : Dk} {B : Nat} (h : D.Sm B) : D.step.Sm B := ⟨by rw [Dk.step_limits]; exact h.1, by rw [Dk.step_items]; exact h.2⟩
theorem Dk.Sm.set {D : Dk} {B : Nat} (h : D.Sm B) {p : List UInt8} {x : It} (hx : x.data.length ≤ B) : (D.set p x).Sm B :=
  ⟨h.1, fun y hy => by
    rcases mem_mset hy with h1 | h1
    · exact h.2 y h1
    · rw [h1]; exact hx⟩
theorem Dk.Sm.put {D : Dk} {B : Nat} (h : D.Sm B) {p : List UInt8} {x : It} (hx : x.data.length ≤ B) : Dk.Sm { D with items := mset D.items p x } B :=
  ⟨h.1, fun y hy => by
    rcases mem_mset hy with h1 | h1
    · exact h.2 y h1
    · rw [h1]; exact hx⟩
theorem Dk.Sm.del {D : Dk} {B : Nat} (h : D.Sm B) {p : List UInt8} : (D.del p).Sm B := ⟨h.1, fun y hy => h.2 y ((mdel_sub _ _).mem hy)⟩
theorem Dk.Sm.write {D : Dk} {B : Nat} (h : D.Sm B) {p s : List UInt8} (hs : s.length ≤ B) : (D.write p s).2.Sm B := by
  unfold Dk.write
  repeat' split
  all_goals first | exact h | exact h.step | exact h.step.set hs
theorem Dk.Sm.sync {D : Dk} {B : Nat} (h : D.Sm B) {p : List UInt8} : (D.sync p).2.Sm B := by
  unfold Dk.sync
  repeat' split
  all_goals first | exact h | exact h.step | exact h.step.put (h.step.at_ p)
theorem Dk.Sm.rename {D : Dk} {B : Nat} (h : D.Sm B) {p r : List UInt8} : (D.rename p r).2.Sm B := by
  unfold Dk.rename
  repeat' split
  all_goals first | exact h | exact h.step | exact h.step.del.set (h.at_ p)
/-- a file's bytes put in its place -/
def Dk.fill (D : Dk) (p s : List UInt8) : Int × Dk :=
  if (D.write (p ++ [95, 116]) s).1 ≠ 0 then D.write (p ++ [95, 116]) s
  else if ((D.write (p ++ [95, 116]) s).2.sync (p ++ [95, 116])).1 ≠ 0 then (D.write (p ++ [95, 116]) s).2.sync (p ++ [95, 116])
  else ((D.write (p ++ [95, 116]) s).2.sync (p ++ [95, 116])).2.rename (p ++ [95, 116]) p
theorem Dk.Sm.fill {D : Dk} {B : Nat} (h : D.Sm B) {p s : List UInt8} (hs : s.length ≤ B) : (D.fill p s).2.Sm B := by
  unfold Dk.fill
  repeat' split
  all_goals first | exact h.write hs | exact (h.write hs).sync | exact (h.write hs).sync.rename

/-- a journal's variable -/
abbrev lgCells (q : Nat) (p : List UInt8) (A : Option Addr) (n cap : Nat) (dmg : Bool) : List Value := [.pointer (some ⟨q, 0, none⟩), str p, .slice A n cap, .bool dmg]
abbrev fillD (L q mb lb x1 x2 x3 : Nat) (D : Dk) (p t s : List UInt8) (A : Option Addr) (n cap : Nat) (dmg : Bool) : List Chunk :=
  [.box x1 29 [.pointer (some ⟨L, 0, none⟩)], .box x2 9 [str t], .box x3 9 [str s], .box L 112 [.pointer (some ⟨q, 0, none⟩), str p, .slice A n cap, .bool dmg], dkC q mb lb D]
section
variable {L q mb lb x1 x2 x3 : Nat} {D D' : Dk} {p t s : List UInt8} {A : Option Addr} {n cap : Nat} {dmg : Bool} {w0 : World} {e : Int}
set_option maxHeartbeats 4000000 in
set_option maxRecDepth 100000 in
theorem fill1_c (hi : InL w0 (fillD L q mb lb x1 x2 x3 D p t s A n cap dmg)) (hu : D.write t s = (e, D')) (hl : t.length ≤ 1099511627) (hno : D.Sm 1099511627776) (hdl : s.length ≤ 1099511627776) :
    Cal Tryz.prog 128 [.pointer (some ⟨x1, 0, none⟩), .pointer (some ⟨x2, 0, none⟩), .pointer (some ⟨x3, 0, none⟩)] w0
      (fun v w' => v = .int .i64 e ∧ MutL w0 w' (fillD L q mb lb x1 x2 x3 D p t s A n cap dmg) (fillD L q mb lb x1 x2 x3 D' p t s A n cap dmg)) := by
  refine Cal.mkL hi (by kernel_rfl) Tryz.func128 rfl rfl fun hS => ?_
  repeat' (first
    | (show WL _ _ _ _ _ _ _; first
      | refine WL.pure rfl rfl rfl rfl ?_
      | refine WL.nil ?_)
    | (show WC _ _ _ _ _ _; first
      | refine WC.seq ?_
      | refine WC.region ?_
      | refine WC.ret ?_
      | (show WC _ _ (Code.region _ (List.toArray [_, _, _, _, _, _, _, _]) true) _ _ _; refine WC.drawL [dkC q mb lb D] hS (by repeat (first | exact Pulls.nil | (apply Pulls.cons; focus (repeat (first | exact Pull.here | apply Pull.there))))) [0,1,2,3,4,5,7] [0,1,2,3,4,5,6,7] (by kernel_rfl) (by kernel_rfl) ?_; clear hS; intro w hS hM))
    | (show WD _ _ _ _ _ _ _ _ _; first
      | refine WD.pure rfl rfl rfl rfl rfl ?_
      | refine WD.nil ?_
      | refine WD.load rfl rfl (LdOk.box (by repeat (first | exact List.Mem.head _ | apply List.Mem.tail)) rfl) rfl rfl rfl rfl ?_
      | (refine WD.callL (D := [dkC q mb lb D]) hS (by repeat (first | exact Pulls.nil | (apply Pulls.cons; focus (repeat (first | exact Pull.here | apply Pull.there))))) (.refl _ _) rfl rfl (fun hI => write_c t s hI.head hI.headB hl (hno.no _) hdl (hno.at_ _)) rfl rfl rfl rfl rfl ?_; rintro v w ⟨rfl, hm⟩; rw [hu] at hm ⊢; refine ⟨_, .of1 hm, fun hS hM => ?_⟩; clear hm))
    | refine seqQ_n ?_)
  exact fin1r rfl rfl ⟨rfl, hS.mutLp (by repeat (first | exact Pulls.nil | (apply Pulls.cons; focus (repeat (first | exact Pull.here | apply Pull.there)))))⟩
set_option maxHeartbeats 4000000 in
set_option maxRecDepth 100000 in
theorem fill2_c (hi : InL w0 (fillD L q mb lb x1 x2 x3 D p t s A n cap dmg)) (hu : D.sync t = (e, D')) (hl : t.length ≤ 1099511627) :
    Cal Tryz.prog 129 [.pointer (some ⟨x1, 0, none⟩), .pointer (some ⟨x2, 0, none⟩)] w0
      (fun v w' => v = .int .i64 e ∧ MutL w0 w' (fillD L q mb lb x1 x2 x3 D p t s A n cap dmg) (fillD L q mb lb x1 x2 x3 D' p t s A n cap dmg)) := by
  refine Cal.mkL hi (by kernel_rfl) Tryz.func129 rfl rfl fun hS => ?_
  repeat' (first
    | (show WL _ _ _ _ _ _ _; first
      | refine WL.pure rfl rfl rfl rfl ?_
      | refine WL.nil ?_)
    | (show WC _ _ _ _ _ _; first
      | refine WC.seq ?_
      | refine WC.region ?_
      | refine WC.ret ?_
      | (show WC _ _ (Code.region _ (List.toArray [_, _, _, _, _, _, _]) true) _ _ _; refine WC.drawL [dkC q mb lb D] hS (by repeat (first | exact Pulls.nil | (apply Pulls.cons; focus (repeat (first | exact Pull.here | apply Pull.there))))) [0,1,2,3,4,6] [0,1,2,3,4,5,6] (by kernel_rfl) (by kernel_rfl) ?_; clear hS; intro w hS hM))
    | (show WD _ _ _ _ _ _ _ _ _; first
      | refine WD.pure rfl rfl rfl rfl rfl ?_
      | refine WD.nil ?_
      | refine WD.load rfl rfl (LdOk.box (by repeat (first | exact List.Mem.head _ | apply List.Mem.tail)) rfl) rfl rfl rfl rfl ?_
      | (refine WD.callL (D := [dkC q mb lb D]) hS (by repeat (first | exact Pulls.nil | (apply Pulls.cons; focus (repeat (first | exact Pull.here | apply Pull.there))))) (.refl _ _) rfl rfl (fun hI => sync_c t hI.head hI.headB hl) rfl rfl rfl rfl rfl ?_; rintro v w ⟨rfl, hm⟩; rw [hu] at hm ⊢; refine ⟨_, .of1 hm, fun hS hM => ?_⟩; clear hm))
    | refine seqQ_n ?_)
  exact fin1r rfl rfl ⟨rfl, hS.mutLp (by repeat (first | exact Pulls.nil | (apply Pulls.cons; focus (repeat (first | exact Pull.here | apply Pull.there)))))⟩
set_option maxHeartbeats 4000000 in
set_option maxRecDepth 100000 in
theorem fill3_c (hi : InL w0 (fillD L q mb lb x1 x2 x3 D p t s A n cap dmg)) (hu : D.rename t p = (e, D')) (hl : t.length ≤ 1099511627) (hl2 : p.length ≤ 1099511627) (hno : D.Sm 1099511627776) :
    Cal Tryz.prog 130 [.pointer (some ⟨x1, 0, none⟩), .pointer (some ⟨x2, 0, none⟩)] w0
      (fun v w' => v = .int .i64 e ∧ MutL w0 w' (fillD L q mb lb x1 x2 x3 D p t s A n cap dmg) (fillD L q mb lb x1 x2 x3 D' p t s A n cap dmg)) := by
  refine Cal.mkL hi (by kernel_rfl) Tryz.func130 rfl rfl fun hS => ?_
  repeat' (first
    | (show WL _ _ _ _ _ _ _; first
      | refine WL.pure rfl rfl rfl rfl ?_
      | refine WL.nil ?_)
    | (show WC _ _ _ _ _ _; first
      | refine WC.seq ?_
      | refine WC.region ?_
      | refine WC.ret ?_
      | (show WC _ _ (Code.region _ (List.toArray [_, _, _, _, _, _, _, _, _, _, _]) true) _ _ _; refine WC.drawL [dkC q mb lb D] hS (by repeat (first | exact Pulls.nil | (apply Pulls.cons; focus (repeat (first | exact Pull.here | apply Pull.there))))) [0,1,2,3,4,5,6,7,8,10] [0,1,2,3,4,5,6,7,8,9,10] (by kernel_rfl) (by kernel_rfl) ?_; clear hS; intro w hS hM))
    | (show WD _ _ _ _ _ _ _ _ _; first
      | refine WD.pure rfl rfl rfl rfl rfl ?_
      | refine WD.nil ?_
      | refine WD.load rfl rfl (LdOk.box (by repeat (first | exact List.Mem.head _ | apply List.Mem.tail)) rfl) rfl rfl rfl rfl ?_
      | (refine WD.callL (D := [dkC q mb lb D]) hS (by repeat (first | exact Pulls.nil | (apply Pulls.cons; focus (repeat (first | exact Pull.here | apply Pull.there))))) (.refl _ _) rfl rfl (fun hI => rename_c t p hI.head hI.headB hl hl2 (hno.no _) (hno.at_ _) (hno.at_ _)) rfl rfl rfl rfl rfl ?_; rintro v w ⟨rfl, hm⟩; rw [hu] at hm ⊢; refine ⟨_, .of1 hm, fun hS hM => ?_⟩; clear hm))
    | refine seqQ_n ?_)
  exact fin1r rfl rfl ⟨rfl, hS.mutLp (by repeat (first | exact Pulls.nil | (apply Pulls.cons; focus (repeat (first | exact Pull.here | apply Pull.there)))))⟩
end
set_option maxHeartbeats 4000000 in
set_option maxRecDepth 100000 in
theorem fill_c {L q mb lb : Nat} {D D' : Dk} {p s : List UInt8} {A : Option Addr} {n cap : Nat} {dmg : Bool} {w0 : World} {e : Int}
    (hi : InL w0 [.box L 112 [.pointer (some ⟨q, 0, none⟩), str p, .slice A n cap, .bool dmg], dkC q mb lb D]) (hu : D.fill p s = (e, D')) (hl : p.length ≤ 1099511620) (hno : D.Sm 1099511627776) (hdl : s.length ≤ 1099511627776) :
    Cal Tryz.prog 68 [.pointer (some ⟨L, 0, none⟩), str s] w0
      (fun v w' => v = .int .i64 e ∧ MutL w0 w' [.box L 112 [.pointer (some ⟨q, 0, none⟩), str p, .slice A n cap, .bool dmg], dkC q mb lb D] [.box L 112 [.pointer (some ⟨q, 0, none⟩), str p, .slice A n cap, .bool dmg], dkC q mb lb D']) := by
  refine Cal.mkL hi (by kernel_rfl) Tryz.func68 rfl rfl fun hS => ?_
  obtain ⟨t, ht⟩ : ∃ t, t = p ++ [95, 116] := ⟨_, rfl⟩
  have htl : t.length ≤ 1099511627 := by rw [ht]; simp; omega
  rcases h1 : D.write t s with ⟨e1, D1⟩
  rcases h2 : D1.sync t with ⟨e2, D2⟩
  rcases h3 : D2.rename t p with ⟨e3, D3⟩
  have m1 : D1.Sm 1099511627776 := by have := hno.write (p := t) hdl; rwa [h1] at this
  have m2 : D2.Sm 1099511627776 := by have := m1.sync (p := t); rwa [h2] at this
  have hu : (if e1 ≠ 0 then (e1, D1) else if e2 ≠ 0 then (e2, D2) else (e3, D3)) = (e, D') := by
    rw [← hu]; unfold Dk.fill; rw [← ht, h1]; dsimp only; rw [h2]; dsimp only; rw [h3]
  repeat' (first
    | (show WL _ _ _ _ _ _ _; first
      | (refine WL.mkF rfl rfl rfl rfl rfl rfl ?_)
      | refine WL.pure rfl rfl rfl rfl ?_
      | refine WL.nil ?_
      | refine WL.load hS rfl rfl (LdOk.box (by repeat (first | exact List.Mem.head _ | apply List.Mem.tail)) rfl) rfl rfl rfl ?_
      | refine WL.add rfl rfl rfl (by omega) rfl rfl rfl ?_
      | (refine WL.index (j := 1) rfl rfl rfl rfl (by omega) rfl rfl rfl rfl ?_)
      | (refine WL.index (j := 2) rfl rfl rfl rfl (by omega) rfl rfl rfl rfl ?_)
      | (refine WL.cat rfl rfl rfl (by simp; omega) rfl rfl rfl ?_; rw [← ht])
      | (refine WL.callFL (D := fillD L q mb lb _ _ _ D p t s A n cap dmg) hS (by repeat (first | exact Pulls.nil | (apply Pulls.cons; focus (repeat (first | exact Pull.here | apply Pull.there))))) rfl rfl rfl (fun hI => fill1_c hI h1 htl hno hdl) rfl rfl rfl ?_; rintro v w ⟨rfl, hm⟩ hS; replace hS := hS _ hm; clear hm)
      | (refine WL.callFL (D := fillD L q mb lb _ _ _ D1 p t s A n cap dmg) hS (by repeat (first | exact Pulls.nil | (apply Pulls.cons; focus (repeat (first | exact Pull.here | apply Pull.there))))) rfl rfl rfl (fun hI => fill2_c hI h2 htl) rfl rfl rfl ?_; rintro v w ⟨rfl, hm⟩ hS; replace hS := hS _ hm; clear hm)
      | (refine WL.callFL (D := fillD L q mb lb _ _ _ D2 p t s A n cap dmg) hS (by repeat (first | exact Pulls.nil | (apply Pulls.cons; focus (repeat (first | exact Pull.here | apply Pull.there))))) rfl rfl rfl (fun hI => fill3_c hI h3 htl (by omega) m2) rfl rfl rfl ?_; rintro v w ⟨rfl, hm⟩ hS; replace hS := hS _ hm; clear hm)
      | (refine WL.store hS rfl rfl rfl (by repeat (first | exact StB.here rfl | apply StB.there)) rfl rfl rfl ?_; intro w hS)
      | (refine WL.box hS rfl rfl rfl rfl rfl ?_; intro w b hS)
      | (refine WL.alloc hS rfl rfl rfl rfl rfl rfl ?_; intro w b hS)
      | refine WL.index (j := 0) rfl rfl rfl rfl (by omega) rfl rfl rfl rfl ?_
      | (refine WL.slit hS rfl rfl rfl rfl rfl ?_; intro w b hS))
    | (show WC _ _ _ _ _ _; first
      | refine WC.seq ?_
      | refine WC.region ?_
      | refine WC.block ?_
      | refine WC.skip ?_
      | refine WC.exit ?_
      | refine WC.ret ?_
      | (refine WC.rounds 3 ?_)
      | refine WC.condT rfl (by decide) ?_
      | refine WC.condF rfl (by decide) ?_
      | (refine WC.cond rfl (fun h => ?_) (fun h => ?_) <;> (try simp only [Classical.not_not, Bool.not_eq_true', Bool.not_eq_false', Bool.not_eq_eq_eq_not, Bool.not_true, Bool.not_false, beq_iff_eq, beq_eq_false_iff_ne, ne_eq, decide_eq_decide, decide_eq_true_eq, decide_eq_false_iff_not, Bool.and_eq_true, Bool.or_eq_true, Bool.and_eq_false_iff, Bool.or_eq_false_iff] at h) <;> (try (exfalso; first | omega | contradiction))))
    | refine seqQ_n ?_
    | refine blkQ_n ?_
    | refine seqQ_x ?_
    | refine seqQ_r ?_
    | refine blkQ_r ?_
    | refine blkQ_hit rfl ?_
    | refine rdQ_n ?_
    | refine rdQ_x ?_
    | refine rdQ_r ?_)
  all_goals
    clear h1 h2 h3 m1 m2
    simp [*] at hu
    obtain ⟨hu1, hu2⟩ := hu
    subst hu2
    exact fin1r rfl rfl ⟨vint (by omega), hS.mutLp (by repeat (first | exact Pulls.nil | (apply Pulls.cons; focus (repeat (first | exact Pull.here | apply Pull.there)))))⟩
/-- a journal -/
structure Lg where
  p : List UInt8
  recs : List (List UInt8)
  dmg : Bool
def lgφ (L q : Nat) (G : Lg) (D : List Chunk) : Prop := ∃ A cap, D = [.box L 112 [.pointer (some ⟨q, 0, none⟩), str G.p, .slice A G.recs.length cap, .bool G.dmg], .own (.slice A G.recs.length cap) 9 1 G.recs.length (strs G.recs)]
abbrev lgC (L q : Nat) (G : Lg) (fp : List Nat) : Chunk := objC (lgφ L q G) fp
def Lg.reset (G : Lg) (e : Int) : Lg := if e = 0 then { G with recs := [] } else G
set_option maxHeartbeats 4000000 in
set_option maxRecDepth 100000 in
theorem reset_c {L q mb lb : Nat} {D D' : Dk} {G : Lg} {fp : List Nat} {w0 : World} {e : Int} (hi : InL w0 [lgC L q G fp, dkC q mb lb D]) (hu : D.fill G.p [] = (e, D')) (hl : G.p.length ≤ 1099511620) (hno : D.Sm 1099511627776) :
    Cal Tryz.prog 17 [.pointer (some ⟨L, 0, none⟩)] w0
      (fun v w' => v = .int .i64 e ∧ ∃ fp', MutL w0 w' [lgC L q G fp, dkC q mb lb D] [lgC L q (G.reset e) fp', dkC q mb lb D']) := by
  refine Cal.mkL hi (by kernel_rfl) Tryz.func17 rfl rfl fun hS => ?_
  obtain ⟨_, ⟨A, cap, rfl⟩, hfp, hS⟩ := St.objOpen hS
  replace hS : St w0 _ w0 [.box L 112 [.pointer (some ⟨q, 0, none⟩), str G.p, .slice A G.recs.length cap, .bool G.dmg], .own (.slice A G.recs.length cap) 9 1 G.recs.length (strs G.recs), dkC q mb lb D] _ := hS
  repeat' (first
    | (show WL _ _ _ _ _ _ _; first
      | refine WL.pure rfl rfl rfl rfl ?_
      | refine WL.nil ?_
      | (refine WL.callL (D := [.box L 112 [.pointer (some ⟨q, 0, none⟩), str G.p, .slice A G.recs.length cap, .bool G.dmg], dkC q mb lb D]) hS (by repeat (first | exact Pulls.nil | (apply Pulls.cons; focus (repeat (first | exact Pull.here | apply Pull.there))))) rfl rfl (fun hI => fill_c hI hu hl hno (by simp)) rfl rfl rfl ?_; rintro v w ⟨rfl, hm⟩ hS; replace hS := hS _ hm; clear hm)
      | (refine WL.store hS rfl rfl rfl (by repeat (first | exact StB.here rfl | apply StB.there)) rfl rfl rfl ?_; intro w hS))
    | (show WC _ _ _ _ _ _; first
      | refine WC.seq ?_
      | refine WC.region ?_
      | refine WC.skip ?_
      | refine WC.ret ?_
      | refine WC.condF rfl (by with_reducible rfl) ?_
      | (refine WC.cond rfl (fun h => ?_) (fun h => ?_) <;> (try simp only [Classical.not_not, Bool.not_eq_true', Bool.not_eq_false', Bool.not_eq_eq_eq_not, Bool.not_true, Bool.not_false, beq_iff_eq, beq_eq_false_iff_ne, ne_eq, decide_eq_decide, decide_eq_true_eq, decide_eq_false_iff_not, Bool.and_eq_true, Bool.or_eq_true, Bool.and_eq_false_iff, Bool.or_eq_false_iff] at h) <;> (try (exfalso; first | omega | contradiction))))
    | refine seqQ_n ?_
    | refine seqQ_r ?_)
  · rw [show G.reset e = G from if_neg h]
    have hS := St.objClose (φ := lgφ L q G) (hS.pulls (D := [.box L 112 [.pointer (some ⟨q, 0, none⟩), str G.p, .slice A G.recs.length cap, .bool G.dmg], .own (.slice A G.recs.length cap) 9 1 G.recs.length (strs G.recs)]) (by repeat (first | exact Pulls.nil | (apply Pulls.cons; focus (repeat (first | exact Pull.here | apply Pull.there)))))) ⟨A, cap, rfl⟩
    exact fin1r rfl rfl ⟨rfl, _, hS.mutLp (by repeat (first | exact Pulls.nil | (apply Pulls.cons; focus (repeat (first | exact Pull.here | apply Pull.there)))))⟩
  · subst h
    have hS := hS.nilRow 9 1
    have hS := St.objClose (φ := lgφ L q (G.reset 0)) (hS.pulls (D := [.box L 112 [.pointer (some ⟨q, 0, none⟩), str G.p, .slice none 0 0, .bool G.dmg], .own (.slice none 0 0) 9 1 0 []]) (by repeat (first | exact Pulls.nil | (apply Pulls.cons; focus (repeat (first | exact Pull.here | apply Pull.there)))))) ⟨none, 0, rfl⟩
    exact fin1r rfl rfl ⟨rfl, _, hS.mutLp (by repeat (first | exact Pulls.nil | (apply Pulls.cons; focus (repeat (first | exact Pull.here | apply Pull.there)))))⟩
theorem strs_one (l : List (List UInt8)) : one (strs l) = true := by
  unfold one
  rw [List.all_eq_true]
  intro x hx
  obtain ⟨s, _, hx⟩ := List.mem_flatMap.1 hx
  rw [List.mem_singleton.1 hx]; rfl
def Lg.push (G : Lg) (r : List UInt8) : Lg := { G with recs := G.recs ++ [r] }
def walAdd (G : Lg) (D : Dk) (r : List UInt8) : Int × Lg × Dk :=
  if (D.append G.p (packE r)).1 ≠ 0 then ((D.append G.p (packE r)).1, G, (D.append G.p (packE r)).2)
  else if ((D.append G.p (packE r)).2.sync G.p).1 ≠ 0 then (((D.append G.p (packE r)).2.sync G.p).1, G, ((D.append G.p (packE r)).2.sync G.p).2)
  else (0, G.push r, ((D.append G.p (packE r)).2.sync G.p).2)
set_option maxHeartbeats 4000000 in
set_option maxRecDepth 100000 in
theorem add_c {L q mb lb : Nat} {D D' : Dk} {G G' : Lg} {fp : List Nat} {w0 : World} {e : Int} (r : List UInt8) (hi : InL w0 [lgC L q G fp, dkC q mb lb D]) (hu : walAdd G D r = (e, G', D')) (hl : G.p.length ≤ 1099511620) (hno : D.limits = [])
    (hr : r.length ≤ 1073741824) (hd : (D.step.at G.p).data.length ≤ 549755813888) (hn : G.recs.length ≤ 4194304) :
    Cal Tryz.prog 15 [.pointer (some ⟨L, 0, none⟩), str r] w0
      (fun v w' => v = .int .i64 e ∧ ∃ fp', MutL w0 w' [lgC L q G fp, dkC q mb lb D] [lgC L q G' fp', dkC q mb lb D']) := by
  refine Cal.mkL hi (by kernel_rfl) Tryz.func15 rfl rfl fun hS => ?_
  obtain ⟨_, ⟨A, cap, rfl⟩, hfp, hS⟩ := St.objOpen hS
  replace hS : St w0 _ w0 [.box L 112 [.pointer (some ⟨q, 0, none⟩), str G.p, .slice A G.recs.length cap, .bool G.dmg], .own (.slice A G.recs.length cap) 9 1 G.recs.length (strs G.recs), dkC q mb lb D] _ := hS
  have hpl := packE_len r
  have hpn := putN_len10 (n := r.length) (by omega)
  rcases h1 : D.append G.p (packE r) with ⟨e1, D1⟩
  rcases h2 : D1.sync G.p with ⟨e2, D2⟩
  have hu : (if e1 ≠ 0 then (e1, G, D1) else if e2 ≠ 0 then (e2, G, D2) else (0, G.push r, D2)) = (e, G', D') := by
    rw [← hu]; unfold walAdd; rw [h1]; dsimp only; rw [h2]
  repeat' (first
    | (show WL _ _ _ _ _ _ _; first
      | refine WL.pure rfl rfl rfl rfl ?_
      | refine WL.nil ?_
      | refine WL.load hS rfl rfl (LdOk.box (by repeat (first | exact List.Mem.head _ | apply List.Mem.tail)) rfl) rfl rfl rfl ?_
      | (refine WL.app hS rfl rfl rfl rfl (RdOk.box (by repeat (first | exact List.Mem.head _ | apply List.Mem.tail))) rfl rfl (fun A' cap' => (by repeat (first | exact Repl.here | apply Repl.there))) (by omega) rfl rfl rfl ?_; intro A' cap' w hS)
      | (refine WL.store hS rfl rfl rfl (by repeat (first | exact StB.here rfl | apply StB.there)) rfl rfl rfl ?_; intro w hS)
      | (refine WL.slit hS rfl rfl rfl rfl rfl ?_; intro w b hS))
    | (show WC _ _ _ _ _ _; first
      | refine WC.seq ?_
      | refine WC.region ?_
      | refine WC.skip ?_
      | refine WC.ret ?_
      | (show WC _ _ (Code.region _ (List.toArray [_, _, _, _, _, _, _, _, _, _, _, _]) true) _ _ _; refine WC.drawL [dkC q mb lb D] hS (by repeat (first | exact Pulls.nil | (apply Pulls.cons; focus (repeat (first | exact Pull.here | apply Pull.there))))) [0,1,2,3,4,5,6,7,8,11] [0,1,2,3,4,5,6,7,8,9,10,11] (by kernel_rfl) (by kernel_rfl) ?_; clear hS; intro w hS hM)
      | (show WC _ _ (Code.region _ (List.toArray [_, _, _, _, _, _, _, _, _, _]) true) _ _ _; refine WC.drawL [dkC q mb lb D1] hS (by repeat (first | exact Pulls.nil | (apply Pulls.cons; focus (repeat (first | exact Pull.here | apply Pull.there))))) [0,1,2,3,4,5,6,7,9] [0,1,2,3,4,5,6,7,8,9] (by kernel_rfl) (by kernel_rfl) ?_; clear hS; intro w hS hM)
      | refine WC.condF rfl (by with_reducible rfl) ?_
      | (refine WC.cond rfl (fun h => ?_) (fun h => ?_) <;> (try simp only [Classical.not_not, Bool.not_eq_true', Bool.not_eq_false', Bool.not_eq_eq_eq_not, Bool.not_true, Bool.not_false, beq_iff_eq, beq_eq_false_iff_ne, ne_eq, decide_eq_decide, decide_eq_true_eq, decide_eq_false_iff_not, Bool.and_eq_true, Bool.or_eq_true, Bool.and_eq_false_iff, Bool.or_eq_false_iff] at h) <;> (try (exfalso; first | omega | contradiction))))
    | (show WD _ _ _ _ _ _ _ _ _; first
      | refine WD.pure rfl rfl rfl rfl rfl ?_
      | refine WD.nil ?_
      | refine WD.load rfl rfl (LdOk.box (by repeat (first | exact List.Mem.head _ | apply List.Mem.tail)) rfl) rfl rfl rfl rfl ?_
      | (refine WD.calls hS hM rfl rfl (pack_c r _ (by omega)) rfl rfl rfl rfl rfl ?_; clear hS; rintro v w rfl hS)
      | (refine WD.callL (D := [dkC q mb lb D]) hS (by repeat (first | exact Pulls.nil | (apply Pulls.cons; focus (repeat (first | exact Pull.here | apply Pull.there))))) (.refl _ _) rfl rfl (fun hI => append_c G.p (packE r) hI.head hI.headB (by omega) (by rw [hno]; rfl) (by omega)) rfl rfl rfl rfl rfl ?_; rintro v w ⟨rfl, hm⟩; rw [h1] at hm ⊢; refine ⟨_, .of1 hm, fun hS hM => ?_⟩; clear hm)
      | (refine WD.callL (D := [dkC q mb lb D1]) hS (by repeat (first | exact Pulls.nil | (apply Pulls.cons; focus (repeat (first | exact Pull.here | apply Pull.there))))) (.refl _ _) rfl rfl (fun hI => sync_c G.p hI.head hI.headB (by omega)) rfl rfl rfl rfl rfl ?_; rintro v w ⟨rfl, hm⟩; rw [h2] at hm ⊢; refine ⟨_, .of1 hm, fun hS hM => ?_⟩; clear hm))
    | refine seqQ_n ?_
    | refine seqQ_r ?_)
  · rw [if_pos h] at hu
    cases hu
    have hS := St.objClose (φ := lgφ L q G) (hS.pulls (D := [.box L 112 [.pointer (some ⟨q, 0, none⟩), str G.p, .slice A G.recs.length cap, .bool G.dmg], .own (.slice A G.recs.length cap) 9 1 G.recs.length (strs G.recs)]) (by repeat (first | exact Pulls.nil | (apply Pulls.cons; focus (repeat (first | exact Pull.here | apply Pull.there)))))) ⟨A, cap, rfl⟩
    exact fin1r rfl rfl ⟨rfl, _, hS.mutLp (by repeat (first | exact Pulls.nil | (apply Pulls.cons; focus (repeat (first | exact Pull.here | apply Pull.there)))))⟩
  · rw [if_neg (fun hh => hh (by assumption)), if_pos h] at hu
    cases hu
    have hS := St.objClose (φ := lgφ L q G) (hS.pulls (D := [.box L 112 [.pointer (some ⟨q, 0, none⟩), str G.p, .slice A G.recs.length cap, .bool G.dmg], .own (.slice A G.recs.length cap) 9 1 G.recs.length (strs G.recs)]) (by repeat (first | exact Pulls.nil | (apply Pulls.cons; focus (repeat (first | exact Pull.here | apply Pull.there)))))) ⟨A, cap, rfl⟩
    exact fin1r rfl rfl ⟨rfl, _, hS.mutLp (by repeat (first | exact Pulls.nil | (apply Pulls.cons; focus (repeat (first | exact Pull.here | apply Pull.there)))))⟩
  · rw [if_neg (fun hh => hh (by assumption)), if_neg (fun hh => hh (by assumption))] at hu
    cases hu
    have hS := St.objClose (φ := lgφ L q (G.push r)) (hS.pulls (D := [.box L 112 [.pointer (some ⟨q, 0, none⟩), str G.p, .slice A' (G.recs.length + 1) cap', .bool G.dmg], .own (.slice A' (G.recs.length + 1) cap') 9 1 (G.recs.length + 1) (strs G.recs ++ [str r])]) (by repeat (first | exact Pulls.nil | (apply Pulls.cons; focus (repeat (first | exact Pull.here | apply Pull.there)))))) ⟨A', cap', by simp [Lg.push, strs_snoc]⟩
    exact fin1r rfl rfl ⟨rfl, _, hS.mutLp (by repeat (first | exact Pulls.nil | (apply Pulls.cons; focus (repeat (first | exact Pull.here | apply Pull.there)))))⟩
set_option maxHeartbeats 4000000 in
set_option maxRecDepth 100000 in
theorem records_c {L q : Nat} {G : Lg} {fp : List Nat} {w0 : World} (hi : InL w0 [lgC L q G fp]) (hn : G.recs.length ≤ 4194304) :
    Cal Tryz.prog 29 [.pointer (some ⟨L, 0, none⟩)] w0 (fun v w' => ∃ A cap, v = .slice A G.recs.length cap ∧ MutL w0 w' [lgC L q G fp] [lgC L q G fp, .own (.slice A G.recs.length cap) 9 1 G.recs.length (strs G.recs)]) := by
  refine Cal.mkL hi (by kernel_rfl) Tryz.func29 rfl rfl fun hS => ?_
  obtain ⟨_, ⟨A, cap, rfl⟩, hfp, hS⟩ := St.objOpen hS
  replace hS : St w0 _ w0 [.box L 112 [.pointer (some ⟨q, 0, none⟩), str G.p, .slice A G.recs.length cap, .bool G.dmg], .own (.slice A G.recs.length cap) 9 1 G.recs.length (strs G.recs)] _ := hS
  repeat' (first
    | (show WL _ _ _ _ _ _ _; first
      | refine WL.pure rfl rfl rfl rfl ?_
      | refine WL.nil ?_
      | refine WL.load hS rfl rfl (LdOk.box (by repeat (first | exact List.Mem.head _ | apply List.Mem.tail)) rfl) rfl rfl rfl ?_
      | (have hS := hS.boxRow (n := 0) (size := 1) (by repeat (first | exact Repl.here | apply Repl.there)) rfl (by decide); refine WL.appS (news := strs G.recs) hS rfl rfl rfl rfl (RdSl.own hS (by repeat (first | exact List.Mem.head _ | apply List.Mem.tail))) (by rw [strs_len, Nat.mul_one]) (strs_one _) (fun A' cap' => (by repeat (first | exact Repl.here | apply Repl.there))) (by omega) rfl rfl rfl ?_; intro A' cap' w hS)
      | (refine WL.slit hS rfl rfl rfl rfl rfl ?_; intro w b hS))
    | (show WC _ _ _ _ _ _; first
      | refine WC.seq ?_
      | refine WC.region ?_
      | refine WC.skip ?_
      | refine WC.ret ?_
      | refine WC.condF rfl (by with_reducible rfl) ?_)
    | refine seqQ_n ?_)
  simp only [repZ, List.nil_append, Nat.zero_add] at hS
  have hS := St.objClose (φ := lgφ L q G) (hS.pulls (D := [.box L 112 [.pointer (some ⟨q, 0, none⟩), str G.p, .slice A G.recs.length cap, .bool G.dmg], .own (.slice A G.recs.length cap) 9 1 G.recs.length (strs G.recs)]) (by repeat (first | exact Pulls.nil | (apply Pulls.cons; focus (repeat (first | exact Pull.here | apply Pull.there)))))) ⟨A, cap, rfl⟩
  rw [← hfp] at hS
  exact fin1r rfl rfl ⟨_, _, by rw [Nat.zero_add], hS.mutLp (by repeat (first | exact Pulls.nil | (apply Pulls.cons; focus (repeat (first | exact Pull.here | apply Pull.there)))))⟩
end Go.Proofs.YtccfiohagbneaaaGreatDoor

/- What is proved: what opening a journal answers. Conditions: no limit at the disk, texts of bounded length. -/
set_option linter.unusedSimpArgs false
set_option linter.unusedVariables false
namespace Go.Proofs.YtccfiohagbneaaaGreatDoor
open Go Go.J Go.RowKit

/-- the error, the journal, the disk behind it -/
def walOpen (D : Dk) (p : List UInt8) : Int × Option Lg × Dk :=
  if D.kind p = 0 then (if (D.fill p []).1 ≠ 0 then ((D.fill p []).1, none, (D.fill p []).2) else (0, some ⟨p, [], false⟩, (D.fill p []).2))
  else if (D.read p).2 ≠ 0 then ((D.read p).2, none, D)
  else if (scanE (D.read p).1).2.2 ≠ 0 then
    (if (D.fill p ((D.read p).1.take (scanE (D.read p).1).2.1)).1 ≠ 0 then ((D.fill p ((D.read p).1.take (scanE (D.read p).1).2.1)).1, none, (D.fill p ((D.read p).1.take (scanE (D.read p).1).2.1)).2)
      else (0, some ⟨p, (scanE (D.read p).1).1, decide ((scanE (D.read p).1).2.2 = 6 ∨ (scanE (D.read p).1).2.2 = 3)⟩, (D.fill p ((D.read p).1.take (scanE (D.read p).1).2.1)).2))
  else (0, some ⟨p, (scanE (D.read p).1).1, decide ((scanE (D.read p).1).2.2 = 6 ∨ (scanE (D.read p).1).2.2 = 3)⟩, D)
def openR (q mb lb : Nat) (D : Dk) (w0 : World) (r : Int × Option Lg × Dk) (v : Value) (w' : World) : Prop :=
  match r with
  | (e, none, D') => v = .tuple #[.pointer none, .int .i64 e] ∧ MutL w0 w' [dkC q mb lb D] [dkC q mb lb D']
  | (e, some G, D') => ∃ L fp, v = .tuple #[.pointer (some ⟨L, 0, none⟩), .int .i64 e] ∧ MutL w0 w' [dkC q mb lb D] [lgC L q G fp, dkC q mb lb D']
set_option maxHeartbeats 4000000 in
set_option maxRecDepth 100000 in
theorem openNil_c (p : List UInt8) (w0 : World) : Cal Tryz.prog 13 [.pointer none, str p] w0 (fun v w' => Upd [] w0 w' ∧ v = .tuple #[.pointer none, .int .i64 1]) := by
  refine Cal.mk' (by kernel_rfl) Tryz.func13 rfl rfl fun hS => ?_
  repeat' (first
    | (show WL _ _ _ _ _ _ _; first
      | refine WL.pure rfl rfl rfl rfl ?_
      | refine WL.nil ?_)
    | (show WC _ _ _ _ _ _; first
      | refine WC.seq ?_
      | refine WC.region ?_
      | refine WC.ret ?_
      | refine WC.condT rfl (by with_reducible rfl) ?_)
    | refine seqQ_n ?_
    | refine seqQ_r ?_)
  exact fin2r rfl rfl rfl ⟨hS.upd, rfl⟩
theorem scanF_le : ∀ (k : Nat) (t : List UInt8), (scanF k t).2.1 ≤ t.length
  | 0, t => by simp [scanF]
  | k + 1, t => by
    unfold scanF
    by_cases h0 : t = []
    · rw [if_pos h0]; exact Nat.zero_le _
    · rw [if_neg h0]
      by_cases he : (readE t).2.2 = 0
      · rw [if_pos he]
        have := scanF_le k (t.drop (readE t).2.1)
        rw [List.length_drop] at this
        have := readE_le t he
        show (readE t).2.1 + _ ≤ _
        omega
      · rw [if_neg he]; exact Nat.zero_le _
theorem scanE_le (t : List UInt8) : (scanE t).2.1 ≤ t.length := scanF_le _ _
set_option maxHeartbeats 8000000 in
set_option maxRecDepth 100000 in
theorem open_c {q mb lb : Nat} {D : Dk} (p : List UInt8) {w0 : World} (hi : InL w0 [dkC q mb lb D]) (hl : p.length ≤ 1099511620) (hno : D.Sm 1099511627776) :
    Cal Tryz.prog 13 [.pointer (some ⟨q, 0, none⟩), str p] w0 (openR q mb lb D w0 (walOpen D p)) := by
  refine Cal.mkL hi (by kernel_rfl) Tryz.func13 rfl rfl fun hS => ?_
  by_cases hk : D.kind p = 0
  · rcases hf : D.fill p [] with ⟨e, D'⟩
    have hu : walOpen D p = if e ≠ 0 then (e, none, D') else (0, some ⟨p, [], false⟩, D') := by unfold walOpen; rw [if_pos hk, hf]
    rw [hu]
    repeat' (first
      | (show WL _ _ _ _ _ _ _; first
        | refine WL.pure rfl rfl rfl rfl ?_
        | refine WL.nil ?_
        | (refine WL.calls hS rfl rfl (dkind_c p (hS.holds (dkC q mb lb D) (by repeat (first | exact List.Mem.head _ | apply List.Mem.tail))).1) rfl rfl rfl ?_; rintro v w rfl hS; rw [hk])
        | (have hS := St.objClose (φ := lgφ _ q ⟨p, [], false⟩) ((hS.nilRow 9 1).pulls (D := [.box _ 112 [.pointer (some ⟨q, 0, none⟩), str p, .slice none 0 0, .bool false], .own (.slice none 0 0) 9 1 0 []]) (by repeat (first | exact Pulls.nil | (apply Pulls.cons; focus (repeat (first | exact Pull.here | apply Pull.there)))))) ⟨none, 0, rfl⟩; refine WL.callL (D := [lgC _ q ⟨p, [], false⟩ _, dkC q mb lb D]) hS (by repeat (first | exact Pulls.nil | (apply Pulls.cons; focus (repeat (first | exact Pull.here | apply Pull.there))))) rfl rfl (fun hI => reset_c hI hf hl hno) rfl rfl rfl ?_; rintro v w ⟨rfl, fp', hm⟩ hS; replace hS := hS _ hm; clear hm)
        | (refine WL.box hS rfl rfl rfl rfl rfl ?_; intro w b hS)
        | refine WL.build rfl rfl rfl rfl rfl ?_)
      | (show WC _ _ _ _ _ _; first
        | refine WC.seq ?_
        | refine WC.region ?_
        | refine WC.skip ?_
        | refine WC.ret ?_
        | refine WC.condF rfl (by with_reducible rfl) ?_
        | refine WC.condT rfl (by decide) ?_
        | (refine WC.cond rfl (fun h => ?_) (fun h => ?_) <;> (try simp only [Classical.not_not, Bool.not_eq_true', Bool.not_eq_false', Bool.not_eq_eq_eq_not, Bool.not_true, Bool.not_false, beq_iff_eq, beq_eq_false_iff_ne, ne_eq, decide_eq_decide, decide_eq_true_eq, decide_eq_false_iff_not, Bool.and_eq_true, Bool.or_eq_true, Bool.and_eq_false_iff, Bool.or_eq_false_iff] at h) <;> (try (exfalso; first | omega | contradiction))))
      | refine seqQ_n ?_
      | refine seqQ_r ?_)
    · rw [if_pos h]
      exact fin2r rfl rfl rfl ⟨rfl, hS.mutLp (by repeat (first | exact Pulls.nil | (apply Pulls.cons; focus (repeat (first | exact Pull.here | apply Pull.there)))))⟩
    · subst h
      rw [if_neg (by decide)]
      exact fin2r rfl rfl rfl ⟨_, _, rfl, hS.mutLp (by repeat (first | exact Pulls.nil | (apply Pulls.cons; focus (repeat (first | exact Pull.here | apply Pull.there)))))⟩
  · rcases hr : D.read p with ⟨s, er⟩
    have hsl : s.length ≤ 1099511627776 := by
      have h2 := hno.at_ p
      have : s = (D.read p).1 := by rw [hr]
      rw [this]
      unfold Dk.read
      repeat' split
      all_goals first | exact Nat.zero_le _ | exact h2
    rcases hsc : scanE s with ⟨rs, g, e⟩
    have hg : g ≤ s.length := by have := scanE_le s; rwa [hsc] at this
    rcases hf : D.fill p (s.take g) with ⟨ef, D'⟩
    have hu : walOpen D p = if er ≠ 0 then (er, none, D) else if e ≠ 0 then (if ef ≠ 0 then (ef, none, D') else (0, some ⟨p, rs, decide (e = 6 ∨ e = 3)⟩, D')) else (0, some ⟨p, rs, decide (e = 6 ∨ e = 3)⟩, D) := by
      unfold walOpen; rw [if_neg hk, hr]; dsimp only; rw [hsc]; dsimp only; rw [hf]
    rw [hu]
    clear hu
    by_cases h0 : er = 0
    · subst h0
      rw [if_neg (by decide)]
      have hcases : (e = 6 ∧ decide (e = 6 ∨ e = 3) = true) ∨ (e = 3 ∧ decide (e = 6 ∨ e = 3) = true) ∨ (e = 0 ∧ decide (e = 6 ∨ e = 3) = false) ∨ (e ≠ 6 ∧ e ≠ 3 ∧ e ≠ 0 ∧ decide (e = 6 ∨ e = 3) = false) := by
        by_cases h6 : e = 6
        · exact .inl ⟨h6, by simp [h6]⟩
        · by_cases h3 : e = 3
          · exact .inr (.inl ⟨h3, by simp [h3]⟩)
          · by_cases hz : e = 0
            · exact .inr (.inr (.inl ⟨hz, by simp [hz]⟩))
            · exact .inr (.inr (.inr ⟨h6, h3, hz, by simp [h6, h3]⟩))
      have hfs := fun (w : World) => fscan_c s w hsl
      rw [hsc] at hfs
      dsimp only at hfs
      rcases hcases with ⟨rfl, hd⟩ | ⟨rfl, hd⟩ | ⟨rfl, hd⟩ | ⟨h6, h3, hz, hd⟩
      all_goals rw [hd]; clear hd
      all_goals
        repeat' (first
          | (show WL _ _ _ _ _ _ _; first
            | refine WL.pure rfl rfl rfl rfl ?_
            | refine WL.nil ?_
            | (refine WL.calls hS rfl rfl (dkind_c p (hS.holds (dkC q mb lb D) (by repeat (first | exact List.Mem.head _ | apply List.Mem.tail))).1) rfl rfl rfl ?_; rintro v w rfl hS)
            | (refine WL.calls hS rfl rfl (dread_c p (hS.holds (dkC q mb lb D) (by repeat (first | exact List.Mem.head _ | apply List.Mem.tail))).1) rfl rfl rfl ?_; rintro v w rfl hS; rw [hr])
            | (refine WL.callG rfl rfl (hfs _) rfl rfl rfl ?_; rintro v w ⟨hupd, A, cap, rfl, hnew⟩; replace hS := hS.new hupd hnew; clear hnew hupd)
            | (refine WL.callL (D := [.box _ 112 [.pointer (some ⟨q, 0, none⟩), str p, .slice A rs.length cap, .bool _], dkC q mb lb D]) hS (by repeat (first | exact Pulls.nil | (apply Pulls.cons; focus (repeat (first | exact Pull.here | apply Pull.there))))) rfl rfl (fun hI => fill_c hI hf hl hno (by rw [List.length_take]; omega)) rfl rfl rfl ?_; rintro v w ⟨rfl, hm⟩ hS; replace hS := hS _ hm; clear hm)
            | refine WL.highS rfl rfl rfl rfl (by omega) rfl rfl rfl ?_
            | (refine WL.store hS rfl rfl rfl (by repeat (first | exact StB.here rfl | apply StB.there)) rfl rfl rfl ?_; intro w hS)
            | (refine WL.box hS rfl rfl rfl rfl rfl ?_; intro w b hS)
            | refine WL.skip rfl rfl rfl ?_
            | refine WL.build rfl rfl rfl rfl rfl ?_
            | ((fail_if_success (refine WL.wanted rfl ?_)); refine WL.guard rfl rfl rfl (fun h => ?_) (fun h => ?_) <;> (try simp only [Classical.not_not, Bool.not_eq_true', Bool.not_eq_false', Bool.not_eq_eq_eq_not, Bool.not_true, Bool.not_false, beq_iff_eq, beq_eq_false_iff_ne, ne_eq, decide_eq_decide, decide_eq_true_eq, decide_eq_false_iff_not, Bool.and_eq_true, Bool.or_eq_true, Bool.and_eq_false_iff, Bool.or_eq_false_iff] at h) <;> (try (exfalso; first | omega | contradiction))))
          | (show WC _ _ _ _ _ _; first
            | refine WC.seq ?_
            | refine WC.region ?_
            | refine WC.skip ?_
            | refine WC.ret ?_
            | refine WC.condF rfl (by with_reducible rfl) ?_
            | refine WC.condT rfl (by decide) ?_
            | refine WC.condF rfl (by decide) ?_
            | refine WC.condT rfl (decide_eq_true (by first | with_reducible assumption | omega)) ?_
            | refine WC.condF rfl (decide_eq_false (by first | with_reducible assumption | omega)) ?_
            | (refine WC.cond rfl (fun h => ?_) (fun h => ?_) <;> (try simp only [Classical.not_not, Bool.not_eq_true', Bool.not_eq_false', Bool.not_eq_eq_eq_not, Bool.not_true, Bool.not_false, beq_iff_eq, beq_eq_false_iff_ne, ne_eq, decide_eq_decide, decide_eq_true_eq, decide_eq_false_iff_not, Bool.and_eq_true, Bool.or_eq_true, Bool.and_eq_false_iff, Bool.or_eq_false_iff] at h) <;> (try (exfalso; first | omega | contradiction))))
          | refine seqQ_n ?_
          | refine seqQ_r ?_)
      all_goals first
        | rw [if_pos (by first | decide | assumption), if_pos h]
          exact fin2r rfl rfl rfl ⟨rfl, hS.mutLp (by repeat (first | exact Pulls.nil | (apply Pulls.cons; focus (repeat (first | exact Pull.here | apply Pull.there)))))⟩
        | (first | rw [if_pos (by first | decide | assumption), if_neg (fun hh => hh h)] | rw [if_neg (by decide)])
          try rw [decide_eq_false h3] at hS
          have hS := St.objClose (φ := lgφ _ q ⟨p, rs, _⟩) (hS.pulls (D := [.box _ 112 [.pointer (some ⟨q, 0, none⟩), str p, .slice A rs.length cap, .bool _], .own (.slice A rs.length cap) 9 1 rs.length (strs rs)]) (by repeat (first | exact Pulls.nil | (apply Pulls.cons; focus (repeat (first | exact Pull.here | apply Pull.there)))))) ⟨A, cap, rfl⟩
          exact fin2r rfl rfl rfl ⟨_, _, rfl, hS.mutLp (by repeat (first | exact Pulls.nil | (apply Pulls.cons; focus (repeat (first | exact Pull.here | apply Pull.there)))))⟩
    · rw [if_pos h0]
      repeat' (first
        | (show WL _ _ _ _ _ _ _; first
          | refine WL.pure rfl rfl rfl rfl ?_
          | refine WL.nil ?_
          | (refine WL.calls hS rfl rfl (dkind_c p (hS.holds (dkC q mb lb D) (by repeat (first | exact List.Mem.head _ | apply List.Mem.tail))).1) rfl rfl rfl ?_; rintro v w rfl hS)
          | (refine WL.calls hS rfl rfl (dread_c p (hS.holds (dkC q mb lb D) (by repeat (first | exact List.Mem.head _ | apply List.Mem.tail))).1) rfl rfl rfl ?_; rintro v w rfl hS; rw [hr])
          | (refine WL.box hS rfl rfl rfl rfl rfl ?_; intro w b hS)
          | refine WL.build rfl rfl rfl rfl rfl ?_)
        | (show WC _ _ _ _ _ _; first
          | refine WC.seq ?_
          | refine WC.region ?_
          | refine WC.skip ?_
          | refine WC.ret ?_
          | refine WC.condF rfl (by with_reducible rfl) ?_
          | refine WC.condT rfl (decide_eq_true (by first | with_reducible assumption | omega)) ?_
          | refine WC.condF rfl (decide_eq_false (by first | with_reducible assumption | omega)) ?_)
        | refine seqQ_n ?_
        | refine seqQ_r ?_)
      exact fin2r rfl rfl rfl ⟨rfl, hS.mutLp (by repeat (first | exact Pulls.nil | (apply Pulls.cons; focus (repeat (first | exact Pull.here | apply Pull.there)))))⟩
end Go.Proofs.YtccfiohagbneaaaGreatDoor

/- What is proved: a disk with one journal: what it holds behind each call. Conditions: texts of bounded length. -/
set_option linter.unusedSimpArgs false
set_option linter.unusedVariables false
namespace Go.Proofs.YtccfiohagbneaaaGreatDoor
open Go Go.J Go.RowKit

def VD : It := { It0 with dir := true }
abbrev vP : List UInt8 := [118]
abbrev lP : List UInt8 := [118, 47, 108, 111, 103]
def Dv0 : Dk := ⟨[(vP, VD)], [], 1, 0, -1, false⟩
/-- the disk, with the journal's file x -/
def Dl (x : It) (st sp ar : Int) (dn : Bool) : Dk := ⟨[(vP, VD), (lP, x)], [], st, sp, ar, dn⟩
theorem mkdir_v : Dk0.mkdir [118] = (0, Dv0) := by kernel_rfl
theorem open_new : walOpen Dv0 lP = (0, some ⟨lP, [], false⟩, Dl ⟨false, [], [], false, false, 2⟩ 4 2 (-1) false) := by kernel_rfl
theorem append_calm (d k r : List UInt8) (lo an : Bool) (s st sp : Int) : (Dl ⟨false, d, k, lo, an, s⟩ st sp (-1) false).append lP r = (0, Dl ⟨false, d ++ r, k, true, an, IntKind.i64.wrap (sp + 1)⟩ (IntKind.i64.wrap (st + 1)) (IntKind.i64.wrap (sp + 1)) (-1) false) := by kernel_rfl
theorem sync_calm (d k : List UInt8) (lo an : Bool) (s st sp : Int) : (Dl ⟨false, d, k, lo, an, s⟩ st sp (-1) false).sync lP = (0, Dl ⟨false, d, d, false, false, s⟩ (IntKind.i64.wrap (st + 1)) sp (-1) false) := by kernel_rfl
theorem kind_l (x : It) (st sp ar : Int) (dn : Bool) (h : x.dir = false) : (Dl x st sp ar dn).kind lP = 2 := by
  obtain ⟨dir, d, k, lo, an, s⟩ := x
  subst h
  kernel_rfl
theorem read_l (d k : List UInt8) (lo an : Bool) (s st sp ar : Int) : (Dl ⟨false, d, k, lo, an, s⟩ st sp ar false).read lP = (d, 0) := by kernel_rfl
theorem add_calm (G : Lg) (hp : G.p = lP) (d k r : List UInt8) (lo an : Bool) (s st sp : Int) : ∃ s' st' sp', walAdd G (Dl ⟨false, d, k, lo, an, s⟩ st sp (-1) false) r = (0, G.push r, Dl ⟨false, d ++ packE r, d ++ packE r, false, false, s'⟩ st' sp' (-1) false) := by
  have h : walAdd G (Dl ⟨false, d, k, lo, an, s⟩ st sp (-1) false) r = (0, G.push r, Dl ⟨false, d ++ packE r, d ++ packE r, false, false, IntKind.i64.wrap (sp + 1)⟩ (IntKind.i64.wrap (IntKind.i64.wrap (st + 1) + 1)) (IntKind.i64.wrap (sp + 1)) (-1) false) := by
    unfold walAdd
    rw [hp, append_calm]
    dsimp only
    rw [sync_calm]
    rfl
  exact ⟨_, _, _, h⟩
theorem open_whole (l : List (List UInt8)) (h : ∀ u ∈ l, u.length < 9223372036854775808) (k : List UInt8) (lo an : Bool) (s st sp ar : Int) :
    walOpen (Dl ⟨false, frames l, k, lo, an, s⟩ st sp ar false) lP = (0, some ⟨lP, l, false⟩, Dl ⟨false, frames l, k, lo, an, s⟩ st sp ar false) := by
  unfold walOpen
  rw [kind_l _ _ _ _ _ rfl, if_neg (by decide), read_l]
  dsimp only
  rw [if_neg (by decide), scanE_whole l h]
  rfl
theorem fill_calm (d k s0 : List UInt8) (lo an : Bool) (s st sp : Int) : (Dl ⟨false, d, k, lo, an, s⟩ st sp (-1) false).fill lP s0 = (0, Dl ⟨false, s0, s0, false, false, IntKind.i64.wrap (IntKind.i64.wrap (sp + 1) + 1)⟩ (IntKind.i64.wrap (IntKind.i64.wrap (IntKind.i64.wrap (st + 1) + 1) + 1)) (IntKind.i64.wrap (IntKind.i64.wrap (sp + 1) + 1)) (-1) false) := by kernel_rfl
theorem Sm_l {d k : List UInt8} {lo an : Bool} {s st sp ar : Int} {dn : Bool} {B : Nat} (h : d.length ≤ B) : (Dl ⟨false, d, k, lo, an, s⟩ st sp ar dn).Sm B := by
  refine ⟨rfl, fun x hx => ?_⟩
  simp only [Dl, List.mem_cons, List.not_mem_nil, or_false] at hx
  rcases hx with rfl | rfl
  · exact Nat.zero_le _
  · exact h
theorem Sm_v {B : Nat} : Dv0.Sm B := by
  refine ⟨rfl, fun x hx => ?_⟩
  simp only [Dv0, List.mem_cons, List.not_mem_nil, or_false] at hx
  subst hx
  exact Nat.zero_le _
end Go.Proofs.YtccfiohagbneaaaGreatDoor

/- What is proved: rules for the bytes of a text ('[]byte(s)'), and remainders of any sign. Conditions: as each rule names them. -/
set_option linter.unusedSimpArgs false
set_option linter.unusedVariables false
namespace Go.J
open Go Go.RowKit

/-- the bytes of a text, in a row of their own -/
def BsIs (b : Nat) (e : TypeId) (s : List UInt8) (w : World) : Prop := ∃ cs lo, w.heap[b]? = some (.cells ⟨byteC s ++ cs⟩ e (lo, lo + 1)) ∧ (byteC s ++ cs).length ≤ lo
theorem BsIs.local {b : Nat} {e : TypeId} {s : List UInt8} : Local [b] (BsIs b e s) := fun w w' h ⟨cs, lo, h1, h2⟩ => ⟨cs, lo, (h b (by simp)).trans h1, h2⟩
abbrev bsC (b : Nat) (e : TypeId) (s : List UInt8) : Chunk := .obj [b] (BsIs b e s)
theorem byteC_get {s : List UInt8} {j : Nat} {c : UInt8} (h : s[j]? = some c) : (byteC s)[j]? = some (.int .u8 (c.toNat : Int)) := by simp [byteC, h]
theorem byteC_set (s : List UInt8) (j : Nat) (c : UInt8) : byteC (s.set j c) = (byteC s).set j (.int .u8 (c.toNat : Int)) := by simp [byteC, List.map_set]
theorem BsIs.cell {b : Nat} {e : TypeId} {s : List UInt8} {w : World} (h : BsIs b e s w) : ∀ j u, (byteC s)[j]? = some u → w.cell? ⟨b, 0 + j, none⟩ = some u := by
  obtain ⟨cs, lo, h1, h2⟩ := h
  intro j u hj
  rw [Nat.zero_add, cell_of_row w b j _ e _ h1]
  have hlt := (List.getElem?_eq_some_iff.1 hj).1
  simp only [List.getElem?_toArray]
  rw [List.getElem?_append_left hlt]
  exact hj
section
variable {P : Program} {N : Fz} {f : Fr} {w w0 : World} {Q : Post} {ops l : List Oper} {o : Oper} {M : List Nat} {H H' : List Chunk} {Z : List Snap} {ρ : Operand → Value}
theorem run_s2b {t t2 e : TypeId} {x : Operand} {s : List UInt8} (ho : o.op = .convert t t2 x) (ht : isStr P t = true) (ht2 : bytesOf P t2 = some e) (hx : ρ x = str s) :
    ∃ cap w', (execOp ρ o).run P w = .ok (.value (.slice (some ⟨w.heap.size, 0, none⟩) s.length cap)) w' ∧ BsIs w.heap.size e s w' ∧ Upd [] w w' ∧ w.heap.size < w'.heap.size ∧ s.length ≤ cap := by
  obtain ⟨h1, h2⟩ := bytesOf_spec ht2
  have hr := run_bytes_of_string (P := P) w t t2 e ⟨⟨s⟩⟩ (isStr_eq ht) h1 h2
  have hb : bytesRow ⟨⟨s⟩⟩ (grownCap w s.length 0 e) = ⟨byteC s ++ List.replicate (grownCap w s.length 0 e - s.length) (.int .u8 0)⟩ := by
    simp [bytesRow, byteC, ByteArray.size]
  have hsz : (⟨⟨s⟩⟩ : ByteArray).size = s.length := rfl
  rw [hsz, hb] at hr
  generalize List.replicate (grownCap w s.length 0 e - s.length) (Value.int .u8 0) = C at hr
  refine ⟨grownCap w s.length 0 e, w.drew.alloc (.cells ⟨byteC s ++ C⟩ e ((byteC s ++ C).length, (byteC s ++ C).length + 1)), ?_, ⟨C, _, heap_alloc_new w.drew _, Nat.le_refl _⟩, (Upd.drew [] w).trans (.alloc _ _ _), by simp, grownCap_ge w _ _ _⟩
  simp only [execOp, ho, hx, Sem.run_bind, hr, Result.andThen_ok]
  rfl
theorem WL.s2b {t t2 e : TypeId} {x : Operand} {s : List UInt8} (hS : St w0 M w H Z) (ho : o.op = .convert t t2 x) (ht : isStr P t = true) (ht2 : bytesOf P t2 = some e) (hx : ev f x = str s)
    (hg : wants ops f o = true) {d : Nat} (hd : o.dst = some d) (hn : N.ok d = true) (h : ∀ w' b cap, s.length ≤ cap → St w0 M w' (bsC b e s :: H) Z → WL P N ops l (up f d (.slice (some ⟨b, 0, none⟩) s.length cap)) w' Q) : WL P N ops (o :: l) f w Q := by
  obtain ⟨cap, w', hr, hb, hu, hlt, hc⟩ := run_s2b (P := P) (w := w) ho ht ht2 hx
  exact .val hg hd hn hr (h w' _ cap hc (hS.push hu ⟨hb, BsIs.local⟩ fun b hb => by simp [Chunk.fp] at hb; subst hb; exact ⟨Nat.le_refl _, hlt⟩))
theorem LdOk.bs {b j : Nat} {e ty : TypeId} {s : List UInt8} {c : UInt8} (hm : bsC b e s ∈ H) (hj : s[j]? = some c) (h0 : tyAgg P ty = some false) (h1 : ∃ n, tySize P ty = some n) : LdOk P H Z ty ⟨b, 0 + j * 1, none⟩ (.int .u8 (c.toNat : Int)) :=
  ⟨fun w0 M w Hn Zn hS => run_loadVar_cells (getV_at h0 h1 (byteC_get (by rwa [Nat.mul_one])) rfl) (BsIs.cell (hS.holds _ (List.mem_append_right _ hm)).1)⟩
theorem run_storeBs {ty e : TypeId} {x y : Operand} {b j : Nat} {s : List UInt8} {c : UInt8} (ho : o.op = .store ty x y) (hx : ρ x = .pointer (some ⟨b, 0 + j * 1, none⟩)) (hy : ρ y = .int .u8 (c.toNat : Int)) (hj : j < s.length) (hb : BsIs b e s w) (hn : tySize P ty = some 1) :
    ∃ w', (execOp ρ o).run P w = .ok .skip w' ∧ BsIs b e (s.set j c) w' ∧ Upd [b] w w' := by
  obtain ⟨cs, lo, h1, h2⟩ := hb
  have hbl : (byteC s).length = s.length := byteC_len s
  have hjl : j < (byteC s ++ cs).length := by rw [List.length_append]; omega
  have hc : w.cell? ⟨b, 0 + j * 1, none⟩ = (byteC s ++ cs)[j]? := by rw [Nat.zero_add, Nat.mul_one, cell_of_row w b j _ e _ h1]; simp
  have hf : w.frozen? ⟨b, 0 + j * 1, none⟩ = false := by
    simp only [World.frozen?, h1, Nat.zero_add, Nat.mul_one]
    simp; omega
  have hst := run_storeCells_cells (P := P) b (0 + j * 1) [.int .u8 (c.toNat : Int)] 0 w (fun i hi => by
      obtain rfl : i = 0 := by simpa using hi
      simp only [Nat.add_zero]
      rw [hc, List.getElem?_eq_getElem hjl]; rfl) (fun i hi => by
      obtain rfl : i = 0 := by simpa using hi
      simpa using hf) (fun v hv => by rw [List.mem_singleton.1 hv]; rfl)
  have hsv : (storeVar ty ⟨b, 0 + j * 1, none⟩ (.int .u8 (c.toNat : Int))).run P w = .ok () (w.setCells b (0 + j * 1 + 0) [.int .u8 (c.toNat : Int)]) := by
    unfold storeVar
    rw [Sem.run_bind, run_sizeOf hn]
    simp only [Result.andThen_ok, Value.cells]
    simpa using hst
  simp only [Nat.zero_add, Nat.mul_one, Nat.add_zero] at hsv hx
  refine ⟨w.setCells b j [.int .u8 (c.toNat : Int)], by simp [execOp, ho, hx, hy, Instr.storeAt, Instr.sureAddr, Sem.run_bind, hsv], ?_, ?_⟩
  · refine ⟨cs, lo, ?_, by rw [byteC_set, List.length_append, List.length_set, ← List.length_append]; exact h2⟩
    simp only [World.setCells, World.setCell, Array.getElem?_modify, h1, if_true, Option.map_some, Nat.zero_add, Nat.mul_one, Nat.add_zero]
    rw [byteC_set]
    simp [List.set_append_left _ _ (show j < (byteC s).length by omega)]
  · refine ⟨rfl, rfl, rfl, by simp [World.setCells, World.setCell], fun k _ hk => ?_⟩
    have hne : b ≠ k := fun e => hk (by simp [e])
    simp [World.setCells, World.setCell, Array.getElem?_modify, hne]
theorem run_b2sBs {t t2 e e2 : TypeId} {x : Operand} {b cap : Nat} {s : List UInt8} (ho : o.op = .convert t t2 x) (ht : bytesOf P t = some e) (ht2 : isStr P t2 = true) (hx : ρ x = .slice (some ⟨b, 0, none⟩) s.length cap) (hb : BsIs b e2 s w) :
    (execOp ρ o).run P w = .ok (.value (str s)) w := by
  obtain ⟨h1, h2⟩ := bytesOf_spec ht
  have hr := run_convert_bytes_back (P := P) w t t2 e ⟨b, 0, none⟩ cap s h1 h2 (isStr_eq ht2) (fun j hj => by
    have := hb.cell j _ (byteC_get (List.getElem?_eq_getElem hj))
    rw [Addr.add_mid]; exact this)
  simp only [execOp, ho, hx, Sem.run_bind, hr, Result.andThen_ok]
  rfl
theorem WL.b2sBs {t t2 e e2 : TypeId} {x : Operand} {b cap n : Nat} {s : List UInt8} (hS : St w0 M w H Z) (ho : o.op = .convert t t2 x) (ht : bytesOf P t = some e) (ht2 : isStr P t2 = true) (hx : ev f x = .slice (some ⟨b, 0, none⟩) n cap) (hm : bsC b e2 s ∈ H) (hn' : n = s.length)
    (hg : wants ops f o = true) {d : Nat} (hd : o.dst = some d) (hn : N.ok d = true) (h : WL P N ops l (up f d (str s)) w Q) : WL P N ops (o :: l) f w Q :=
  .val hg hd hn (run_b2sBs ho ht ht2 (by rw [hx, hn']) (hS.holds _ hm).1) h
/-- Go's remainder, whatever the sign -/
theorem run_remT {ty ty' : TypeId} {x y : Operand} {a b : Int} (ho : o.op = .binOp .rem ty x y ty') (hx : ρ x = .int .i64 a) (hy : ρ y = .int .i64 b) (hb : 0 < b) :
    (execOp ρ o).run P w = .ok (.value (.int .i64 (Int.tmod a b))) w := by
  have h0 : ¬ b = 0 := by omega
  have h1 : (eqGuard .rem ty x y (.int .i64 a) (.int .i64 b)).run P w = .ok () w := by simp [eqGuard]
  have h2 : (binOp .rem ty (.int .i64 a) (.int .i64 b)).run P w = .ok (.int .i64 (Int.tmod a b)) w := by simp [binOp, Op.intDiv, h0]
  simp only [execOp, ho, hx, hy, Sem.run_bind, h1, h2, Result.andThen_ok]
  rfl
theorem WL.remT {ty ty' : TypeId} {x y : Operand} {a b : Int} (ho : o.op = .binOp .rem ty x y ty') (hx : ev f x = .int .i64 a) (hy : ev f y = .int .i64 b) (hb : 0 < b)
    (hg : wants ops f o = true) {d : Nat} (hd : o.dst = some d) (hn : N.ok d = true) (h : WL P N ops l (up f d (.int .i64 (Int.tmod a b))) w Q) : WL P N ops (o :: l) f w Q :=
  .val hg hd hn (run_remT ho hx hy hb) h
theorem tmod_bound (a : Int) {n : Int} (hn : 0 < n) : -n < Int.tmod a n ∧ Int.tmod a n < n := by
  have h1 := Int.tmod_lt_of_pos a hn
  have h2 := Int.tmod_lt_of_pos (-a) hn
  rw [Int.neg_tmod] at h2
  omega
theorem tmod_twice (a : Int) {n : Int} (hn : 0 < n) : Int.tmod (Int.tmod a n + n) n = a % n := by
  have hb := tmod_bound a hn
  rw [Int.tmod_eq_emod_of_nonneg (by omega), Int.add_emod_right]
  have := Int.mul_tdiv_add_tmod a n
  have e : Int.tmod a n = a + n * (-Int.tdiv a n) := by rw [Int.mul_neg]; omega
  rw [e, Int.add_mul_emod_self_left]
end
section
variable {P : Program} {N : Fz} {f : Fr} {w w0 : World} {Q : Post} {ops : List Oper} {M : List Nat} {H0 H H' : List Chunk} {Z0 Z : List Snap} {q : Qs} {l : List Nat} {i : Nat}
theorem WD.storeBs {ty e : TypeId} {x y : Operand} {b j : Nat} {s : List UInt8} {c : UInt8} (hS : St w0 M w (bsC b e s :: H) Z) (hM : More H0 Z0 H Z) (ho : (ix ops i).op = .store ty x y) (hx : ev f x = .pointer (some ⟨b, 0 + j * 1, none⟩)) (hy : ev f y = .int .u8 (c.toNat : Int)) (hj : j < s.length) (ht : tySize P ty = some 1)
    (hq : q.contains i = false) (hi : Nat.blt i ops.length = true) (hg : wants ops f (ix ops i) = true) (hd : (ix ops i).dst = none) (h : ∀ w', St w0 M w' (bsC b e (s.set j c) :: H) Z → WD P N (SS w0 M H0 Z0) ops q l f w' Q) : WD P N (SS w0 M H0 Z0) ops q (i :: l) f w Q := by
  obtain ⟨w', hr, hb, hu⟩ := run_storeBs (P := P) ho hx hy hj (hS.holds _ (List.mem_cons_self ..)).1 ht
  have hS' : St w0 M w' (bsC b e (s.set j c) :: H) Z := hS.step .here hu ⟨hb, BsIs.local⟩ (fun b hb => .inl hb)
  exact .unit0 hq hi hg hd hr (hM.ss hS'.drop) (h w' hS')
theorem WD.pivBs {qs : List Nat} {ty e : TypeId} {x y : Operand} {b j : Nat} {s : List UInt8} {c : UInt8} {S : World → Prop} (hS : St w0 M w H Z) (ho : (ix ops i).op = .store ty x y) (hx : ev f x = .pointer (some ⟨b, 0 + j * 1, none⟩)) (hy : ev f y = .int .u8 (c.toNat : Int)) (hr : Repl (bsC b e s) (bsC b e (s.set j c)) H H') (hj : j < s.length) (ht : tySize P ty = some 1)
    (hi : Nat.blt i ops.length = true) (hg : wants ops f (ix ops i) = true) (hd : (ix ops i).dst = none) (h : ∀ w', St w0 M w' H' Z → More [] [] H' Z → WD P N (SS w0 M [] []) ops ⟨qs, .nil⟩ l f w' Q) : WD P N S ops ⟨qs, .piv i l⟩ [] f w Q := by
  refine .piv (S2 := SS w0 M [] []) ?_
  obtain ⟨w', hrun, hb, hu⟩ := run_storeBs (P := P) ho hx hy hj (hS.holds _ hr.mem).1 ht
  have hS' := hS.step hr hu ⟨hb, BsIs.local⟩ (fun b hb => .inl hb)
  exact .unit0 hi hg hd hrun (SS.any hS') (h _ hS' .none)
theorem WD.rem {S : World → Prop} {ty ty' : TypeId} {x y : Operand} {a b : Int} (ho : (ix ops i).op = .binOp .rem ty x y ty') (hx : ev f x = .int .i64 a) (hy : ev f y = .int .i64 b) (ha : 0 ≤ a) (hb : 0 < b)
    (hq : q.contains i = true) (hg : wants ops f (ix ops i) = true) {d : Nat} (hd : (ix ops i).dst = some d) (hn : N.ok d = true) (h : WD P N S ops q l (up f d (.int .i64 (a % b))) w Q) : WD P N S ops q (i :: l) f w Q :=
  .take hq hd hn (.inl ⟨hg, fun _ _ => run_rem ho hx hy ha hb⟩) h
theorem WD.quo {S : World → Prop} {ty ty' : TypeId} {x y : Operand} {a b : Int} (ho : (ix ops i).op = .binOp .quo ty x y ty') (hx : ev f x = .int .i64 a) (hy : ev f y = .int .i64 b) (ha : 0 ≤ a) (ha2 : a ≤ 9223372036854775807) (hb : 0 < b)
    (hq : q.contains i = true) (hg : wants ops f (ix ops i) = true) {d : Nat} (hd : (ix ops i).dst = some d) (hn : N.ok d = true) (h : WD P N S ops q l (up f d (.int .i64 (a / b))) w Q) : WD P N S ops q (i :: l) f w Q :=
  .take hq hd hn (.inl ⟨hg, fun _ _ => run_quo ho hx hy ha ha2 hb⟩) h
end
end Go.J

/- What is proved: the walk's rule for a text's bytes put behind a row of bytes of the call's own. Conditions: as the rule names them. -/
set_option linter.unusedSimpArgs false
set_option linter.unusedVariables false
namespace Go.J
open Go Go.RowKit

section
variable {P : Program} {N : Fz} {f : Fr} {w w0 : World} {Q : Post} {ops l : List Oper} {o : Oper} {M : List Nat} {H H' : List Chunk} {Z : List Snap} {ρ : Operand → Value}
/-- what is told of memory at the head of a function that may change the chunks D -/
abbrev ZL (w0 : World) (D : List Chunk) : List Snap := [⟨w0, fun b => b < w0.heap.size ∧ b ∉ fps D⟩]
theorem strCells_mk (s : List UInt8) : Lib.strCells ⟨⟨s⟩⟩ = byteC s := rfl
theorem run_appStr_off (t u ty e : TypeId) (i : TypeInfo) (ht : P.underlying t = some (.slice e)) (hu : P.underlying u = some .string) (hi : P.info? e = some i) (hs1 : i.size = 1)
    (g off sLen sCap : Nat) (cur : List Value) (hg : w.heap[g]? = some (.cells ⟨cur⟩ e (0, 0))) (s : List UInt8) (hroom : sLen + s.length ≤ sCap) (hfit : off + sLen + s.length ≤ cur.length) :
    (Builtin.append_ #[t, u] ty #[.slice (some ⟨g, off, none⟩) sLen sCap, str s]).run P w =
      .ok (.slice (some ⟨g, off, none⟩) (sLen + s.length) sCap) (w.setRow g ⟨cur.take (off + sLen) ++ byteC s ++ cur.drop (off + sLen + s.length)⟩) := by
  have hf := Lib.run_firstCells_string (P := P) w 1 ⟨⟨s⟩⟩
  have hst := run_storeCells_at P g (off + sLen) e (byteC s) 0 ⟨cur⟩ w hg (by simpa [byteC_len] using hfit) (Lib.strCells_oneCell ⟨⟨s⟩⟩)
  rw [strCells_mk, size_mk] at hf
  simp only [Nat.add_zero, byteC_len] at hst
  simp [Builtin.append_, run_underlying ht, run_underlying hu, sizeOf, typeInfo, hi, hs1, Builtin.lenOf, size_mk, hroom, hf, Addr.add_mid, hst]
theorem run_appStr {s x : Operand} {t u e : TypeId} {n cap : Nat} {A : Option Addr} {xs : List Value} {r : List UInt8} (ho : o.op = .call ⟨.builtin .append, ⟨[s, x]⟩, ⟨[t, u]⟩⟩) (hi : appOf P t = some (e, 1, 1)) (hu : isStr P u = true)
    (hs : ρ s = .slice A n cap) (hx : ρ x = str r) (hown : RowAt w e 1 (.slice A n cap) n xs) (hb : n + r.length ≤ 140737488355328) :
    ∃ A' cap' w', (execOp ρ o).run P w = .ok (.value (.slice A' (n + r.length) cap')) w' ∧ RowAt w' e 1 (.slice A' (n + r.length) cap') (n + r.length) (xs ++ byteC r) ∧ Upd (Value.slice A n cap).ownBlock.toList w w' ∧ (∀ g, (Value.slice A' (n + r.length) cap').ownBlock = some g → (Value.slice A n cap).ownBlock = some g ∨ (w.heap.size ≤ g ∧ g < w'.heap.size)) ∧ ((A = none ∨ cap ≠ 0) → (A' = none ∨ cap' ≠ 0)) := by
  obtain ⟨i, z, ht, hinfo, hz, h1s, h1b, hzs, _, _⟩ := appOf_spec hi
  have hu := isStr_eq hu
  have hmx : n + r.length ≤ maxLen := by unfold maxLen; omega
  have hxl : xs.length = n := by simpa using hown.1
  have hlen : (xs ++ byteC r).length = (n + r.length) * 1 := by rw [List.length_append, hxl, byteC_len, Nat.mul_one]
  have run : ∀ v' w', (Builtin.append_ #[t, u] o.type #[.slice A n cap, str r]).run P w = .ok v' w' → (execOp ρ o).run P w = .ok (.value v') w' := fun v' w' hr => by
    unfold execOp
    simp only [ho, resolve, invoke, builtin, Sem.run_bind, Sem.run_pure, Result.andThen_ok, List.map_toArray, List.map_cons, List.map_nil, hs, hx, hr]
  have grown : ∀ old, old < n + r.length → RowAt (w.drew.alloc (.cells (xs.toArray ++ (byteC r).toArray ++ Builtin.zeroCells z.cells (grownCap w (n + r.length) old e - (n + r.length))) e)) e 1
        (.slice (some ⟨w.heap.size, 0, none⟩) (n + r.length) (grownCap w (n + r.length) old e)) (n + r.length) (xs ++ byteC r) := by
    intro old ho
    have hge := grownCap_ge w (n + r.length) old e
    have hcm : grownCap w (n + r.length) old e ≤ maxLen := grownCap_le_maxLen w (n + r.length) old e hmx
    refine ⟨hlen, .inr ⟨w.heap.size, 0, _, (xs.toArray ++ (byteC r).toArray ++ Builtin.zeroCells z.cells (grownCap w (n + r.length) old e - (n + r.length))).toList, rfl, heap_alloc_new w.drew _, hge, hcm, ?_, ?_⟩⟩
    · simp only [Array.length_toList, Array.size_append, List.size_toArray, size_zeroCells, hzs, hxl, byteC_len, Nat.zero_add, Nat.mul_one]
      omega
    · simp only [Array.toList_append, List.append_assoc, List.drop_zero]
      rw [← List.append_assoc, ← hlen]
      exact List.take_left
  have hup : ∀ (fp : List Nat) (ob : Obj), Upd fp w (w.drew.alloc ob) := fun fp ob => (Upd.drew fp w).trans (.alloc _ _ _)
  have hnew : ∀ ob : Obj, ∀ g, (Value.slice (some ⟨w.heap.size, 0, none⟩) (n + r.length) 0).ownBlock = some g → w.heap.size ≤ g ∧ g < (w.drew.alloc ob).heap.size := fun ob g hg => by
    simp only [Value.ownBlock, Option.some.injEq] at hg
    subst hg
    simp
  rcases hown.2 with ⟨h2, rfl⟩ | ⟨g, og, cap0, cur, h2, hgg, hnc, hcm, hcs, htake⟩
  · simp only [Value.slice.injEq] at h2
    obtain ⟨rfl, _, rfl⟩ := h2
    have hx0 : xs = [] := List.eq_nil_of_length_eq_zero hxl
    subst hx0
    by_cases hm : r = []
    · subst hm
      refine ⟨none, 0, w, run _ _ ?_, ⟨by simp [byteC], .inl ⟨rfl, rfl⟩⟩, .refl _ _, fun g hg => by simp [Value.ownBlock] at hg, fun _ => .inl rfl⟩
      have hf := Lib.run_firstCells_string (P := P) w 1 ⟨⟨[]⟩⟩
      rw [strCells_mk, size_mk] at hf
      simp only [List.length_nil] at hf
      simp [Builtin.append_, run_underlying ht, run_underlying hu, sizeOf, typeInfo, hinfo, h1s, Builtin.lenOf, size_mk, hf]
    · have hr0 : 0 < r.length := List.length_pos_iff.2 hm
      have hr := run_append_nil_string (P := P) w t u o.type e i z ht hu hinfo hz ⟨⟨r⟩⟩ (by rw [size_mk]; omega) (by rw [size_mk]; omega) (by rw [h1b, size_mk]; omega)
      have hgr := grown 0 (by omega)
      rw [size_mk] at hr
      simp only [Nat.zero_add, List.nil_append, Array.empty_append] at hgr ⊢
      have e1 : ((⟨⟨r⟩⟩ : ByteArray).data.map fun b => Value.int .u8 b.toNat) = (byteC r).toArray := by
        apply Array.ext'
        simp [byteC]
      rw [e1] at hr
      have hge := grownCap_ge w r.length 0 e
      exact ⟨_, _, _, run _ _ hr, hgr, hup _ _, fun g hg => .inr (hnew _ g hg), fun _ => .inr (by omega)⟩
  · simp only [Value.slice.injEq] at h2
    obtain ⟨rfl, _, rfl⟩ := h2
    by_cases hroom : n + r.length ≤ cap
    · have hfit : og + n + r.length ≤ cur.length := by omega
      have hr := run_appStr_off (P := P) t u o.type e i ht hu hinfo h1s g og n cap cur hgg r hroom hfit
      refine ⟨_, _, _, run _ _ hr, ⟨hlen, .inr ⟨g, og, cap, _, rfl, heap_setRow hgg, hroom, hcm, ?_, ?_⟩⟩, (Upd.setRow _ _ _).mono (by simp [Value.ownBlock]), fun g' hg' => .inl hg', fun h => .inr (by rcases h with h | h; cases h; exact h)⟩
      · simp only [List.length_append, List.length_take, List.length_drop, byteC_len]; omega
      · have h3 := drop_take_app cur (byteC r) og n (by rw [byteC_len]; exact hfit)
        rw [byteC_len] at h3
        rw [Nat.mul_one, h3]
        rw [Nat.mul_one] at htake
        rw [htake]
    · have holds : ∀ j u, xs[j]? = some u → w.cell? ((⟨g, og, none⟩ : Addr).add j) = some u := fun j u hj => by rw [Addr.add_mid]; exact hown.cells j u hj
      have hr := Lib.run_append_grow_string (P := P) w t u o.type e i z ht hu hinfo hz ⟨g, og, none⟩ n cap xs (by rw [h1s]; simpa using hxl) holds ⟨⟨r⟩⟩ (by rw [size_mk]; omega) (by rw [size_mk]; omega) (by rw [h1b, size_mk]; exact growslice_fits (by omega) (by omega))
      rw [size_mk, strCells_mk] at hr
      have hge := grownCap_ge w (n + r.length) cap e
      exact ⟨_, _, _, run _ _ hr, grown cap (by omega), hup _ _, fun g hg => .inr (hnew _ g hg), fun _ => .inr (by omega)⟩
/-- the cells of the element k of a row -/
theorem flat_at {α : Type} {enc : α → List Value} {sz : Nat} (hsz : ∀ x, (enc x).length = sz) : ∀ (l : List α) {k : Nat} (h : k < l.length), ((l.flatMap enc).drop (k * sz)).take sz = enc l[k]
  | [], _, h => by simp at h
  | o :: l, 0, h => by
    simp only [List.flatMap_cons, Nat.zero_mul, List.drop_zero, List.getElem_cons_zero]
    rw [List.take_append_of_le_length (by rw [hsz]; exact Nat.le_refl _), List.take_of_length_le (by rw [hsz]; exact Nat.le_refl _)]
  | o :: l, k + 1, h => by
    simp only [List.flatMap_cons, List.getElem_cons_succ]
    rw [List.drop_append, hsz, List.drop_of_length_le (by rw [hsz, Nat.add_mul]; omega), List.nil_append, show (k + 1) * sz - sz = k * sz by rw [Nat.add_mul]; omega]
    exact flat_at hsz l (by simpa using h)
theorem getV_part {ty : TypeId} {cs es : List Value} {off n : Nat} (h0 : tyAgg P ty = some true) (hn : tySize P ty = some n) (hle : off + n ≤ cs.length) (he : (cs.drop off).take n = es) : getV P ty cs off = some (.agg ⟨es⟩) := by
  unfold getV getV0
  rw [h0, hn]
  simp only
  rw [Nat.ble_eq_true_of_le hle]
  simp only [he, nfo, nfv]
/-- an element of a row of structs -/
theorem LdOk.ownElem {α : Type} {enc : α → List Value} {sz g off n cap n' k : Nat} {e ty : TypeId} {l : List α} (hsz : ∀ x, (enc x).length = sz) (hm : Chunk.own (.slice (some ⟨g, off, none⟩) n cap) e sz n' (l.flatMap enc) ∈ H) (hk : k < l.length) (h0 : tyAgg P ty = some true) (hn : tySize P ty = some sz) :
    LdOk P H Z ty ⟨g, off + k * sz, none⟩ (.agg ⟨enc l[k]⟩) :=
  LdOk.own hm (getV_part h0 hn (by
    rw [flat_len hsz]
    have := Nat.mul_le_mul_right sz (Nat.succ_le_of_lt hk)
    rw [Nat.succ_mul] at this
    exact this) (flat_at hsz l hk))
theorem LdOk.ownElemE {α : Type} {enc : α → List Value} {sz g off n cap n' k : Nat} {e ty : TypeId} {l : List α} {o : α} (hsz : ∀ x, (enc x).length = sz) (hm : Chunk.own (.slice (some ⟨g, off, none⟩) n cap) e sz n' (l.flatMap enc) ∈ H) (hk : l[k]? = some o) (h0 : tyAgg P ty = some true) (hn : tySize P ty = some sz) :
    LdOk P H Z ty ⟨g, off + k * sz, none⟩ (.agg ⟨enc o⟩) := by
  obtain ⟨h1, rfl⟩ := List.getElem?_eq_some_iff.1 hk
  exact LdOk.ownElem hsz hm h1 h0 hn
/-! ## remainders and quotients of numbers without a sign -/
theorem run_remK {ty ty' : TypeId} {x y : Operand} {k : IntKind} {a b : Int} (ho : o.op = .binOp .rem ty x y ty') (hx : ρ x = .int k a) (hy : ρ y = .int k b) (ha : 0 ≤ a) (hb : 0 < b) (hw : k.wrap (a % b) = a % b) :
    (execOp ρ o).run P w = .ok (.value (.int k (a % b))) w := by
  have h0 : ¬ b = 0 := by omega
  have h1 : (eqGuard .rem ty x y (.int k a) (.int k b)).run P w = .ok () w := by simp [eqGuard]
  have h2 : (binOp .rem ty (.int k a) (.int k b)).run P w = .ok (.int k (a % b)) w := by
    simp [binOp, Op.intDiv, h0, Int.tmod_eq_emod_of_nonneg ha, hw]
  simp only [execOp, ho, hx, hy, Sem.run_bind, h1, h2, Result.andThen_ok]
  rfl
theorem run_quoK {ty ty' : TypeId} {x y : Operand} {k : IntKind} {a b : Int} (ho : o.op = .binOp .quo ty x y ty') (hx : ρ x = .int k a) (hy : ρ y = .int k b) (ha : 0 ≤ a) (hb : 0 < b) (hw : k.wrap (a / b) = a / b) :
    (execOp ρ o).run P w = .ok (.value (.int k (a / b))) w := by
  have h0 : ¬ b = 0 := by omega
  have h1 : (eqGuard .quo ty x y (.int k a) (.int k b)).run P w = .ok () w := by simp [eqGuard]
  have h2 : (binOp .quo ty (.int k a) (.int k b)).run P w = .ok (.int k (a / b)) w := by
    simp [binOp, Op.intDiv, h0, Int.tdiv_eq_ediv_of_nonneg ha, hw]
  simp only [execOp, ho, hx, hy, Sem.run_bind, h1, h2, Result.andThen_ok]
  rfl
theorem WL.remK {ty ty' : TypeId} {x y : Operand} {k : IntKind} {a b : Int} (ho : o.op = .binOp .rem ty x y ty') (hx : ev f x = .int k a) (hy : ev f y = .int k b) (ha : 0 ≤ a) (hb : 0 < b) (hw : k.wrap (a % b) = a % b)
    (hg : wants ops f o = true) {d : Nat} (hd : o.dst = some d) (hn : N.ok d = true) (h : WL P N ops l (up f d (.int k (a % b))) w Q) : WL P N ops (o :: l) f w Q := .val hg hd hn (run_remK ho hx hy ha hb hw) h
theorem WL.quoK {ty ty' : TypeId} {x y : Operand} {k : IntKind} {a b : Int} (ho : o.op = .binOp .quo ty x y ty') (hx : ev f x = .int k a) (hy : ev f y = .int k b) (ha : 0 ≤ a) (hb : 0 < b) (hw : k.wrap (a / b) = a / b)
    (hg : wants ops f o = true) {d : Nat} (hd : o.dst = some d) (hn : N.ok d = true) (h : WL P N ops l (up f d (.int k (a / b))) w Q) : WL P N ops (o :: l) f w Q := .val hg hd hn (run_quoK ho hx hy ha hb hw) h
/-- a text's bytes put behind a row of bytes -/
theorem WL.appStr {s x : Operand} {t u e : TypeId} {n cap : Nat} {A : Option Addr} {xs : List Value} {r : List UInt8} {H' : Option Addr → Nat → List Chunk} (hS : St w0 M w H Z) (ho : o.op = .call ⟨.builtin .append, ⟨[s, x]⟩, ⟨[t, u]⟩⟩) (hi : appOf P t = some (e, 1, 1)) (hu : isStr P u = true)
    (hs : ev f s = .slice A n cap) (hx : ev f x = str r)
    (hr : ∀ A' cap', Repl (.own (.slice A n cap) e 1 n xs) (.own (.slice A' (n + r.length) cap') e 1 (n + r.length) (xs ++ byteC r)) H (H' A' cap')) (hb : n + r.length ≤ 140737488355328)
    (hg : wants ops f o = true) {d : Nat} (hd : o.dst = some d) (hn : N.ok d = true)
    (h : ∀ A' cap' w', ((A = none ∨ cap ≠ 0) → (A' = none ∨ cap' ≠ 0)) → St w0 M w' (H' A' cap') Z → WL P N ops l (up f d (.slice A' (n + r.length) cap')) w' Q) : WL P N ops (o :: l) f w Q := by
  obtain ⟨A', cap', w', hrun, hown', hgr, hat, h1⟩ := run_appStr (P := P) (w := w) ho hi hu hs hx (hS.holds _ (hr none 0).mem) hb
  exact .val hg hd hn hrun (h A' cap' w' h1 (hS.app (hr A' cap') hown' hgr hat))
end
section
variable {P : Program} {N : Fz} {f : Fr} {w w0 : World} {Q : Post} {ops : List Oper} {M : List Nat} {H0 H H' : List Chunk} {Z0 Z : List Snap} {q : Qs} {l : List Nat} {i : Nat}
/-- a key struck from a map, in a region that does not lean on it -/
theorem WD.mdelC0 {t k t2 : TypeId} {z : Value} {x y : Operand} {b : Nat} {m : KV} {s : List UInt8} (hS : St w0 M w (mapC b m :: H) Z) (hM : More H0 Z0 H Z) (ho : (ix ops i).op = .call ⟨.builtin .delete, ⟨[x, y]⟩, ⟨[t, t2]⟩⟩) (ht : mapOf P t = some (k, z)) (hx : ev f x = .map (some b)) (hy : ev f y = str s)
    (hq : q.contains i = false) (hi : Nat.blt i ops.length = true) (hg : wants ops f (ix ops i) = true) (hd : (ix ops i).dst = none) (h : ∀ w', St w0 M w' (mapC b (mdel m s) :: H) Z → WD P N (SS w0 M H0 Z0) ops q l f w' Q) : WD P N (SS w0 M H0 Z0) ops q (i :: l) f w Q := by
  obtain ⟨ob, h1, h2⟩ := run_delete (t2 := t2) (ty := (ix ops i).type) (s := s) ht (hS.holds _ (List.Mem.head _)).1
  have hrun : (execOp (ev f) (ix ops i)).run P w = .ok (.value (.tuple #[])) { w with heap := w.heap.setIfInBounds b ob } := by
    simp [execOp, ho, resolve, invoke, builtin, hx, hy, Sem.run_bind, h1]
  have hS' := hS.setMap .here h2
  refine .eff hq fun a ha K hK => ?_
  unfold Go.wpOp
  rw [ix_some (by simp only [List.size_toArray]; exact Nat.le_of_ble_eq_true hi)]
  simp only
  rw [if_pos ((wanted_eq ha _).trans hg)]
  refine .inl ?_
  simp only [Oper.wp, ha.eval, hrun, Oper.upon]
  exact hK _ _ _ (by rw [hd]; exact ha) (hM.ss hS'.drop) (h _ hS')
/-- a region that draws its order, does not lean on D, and of which the effect 'i' and those behind it spoil what was known -/
theorem WC.drawLV {id : Nat} (D : List Chunk) (hS : St w0 M w H Z) (hp : Pulls D H H') (q l : List Nat) (i : Nat) (l2 : List Nat) (hm : P.follows .mixedOrders = true)
    (hk : (Region.noSelect ops.toArray && ordOk ops.toArray ⟨q, .piv i l2⟩ (Array.replicate ops.toArray.size false) l && Nat.beq (l.length + (l2.length + 1)) ops.length) = true)
    (h : ∀ w', St w0 M w' (D ++ H') Z → More H' Z (D ++ H') Z → WD P N (SS w0 M H' Z) ops ⟨q, .piv i l2⟩ l f w' Q) (hok : okR N ops = true := by rfl) : WC P N (.region id ops.toArray true) f w Q := by
  have hS' := hS.pulls hp
  simp only [Bool.and_eq_true] at hk
  exact WC.draw (SS w0 M H' Z) ⟨q, .piv i l2⟩ l hm hk.1.1 hk.1.2 hk.2 ((More.app (.refl _ _)).ss hS'.drew) (h _ hS'.drew (More.app (.refl _ _))) hok
/-- append to a row on which the region does not lean -/
theorem WD.app {s x : Operand} {t e : TypeId} {size bytes n m cap c b off : Nat} {A : Option Addr} {xs news : List Value} (hS : St w0 M w H Z) (hp : Pull (.own (.slice A n cap) e size n xs) H H') (hM : More H0 Z0 H' Z) (ho : (ix ops i).op = .call ⟨.builtin .append, ⟨[s, x]⟩, ⟨[t, t]⟩⟩) (hi0 : appOf P t = some (e, size, bytes))
    (hs : ev f s = .slice A n cap) (hx : ev f x = .slice (some ⟨b, off, none⟩) m c) (hnews : RdOk H Z b off news) (hl : news.length = m * size) (h1 : one news = true) (hb : (n + m) * bytes ≤ 140737488355328)
    (hq : q.contains i = false) (hi : Nat.blt i ops.length = true) (hg : wants ops f (ix ops i) = true) {d : Nat} (hd : (ix ops i).dst = some d) (hn : N.ok d = true)
    (h : ∀ A' cap' w', St w0 M w' (.own (.slice A' (n + m) cap') e size (n + m) (xs ++ news) :: H') Z → More H0 Z0 (.own (.slice A' (n + m) cap') e size (n + m) (xs ++ news) :: H') Z → WD P N (SS w0 M H0 Z0) ops q l (up f d (.slice A' (n + m) cap')) w' Q) : WD P N (SS w0 M H0 Z0) ops q (i :: l) f w Q := by
  have hS' := hS.pull hp
  obtain ⟨A', cap', w', hrun, hown', hgr, hat⟩ := run_appOp (P := P) (w := w) ho hi0 hs hx (hS'.holds _ (List.Mem.head _)) (hnews.out w0 M w [] [] hS) hl h1 hb
  have hS2 := hS'.app (.here) hown' hgr hat
  exact .val hq hi hg hd hn hrun ((hM.chunk _).ss hS2) (h A' cap' w' hS2 (hM.chunk _))
theorem WD.remK {S : World → Prop} {ty ty' : TypeId} {x y : Operand} {k : IntKind} {a b : Int} (ho : (ix ops i).op = .binOp .rem ty x y ty') (hx : ev f x = .int k a) (hy : ev f y = .int k b) (ha : 0 ≤ a) (hb : 0 < b) (hw : k.wrap (a % b) = a % b)
    (hq : q.contains i = true) (hg : wants ops f (ix ops i) = true) {d : Nat} (hd : (ix ops i).dst = some d) (hn : N.ok d = true) (h : WD P N S ops q l (up f d (.int k (a % b))) w Q) : WD P N S ops q (i :: l) f w Q :=
  .take hq hd hn (.inl ⟨hg, fun _ _ => run_remK ho hx hy ha hb hw⟩) h
theorem WD.quoK {S : World → Prop} {ty ty' : TypeId} {x y : Operand} {k : IntKind} {a b : Int} (ho : (ix ops i).op = .binOp .quo ty x y ty') (hx : ev f x = .int k a) (hy : ev f y = .int k b) (ha : 0 ≤ a) (hb : 0 < b) (hw : k.wrap (a / b) = a / b)
    (hq : q.contains i = true) (hg : wants ops f (ix ops i) = true) {d : Nat} (hd : (ix ops i).dst = some d) (hn : N.ok d = true) (h : WD P N S ops q l (up f d (.int k (a / b))) w Q) : WD P N S ops q (i :: l) f w Q :=
  .take hq hd hn (.inl ⟨hg, fun _ _ => run_quoK ho hx hy ha hb hw⟩) h
end
end Go.J

/- What is proved: the walk's rules for appending nothing, for a slice cut to another length, and for lists of the caller's put behind a row. Conditions: as each rule names them. -/
set_option linter.unusedSimpArgs false
set_option linter.unusedVariables false
namespace Go.J
open Go Go.RowKit

section
variable {P : Program} {N : Fz} {f : Fr} {w w0 : World} {Q : Post} {ops l : List Oper} {o : Oper} {M : List Nat} {H H' : List Chunk} {Z : List Snap} {ρ : Operand → Value}
theorem run_app0B {s x : Operand} {t e : TypeId} {size bytes n cap c : Nat} {A B : Option Addr} (ho : o.op = .call ⟨.builtin .append, ⟨[s, x]⟩, ⟨[t, t]⟩⟩) (hi : appOf P t = some (e, size, bytes))
    (hs : ρ s = .slice A n cap) (hx : ρ x = .slice B 0 c) (hc : n ≤ cap) : (execOp ρ o).run P w = .ok (.value (.slice A n cap)) w := by
  obtain ⟨i, z, hu, hinfo, hz, rfl, rfl, hzs, h0, h0b⟩ := appOf_spec hi
  have hr : (Builtin.append_ #[t, t] o.type #[.slice A n cap, .slice B 0 c]).run P w = .ok (.slice A n cap) w := by
    cases A with
    | none => cases B with
      | none => simp [Builtin.append_, run_underlying hu, sizeOf, typeInfo, hinfo, Builtin.lenOf, Builtin.firstCells, hc]
      | some b => simp [Builtin.append_, run_underlying hu, sizeOf, typeInfo, hinfo, Builtin.lenOf, Builtin.firstCells, loadCells, loadCellsFrom, hc]
    | some a => cases B with
      | none => simp [Builtin.append_, run_underlying hu, sizeOf, typeInfo, hinfo, Builtin.lenOf, Builtin.firstCells, hc, storeCells]
      | some b => simp [Builtin.append_, run_underlying hu, sizeOf, typeInfo, hinfo, Builtin.lenOf, Builtin.firstCells, loadCells, loadCellsFrom, hc, storeCells]
  unfold execOp
  simp only [ho, resolve, invoke, builtin, Sem.run_bind, Sem.run_pure, Result.andThen_ok, List.map_toArray, List.map_cons, List.map_nil, hs, hx, hr]
/-- append of nothing -/
theorem WL.app0B {s x : Operand} {t e : TypeId} {size bytes n cap c : Nat} {A B : Option Addr} (ho : o.op = .call ⟨.builtin .append, ⟨[s, x]⟩, ⟨[t, t]⟩⟩) (hi : appOf P t = some (e, size, bytes))
    (hs : ev f s = .slice A n cap) (hx : ev f x = .slice B 0 c) (hc : n ≤ cap) (hg : wants ops f o = true) {d : Nat} (hd : o.dst = some d) (hn : N.ok d = true)
    (h : WL P N ops l (up f d (.slice A n cap)) w Q) : WL P N ops (o :: l) f w Q := .val hg hd hn (run_app0B ho hi hs hx hc) h
/-- list[:k]: the value alone -/
theorem WL.highV {t e : TypeId} {size g off n cap j : Nat} {x y : Operand} {k : IntKind} (ho : o.op = .slice t x none (some y) none) (he : elemOf P t = some (e, size)) (hx : ev f x = .slice (some ⟨g, off, none⟩) n cap) (hy : ev f y = .int k (Int.ofNat j)) (hj : j ≤ cap)
    (hg : wants ops f o = true) {d : Nat} (hd : o.dst = some d) (hn : N.ok d = true) (h : WL P N ops l (up f d (.slice (some ⟨g, off, none⟩) j cap)) w Q) : WL P N ops (o :: l) f w Q := .val hg hd hn (run_sliceHigh ho he hx hy hj) h
theorem SlAt.pre {α : Type} {c : Cod α} {F : Nat → Prop} {w : World} {A : Option Addr} {xs ys : List α} (h : SlAt c F w A (xs ++ ys)) : SlAt c F w A xs := fun k hk => by
  obtain ⟨b, o, es, h1, h2, h3, h4⟩ := h k (by rw [List.length_append]; omega)
  exact ⟨b, o, es, h1, h2, h3, by rwa [List.getElem_append_left hk] at h4⟩
theorem flat_get {α : Type} {enc : α → List Value} {sz : Nat} (hsz : ∀ x, (enc x).length = sz) (l : List α) {k i : Nat} (h : k < l.length) (hi : i < sz) : (l.flatMap enc)[k * sz + i]? = (enc l[k])[i]? := by
  have := congrArg (fun x => x[i]?) (flat_at hsz l h)
  simp only [List.getElem?_take, List.getElem?_drop, if_pos hi] at this
  exact this
/-- the caller's list as cells that lie there -/
theorem RdOk.ofSl {α : Type} {enc : α → List Value} {sz : Nat} {hsz : ∀ x, (enc x).length = sz} {F : Nat → Prop} {wz : World} {b off : Nat} {xs : List α} (h : SlAt (Cod.flat enc sz hsz) F wz (some ⟨b, off, none⟩) xs) (hz : Snap.mk wz F ∈ Z) (h0 : 0 < sz) : RdOk H Z b off (xs.flatMap enc) := by
  refine ⟨fun w0 M w Hn Zn hS j u hj => ?_⟩
  have hlt : j < xs.length * sz := by
    have := (List.getElem?_eq_some_iff.1 hj).1
    rwa [flat_len hsz] at this
  have hk : j / sz < xs.length := (Nat.div_lt_iff_lt_mul h0).2 hlt
  have hi : j % sz < sz := Nat.mod_lt _ h0
  have hje : j = j / sz * sz + j % sz := by rw [Nat.mul_comm]; exact (Nat.div_add_mod j sz).symm
  rw [hje, flat_get hsz xs hk hi] at hj
  obtain ⟨b', o', es, e0, hF, hr, hes⟩ := h.at_ hk
  simp only [Option.some.injEq, Addr.mk.injEq, and_true] at e0
  obtain ⟨rfl, rfl⟩ := e0
  have hes : es = enc xs[j / sz] := hes
  subst hes
  have := (RdOk.snap (H := H) (Z := Z) hF hr hz).out w0 M w Hn Zn hS (j % sz) u hj
  rw [hje]
  rw [← Nat.add_assoc]
  exact this
/-- append of the caller's list to a row of the call's own -/
theorem WL.appSl {α : Type} {enc : α → List Value} {sz : Nat} {hsz : ∀ x, (enc x).length = sz} {F : Nat → Prop} {wz : World} {ys : List α} {s x : Operand} {t e : TypeId} {bytes n cap c : Nat} {A B : Option Addr} {xs : List Value} {H' : Option Addr → Nat → List Chunk} (hS : St w0 M w H Z) (ho : o.op = .call ⟨.builtin .append, ⟨[s, x]⟩, ⟨[t, t]⟩⟩) (hi : appOf P t = some (e, sz, bytes))
    (hs : ev f s = .slice A n cap) (hx : ev f x = .slice B ys.length c) (h : SlAt (Cod.flat enc sz hsz) F wz B ys) (hz : Snap.mk wz F ∈ Z) (h0 : 0 < sz) (h1 : one (ys.flatMap enc) = true)
    (hr : ∀ A' cap', Repl (.own (.slice A n cap) e sz n xs) (.own (.slice A' (n + ys.length) cap') e sz (n + ys.length) (xs ++ ys.flatMap enc)) H (H' A' cap')) (hb : (n + ys.length) * bytes ≤ 140737488355328)
    (hg : wants ops f o = true) {d : Nat} (hd : o.dst = some d) (hn : N.ok d = true)
    (hk : ∀ A' cap' w', St w0 M w' (H' A' cap') Z → WL P N ops l (up f d (.slice A' (n + ys.length) cap')) w' Q) : WL P N ops (o :: l) f w Q := by
  rcases ys with _ | ⟨y, ys⟩
  · have hm := (hr A cap).mem
    have hcap := (hS.own_len hm).2.2
    refine WL.app0B ho hi hs hx hcap hg hd hn ?_
    refine hk A cap w (hS.recast (hr A cap) (fun h => ?_) (fun b hb => ?_))
    · simpa using h
    · simpa using hb
  · obtain ⟨b, off, es, rfl, hF, _, _⟩ := h.at_ (k := 0) (by simp)
    exact WL.app hS ho hi hs hx (RdOk.ofSl h hz h0) (flat_len hsz _) h1 hr hb hg hd hn hk
end
end Go.J

/- What is proved: lists of entries, in plain lists: when they are trees. Conditions: none. -/
set_option linter.unusedSimpArgs false
set_option linter.unusedVariables false
namespace Go.J
open Go

theorem cmp_lt : ∀ a b : List UInt8, (Lib.compareBytes a b < 0 ↔ Op.bytesLess a b = true)
  | [], [] => by simp [Lib.compareBytes, Op.bytesLess]
  | [], _ :: _ => by simp [Lib.compareBytes, Op.bytesLess]
  | _ :: _, [] => by simp [Lib.compareBytes, Op.bytesLess]
  | a :: x, b :: y => by
    have ih := cmp_lt x y
    unfold Lib.compareBytes Op.bytesLess
    by_cases h1 : a < b
    · simp [h1]
    · rw [if_neg h1]
      by_cases h2 : b < a
      · have h3 : ¬ a = b := fun e => by subst e; exact h1 h2
        rw [if_pos h2]
        simp [h1, h3]
      · have h3 : a = b := by
          apply UInt8.toNat_inj.1
          have h1 : ¬ a.toNat < b.toNat := h1
          have h2 : ¬ b.toNat < a.toNat := h2
          omega
        rw [if_neg h2, ih]
        simp [h1, h3]
theorem cmp_eq : ∀ a b : List UInt8, (Lib.compareBytes a b = 0 ↔ a = b)
  | [], [] => by simp [Lib.compareBytes]
  | [], _ :: _ => by simp [Lib.compareBytes]
  | _ :: _, [] => by simp [Lib.compareBytes]
  | a :: x, b :: y => by
    have ih := cmp_eq x y
    unfold Lib.compareBytes
    by_cases h1 : a < b
    · rw [if_pos h1]
      constructor
      · intro h; omega
      · intro h
        rw [List.cons.injEq] at h
        rw [h.1] at h1
        exact absurd h1 (by simp)
    · rw [if_neg h1]
      by_cases h2 : b < a
      · rw [if_pos h2]
        constructor
        · intro h; omega
        · intro h
          rw [List.cons.injEq] at h
          rw [h.1] at h2
          exact absurd h2 (by simp)
      · have h3 : a = b := by
          apply UInt8.toNat_inj.1
          have h1 : ¬ a.toNat < b.toNat := h1
          have h2 : ¬ b.toNat < a.toNat := h2
          omega
        rw [if_neg h2, ih, h3]
        simp
theorem cmp_bound (a b : List UInt8) : -1 ≤ Lib.compareBytes a b ∧ Lib.compareBytes a b ≤ 1 := by
  induction a generalizing b with
  | nil => cases b <;> simp [Lib.compareBytes]
  | cons x a ih =>
    cases b with
    | nil => simp [Lib.compareBytes]
    | cons y b =>
      unfold Lib.compareBytes
      split
      · omega
      · split
        · omega
        · exact ih b
theorem less_irr (a : List UInt8) : Op.bytesLess a a = false := by
  cases h : Op.bytesLess a a with
  | false => rfl
  | true =>
    have := (cmp_lt a a).2 h
    rw [(cmp_eq a a).2 rfl] at this
    omega
theorem less_trans : ∀ {a b c : List UInt8}, Op.bytesLess a b = true → Op.bytesLess b c = true → Op.bytesLess a c = true
  | _, _, [], _, h => by simp [Op.bytesLess] at h
  | _, [], _ :: _, h, _ => by simp [Op.bytesLess] at h
  | [], _ :: _, _ :: _, _, _ => by simp [Op.bytesLess]
  | x :: a, y :: b, z :: c, h1, h2 => by
    unfold Op.bytesLess at *
    simp only [Bool.or_eq_true, decide_eq_true_eq, Bool.and_eq_true, beq_iff_eq] at *
    rcases h1 with h1 | ⟨h1, h1'⟩ <;> rcases h2 with h2 | ⟨h2, h2'⟩
    · exact .inl (UInt8.lt_trans h1 h2)
    · subst h2; exact .inl h1
    · subst h1; exact .inl h2
    · subst h1 h2; exact .inr ⟨rfl, less_trans h1' h2'⟩
theorem less_asym {a b : List UInt8} (h : Op.bytesLess a b = true) : Op.bytesLess b a = false := by
  cases h2 : Op.bytesLess b a with
  | false => rfl
  | true => have := less_trans h h2; rw [less_irr] at this; cases this
theorem less_tri (a b : List UInt8) : Op.bytesLess a b = true ∨ a = b ∨ Op.bytesLess b a = true := by
  rcases Int.lt_trichotomy (Lib.compareBytes a b) 0 with h | h | h
  · exact .inl ((cmp_lt a b).1 h)
  · exact .inr (.inl ((cmp_eq a b).1 h))
  · refine .inr (.inr ?_)
    induction a generalizing b with
    | nil => cases b <;> simp [Lib.compareBytes] at h
    | cons x a ih =>
      cases b with
      | nil => simp [Op.bytesLess]
      | cons y b =>
        unfold Lib.compareBytes at h
        unfold Op.bytesLess
        split at h
        · omega
        · rename_i h1
          split at h
          · rename_i h2; simp [h2]
          · rename_i h2
            have h3 : x = y := by
              apply UInt8.toNat_inj.1
              have h1 : ¬ x.toNat < y.toNat := h1
              have h2 : ¬ y.toNat < x.toNat := h2
              omega
            subst h3
            simp [ih b h]

/-! ## entries -/
structure Ent where
  path : List UInt8
  kind : Int
  data : List UInt8
instance : Inhabited Ent := ⟨⟨[], 0, []⟩⟩
def encEnt (e : Ent) : List Value := [str e.path, .int .i64 e.kind, str e.data]
def cEnt : Cod Ent := .flat encEnt 3 fun _ => rfl
/-- may a node be? -/
def wholeE (kind : Int) (data : List UInt8) : Bool := if kind = 0 ∨ kind = 1 then decide (data = []) else if kind = 2 then decide (data.length ≤ 4096) else false
/-- is an entry right behind those ahead of it? -/
structure EntOk (t : List Ent) (i : Nat) (h : i < t.length) : Prop where
  path : checkE t[i].path 5 = 0
  whole : wholeE t[i].kind t[i].data = true
  kind : t[i].kind ≠ 0
  ord : ∀ j (hj : j + 1 = i), Op.bytesLess (t[j]'(by omega)).path t[i].path = true
  up : parentE t[i].path ≠ [] → ∃ j, ∃ hj : j < i, (t[j]'(by omega)).path = parentE t[i].path ∧ (t[j]'(by omega)).kind = 1
def TreeOk (t : List Ent) : Prop := ∀ i (h : i < t.length), EntOk t i h
open Classical in
noncomputable def checkT (t : List Ent) : Int := if 200 < t.length then 4 else if TreeOk t then 0 else 3
/-- entries rise, up to a place -/
def Rise (t : List Ent) (n : Nat) : Prop := ∀ i j (hi : i < j) (hj : j < t.length), j < n → Op.bytesLess (t[i]'(by omega)).path t[j].path = true
theorem Rise.of {t : List Ent} {n : Nat} (h : ∀ i (h : i < t.length), i < n → ∀ j (hj : j + 1 = i), Op.bytesLess (t[j]'(by omega)).path t[i].path = true) : Rise t n := by
  intro i j hi hj hn
  induction j with
  | zero => omega
  | succ j ih =>
    have h1 := h (j + 1) hj hn j rfl
    by_cases e : i = j
    · subst e; exact h1
    · exact less_trans (ih (by omega) (by omega) (by omega)) h1
theorem TreeOk.rise {t : List Ent} (h : TreeOk t) : Rise t t.length := Rise.of fun i hi _ j hj => (h i hi).ord j hj
/-- what stands at a path: the first entry of it -/
def getT (t : List Ent) (p : List UInt8) : Ent := (t.find? fun e => decide (e.path = p)).getD ⟨[], 0, []⟩
theorem getT_at {t : List Ent} (hr : Rise t t.length) {i : Nat} (hi : i < t.length) : getT t t[i].path = t[i] := by
  unfold getT
  cases hf : t.find? fun e => decide (e.path = t[i].path) with
  | none => exact absurd (decide_eq_true rfl) (List.find?_eq_none.1 hf t[i] (List.getElem_mem hi))
  | some e =>
    have h1 := List.find?_some hf
    have h1 : e.path = t[i].path := by simpa using h1
    obtain ⟨j, hj, rfl⟩ := List.getElem_of_mem (List.mem_of_find?_eq_some hf)
    have : j = i := by
      rcases Nat.lt_trichotomy j i with h | h | h
      · have := hr j i h hi hi; rw [h1, less_irr] at this; cases this
      · exact h
      · have := hr i j h hj hj; rw [h1, less_irr] at this; cases this
    subst this
    rfl
theorem getT_no {t : List Ent} {p : List UInt8} (h : ∀ e ∈ t, e.path ≠ p) : getT t p = ⟨[], 0, []⟩ := by
  unfold getT
  rw [List.find?_eq_none.2 fun e he => by simpa using h e he]
  rfl
end Go.J

/- What is proved: lists in the order of their keys: what is put in its place, what is taken away, what is found. Conditions: a strict order of the keys. -/
set_option linter.unusedSimpArgs false
set_option linter.unusedVariables false
set_option linter.unusedSectionVars false
namespace Go.J
open Go

structure StrictO {κ : Type} (lt : κ → κ → Bool) : Prop where
  irr : ∀ a, lt a a = false
  trans : ∀ {a b c}, lt a b = true → lt b c = true → lt a c = true
  tri : ∀ a b, lt a b = true ∨ a = b ∨ lt b a = true
theorem bytesO : StrictO Op.bytesLess := ⟨less_irr, fun h k => less_trans h k, less_tri⟩
section
variable {α κ : Type} [DecidableEq κ] (key : α → κ) (lt : κ → κ → Bool)
def findG (l : List α) (k : κ) : Option α := l.find? fun x => decide (key x = k)
def RiseG (l : List α) : Prop := l.Pairwise fun x y => lt (key x) (key y) = true
def putG (l : List α) (x : α) : List α := l.takeWhile (fun y => lt (key y) (key x)) ++ x :: ((l.dropWhile fun y => lt (key y) (key x)).filter fun y => decide (key y ≠ key x))
def dropG (l : List α) (k : κ) : List α := l.filter fun y => decide (key y ≠ k)
end
section
variable {α κ : Type} [DecidableEq κ] {key : α → κ} {lt : κ → κ → Bool} (O : StrictO lt) {l : List α} {x y z : α} {k q : κ}
theorem findG_cons : findG key (x :: l) k = if key x = k then some x else findG key l k := by
  unfold findG
  rw [List.find?_cons]
  by_cases h : key x = k
  · rw [if_pos h]; simp [h]
  · rw [if_neg h]; simp [h]
theorem findG_none (h : ∀ x ∈ l, key x ≠ k) : findG key l k = none := List.find?_eq_none.2 fun x hx => by simp [h x hx]
theorem findG_some (h : findG key l k = some x) : x ∈ l ∧ key x = k := ⟨List.mem_of_find?_eq_some h, by have := List.find?_some h; simpa using this⟩
include O
theorem findG_mem (hr : RiseG key lt l) (hx : x ∈ l) : findG key l (key x) = some x := by
  induction l with
  | nil => cases hx
  | cons y l ih =>
    rw [findG_cons]
    have hr1 := List.pairwise_cons.1 hr
    rcases List.mem_cons.1 hx with rfl | hx
    · rw [if_pos rfl]
    · rw [if_neg]
      · exact ih hr1.2 hx
      · intro e
        have := hr1.1 x hx
        rw [e, O.irr] at this
        cases this
theorem RiseG.nodup (hr : RiseG key lt l) : (l.map key).Nodup := by
  induction l with
  | nil => exact List.nodup_nil
  | cons y l ih =>
    have hr1 := List.pairwise_cons.1 hr
    rw [List.map_cons, List.nodup_cons]
    refine ⟨fun h => ?_, ih hr1.2⟩
    obtain ⟨z, hz, e⟩ := List.mem_map.1 h
    have := hr1.1 z hz
    rw [e, O.irr] at this
    cases this
omit O in
theorem findG_drop : findG key (dropG key l k) q = if q = k then none else findG key l q := by
  induction l with
  | nil => unfold dropG findG; simp
  | cons x l ih =>
    have e : dropG key (x :: l) k = if key x = k then dropG key l k else x :: dropG key l k := by
      unfold dropG
      rw [List.filter_cons]
      by_cases h : key x = k <;> simp [h]
    rw [e]
    by_cases h : key x = k
    · rw [if_pos h, ih]
      by_cases hq : q = k
      · rw [if_pos hq, if_pos hq]
      · rw [if_neg hq, if_neg hq, findG_cons, if_neg (by rw [h]; exact fun e => hq e.symm)]
    · rw [if_neg h, findG_cons, findG_cons, ih]
      by_cases hq : q = k
      · rw [if_pos hq, if_neg (by rw [hq]; exact h), if_pos hq]
      · rw [if_neg hq, if_neg hq]
omit O in
theorem dropG_rise (hr : RiseG key lt l) : RiseG key lt (dropG key l k) := hr.sublist List.filter_sublist
omit O in
theorem putG_cons : putG key lt (y :: l) x = if lt (key y) (key x) then y :: putG key lt l x else x :: (y :: l).filter fun z => decide (key z ≠ key x) := by
  unfold putG
  rw [List.takeWhile_cons, List.dropWhile_cons]
  cases lt (key y) (key x) <;> rfl
theorem mem_putG (h : z ∈ putG key lt l x) : z = x ∨ (z ∈ l ∧ key z ≠ key x) := by
  induction l with
  | nil => unfold putG at h; simp at h; exact .inl h
  | cons y l ih =>
    rw [putG_cons] at h
    split at h
    · rename_i hl
      rcases List.mem_cons.1 h with rfl | h
      · refine .inr ⟨List.mem_cons_self .., fun e => ?_⟩
        rw [e, O.irr] at hl
        cases hl
      · rcases ih h with h | ⟨h1, h2⟩
        · exact .inl h
        · exact .inr ⟨List.mem_cons_of_mem _ h1, h2⟩
    · rcases List.mem_cons.1 h with rfl | h
      · exact .inl rfl
      · obtain ⟨h1, h2⟩ := List.mem_filter.1 h
        exact .inr ⟨h1, of_decide_eq_true h2⟩
theorem findG_put : findG key (putG key lt l x) q = if q = key x then some x else findG key l q := by
  induction l with
  | nil =>
    have e : putG key lt [] x = [x] := rfl
    rw [e, findG_cons]
    by_cases h : key x = q
    · rw [if_pos h, if_pos h.symm]
    · rw [if_neg h, if_neg (fun e => h e.symm)]
  | cons y l ih =>
    rw [putG_cons]
    split
    · rename_i hl
      rw [findG_cons, findG_cons, ih]
      by_cases hq : q = key x
      · rw [if_pos hq, if_pos hq, if_neg]
        intro e
        rw [e, hq, O.irr] at hl
        cases hl
      · rw [if_neg hq, if_neg hq]
    · rw [findG_cons]
      by_cases hq : q = key x
      · rw [if_pos hq, if_pos hq.symm]
      · rw [if_neg hq, if_neg (fun e => hq e.symm)]
        have := findG_drop (key := key) (l := y :: l) (k := key x) (q := q)
        rw [if_neg hq] at this
        exact this
theorem putG_rise (hr : RiseG key lt l) : RiseG key lt (putG key lt l x) := by
  induction l with
  | nil => exact List.pairwise_singleton _ _
  | cons y l ih =>
    have hr1 := List.pairwise_cons.1 hr
    rw [putG_cons]
    split
    · rename_i hl
      refine List.pairwise_cons.2 ⟨fun z hz => ?_, ih hr1.2⟩
      rcases mem_putG O hz with rfl | ⟨hz, _⟩
      · exact hl
      · exact hr1.1 z hz
    · rename_i hl
      refine List.pairwise_cons.2 ⟨fun z hz => ?_, List.Pairwise.sublist List.filter_sublist hr⟩
      obtain ⟨hz, hne⟩ := List.mem_filter.1 hz
      have hne : key z ≠ key x := of_decide_eq_true hne
      have hyx : lt (key x) (key y) = true ∨ key x = key y := by
        rcases O.tri (key x) (key y) with h | h | h
        · exact .inl h
        · exact .inr h
        · exact absurd h hl
      rcases List.mem_cons.1 hz with rfl | hz
      · rcases hyx with h | h
        · exact h
        · exact absurd h.symm hne
      · have h2 := hr1.1 z hz
        rcases hyx with h | h
        · exact O.trans h h2
        · rw [h]; exact h2
theorem filter_gt (hx : ∀ z ∈ l, lt (key x) (key z) = true) : (l.filter fun z => decide (key z ≠ key x)) = l := List.filter_eq_self.2 fun z hz => decide_eq_true fun e => by
  have := hx z hz
  rw [e, O.irr] at this; cases this
/-- what is put takes the place of what had its key -/
theorem putG_eq (hr : RiseG key lt l) {k : Nat} (hk : k < l.length) (h1 : ∀ j (h : j < l.length), j < k → lt (key l[j]) (key x) = true) (h2 : key l[k] = key x) : putG key lt l x = l.take k ++ x :: l.drop (k + 1) := by
  induction l generalizing k with
  | nil => exact absurd hk (Nat.not_lt_zero _)
  | cons y l ih =>
    have hr1 := List.pairwise_cons.1 hr
    rw [putG_cons]
    cases k with
    | zero =>
      have h2 : key y = key x := h2
      rw [if_neg (by rw [h2, O.irr]; decide), List.filter_cons, if_neg (by simp [h2]), filter_gt O fun z hz => by rw [← h2]; exact hr1.1 z hz]
      rfl
    | succ k =>
      have h0 : lt (key y) (key x) = true := h1 0 (by simp) (Nat.succ_pos _)
      rw [if_pos h0, ih hr1.2 (by simpa using hk) (fun j h hj => h1 (j + 1) (by simpa using h) (by omega)) h2]
      rfl
/-- what is put goes between the smaller ones and the greater ones -/
theorem putG_ne (hr : RiseG key lt l) {k : Nat} (hk : k ≤ l.length) (h1 : ∀ j (h : j < l.length), j < k → lt (key l[j]) (key x) = true) (h2 : ∀ h : k < l.length, lt (key l[k]) (key x) = false ∧ key l[k] ≠ key x) : putG key lt l x = l.take k ++ x :: l.drop k := by
  induction l generalizing k with
  | nil =>
    have : k = 0 := by simpa using hk
    subst this; rfl
  | cons y l ih =>
    have hr1 := List.pairwise_cons.1 hr
    rw [putG_cons]
    cases k with
    | zero =>
      obtain ⟨h3, h4⟩ := h2 (Nat.succ_pos _)
      have h3 : lt (key y) (key x) = false := h3
      have h4 : key y ≠ key x := h4
      have h5 : lt (key x) (key y) = true := by
        rcases O.tri (key x) (key y) with h | h | h
        · exact h
        · exact absurd h.symm h4
        · rw [h] at h3; cases h3
      rw [if_neg (by rw [h3]; decide), filter_gt O fun z hz => by
        rcases List.mem_cons.1 hz with rfl | hz
        · exact h5
        · exact O.trans h5 (hr1.1 z hz)]
      rfl
    | succ k =>
      have h0 : lt (key y) (key x) = true := h1 0 (by simp) (Nat.succ_pos _)
      rw [if_pos h0, ih hr1.2 (by simpa using hk) (fun j h hj => h1 (j + 1) (by simpa using h) (by omega)) (fun h => h2 (by simpa using h))]
      rfl
/-- two lists that rise and hold the same -/
theorem rise_ext {l' : List α} (hr : RiseG key lt l) (hr' : RiseG key lt l') (h : ∀ x, x ∈ l ↔ x ∈ l') : l = l' := by
  induction l generalizing l' with
  | nil =>
    cases l' with
    | nil => rfl
    | cons y l' => exact absurd ((h y).2 (List.mem_cons_self ..)) (by simp)
  | cons x l ih =>
    cases l' with
    | nil => exact absurd ((h x).1 (List.mem_cons_self ..)) (by simp)
    | cons y l' =>
      have h1 := List.pairwise_cons.1 hr
      have h2 := List.pairwise_cons.1 hr'
      have hasym : ∀ a b, lt a b = true → lt b a = true → False := fun a b p q => by have := O.trans p q; rw [O.irr] at this; cases this
      have hxy : x = y := by
        rcases List.mem_cons.1 ((h x).1 (List.mem_cons_self ..)) with e | e
        · exact e
        · rcases List.mem_cons.1 ((h y).2 (List.mem_cons_self ..)) with e2 | e2
          · exact e2.symm
          · exact (hasym _ _ (h2.1 x e) (h1.1 y e2)).elim
      subst hxy
      refine congrArg _ (ih h1.2 h2.2 fun z => ?_)
      have hne : ∀ {m : List α}, (∀ w ∈ m, lt (key x) (key w) = true) → ∀ w ∈ m, w ≠ x := fun hm w hw e => by
        have := hm w hw
        rw [e, O.irr] at this; cases this
      constructor
      · intro hz
        rcases List.mem_cons.1 ((h z).1 (List.mem_cons_of_mem _ hz)) with e | e
        · exact absurd e (hne h1.1 z hz)
        · exact e
      · intro hz
        rcases List.mem_cons.1 ((h z).2 (List.mem_cons_of_mem _ hz)) with e | e
        · exact absurd e (hne h2.1 z hz)
        · exact e
end
end Go.J

/- What is proved: a disk as a list of items in the order of their paths: plain facts. Conditions: none. -/
set_option linter.unusedSimpArgs false
set_option linter.unusedVariables false
namespace Go.Proofs.YtccfiohagbneaaaGreatDoor
open Go Go.J Go.RowKit

/-- an item of the document's disk -/
structure Ri where
  path : List UInt8
  it : It
instance : Inhabited Ri := ⟨⟨[], It0⟩⟩
def encRi (x : Ri) : List Value := [str x.path, .bool x.it.dir, str x.it.data, str x.it.kept, .bool x.it.loose, .bool x.it.anew, .int .i64 x.it.stamp]
def cRi : Cod Ri := .flat encRi 7 fun _ => rfl
def ris (l : List Ri) : List Value := l.flatMap encRi
theorem ris_len (l : List Ri) : (ris l).length = l.length * 7 := flat_len (enc := encRi) (fun _ => rfl) l
theorem ris_snoc (l : List Ri) (x : Ri) : ris l ++ encRi x = ris (l ++ [x]) := by simp [ris]
theorem ris_snoc' (l : List Ri) (x : Ri) : ris l ++ [str x.path, .bool x.it.dir, str x.it.data, str x.it.kept, .bool x.it.loose, .bool x.it.anew, .int .i64 x.it.stamp] = ris (l ++ [x]) := ris_snoc l x
theorem ris_app (l l' : List Ri) : ris (l ++ l') = ris l ++ ris l' := by simp [ris]
theorem ris_one (l : List Ri) : Go.J.one (ris l) = true := by
  unfold Go.J.one ris
  rw [List.all_eq_true]
  intro v hv
  obtain ⟨e, _, hv⟩ := List.mem_flatMap.1 hv
  unfold encRi at hv
  simp only [List.mem_cons, List.not_mem_nil, or_false] at hv
  rcases hv with rfl | rfl | rfl | rfl | rfl | rfl | rfl <;> rfl
theorem mget_it {β : Type} : ∀ {m : List (List UInt8 × β)} {k : List UInt8} {v : β}, (m.map Prod.fst).Nodup → (k, v) ∈ m → mget m k = some v
  | (k2, v2) :: m, k, v, hn, h => by
    rw [List.map_cons, List.nodup_cons] at hn
    rw [show mget ((k2, v2) :: m) k = if k = k2 then some v2 else mget m k from rfl]
    rcases List.mem_cons.1 h with e | h
    · cases e; rw [if_pos rfl]
    · rw [if_neg, mget_it hn.2 h]
      intro e
      exact hn.1 (List.mem_map.2 ⟨_, h, e⟩)
theorem ris_take {l : List Ri} {k : Nat} (h : k < l.length) : ris (l.take k) ++ encRi l[k] = ris (l.take (k + 1)) := by rw [List.take_succ_eq_append_getElem h, ris_snoc]
theorem ris_at {l : List Ri} {i : Nat} (h : i < l.length) {j : Nat} (hj : j < 7) : (ris l)[i * 7 + j]? = (encRi l[i])[j]? := flat_get (enc := encRi) (sz := 7) (fun _ => rfl) l h hj
/-- a list of items that holds what a map of items does -/
structure RepL (l : List Ri) (m : List (List UInt8 × It)) : Prop where
  nd : (m.map Prod.fst).Nodup
  rise : RiseG Ri.path Op.bytesLess l
  get : ∀ p, (findG Ri.path l p).map Ri.it = mget m p
theorem RepL.nil : RepL [] [] := ⟨List.nodup_nil, List.Pairwise.nil, fun p => rfl⟩
theorem RepL.drop {l : List Ri} {m : List (List UInt8 × It)} (h : RepL l m) (p : List UInt8) : RepL (dropG Ri.path l p) (mdel m p) :=
  ⟨mdel_nodup h.nd p, dropG_rise h.rise, fun q => by
    rw [findG_drop, mget_del m h.nd, ← h.get]
    split <;> rfl⟩
theorem RepL.put {l : List Ri} {m : List (List UInt8 × It)} (h : RepL l m) (x : Ri) : RepL (putG Ri.path Op.bytesLess l x) (mset m x.path x.it) :=
  ⟨mset_nodup h.nd _ _, putG_rise bytesO h.rise, fun q => by
    rw [findG_put bytesO, mget_set, ← h.get]
    split <;> rfl⟩
theorem RepL.mem {l : List Ri} {m : List (List UInt8 × It)} (h : RepL l m) {x : Ri} (hx : x ∈ l) : mget m x.path = some x.it := by rw [← h.get, findG_mem bytesO h.rise hx]; rfl
theorem RepL.at_ {l : List Ri} {m : List (List UInt8 × It)} (h : RepL l m) {p : List UInt8} {i : It} (hi : mget m p = some i) : (⟨p, i⟩ : Ri) ∈ l := by
  rw [← h.get] at hi
  obtain ⟨x, hx, e⟩ := Option.map_eq_some_iff.1 hi
  obtain ⟨h1, h2⟩ := findG_some hx
  subst h2 e
  exact h1
theorem RepL.none {l : List Ri} {m : List (List UInt8 × It)} (h : RepL l m) {p : List UInt8} (hi : ∀ x ∈ l, x.path ≠ p) : mget m p = .none := by rw [← h.get, findG_none hi]; rfl
/-- as many items as the map has -/
theorem RepL.len {l : List Ri} {m : List (List UInt8 × It)} (h : RepL l m) : l.length = m.length := by
  have h1 : (l.map Ri.path).Nodup := h.rise.nodup bytesO
  have h2 : (l.map Ri.path).Perm (m.map Prod.fst) := (List.perm_ext_iff_of_nodup h1 h.nd).2 fun p => by
    constructor
    · intro hp
      obtain ⟨x, hx, rfl⟩ := List.mem_map.1 hp
      exact List.mem_map.2 ⟨_, mget_mem (h.mem hx), rfl⟩
    · intro hp
      obtain ⟨⟨q, i⟩, hx, rfl⟩ := List.mem_map.1 hp
      exact List.mem_map.2 ⟨_, h.at_ (mget_it h.nd hx), rfl⟩
  have := h2.length_eq
  simpa using this
end Go.Proofs.YtccfiohagbneaaaGreatDoor

/- What is proved: what the reference's disk answers and changes: its small functions. Conditions: a disk without limits, paths of bounded length. -/
set_option linter.unusedSimpArgs false
set_option linter.unusedVariables false
namespace Go.Proofs.YtccfiohagbneaaaGreatDoor
open Go Go.J Go.RowKit

abbrev rfCells (A : Option Addr) (n cap : Nat) (D : Dk) : List Value := [.slice A n cap, .slice none 0 0, .int .i64 D.steps, .int .i64 D.stamps, .int .i64 D.armed, .bool D.down]
abbrev rfL (b : Nat) (A : Option Addr) (cap : Nat) (l : List Ri) (D : Dk) : List Chunk := [.box b 45 [.slice A l.length cap, .slice none 0 0, .int .i64 D.steps, .int .i64 D.stamps, .int .i64 D.armed, .bool D.down], .own (.slice A l.length cap) 110 7 l.length (ris l)]
def rfφ (b : Nat) (D : Dk) (Ds : List Chunk) : Prop := ∃ A cap l, RepL l D.items ∧ Ds = rfL b A cap l D
/-- the document's disk -/
abbrev rfC (b : Nat) (D : Dk) (fp : List Nat) : Chunk := objC (rfφ b D) fp
/-- the document's disk, as a callee reads it -/
structure RfAt (b : Nat) (A : Option Addr) (cap : Nat) (l : List Ri) (D : Dk) (w : World) : Prop where
  box : w.heap[b]? = some (.cells ⟨[.slice A l.length cap, .slice none 0 0, .int .i64 D.steps, .int .i64 D.stamps, .int .i64 D.armed, .bool D.down]⟩ 45 (0, 0))
  row : SlAt cRi (Old w) w A l
theorem St.rfAt {w0 w : World} {M : List Nat} {H : List Chunk} {Z : List Snap} {b : Nat} {A : Option Addr} {cap : Nat} {l : List Ri} {D : Dk} (hS : St w0 M w H Z)
    (h1 : .box b 45 [.slice A l.length cap, .slice none 0 0, .int .i64 D.steps, .int .i64 D.stamps, .int .i64 D.armed, .bool D.down] ∈ H)
    (h2 : .own (.slice A l.length cap) 110 7 l.length (ris l) ∈ H) : RfAt b A cap l D w :=
  ⟨hS.holds (.box b 45 [.slice A l.length cap, .slice none 0 0, .int .i64 D.steps, .int .i64 D.stamps, .int .i64 D.armed, .bool D.down]) h1, St.ownSl (enc := encRi) (hsz := fun _ => rfl) (by decide) hS h2⟩
theorem St.rfOld {w0 w wz : World} {M : List Nat} {H : List Chunk} {Z : List Snap} {b : Nat} {A : Option Addr} {cap : Nat} {l : List Ri} {D : Dk} (hS : St w0 M w H Z) (hA : RfAt b A cap l D wz) (hz : Snap.mk wz (Old wz) ∈ Z) : RfAt b A cap l D w :=
  ⟨((hS.snap _ hz b (by
    have := hA.box
    exact (Array.getElem?_eq_some_iff.1 this).1)).2.1).trans hA.box, hS.slO hz hA.row⟩
/-- where an item stands; -1 -/
def PlcIs (l : List Ri) (p : List UInt8) (v : Value) : Prop := (∀ x ∈ l, x.path ≠ p) ∧ v = .int .i64 (-1) ∨ ∃ i, ∃ h : i < l.length, l[i].path = p ∧ v = .int .i64 (i : Int)
section
variable {b : Nat} {A : Option Addr} {cap : Nat} {l : List Ri} {D : Dk} {w0 : World}
set_option maxHeartbeats 8000000 in
set_option maxRecDepth 100000 in
theorem rfplace_c (p : List UInt8) (hA : RfAt b A cap l D w0) (hl : l.length ≤ 1048576) :
    Cal Tryz.prog 84 [.pointer (some ⟨b, 0, none⟩), str p] w0 (fun v w' => Upd [] w0 w' ∧ PlcIs l p v) := by
  refine Cal.mk' (by kernel_rfl) Tryz.func84 rfl rfl fun hS => ?_
  obtain ⟨hb, hA⟩ := hA
  repeat' (first
    | (show WL _ _ _ _ _ _ _; first
      | refine WL.pure rfl rfl rfl rfl ?_
      | refine WL.nil ?_)
    | (show WC _ _ _ _ _ _; first
      | refine WC.seq ?_
      | refine WC.region ?_
      | refine WC.block ?_)
    | refine seqQ_n ?_)
  refine WC.loop (σ := Nat) [0, 1] (fun i => [(5, .int .i64 (i : Int))]) (fun i w => (i ≤ l.length ∧ ∀ j (h : j < l.length), j < i → l[j].path ≠ p) ∧ St w0 [] w [] [⟨w0, Old w0⟩]) (fun i => l.length - i) 0 ⟨⟨Nat.zero_le _, fun j h h0 => absurd h0 (Nat.not_lt_zero _)⟩, hS⟩ ⟨rfl, trivial⟩ ?_
  clear hS
  rintro i g w ⟨⟨hi, hno⟩, hS⟩
  show WC _ _ _ (lf _ [(5, .int .i64 (i : Int))] _ _) _ _
  by_cases hlt : i < l.length
  · obtain ⟨rb, ro, es, rfl, hF, hr, hes⟩ := hA.at_ hlt
    have hes : es = encRi l[i] := hes
    subst hes
    have hr : w0.rangeAt rb (ro + i * 7) (encRi l[i]) := hr
    have hP : l[i].path = p → PlcIs l p (.int .i64 (i : Int)) := fun e => .inr ⟨i, hlt, e, rfl⟩
    have hn2 : l[i].path ≠ p → ∀ j (h : j < l.length), j < i + 1 → l[j].path ≠ p := fun e j h hj => by
      rcases Nat.lt_or_ge j i with h3 | h3
      · exact hno j h h3
      · have : j = i := by omega
        subst this; exact e
    obtain ⟨HP, rfl⟩ : ∃ h : (l[i].path = p → PlcIs l p (.int .i64 (i : Int))), h = hP := ⟨_, rfl⟩
    obtain ⟨HN, rfl⟩ : ∃ h : (l[i].path ≠ p → ∀ j (h : j < l.length), j < i + 1 → l[j].path ≠ p), h = hn2 := ⟨_, rfl⟩
    unfold encRi at hr
    generalize l[i].path = ki at *
    clear hno
    by_cases he : ki = p
    · have hq := HP he
      clear HP HN
      repeat' (first
        | (show WL _ _ _ _ _ _ _; first
          | refine WL.pure rfl rfl rfl rfl ?_
          | refine WL.nil ?_
          | (refine WL.load hS rfl rfl (LdOk.old hb (by repeat (first | exact List.Mem.head _ | apply List.Mem.tail)) rfl) rfl rfl rfl ?_)
          | (refine WL.load hS rfl rfl (LdOk.snap0 hF hr (by repeat (first | exact List.Mem.head _ | apply List.Mem.tail)) rfl) rfl rfl rfl ?_)
          | refine WL.index rfl rfl rfl rfl (by first | with_reducible assumption | omega) rfl rfl rfl rfl ?_)
        | (show WC _ _ _ _ _ _; first
          | refine WC.seq ?_
          | refine WC.region ?_
          | refine WC.block ?_
          | refine WC.skip ?_
          | refine WC.ret ?_
          | refine WC.condT rfl (decide_eq_true (by first | with_reducible assumption | omega)) ?_)
        | refine seqQ_n ?_
        | refine seqQ_r ?_
        | refine blkQ_r ?_
        | refine rndQ_r ?_)
      exact fin1r rfl rfl ⟨hS.upd, hq⟩
    · have hq := HN he
      clear HP HN
      obtain ⟨HQ, rfl⟩ : ∃ h : (∀ j (h : j < l.length), j < i + 1 → l[j].path ≠ p), h = hq := ⟨_, rfl⟩
      repeat' (first
        | (show WL _ _ _ _ _ _ _; first
          | refine WL.pure rfl rfl rfl rfl ?_
          | refine WL.nil ?_
          | refine WL.add rfl rfl rfl (by omega) rfl rfl rfl ?_
          | (refine WL.load hS rfl rfl (LdOk.old hb (by repeat (first | exact List.Mem.head _ | apply List.Mem.tail)) rfl) rfl rfl rfl ?_)
          | (refine WL.load hS rfl rfl (LdOk.snap0 hF hr (by repeat (first | exact List.Mem.head _ | apply List.Mem.tail)) rfl) rfl rfl rfl ?_)
          | refine WL.index rfl rfl rfl rfl (by first | with_reducible assumption | omega) rfl rfl rfl rfl ?_)
        | (show WC _ _ _ _ _ _; first
          | refine WC.seq ?_
          | refine WC.region ?_
          | refine WC.block ?_
          | refine WC.skip ?_
          | refine WC.condT rfl (decide_eq_true (by first | with_reducible assumption | omega)) ?_
          | refine WC.condF rfl (decide_eq_false (by first | with_reducible assumption | omega)) ?_)
        | refine seqQ_n ?_
        | refine blkQ_n ?_)
      exact rndQ_n (i + 1) ⟨⟨by omega, HQ⟩, hS⟩ (by show l.length - (i + 1) < l.length - i; omega) ⟨vint (by omega), trivial⟩ ⟨rfl, rfl, trivial⟩
  · have hq : PlcIs l p (.int .i64 (-1)) := .inl ⟨fun x hx => by
      obtain ⟨j, h, rfl⟩ := List.getElem_of_mem hx
      exact hno j h (by omega), rfl⟩
    have hie : i = l.length := by omega
    subst hie
    clear hno
    repeat' (first
      | (show WL _ _ _ _ _ _ _; first
        | refine WL.pure rfl rfl rfl rfl ?_
        | refine WL.nil ?_
        | (refine WL.load hS rfl rfl (LdOk.old hb (by repeat (first | exact List.Mem.head _ | apply List.Mem.tail)) rfl) rfl rfl rfl ?_))
      | (show WC _ _ _ _ _ _; first
        | refine WC.seq ?_
        | refine WC.region ?_
        | refine WC.exit ?_
        | refine WC.ret ?_
        | refine WC.condF rfl (decide_eq_false (by first | with_reducible assumption | omega)) ?_)
      | refine seqQ_n ?_
      | refine seqQ_x ?_
      | refine blkQ_hit rfl ?_
      | refine rndQ_x ?_)
    exact fin1r rfl rfl ⟨hS.upd, hq⟩
theorem kind_none {D : Dk} {p : List UInt8} (h : mget D.items p = none) : D.kind p = 0 := by unfold Dk.kind Dk.has; rw [h]; rfl
theorem kind_some {D : Dk} {p : List UInt8} {x : It} (h : mget D.items p = some x) : D.kind p = if x.dir = true then 1 else 2 := by unfold Dk.kind Dk.has Dk.at; rw [h]; rfl
set_option maxHeartbeats 8000000 in
set_option maxRecDepth 100000 in
theorem rfkind_c (p : List UInt8) (hR : RepL l D.items) (hA : RfAt b A cap l D w0) (hl : l.length ≤ 1048576) :
    Cal Tryz.prog 63 [.pointer (some ⟨b, 0, none⟩), str p] w0 (fun v w' => Upd [] w0 w' ∧ v = .int .i64 (D.kind p)) := by
  refine Cal.mk' (by kernel_rfl) Tryz.func63 rfl rfl fun hS => ?_
  have hb := hA.box
  have hpc := fun (w : World) (h : RfAt b A cap l D w) => rfplace_c p h hl
  by_cases hn : ∀ x ∈ l, x.path ≠ p
  · rw [kind_none (hR.none hn)]
    replace hpc := fun (w : World) (h : RfAt b A cap l D w) => (hpc w h).mono (R' := fun v w' => Upd [] w w' ∧ v = .int .i64 (-1)) fun v w' ⟨hu, hp⟩ => ⟨hu, by
      rcases hp with ⟨_, hv⟩ | ⟨i, hi, he, _⟩
      · exact hv
      · exact absurd he (hn _ (List.getElem_mem hi))⟩
    clear hn
    repeat' (first
      | (show WL _ _ _ _ _ _ _; first
        | refine WL.pure rfl rfl rfl rfl ?_
        | refine WL.nil ?_
        | (refine WL.calls hS rfl rfl (hpc _ hA) rfl rfl rfl ?_; rintro v w rfl hS))
      | (show WC _ _ _ _ _ _; first
        | refine WC.seq ?_
        | refine WC.region ?_
        | refine WC.ret ?_
        | refine WC.condT rfl (by decide) ?_)
      | refine seqQ_n ?_
      | refine seqQ_r ?_)
    exact fin1r rfl rfl ⟨hS.upd, rfl⟩
  · obtain ⟨x, hx, hxp⟩ : ∃ x ∈ l, x.path = p := by
      refine Classical.byContradiction fun h => hn fun x hx e => h ⟨x, hx, e⟩
    subst hxp
    clear hn
    have hg := hR.mem hx
    rw [kind_some hg]
    replace hpc := fun (w : World) (h : RfAt b A cap l D w) => (hpc w h).mono (R' := fun v w' => Upd [] w w' ∧ ∃ i : Nat, ∃ h : i < l.length, l[i].it = x.it ∧ v = .int .i64 (i : Int)) fun v w' ⟨hu, hp⟩ => ⟨hu, by
      rcases hp with ⟨hp, _⟩ | ⟨i, hi, he, hv⟩
      · exact absurd rfl (hp x hx)
      · refine ⟨i, hi, ?_, hv⟩
        have h2 := hR.mem (List.getElem_mem hi)
        rw [he, hg] at h2
        exact (Option.some.inj h2).symm⟩
    generalize x.it = it at *
    obtain ⟨dir, data, kept, loose, anew, stamp⟩ := it
    dsimp only
    cases dir with
    | true =>
      rw [if_pos rfl]
      repeat' (first
        | (show WL _ _ _ _ _ _ _; first
          | refine WL.pure rfl rfl rfl rfl ?_
          | refine WL.nil ?_
          | (refine WL.calls hS rfl rfl (hpc _ hA) rfl rfl rfl ?_; rintro v w ⟨i, hi, hit, rfl⟩ hS; obtain ⟨rb, ro, es, rfl, hF, hr, hes⟩ := hA.row.at_ hi; have hes : es = encRi l[i] := hes; subst hes; have hr : w0.rangeAt rb (ro + i * 7) (encRi l[i]) := hr; unfold encRi at hr; rw [hit] at hr)
          | (refine WL.load hS rfl rfl (LdOk.old hb (by repeat (first | exact List.Mem.head _ | apply List.Mem.tail)) rfl) rfl rfl rfl ?_)
          | (refine WL.load hS rfl rfl (LdOk.snap (off := 1) hF hr (by repeat (first | exact List.Mem.head _ | apply List.Mem.tail)) rfl) rfl rfl rfl ?_)
          | refine WL.index rfl rfl rfl rfl (by first | with_reducible assumption | omega) rfl rfl rfl rfl ?_)
        | (show WC _ _ _ _ _ _; first
          | refine WC.seq ?_
          | refine WC.region ?_
          | refine WC.skip ?_
          | refine WC.ret ?_
          | refine WC.condT rfl (by with_reducible rfl) ?_
          | refine WC.condF rfl (decide_eq_false (by first | with_reducible assumption | omega)) ?_)
        | refine seqQ_n ?_
        | refine seqQ_r ?_)
      exact fin1r rfl rfl ⟨hS.upd, rfl⟩
    | false =>
      rw [if_neg (by decide)]
      repeat' (first
        | (show WL _ _ _ _ _ _ _; first
          | refine WL.pure rfl rfl rfl rfl ?_
          | refine WL.nil ?_
          | (refine WL.calls hS rfl rfl (hpc _ hA) rfl rfl rfl ?_; rintro v w ⟨i, hi, hit, rfl⟩ hS; obtain ⟨rb, ro, es, rfl, hF, hr, hes⟩ := hA.row.at_ hi; have hes : es = encRi l[i] := hes; subst hes; have hr : w0.rangeAt rb (ro + i * 7) (encRi l[i]) := hr; unfold encRi at hr; rw [hit] at hr)
          | (refine WL.load hS rfl rfl (LdOk.old hb (by repeat (first | exact List.Mem.head _ | apply List.Mem.tail)) rfl) rfl rfl rfl ?_)
          | (refine WL.load hS rfl rfl (LdOk.snap (off := 1) hF hr (by repeat (first | exact List.Mem.head _ | apply List.Mem.tail)) rfl) rfl rfl rfl ?_)
          | refine WL.index rfl rfl rfl rfl (by first | with_reducible assumption | omega) rfl rfl rfl rfl ?_)
        | (show WC _ _ _ _ _ _; first
          | refine WC.seq ?_
          | refine WC.region ?_
          | refine WC.skip ?_
          | refine WC.ret ?_
          | refine WC.condF rfl (by with_reducible rfl) ?_
          | refine WC.condF rfl (decide_eq_false (by first | with_reducible assumption | omega)) ?_)
        | refine seqQ_n ?_)
      exact fin1r rfl rfl ⟨hS.upd, rfl⟩
/-- is there a folder for a path? -/
def homeE (D : Dk) (p : List UInt8) : Bool := if parentE p = [] then true else decide (D.kind (parentE p) = 1)
set_option maxHeartbeats 8000000 in
set_option maxRecDepth 100000 in
theorem rfhome_c (p : List UInt8) (hR : RepL l D.items) (hA : RfAt b A cap l D w0) (hl : l.length ≤ 1048576) (hp : p.length ≤ 1099511627) :
    Cal Tryz.prog 62 [.pointer (some ⟨b, 0, none⟩), str p] w0 (fun v w' => Upd [] w0 w' ∧ v = .bool (homeE D p)) := by
  refine Cal.mk' (by kernel_rfl) Tryz.func62 rfl rfl fun hS => ?_
  have hkc := fun (w : World) (h : RfAt b A cap l D w) => rfkind_c (parentE p) hR h hl
  have hpc := fun (w : World) => rparent_c p w (by omega)
  unfold homeE
  generalize parentE p = q at *
  by_cases hq : q = []
  · rw [if_pos hq]
    repeat' (first
      | (show WL _ _ _ _ _ _ _; first
        | refine WL.pure rfl rfl rfl rfl ?_
        | refine WL.nil ?_
        | (refine WL.calls hS rfl rfl (hpc _) rfl rfl rfl ?_; rintro v w rfl hS)
        | refine WL.skip rfl rfl rfl ?_
        | ((fail_if_success (refine WL.wanted rfl ?_)); refine WL.guard rfl rfl rfl (fun h => ?_) (fun h => ?_) <;> (try simp only [Classical.not_not, Bool.not_eq_true', Bool.not_eq_false', Bool.not_eq_eq_eq_not, Bool.not_true, Bool.not_false, beq_iff_eq, beq_eq_false_iff_ne, ne_eq, decide_eq_decide, decide_eq_true_eq, decide_eq_false_iff_not, Bool.and_eq_true, Bool.or_eq_true, Bool.and_eq_false_iff, Bool.or_eq_false_iff] at h) <;> (try (exfalso; first | omega | contradiction))))
      | (show WC _ _ _ _ _ _; first
        | refine WC.seq ?_
        | refine WC.region ?_
        | refine WC.ret ?_)
      | refine seqQ_n ?_)
    exact fin1r rfl rfl ⟨hS.upd, rfl⟩
  · rw [if_neg hq]
    repeat' (first
      | (show WL _ _ _ _ _ _ _; first
        | refine WL.pure rfl rfl rfl rfl ?_
        | refine WL.nil ?_
        | (refine WL.calls hS rfl rfl (hpc _) rfl rfl rfl ?_; rintro v w rfl hS)
        | (refine WL.calls hS rfl rfl (hkc _ (St.rfOld hS hA (by repeat (first | exact List.Mem.head _ | apply List.Mem.tail)))) rfl rfl rfl ?_; rintro v w rfl hS)
        | ((fail_if_success (refine WL.wanted rfl ?_)); refine WL.guard rfl rfl rfl (fun h => ?_) (fun h => ?_) <;> (try simp only [Classical.not_not, Bool.not_eq_true', Bool.not_eq_false', Bool.not_eq_eq_eq_not, Bool.not_true, Bool.not_false, beq_iff_eq, beq_eq_false_iff_ne, ne_eq, decide_eq_decide, decide_eq_true_eq, decide_eq_false_iff_not, Bool.and_eq_true, Bool.or_eq_true, Bool.and_eq_false_iff, Bool.or_eq_false_iff] at h) <;> (try (exfalso; first | omega | contradiction))))
      | (show WC _ _ _ _ _ _; first
        | refine WC.seq ?_
        | refine WC.region ?_
        | refine WC.ret ?_)
      | refine seqQ_n ?_)
    exact fin1r rfl rfl ⟨hS.upd, rfl⟩
end
end Go.Proofs.YtccfiohagbneaaaGreatDoor

/- What is proved: the walk's rules for results that lie in variables, and elements of array values. Conditions: as each rule names them. -/
set_option linter.unusedSimpArgs false
set_option linter.unusedVariables false
namespace Go.J
open Go Go.RowKit

section
variable {P : Program} {fn : Func} {rs : Array ResultVar} {R : Value → World → Prop} {f : Fr} {w w0 : World} {M : List Nat} {H : List Chunk} {Z : List Snap}
theorem St.loads (hS : St w0 M w H Z) {ty : TypeId} {a : Addr} {v : Value} (hl : LdOk P H Z ty a v) : (loadVar ty a).run P w = .ok v w := hl.out w0 M w [] [] hS
theorem resC1 {t : Tmp} {ty : TypeId} {a : Addr} {v : Value} (hS : St w0 M w H Z) (h : fn.results = #[.cell t ty]) (hx : f t = .pointer (some a)) (hl : LdOk P H Z ty a v) : ∀ b, Is b fn.ntmps f → (results fn b.tmps).run P w = .ok v w := fun b hb => by
  have h1 := hb.get t
  rw [hx] at h1
  have h2 := hS.loads hl
  simp only [Array.getD_eq_getD_getElem?] at h1
  simp [results, h, h1, h2, asAddr, Sem.run_bind]
theorem resC2 {t u : Tmp} {ty : TypeId} {a : Addr} {v : Value} (hS : St w0 M w H Z) (h : fn.results = #[.cell t ty, .tmp u]) (hx : f t = .pointer (some a)) (hl : LdOk P H Z ty a v) : ∀ b, Is b fn.ntmps f → (results fn b.tmps).run P w = .ok (.tuple #[v, f u]) w := fun b hb => by
  have h1 := hb.get t
  rw [hx] at h1
  have h2 := hS.loads hl
  rw [← hb.get u]
  simp only [Array.getD_eq_getD_getElem?] at h1
  simp [results, h, h1, h2, asAddr, Sem.run_bind]
theorem finC1r {t : Tmp} {ty : TypeId} {a : Addr} {v : Value} (hS : St w0 M w H Z) (h : fn.results = #[.cell t ty]) (hx : f t = .pointer (some a)) (hl : LdOk P H Z ty a v) (hR : R v w) : funQ P rs fn (Ret R) .ret f w := by unfold funQ; exact ⟨v, ⟨v, rfl, hR⟩, resC1 hS h hx hl⟩
theorem finC2r {t u : Tmp} {ty : TypeId} {a : Addr} {v v' : Value} (hS : St w0 M w H Z) (h : fn.results = #[.cell t ty, .tmp u]) (hx : f t = .pointer (some a)) (hl : LdOk P H Z ty a v) (hv : nfv (f u) = some v') (hR : R (.tuple #[v, v']) w) : funQ P rs fn (Ret R) .ret f w := by unfold funQ; exact ⟨_, ⟨_, rfl, hR⟩, by rw [nfv_eq hv]; exact resC2 hS h hx hl⟩
end
section
variable {P : Program} {N : Fz} {f : Fr} {w w0 : World} {Q : Post} {ops l : List Oper} {o : Oper} {M : List Nat} {H H' : List Chunk} {Z : List Snap} {ρ : Operand → Value}
theorem run_idxA {t e : TypeId} {x y : Operand} {len size j : Nat} {k : IntKind} {cs : List Value} {v : Value} (ho : o.op = .index t x y) (ht : arrOf P t = some (len, e, size)) (hx : ρ x = .agg ⟨cs⟩) (hy : ρ y = .int k (Int.ofNat j)) (hj : j < len) (hv : partOf P e cs (j * size) = some v) :
    (execOp ρ o).run P w = .ok (.value v) w := by
  have h2 : (0 : Int) ≤ Int.ofNat j ∧ Int.ofNat j < (len : Int) := ⟨Int.natCast_nonneg j, Int.ofNat_lt.2 hj⟩
  have h3 : (Int.ofNat j).toNat = j := rfl
  unfold arrOf at ht
  split at ht
  · rename_i e' hu
    split at ht
    · rename_i n' hn
      simp only [Option.some.injEq, Prod.mk.injEq] at ht
      obtain ⟨rfl, rfl, rfl⟩ := ht
      simp only [execOp, ho, hx, hy, Instr.index, asIntOf, Sem.run_bind, run_underlying hu, Result.andThen_ok, Sem.run_pure, h2, if_true, h3, run_sizeOf hn, run_part hv, and_self]
    · cases ht
  · cases ht
theorem WL.idxA {t e : TypeId} {x y : Operand} {len size j : Nat} {k : IntKind} {cs : List Value} {v : Value} (ho : o.op = .index t x y) (ht : arrOf P t = some (len, e, size)) (hx : ev f x = .agg ⟨cs⟩) (hy : ev f y = .int k (Int.ofNat j)) (hj : j < len) (hv : partOf P e cs (j * size) = some v)
    (hg : wants ops f o = true) {d : Nat} (hd : o.dst = some d) (hn : N.ok d = true) (h : WL P N ops l (up f d v) w Q) : WL P N ops (o :: l) f w Q :=
  .val hg hd hn (run_idxA ho ht hx hy hj hv) h
theorem WL.b2sBox {t t2 : TypeId} {x : Operand} {e e' : TypeId} {b n : Nat} {s : List UInt8} {cs : List Value} (hS : St w0 M w H Z) (ho : o.op = .convert t t2 x) (ht : bytesOf P t = some e) (ht2 : isStr P t2 = true) (hx : ev f x = .slice (some ⟨b, 0, none⟩) n n) (hm : Chunk.box b e' cs ∈ H) (hxs : cs = byteC s) (hl : s.length = n) (hmx : n ≤ 1048576)
    (hg : wants ops f o = true) {d : Nat} (hd : o.dst = some d) (hn : N.ok d = true) (h : WL P N ops l (up f d (str s)) w Q) : WL P N ops (o :: l) f w Q :=
  .val hg hd hn (run_b2s ho ht ht2 hx (hxs ▸ row_box (hS.holds _ hm) (by rw [hxs, byteC_len]; exact hl) (by unfold maxLen; omega))) h
end
end Go.J

/- What is proved: what the reference's disk answers: the first refusals, the step, the stamp. Conditions: a disk without limits, paths of bounded length. -/
set_option linter.unusedSimpArgs false
set_option linter.unusedVariables false
namespace Go.Proofs.YtccfiohagbneaaaGreatDoor
open Go Go.J Go.RowKit
theorem deep_split {p : List UInt8} (h : checkE p 6 = 0) : deepE p = ((splitL p).length : Int) := by
  have hs := splitA_len p []
  change (splitL p).length = _ at hs
  have hne : p ≠ [] := by rintro rfl; exact absurd h (by decide)
  unfold deepE
  rw [if_neg hne, hs]
  omega
section
variable {dk : Nat} {A : Option Addr} {cap : Nat} {l : List Ri} {D : Dk} {w0 : World}
set_option maxHeartbeats 8000000 in
set_option maxRecDepth 100000 in
theorem rffirst_c (p : List UInt8) (names : Int) (hA : RfAt dk A cap l D w0) (hl : p.length ≤ 1099511627) : Cal Tryz.prog 61 [.pointer (some ⟨dk, 0, none⟩), str p, .int .i64 names] w0
    (fun v w' => Upd [] w0 w' ∧ v = .int .i64 (D.may p names)) := by
  refine Cal.mk' (by kernel_rfl) Tryz.func61 rfl rfl fun hS => ?_
  have hb := hA.box
  unfold Dk.may
  generalize D.down = dn at *
  cases dn with
  | true =>
    repeat' (first
      | (show WL _ _ _ _ _ _ _; first
        | refine WL.pure rfl rfl rfl rfl ?_
        | refine WL.nil ?_
        | (refine WL.load hS rfl rfl (LdOk.old hb (by repeat (first | exact List.Mem.head _ | apply List.Mem.tail)) rfl) rfl rfl rfl ?_))
      | (show WC _ _ _ _ _ _; first
        | refine WC.seq ?_
        | refine WC.region ?_
        | refine WC.ret ?_
        | refine WC.condT rfl (by with_reducible rfl) ?_)
      | refine seqQ_n ?_
      | refine seqQ_r ?_)
    exact fin1r rfl rfl ⟨hS.upd, rfl⟩
  | false =>
    rw [if_neg (by decide)]
    by_cases hc : checkE p 6 = 0
    · rw [if_neg (by simp [hc]), deep_split hc]
      have hsl := splitA_len p []
      have hcl : p.count 47 ≤ p.length := List.count_le_length
      change (splitL p).length = _ at hsl
      by_cases hd : ((splitL p).length : Int) ≤ names
      case' pos => rw [if_pos hd]
      case' neg => rw [if_neg hd]
      all_goals
        repeat' (first
          | (show WL _ _ _ _ _ _ _; first
            | refine WL.pure rfl rfl rfl rfl ?_
            | refine WL.nil ?_
            | (refine WL.load hS rfl rfl (LdOk.old hb (by repeat (first | exact List.Mem.head _ | apply List.Mem.tail)) rfl) rfl rfl rfl ?_)
            | (refine WL.calls hS rfl rfl (rcheck_c p 6 _ (by omega)) rfl rfl rfl ?_; rintro v w rfl hS; rw [hc])
            | (refine WL.calls hS rfl rfl (rsplit_c p _ (by omega)) rfl rfl rfl ?_; rintro v w ⟨As, caps, rfl, hns⟩ hS))
          | (show WC _ _ _ _ _ _; first
            | refine WC.seq ?_
            | refine WC.region ?_
            | refine WC.skip ?_
            | refine WC.ret ?_
            | refine WC.condF rfl (by with_reducible rfl) ?_
            | refine WC.condT rfl (decide_eq_true (by first | with_reducible assumption | omega)) ?_
            | refine WC.condF rfl (decide_eq_false (by first | with_reducible assumption | omega)) ?_)
          | refine seqQ_n ?_
          | refine seqQ_r ?_)
        exact fin1r rfl rfl ⟨hS.upd, rfl⟩
    · rw [if_pos hc]
      have hc := checkE_ten p 6 hc
      repeat' (first
        | (show WL _ _ _ _ _ _ _; first
          | refine WL.pure rfl rfl rfl rfl ?_
          | refine WL.nil ?_
          | (refine WL.load hS rfl rfl (LdOk.old hb (by repeat (first | exact List.Mem.head _ | apply List.Mem.tail)) rfl) rfl rfl rfl ?_)
          | (refine WL.calls hS rfl rfl (rcheck_c p 6 _ (by omega)) rfl rfl rfl ?_; rintro v w rfl hS; rw [hc])
          | refine WL.skip rfl rfl rfl ?_)
        | (show WC _ _ _ _ _ _; first
          | refine WC.seq ?_
          | refine WC.region ?_
          | refine WC.skip ?_
          | refine WC.ret ?_
          | refine WC.condT rfl (by with_reducible rfl) ?_
          | refine WC.condF rfl (by with_reducible rfl) ?_)
        | refine seqQ_n ?_
        | refine seqQ_r ?_)
      exact fin1r rfl rfl ⟨hS.upd, rfl⟩
/-- the refusals of a change of a file that must be there -/
def thereE (D : Dk) (p : List UInt8) : Int := if D.may p 1 ≠ 0 then D.may p 1 else if D.kind p = 0 then 11 else if D.kind p = 1 then 12 else 0
set_option maxHeartbeats 8000000 in
set_option maxRecDepth 100000 in
theorem rfthere_c (p : List UInt8) (hR : RepL l D.items) (hA : RfAt dk A cap l D w0) (hl : l.length ≤ 1048576) (hp : p.length ≤ 1099511627) : Cal Tryz.prog 83 [.pointer (some ⟨dk, 0, none⟩), str p] w0
    (fun v w' => Upd [] w0 w' ∧ v = .int .i64 (thereE D p)) := by
  refine Cal.mk' (by kernel_rfl) Tryz.func83 rfl rfl fun hS => ?_
  have hmay := fun (w : World) (h : RfAt dk A cap l D w) => rffirst_c p 1 h hp
  have hkc := fun (w : World) (h : RfAt dk A cap l D w) => rfkind_c p hR h hl
  unfold thereE
  generalize D.may p 1 = e at *
  generalize D.kind p = kd at *
  by_cases he : e = 0
  · subst he
    rw [if_neg (by decide)]
    obtain rfl | rfl | ⟨h0, h1⟩ : kd = 0 ∨ kd = 1 ∨ (kd ≠ 0 ∧ kd ≠ 1) := by omega
    all_goals try rw [if_neg h0, if_neg h1]
    all_goals
      repeat' (first
        | (show WL _ _ _ _ _ _ _; first
          | refine WL.pure rfl rfl rfl rfl ?_
          | refine WL.nil ?_
          | (refine WL.calls hS rfl rfl (hmay _ hA) rfl rfl rfl ?_; rintro v w rfl hS)
          | (refine WL.calls hS rfl rfl (hkc _ (St.rfOld hS hA (by repeat (first | exact List.Mem.head _ | apply List.Mem.tail)))) rfl rfl rfl ?_; rintro v w rfl hS))
        | (show WC _ _ _ _ _ _; first
          | refine WC.seq ?_
          | refine WC.region ?_
          | refine WC.skip ?_
          | refine WC.ret ?_
          | refine WC.condT rfl (by decide) ?_
          | refine WC.condF rfl (by decide) ?_
          | refine WC.condF rfl (decide_eq_false (by first | with_reducible assumption | omega)) ?_)
        | refine seqQ_n ?_
        | refine seqQ_r ?_)
      exact fin1r rfl rfl ⟨hS.upd, rfl⟩
  · rw [if_pos he]
    repeat' (first
      | (show WL _ _ _ _ _ _ _; first
        | refine WL.pure rfl rfl rfl rfl ?_
        | refine WL.nil ?_
        | (refine WL.calls hS rfl rfl (hmay _ hA) rfl rfl rfl ?_; rintro v w rfl hS))
      | (show WC _ _ _ _ _ _; first
        | refine WC.seq ?_
        | refine WC.region ?_
        | refine WC.ret ?_
        | refine WC.condT rfl (decide_eq_true (by first | with_reducible assumption | omega)) ?_)
      | refine seqQ_n ?_
      | refine seqQ_r ?_)
    exact fin1r rfl rfl ⟨hS.upd, rfl⟩
set_option maxHeartbeats 8000000 in
set_option maxRecDepth 100000 in
theorem rffits_c (p : List UInt8) (more : Int) (hA : RfAt dk A cap l D w0) : Cal Tryz.prog 88 [.pointer (some ⟨dk, 0, none⟩), str p, .int .i64 more] w0
    (fun v w' => Upd [] w0 w' ∧ v = .bool true) := by
  refine Cal.mk' (by kernel_rfl) Tryz.func88 rfl rfl fun hS => ?_
  have hb := hA.box
  by_cases hm : more ≤ 0
  · repeat' (first
      | (show WL _ _ _ _ _ _ _; first
        | refine WL.pure rfl rfl rfl rfl ?_
        | refine WL.nil ?_)
      | (show WC _ _ _ _ _ _; first
        | refine WC.seq ?_
        | refine WC.region ?_
        | refine WC.ret ?_
        | refine WC.condT rfl (decide_eq_true (by first | with_reducible assumption | omega)) ?_)
      | refine seqQ_n ?_
      | refine seqQ_r ?_)
    exact fin1r rfl rfl ⟨hS.upd, rfl⟩
  · repeat' (first
      | (show WL _ _ _ _ _ _ _; first
        | refine WL.pure rfl rfl rfl rfl ?_
        | refine WL.nil ?_)
      | (show WC _ _ _ _ _ _; first
        | refine WC.seq ?_
        | refine WC.region ?_
        | refine WC.block ?_
        | refine WC.skip ?_
        | refine WC.condF rfl (decide_eq_false (by first | with_reducible assumption | omega)) ?_)
      | refine seqQ_n ?_)
    refine WC.loop (σ := Nat) [0] (fun i => [(7, .int .i64 0)]) (fun i w => St w0 [] w [] [⟨w0, Old w0⟩]) (fun i => i) 0 hS ⟨rfl, trivial⟩ ?_
    clear hS
    rintro i g w hS
    show WC _ _ _ (lf _ [(7, .int .i64 0)] _ _) _ _
    repeat' (first
      | (show WL _ _ _ _ _ _ _; first
        | refine WL.pure rfl rfl rfl rfl ?_
        | refine WL.nil ?_
        | (refine WL.load hS rfl rfl (LdOk.old hb (by repeat (first | exact List.Mem.head _ | apply List.Mem.tail)) rfl) rfl rfl rfl ?_))
      | (show WC _ _ _ _ _ _; first
        | refine WC.seq ?_
        | refine WC.region ?_
        | refine WC.exit ?_
        | refine WC.ret ?_
        | refine WC.condF rfl (by decide) ?_)
      | refine seqQ_n ?_
      | refine seqQ_x ?_
      | refine blkQ_hit rfl ?_
      | refine rndQ_x ?_)
    exact fin1r rfl rfl ⟨hS.upd, rfl⟩
end
section
variable {dk : Nat} {A : Option Addr} {cap : Nat} {l : List Ri} {D : Dk} {w0 : World}
set_option maxHeartbeats 8000000 in
set_option maxRecDepth 100000 in
theorem rfdone_c (hi : InL w0 (rfL dk A cap l D)) : Cal Tryz.prog 64 [.pointer (some ⟨dk, 0, none⟩)] w0
    (fun v w' => v = .int .i64 D.stepE ∧ MutL w0 w' (rfL dk A cap l D) (rfL dk A cap l D.step)) := by
  refine Cal.mkL hi (by kernel_rfl) Tryz.func64 rfl rfl fun hS => ?_
  unfold Dk.stepE
  by_cases h0 : D.armed = 0
  · rw [if_pos h0]
    have hD : D.step = { D with armed := -1, down := true } := by unfold Dk.step; rw [if_pos h0]
    rw [hD]
    repeat' (first
      | (show WL _ _ _ _ _ _ _; first
        | refine WL.pure rfl rfl rfl rfl ?_
        | refine WL.nil ?_
        | refine WL.load hS rfl rfl (LdOk.box (by repeat (first | exact List.Mem.head _ | apply List.Mem.tail)) rfl) rfl rfl rfl ?_
        | (refine WL.store hS rfl rfl rfl (by repeat (first | exact StB.here rfl | apply StB.there)) rfl rfl rfl ?_; intro w hS))
      | (show WC _ _ _ _ _ _; first
        | refine WC.seq ?_
        | refine WC.region ?_
        | refine WC.ret ?_
        | refine WC.condT rfl (decide_eq_true (by first | with_reducible assumption | omega)) ?_)
      | refine seqQ_n ?_
      | refine seqQ_r ?_)
    exact fin1r rfl rfl ⟨rfl, hS.mutLp (by repeat (first | exact Pulls.nil | (apply Pulls.cons; focus (repeat (first | exact Pull.here | apply Pull.there)))))⟩
  · rw [if_neg h0]
    by_cases hp : 0 < D.armed
    · have hD : D.step = { D with armed := IntKind.i64.wrap (D.armed - 1), steps := IntKind.i64.wrap (D.steps + 1) } := by unfold Dk.step; rw [if_neg h0, if_pos hp]
      rw [hD]
      repeat' (first
        | (show WL _ _ _ _ _ _ _; first
          | refine WL.pure rfl rfl rfl rfl ?_
          | refine WL.nil ?_
          | refine WL.load hS rfl rfl (LdOk.box (by repeat (first | exact List.Mem.head _ | apply List.Mem.tail)) rfl) rfl rfl rfl ?_
          | (refine WL.addW rfl rfl rfl rfl rfl rfl ?_)
          | (refine WL.subW rfl rfl rfl rfl rfl rfl ?_)
          | (refine WL.store hS rfl rfl rfl (by repeat (first | exact StB.here rfl | apply StB.there)) rfl rfl rfl ?_; intro w hS))
        | (show WC _ _ _ _ _ _; first
          | refine WC.seq ?_
          | refine WC.region ?_
          | refine WC.skip ?_
          | refine WC.ret ?_
          | refine WC.condT rfl (decide_eq_true (by first | with_reducible assumption | omega)) ?_
          | refine WC.condF rfl (decide_eq_false (by first | with_reducible assumption | omega)) ?_)
        | refine seqQ_n ?_)
      exact fin1r rfl rfl ⟨rfl, hS.mutLp (by repeat (first | exact Pulls.nil | (apply Pulls.cons; focus (repeat (first | exact Pull.here | apply Pull.there)))))⟩
    · have hD : D.step = { D with steps := IntKind.i64.wrap (D.steps + 1) } := by unfold Dk.step; rw [if_neg h0, if_neg hp]
      rw [hD]
      repeat' (first
        | (show WL _ _ _ _ _ _ _; first
          | refine WL.pure rfl rfl rfl rfl ?_
          | refine WL.nil ?_
          | refine WL.load hS rfl rfl (LdOk.box (by repeat (first | exact List.Mem.head _ | apply List.Mem.tail)) rfl) rfl rfl rfl ?_
          | (refine WL.addW rfl rfl rfl rfl rfl rfl ?_)
          | (refine WL.store hS rfl rfl rfl (by repeat (first | exact StB.here rfl | apply StB.there)) rfl rfl rfl ?_; intro w hS))
        | (show WC _ _ _ _ _ _; first
          | refine WC.seq ?_
          | refine WC.region ?_
          | refine WC.skip ?_
          | refine WC.ret ?_
          | refine WC.condF rfl (decide_eq_false (by first | with_reducible assumption | omega)) ?_)
        | refine seqQ_n ?_)
      exact fin1r rfl rfl ⟨rfl, hS.mutLp (by repeat (first | exact Pulls.nil | (apply Pulls.cons; focus (repeat (first | exact Pull.here | apply Pull.there)))))⟩
set_option maxHeartbeats 8000000 in
set_option maxRecDepth 100000 in
theorem rfstamped_c (x : Ri) (hi : InL w0 (rfL dk A cap l D)) : Cal Tryz.prog 80 [.pointer (some ⟨dk, 0, none⟩), .agg ⟨encRi x⟩] w0
    (fun v w' => v = .agg ⟨encRi ⟨x.path, { x.it with stamp := IntKind.i64.wrap (D.stamps + 1) }⟩⟩ ∧ MutL w0 w' (rfL dk A cap l D) (rfL dk A cap l { D with stamps := IntKind.i64.wrap (D.stamps + 1) })) := by
  refine Cal.mkL hi (by kernel_rfl) Tryz.func80 rfl rfl fun hS => ?_
  unfold encRi
  dsimp only
  repeat' (first
    | (show WL _ _ _ _ _ _ _; first
      | refine WL.pure rfl rfl rfl rfl ?_
      | refine WL.nil ?_
      | refine WL.load hS rfl rfl (LdOk.box (by repeat (first | exact List.Mem.head _ | apply List.Mem.tail)) rfl) rfl rfl rfl ?_
      | (refine WL.addW rfl rfl rfl rfl rfl rfl ?_)
      | (refine WL.store hS rfl rfl rfl (by repeat (first | exact StB.here rfl | apply StB.there)) rfl rfl rfl ?_; intro w hS)
      | (refine WL.box hS rfl rfl rfl rfl rfl ?_; intro w b hS)
      | (refine WL.alloc hS rfl rfl rfl rfl rfl rfl ?_; intro w b hS))
    | (show WC _ _ _ _ _ _; first
      | refine WC.seq ?_
      | refine WC.region ?_
      | refine WC.ret ?_)
    | refine seqQ_n ?_)
  exact finC1r hS rfl rfl (LdOk.boxAll (by repeat (first | exact List.Mem.head _ | apply List.Mem.tail)) rfl rfl) ⟨rfl, hS.mutLp (by repeat (first | exact Pulls.nil | (apply Pulls.cons; focus (repeat (first | exact Pull.here | apply Pull.there)))))⟩
end
end Go.Proofs.YtccfiohagbneaaaGreatDoor

/- What is proved: what the reference's disk does with an item: put and drop. Conditions: a disk of bounded size. -/
set_option linter.unusedSimpArgs false
set_option linter.unusedVariables false
namespace Go.Proofs.YtccfiohagbneaaaGreatDoor
open Go Go.J Go.RowKit
section
variable {dk : Nat} {A : Option Addr} {cap : Nat} {l : List Ri} {D : Dk} {w0 : World}
set_option maxHeartbeats 16000000 in
set_option maxRecDepth 100000 in
theorem rfdrop_c (p : List UInt8) (hR : RepL l D.items) (hi : InL w0 (rfL dk A cap l D)) (hl : l.length ≤ 1048576) : Cal Tryz.prog 176 [.pointer (some ⟨dk, 0, none⟩), str p] w0
    (fun v w' => v = .tuple #[] ∧ ∃ A' cap' l', RepL l' (mdel D.items p) ∧ MutL w0 w' (rfL dk A cap l D) (rfL dk A' cap' l' D)) := by
  refine Cal.mkL hi (by kernel_rfl) Tryz.func176 rfl rfl fun hS => ?_
  have hq := hR.drop p
  have hS := hS.nilRow 110 7
  repeat' (first
    | (show WL _ _ _ _ _ _ _; first
      | refine WL.pure rfl rfl rfl rfl ?_
      | refine WL.nil ?_)
    | (show WC _ _ _ _ _ _; first
      | refine WC.seq ?_
      | refine WC.region ?_
      | refine WC.block ?_)
    | refine seqQ_n ?_)
  refine WC.loop (σ := Nat × List Ri × Option Addr × Nat) [0, 1] (fun (k, L, B, c) => [(4, .slice B L.length c), (5, .int .i64 (k : Int))])
    (fun (k, L, B, c) w => (k ≤ l.length ∧ L = dropG Ri.path (l.take k) p) ∧ St w0 (fps (rfL dk A cap l D)) w [.own (.slice B L.length c) 110 7 L.length (ris L), .box dk 45 [.slice A l.length cap, .slice none 0 0, .int .i64 D.steps, .int .i64 D.stamps, .int .i64 D.armed, .bool D.down], .own (.slice A l.length cap) 110 7 l.length (ris l)] _) (fun (k, _, _) => l.length - k) (0, [], none, 0) ⟨⟨Nat.zero_le _, rfl⟩, hS.droplast2 (by repeat (first | exact Pulls.nil | (apply Pulls.cons; focus (repeat (first | exact Pull.here | apply Pull.there)))))⟩ ⟨rfl, rfl, trivial⟩ ?_
  clear hS
  rintro ⟨k, L, B, c⟩ g w ⟨⟨hk, hL⟩, hS⟩
  show WC _ _ _ (lf _ [(4, .slice B L.length c), (5, .int .i64 (k : Int))] _ _) _ _
  by_cases hlt : k < l.length
  · obtain ⟨kg, ko, rfl⟩ := hS.own_addr (A := A) (n := l.length) (by repeat (first | exact List.Mem.head _ | apply List.Mem.tail)) (by omega)
    have hnx : dropG Ri.path (l.take (k + 1)) p = L ++ (if l[k].path = p then [] else [l[k]]) := by
      rw [List.take_succ_eq_append_getElem hlt, hL]
      unfold dropG
      rw [List.filter_append]
      congr 1
      by_cases h : l[k].path = p <;> simp [h]
    have hpa : (ris l)[k * 7]? = some (str l[k].path) := ris_at hlt (j := 0) (by decide)
    have hln : L.length ≤ k := by
      rw [hL]
      exact Nat.le_trans (List.length_filter_le _ _) (by rw [List.length_take]; omega)
    have hlen : L.length + 1 = (L ++ [l[k]]).length := by simp
    clear hL
    by_cases he : l[k].path = p
    · rw [if_pos he, List.append_nil] at hnx
      repeat' (first
        | (show WL _ _ _ _ _ _ _; first
          | refine WL.pure rfl rfl rfl rfl ?_
          | refine WL.nil ?_
          | refine WL.load hS rfl rfl (LdOk.box (by repeat (first | exact List.Mem.head _ | apply List.Mem.tail)) rfl) rfl rfl rfl ?_
          | refine WL.add rfl rfl rfl (by omega) rfl rfl rfl ?_
          | (refine WL.load hS rfl rfl (LdOk.ownAt (off := k * 7) (by repeat (first | exact List.Mem.head _ | apply List.Mem.tail)) rfl ⟨_, rfl⟩ hpa rfl) rfl rfl rfl ?_)
          | refine WL.index rfl rfl rfl rfl (by first | with_reducible assumption | omega) rfl rfl rfl rfl ?_)
        | (show WC _ _ _ _ _ _; first
          | refine WC.seq ?_
          | refine WC.region ?_
          | refine WC.block ?_
          | refine WC.skip ?_
          | refine WC.condT rfl (decide_eq_true (by first | with_reducible assumption | omega)) ?_
          | refine WC.condF rfl (by first | (simp; done) | (simp; omega)) ?_)
        | refine seqQ_n ?_
        | refine blkQ_n ?_)
      exact rndQ_n (k + 1, L, B, c) ⟨⟨by omega, hnx.symm⟩, hS⟩ (by show l.length - (k + 1) < l.length - k; omega) ⟨rfl, vint (by omega), trivial⟩ ⟨rfl, rfl, trivial⟩
    · rw [if_neg he] at hnx
      repeat' (first
        | (show WL _ _ _ _ _ _ _; first
          | refine WL.pure rfl rfl rfl rfl ?_
          | refine WL.nil ?_
          | refine WL.load hS rfl rfl (LdOk.box (by repeat (first | exact List.Mem.head _ | apply List.Mem.tail)) rfl) rfl rfl rfl ?_
          | refine WL.add rfl rfl rfl (by omega) rfl rfl rfl ?_
          | (refine WL.load hS rfl rfl (LdOk.ownAt (off := k * 7) (by repeat (first | exact List.Mem.head _ | apply List.Mem.tail)) rfl ⟨_, rfl⟩ hpa rfl) rfl rfl rfl ?_)
          | (refine WL.load hS rfl rfl (LdOk.ownElem (enc := encRi) (k := k) (fun _ => rfl) (by repeat (first | exact List.Mem.head _ | apply List.Mem.tail)) hlt rfl rfl) rfl rfl rfl ?_)
          | (refine WL.app (m := 1) hS rfl rfl rfl rfl (RdOk.box (by repeat (first | exact List.Mem.head _ | apply List.Mem.tail))) rfl rfl (fun A cap => by repeat (first | exact Repl.here | apply Repl.there)) (by omega) rfl rfl rfl ?_; intro A3 cap3 w hS)
          | refine WL.index rfl rfl rfl rfl (by first | with_reducible assumption | omega) rfl rfl rfl rfl ?_
          | (refine WL.slit hS rfl rfl rfl rfl rfl ?_; intro w b hS))
        | (show WC _ _ _ _ _ _; first
          | refine WC.seq ?_
          | refine WC.region ?_
          | refine WC.block ?_
          | refine WC.skip ?_
          | refine WC.condT rfl (decide_eq_true (by first | with_reducible assumption | omega)) ?_)
        | refine seqQ_n ?_
        | refine blkQ_n ?_)
      replace hS : St w0 _ w (_ :: .own (.slice A3 (L.length + 1) cap3) 110 7 (L.length + 1) (ris L ++ encRi l[k]) :: _) _ := hS
      rw [ris_snoc, hlen] at hS
      exact rndQ_n (k + 1, L ++ [l[k]], A3, cap3) ⟨⟨by omega, hnx.symm⟩, hS.droplast2 (by repeat (first | exact Pulls.nil | (apply Pulls.cons; focus (repeat (first | exact Pull.here | apply Pull.there)))))⟩ (by show l.length - (k + 1) < l.length - k; omega) ⟨(by rw [← hlen]; rfl), vint (by omega), trivial⟩ ⟨rfl, rfl, trivial⟩
  · have hke : k = l.length := by omega
    subst hke
    rw [List.take_length] at hL
    subst hL
    repeat' (first
      | (show WL _ _ _ _ _ _ _; first
        | refine WL.pure rfl rfl rfl rfl ?_
        | refine WL.nil ?_
        | refine WL.load hS rfl rfl (LdOk.box (by repeat (first | exact List.Mem.head _ | apply List.Mem.tail)) rfl) rfl rfl rfl ?_
        | (refine WL.store hS rfl rfl rfl (by repeat (first | exact StB.here rfl | apply StB.there)) rfl rfl rfl ?_; intro w hS))
      | (show WC _ _ _ _ _ _; first
        | refine WC.seq ?_
        | refine WC.region ?_
        | refine WC.exit ?_
        | refine WC.condF rfl (decide_eq_false (by first | with_reducible assumption | omega)) ?_)
      | refine seqQ_n ?_
      | refine seqQ_x ?_
      | refine blkQ_hit rfl ?_
      | refine rndQ_x ?_)
    exact fin0n rfl ⟨rfl, _, _, _, hq, (hS.pulls (D := rfL dk B c (dropG Ri.path l p) D) (by repeat (first | exact Pulls.nil | (apply Pulls.cons; focus (repeat (first | exact Pull.here | apply Pull.there)))))).mutLOf⟩
set_option maxHeartbeats 32000000 in
set_option maxRecDepth 100000 in
theorem rfput_c (x : Ri) (hR : RepL l D.items) (hi : InL w0 (rfL dk A cap l D)) (hl : l.length ≤ 1048576) : Cal Tryz.prog 65 [.pointer (some ⟨dk, 0, none⟩), .agg ⟨encRi x⟩] w0
    (fun v w' => v = .tuple #[] ∧ ∃ A' cap' l', RepL l' (mset D.items x.path x.it) ∧ MutL w0 w' (rfL dk A cap l D) (rfL dk A' cap' l' D)) := by
  refine Cal.mkL hi (by kernel_rfl) Tryz.func65 rfl rfl fun hS => ?_
  have hq := hR.put x
  have hrise := hR.rise
  have hS := hS.nilRow 110 7
  obtain ⟨q, it⟩ := x
  unfold encRi
  dsimp only at hq ⊢
  repeat' (first
    | (show WL _ _ _ _ _ _ _; first
      | refine WL.pure rfl rfl rfl rfl ?_
      | refine WL.nil ?_
      | (refine WL.box hS rfl rfl rfl rfl rfl ?_; intro w b hS))
    | (show WC _ _ _ _ _ _; first
      | refine WC.seq ?_
      | refine WC.region ?_
      | refine WC.block ?_)
    | refine seqQ_n ?_)
  obtain ⟨xb, hxb⟩ : ∃ xb, xb = b := ⟨_, rfl⟩
  subst hxb
  refine WC.loop (σ := Nat × Option Addr × Nat) [0, 3] (fun (k, B, c) => [(4, .slice B k c), (5, .int .i64 (k : Int))])
    (fun (k, B, c) w => (k ≤ l.length ∧ ∀ j (h : j < l.length), j < k → Op.bytesLess l[j].path q = true) ∧ St w0 (fps (rfL dk A cap l D)) w [.own (.slice B k c) 110 7 k (ris (l.take k)), .box dk 45 [.slice A l.length cap, .slice none 0 0, .int .i64 D.steps, .int .i64 D.stamps, .int .i64 D.armed, .bool D.down], .own (.slice A l.length cap) 110 7 l.length (ris l), .box xb 110 [str q, .bool it.dir, str it.data, str it.kept, .bool it.loose, .bool it.anew, .int .i64 it.stamp]] _) (fun (k, _, _) => l.length - k) (0, none, 0) ⟨⟨Nat.zero_le _, fun j h h0 => absurd h0 (Nat.not_lt_zero _)⟩, hS.droplast2 (by repeat (first | exact Pulls.nil | (apply Pulls.cons; focus (repeat (first | exact Pull.here | apply Pull.there)))))⟩ ⟨rfl, rfl, trivial⟩ ?_
  clear hS
  rintro ⟨k, B, c⟩ g w ⟨⟨hk, hlo⟩, hS⟩
  show WC _ _ _ (lf _ [(4, .slice B k c), (5, .int .i64 (k : Int))] _ _) _ _
  by_cases hlt : k < l.length
  · obtain ⟨kg, ko, rfl⟩ := hS.own_addr (A := A) (n := l.length) (by repeat (first | exact List.Mem.head _ | apply List.Mem.tail)) (by omega)
    have hpa : (ris l)[k * 7]? = some (str l[k].path) := ris_at hlt (j := 0) (by decide)
    have htk := (List.take_succ_eq_append_getElem hlt).symm
    by_cases hc : Op.bytesLess l[k].path q = true
    · have hlo' : ∀ j (h : j < l.length), j < k + 1 → Op.bytesLess l[j].path q = true := fun j h hj => by
        rcases Nat.lt_or_ge j k with h3 | h3
        · exact hlo j h h3
        · have : j = k := by omega
          subst this; exact hc
      obtain ⟨HL, rfl⟩ : ∃ h : (∀ j (h : j < l.length), j < k + 1 → Op.bytesLess l[j].path q = true), h = hlo' := ⟨_, rfl⟩
      clear hlo
      repeat' (first
        | (show WL _ _ _ _ _ _ _; first
          | refine WL.pure rfl rfl rfl rfl ?_
          | refine WL.nil ?_
          | refine WL.load hS rfl rfl (LdOk.box (by repeat (first | exact List.Mem.head _ | apply List.Mem.tail)) rfl) rfl rfl rfl ?_
          | refine WL.add rfl rfl rfl (by omega) rfl rfl rfl ?_
          | (refine WL.load hS rfl rfl (LdOk.ownElem (enc := encRi) (k := k) (fun _ => rfl) (by repeat (first | exact List.Mem.head _ | apply List.Mem.tail)) hlt rfl rfl) rfl rfl rfl ?_)
          | (refine WL.app (m := 1) hS rfl rfl rfl rfl (RdOk.box (by repeat (first | exact List.Mem.head _ | apply List.Mem.tail))) rfl rfl (fun A cap => by repeat (first | exact Repl.here | apply Repl.there)) (by omega) rfl rfl rfl ?_; intro A3 cap3 w hS)
          | refine WL.index rfl rfl rfl rfl (by first | with_reducible assumption | omega) rfl rfl rfl rfl ?_
          | (refine WL.slit hS rfl rfl rfl rfl rfl ?_; intro w b hS))
        | (show WC _ _ _ _ _ _; first
          | refine WC.condT rfl hc ?_
          | refine WC.seq ?_
          | refine WC.region ?_
          | refine WC.block ?_
          | refine WC.skip ?_
          | (show WC _ _ (Code.region _ (List.toArray [_, _, _, _, _, _, _, _, _, _, _, _, _, _, _, _, _, _, _, _]) true) _ _ _; refine WC.drawS hS [0, 1, 2, 3, 4, 5, 6, 7, 8, 9, 10, 11, 12, 13, 14, 15, 16, 17, 18, 19] [0, 1, 2, 3, 4, 5, 6, 7, 8, 9, 10, 11, 12, 13, 14, 15, 16, 17, 18, 19] (by kernel_rfl) (by kernel_rfl) ?_; clear hS; intro w hS hM))
        | (show WD _ _ _ _ _ _ _ _ _; first
          | refine WD.pure rfl rfl rfl rfl rfl ?_
          | refine WD.nil ?_
          | refine WD.load rfl rfl (LdOk.box (by repeat (first | exact List.Mem.head _ | apply List.Mem.tail)) rfl) rfl rfl rfl rfl ?_
          | (refine WD.load rfl rfl (LdOk.ownAt (off := k * 7) (by repeat (first | exact List.Mem.head _ | apply List.Mem.tail)) rfl ⟨_, rfl⟩ hpa rfl) rfl rfl rfl rfl ?_)
          | refine WD.index rfl rfl rfl rfl (by first | with_reducible assumption | omega) rfl rfl rfl rfl rfl ?_
          | ((fail_if_success (refine WD.wanted rfl ?_)); refine WD.guard rfl rfl rfl (fun h => ?_) (fun h => ?_) <;> (try simp only [Classical.not_not, Bool.not_eq_true', Bool.not_eq_false', Bool.not_eq_eq_eq_not, Bool.not_true, Bool.not_false, beq_iff_eq, beq_eq_false_iff_ne, ne_eq, decide_eq_decide, decide_eq_true_eq, decide_eq_false_iff_not, Bool.and_eq_true, Bool.or_eq_true, Bool.and_eq_false_iff, Bool.or_eq_false_iff] at h) <;> (try (exfalso; first | omega | contradiction))))
        | refine seqQ_n ?_
        | refine blkQ_n ?_)
      replace hS : St w0 _ w (_ :: .own (.slice A3 (k + 1) cap3) 110 7 (k + 1) (ris (l.take k) ++ encRi l[k]) :: _) _ := hS
      rw [ris_snoc, htk] at hS
      exact rndQ_n (k + 1, A3, cap3) ⟨⟨by omega, HL⟩, hS.droplast2 (by repeat (first | exact Pulls.nil | (apply Pulls.cons; focus (repeat (first | exact Pull.here | apply Pull.there)))))⟩ (by show l.length - (k + 1) < l.length - k; omega) ⟨rfl, vint (by omega), trivial⟩ ⟨rfl, rfl, trivial⟩
    · have hc0 : Op.bytesLess l[k].path q = false := by cases h : Op.bytesLess l[k].path q <;> simp_all
      by_cases he : l[k].path = q
      · repeat' (first
          | (show WL _ _ _ _ _ _ _; first
            | refine WL.pure rfl rfl rfl rfl ?_
            | refine WL.nil ?_
            | refine WL.load hS rfl rfl (LdOk.box (by repeat (first | exact List.Mem.head _ | apply List.Mem.tail)) rfl) rfl rfl rfl ?_
            | refine WL.add rfl rfl rfl (by omega) rfl rfl rfl ?_
            | (refine WL.app (m := 1) hS rfl rfl rfl rfl (RdOk.box (by repeat (first | exact List.Mem.head _ | apply List.Mem.tail))) rfl rfl (fun A cap => by repeat (first | exact Repl.here | apply Repl.there)) (by omega) rfl rfl rfl ?_; intro A3 cap3 w hS)
            | (refine WL.slit hS rfl rfl rfl rfl rfl ?_; intro w b hS))
          | (show WC _ _ _ _ _ _; first
            | refine WC.condF rfl hc0 ?_
            | refine WC.seq ?_
            | refine WC.region ?_
            | refine WC.block ?_
            | refine WC.exit ?_
            | (show WC _ _ (Code.region _ (List.toArray [_, _, _, _, _, _, _, _, _, _, _, _, _, _, _, _, _, _, _, _]) true) _ _ _; refine WC.drawS hS [0, 1, 2, 3, 4, 5, 6, 7, 8, 9, 10, 11, 12, 13, 14, 15, 16, 17, 18, 19] [0, 1, 2, 3, 4, 5, 6, 7, 8, 9, 10, 11, 12, 13, 14, 15, 16, 17, 18, 19] (by kernel_rfl) (by kernel_rfl) ?_; clear hS; intro w hS hM)
            | refine WC.condT rfl (decide_eq_true (by first | with_reducible assumption | omega)) ?_)
          | (show WD _ _ _ _ _ _ _ _ _; first
            | refine WD.pure rfl rfl rfl rfl rfl ?_
            | refine WD.nil ?_
            | refine WD.load rfl rfl (LdOk.box (by repeat (first | exact List.Mem.head _ | apply List.Mem.tail)) rfl) rfl rfl rfl rfl ?_
            | (refine WD.load rfl rfl (LdOk.ownAt (off := k * 7) (by repeat (first | exact List.Mem.head _ | apply List.Mem.tail)) rfl ⟨_, rfl⟩ hpa rfl) rfl rfl rfl rfl ?_)
            | refine WD.index rfl rfl rfl rfl (by first | with_reducible assumption | omega) rfl rfl rfl rfl rfl ?_
            | ((fail_if_success (refine WD.wanted rfl ?_)); refine WD.guard rfl rfl rfl (fun h => ?_) (fun h => ?_) <;> (try simp only [Classical.not_not, Bool.not_eq_true', Bool.not_eq_false', Bool.not_eq_eq_eq_not, Bool.not_true, Bool.not_false, beq_iff_eq, beq_eq_false_iff_ne, ne_eq, decide_eq_decide, decide_eq_true_eq, decide_eq_false_iff_not, Bool.and_eq_true, Bool.or_eq_true, Bool.and_eq_false_iff, Bool.or_eq_false_iff] at h) <;> (try (exfalso; first | omega | contradiction))))
          | refine seqQ_n ?_
          | refine seqQ_x ?_
          | refine blkQ_hit rfl ?_
          | refine rndQ_x ?_)
        replace hS : St w0 _ w (_ :: .own (.slice A3 (k + 1) cap3) 110 7 (k + 1) (ris (l.take k) ++ encRi ⟨q, it⟩) :: _) _ := hS
        rw [ris_snoc] at hS
        obtain ⟨L1, hL1d⟩ : ∃ L1, L1 = l.take k ++ [⟨q, it⟩] := ⟨_, rfl⟩
        have hL1 : k + 1 = L1.length := by rw [hL1d, List.length_append, List.length_take]; show _ = _ + 1; omega
        rw [← hL1d, hL1] at hS
        obtain ⟨m0, hm0⟩ : ∃ m0 : Nat, m0 = k + 1 := ⟨_, rfl⟩
        have hm : m0 ≤ l.length := by omega
        have hput : putG Ri.path Op.bytesLess l ⟨q, it⟩ = L1 ++ l.drop m0 := by rw [hL1d, hm0, List.append_assoc]; exact putG_eq bytesO hrise hlt hlo he
        have hLb : ∀ j, j ≤ l.length → (L1 ++ (l.drop m0).take (j - m0)).length ≤ 2097152 := fun j hj => by rw [List.length_append, ← hL1, List.length_take, List.length_drop]; omega
        clear hlo
        refine WC.loop (σ := Nat × Option Addr × Nat) [0] (fun (j, B, c) => [(4, .slice B (L1 ++ (l.drop m0).take (j - m0)).length c), (5, .int .i64 (j : Int))])
          (fun (j, B, c) w => (m0 ≤ j ∧ j ≤ l.length) ∧ St w0 (fps (rfL dk (some ⟨kg, ko, none⟩) cap l D)) w [.own (.slice B (L1 ++ (l.drop m0).take (j - m0)).length c) 110 7 (L1 ++ (l.drop m0).take (j - m0)).length (ris (L1 ++ (l.drop m0).take (j - m0))), .box dk 45 [.slice (some ⟨kg, ko, none⟩) l.length cap, .slice none 0 0, .int .i64 D.steps, .int .i64 D.stamps, .int .i64 D.armed, .bool D.down], .own (.slice (some ⟨kg, ko, none⟩) l.length cap) 110 7 l.length (ris l)] _) (fun (j, _, _) => l.length - j) (m0, A3, cap3) ⟨⟨Nat.le_refl _, hm⟩, (by rw [Nat.sub_self, List.take_zero, List.append_nil]; exact hS.droplast2 (by repeat (first | exact Pulls.nil | (apply Pulls.cons; focus (repeat (first | exact Pull.here | apply Pull.there))))))⟩ ⟨(by rw [Nat.sub_self, List.take_zero, List.append_nil, ← hL1]; rfl), vint (by omega), trivial⟩ ?_
        clear hS
        rintro ⟨j, B, c⟩ g w ⟨⟨hj1, hj2⟩, hS⟩
        show WC _ _ _ (lf _ [(4, .slice B (L1 ++ (l.drop m0).take (j - m0)).length c), (5, .int .i64 (j : Int))] _ _) _ _
        by_cases hlt : j < l.length
        · have hdl : j - m0 < (l.drop m0).length := by rw [List.length_drop]; omega
          have hge : (l.drop m0)[j - m0] = l[j] := by rw [List.getElem_drop]; congr 1; omega
          have hsn : L1 ++ (l.drop m0).take (j - m0) ++ [l[j]] = L1 ++ (l.drop m0).take (j + 1 - m0) := by
            rw [show j + 1 - m0 = j - m0 + 1 by omega, List.take_succ_eq_append_getElem hdl, hge, List.append_assoc]
          have hLb := hLb j hj2
          generalize L1 ++ (l.drop m0).take (j - m0) = L at *
          have hlen : L.length + 1 = (L1 ++ (l.drop m0).take (j + 1 - m0)).length := by rw [← hsn]; simp
          repeat' (first
            | (show WL _ _ _ _ _ _ _; first
              | refine WL.pure rfl rfl rfl rfl ?_
              | refine WL.nil ?_
              | refine WL.load hS rfl rfl (LdOk.box (by repeat (first | exact List.Mem.head _ | apply List.Mem.tail)) rfl) rfl rfl rfl ?_
              | refine WL.add rfl rfl rfl (by omega) rfl rfl rfl ?_
              | (refine WL.load hS rfl rfl (LdOk.ownElem (enc := encRi) (k := j) (fun _ => rfl) (by repeat (first | exact List.Mem.head _ | apply List.Mem.tail)) hlt rfl rfl) rfl rfl rfl ?_)
              | (refine WL.app (m := 1) hS rfl rfl rfl rfl (RdOk.box (by repeat (first | exact List.Mem.head _ | apply List.Mem.tail))) rfl rfl (fun A cap => by repeat (first | exact Repl.here | apply Repl.there)) (by omega) rfl rfl rfl ?_; intro A4 cap4 w hS)
              | refine WL.index rfl rfl rfl rfl (by first | with_reducible assumption | omega) rfl rfl rfl rfl ?_
              | (refine WL.slit hS rfl rfl rfl rfl rfl ?_; intro w b hS))
            | (show WC _ _ _ _ _ _; first
              | refine WC.seq ?_
              | refine WC.region ?_
              | refine WC.block ?_
              | refine WC.skip ?_
              | refine WC.condT rfl (decide_eq_true (by first | with_reducible assumption | omega)) ?_)
            | refine seqQ_n ?_
            | refine blkQ_n ?_)
          replace hS : St w0 _ w (_ :: .own (.slice A4 (L.length + 1) cap4) 110 7 (L.length + 1) (ris L ++ encRi l[j]) :: _) _ := hS
          rw [ris_snoc, hsn, hlen] at hS
          exact rndQ_n (j + 1, A4, cap4) ⟨⟨by omega, by omega⟩, hS.droplast2 (by repeat (first | exact Pulls.nil | (apply Pulls.cons; focus (repeat (first | exact Pull.here | apply Pull.there)))))⟩ (by show l.length - (j + 1) < l.length - j; omega) ⟨(by rw [← hlen]; rfl), vint (by omega), trivial⟩ ⟨rfl, trivial⟩
        · have hje : j = l.length := by omega
          subst hje
          have e : L1 ++ (l.drop m0).take (l.length - m0) = putG Ri.path Op.bytesLess l ⟨q, it⟩ := by
            rw [List.take_of_length_le (by rw [List.length_drop]; exact Nat.le_refl _), hput]
          rw [e] at hS ⊢
          repeat' (first
            | (show WL _ _ _ _ _ _ _; first
              | refine WL.pure rfl rfl rfl rfl ?_
              | refine WL.nil ?_
              | refine WL.load hS rfl rfl (LdOk.box (by repeat (first | exact List.Mem.head _ | apply List.Mem.tail)) rfl) rfl rfl rfl ?_
              | (refine WL.store hS rfl rfl rfl (by repeat (first | exact StB.here rfl | apply StB.there)) rfl rfl rfl ?_; intro w hS))
            | (show WC _ _ _ _ _ _; first
              | refine WC.seq ?_
              | refine WC.region ?_
              | refine WC.exit ?_
              | refine WC.condF rfl (decide_eq_false (by first | with_reducible assumption | omega)) ?_)
            | refine seqQ_n ?_
            | refine seqQ_x ?_
            | refine blkQ_hit rfl ?_
            | refine rndQ_x ?_)
          exact fin0n rfl ⟨rfl, _, _, _, hq, (hS.pulls (D := rfL dk B c (putG Ri.path Op.bytesLess l ⟨q, it⟩) D) (by repeat (first | exact Pulls.nil | (apply Pulls.cons; focus (repeat (first | exact Pull.here | apply Pull.there)))))).mutLOf⟩
      · repeat' (first
          | (show WL _ _ _ _ _ _ _; first
            | refine WL.pure rfl rfl rfl rfl ?_
            | refine WL.nil ?_
            | refine WL.load hS rfl rfl (LdOk.box (by repeat (first | exact List.Mem.head _ | apply List.Mem.tail)) rfl) rfl rfl rfl ?_
            | (refine WL.app (m := 1) hS rfl rfl rfl rfl (RdOk.box (by repeat (first | exact List.Mem.head _ | apply List.Mem.tail))) rfl rfl (fun A cap => by repeat (first | exact Repl.here | apply Repl.there)) (by omega) rfl rfl rfl ?_; intro A3 cap3 w hS)
            | (refine WL.slit hS rfl rfl rfl rfl rfl ?_; intro w b hS))
          | (show WC _ _ _ _ _ _; first
            | refine WC.condF rfl hc0 ?_
            | refine WC.seq ?_
            | refine WC.region ?_
            | refine WC.block ?_
            | refine WC.skip ?_
            | refine WC.exit ?_
            | (show WC _ _ (Code.region _ (List.toArray [_, _, _, _, _, _, _, _, _, _, _, _, _, _, _, _, _, _, _, _]) true) _ _ _; refine WC.drawS hS [0, 1, 2, 3, 4, 5, 6, 7, 8, 9, 10, 11, 12, 13, 14, 15, 16, 17, 18, 19] [0, 1, 2, 3, 4, 5, 6, 7, 8, 9, 10, 11, 12, 13, 14, 15, 16, 17, 18, 19] (by kernel_rfl) (by kernel_rfl) ?_; clear hS; intro w hS hM)
            | refine WC.condF rfl (decide_eq_false (by first | with_reducible assumption | omega)) ?_)
          | (show WD _ _ _ _ _ _ _ _ _; first
            | refine WD.pure rfl rfl rfl rfl rfl ?_
            | refine WD.nil ?_
            | refine WD.load rfl rfl (LdOk.box (by repeat (first | exact List.Mem.head _ | apply List.Mem.tail)) rfl) rfl rfl rfl rfl ?_
            | (refine WD.load rfl rfl (LdOk.ownAt (off := k * 7) (by repeat (first | exact List.Mem.head _ | apply List.Mem.tail)) rfl ⟨_, rfl⟩ hpa rfl) rfl rfl rfl rfl ?_)
            | refine WD.index rfl rfl rfl rfl (by first | with_reducible assumption | omega) rfl rfl rfl rfl rfl ?_
            | ((fail_if_success (refine WD.wanted rfl ?_)); refine WD.guard rfl rfl rfl (fun h => ?_) (fun h => ?_) <;> (try simp only [Classical.not_not, Bool.not_eq_true', Bool.not_eq_false', Bool.not_eq_eq_eq_not, Bool.not_true, Bool.not_false, beq_iff_eq, beq_eq_false_iff_ne, ne_eq, decide_eq_decide, decide_eq_true_eq, decide_eq_false_iff_not, Bool.and_eq_true, Bool.or_eq_true, Bool.and_eq_false_iff, Bool.or_eq_false_iff] at h) <;> (try (exfalso; first | omega | contradiction))))
          | refine seqQ_n ?_
          | refine seqQ_x ?_
          | refine blkQ_hit rfl ?_
          | refine rndQ_x ?_)
        replace hS : St w0 _ w (_ :: .own (.slice A3 (k + 1) cap3) 110 7 (k + 1) (ris (l.take k) ++ encRi ⟨q, it⟩) :: _) _ := hS
        rw [ris_snoc] at hS
        obtain ⟨L1, hL1d⟩ : ∃ L1, L1 = l.take k ++ [⟨q, it⟩] := ⟨_, rfl⟩
        have hL1 : k + 1 = L1.length := by rw [hL1d, List.length_append, List.length_take]; show _ = _ + 1; omega
        rw [← hL1d, hL1] at hS
        obtain ⟨m0, hm0⟩ : ∃ m0 : Nat, m0 = k := ⟨_, rfl⟩
        have hm : m0 ≤ l.length := by omega
        have hput : putG Ri.path Op.bytesLess l ⟨q, it⟩ = L1 ++ l.drop m0 := by rw [hL1d, hm0, List.append_assoc]; exact putG_ne bytesO hrise hk hlo fun _ => ⟨hc0, he⟩
        have hLb : ∀ j, j ≤ l.length → (L1 ++ (l.drop m0).take (j - m0)).length ≤ 2097152 := fun j hj => by rw [List.length_append, ← hL1, List.length_take, List.length_drop]; omega
        clear hlo
        refine WC.loop (σ := Nat × Option Addr × Nat) [0] (fun (j, B, c) => [(4, .slice B (L1 ++ (l.drop m0).take (j - m0)).length c), (5, .int .i64 (j : Int))])
          (fun (j, B, c) w => (m0 ≤ j ∧ j ≤ l.length) ∧ St w0 (fps (rfL dk (some ⟨kg, ko, none⟩) cap l D)) w [.own (.slice B (L1 ++ (l.drop m0).take (j - m0)).length c) 110 7 (L1 ++ (l.drop m0).take (j - m0)).length (ris (L1 ++ (l.drop m0).take (j - m0))), .box dk 45 [.slice (some ⟨kg, ko, none⟩) l.length cap, .slice none 0 0, .int .i64 D.steps, .int .i64 D.stamps, .int .i64 D.armed, .bool D.down], .own (.slice (some ⟨kg, ko, none⟩) l.length cap) 110 7 l.length (ris l)] _) (fun (j, _, _) => l.length - j) (m0, A3, cap3) ⟨⟨Nat.le_refl _, hm⟩, (by rw [Nat.sub_self, List.take_zero, List.append_nil]; exact hS.droplast2 (by repeat (first | exact Pulls.nil | (apply Pulls.cons; focus (repeat (first | exact Pull.here | apply Pull.there))))))⟩ ⟨(by rw [Nat.sub_self, List.take_zero, List.append_nil, ← hL1]; rfl), vint (by omega), trivial⟩ ?_
        clear hS
        rintro ⟨j, B, c⟩ g w ⟨⟨hj1, hj2⟩, hS⟩
        show WC _ _ _ (lf _ [(4, .slice B (L1 ++ (l.drop m0).take (j - m0)).length c), (5, .int .i64 (j : Int))] _ _) _ _
        by_cases hlt : j < l.length
        · have hdl : j - m0 < (l.drop m0).length := by rw [List.length_drop]; omega
          have hge : (l.drop m0)[j - m0] = l[j] := by rw [List.getElem_drop]; congr 1; omega
          have hsn : L1 ++ (l.drop m0).take (j - m0) ++ [l[j]] = L1 ++ (l.drop m0).take (j + 1 - m0) := by
            rw [show j + 1 - m0 = j - m0 + 1 by omega, List.take_succ_eq_append_getElem hdl, hge, List.append_assoc]
          have hLb := hLb j hj2
          generalize L1 ++ (l.drop m0).take (j - m0) = L at *
          have hlen : L.length + 1 = (L1 ++ (l.drop m0).take (j + 1 - m0)).length := by rw [← hsn]; simp
          repeat' (first
            | (show WL _ _ _ _ _ _ _; first
              | refine WL.pure rfl rfl rfl rfl ?_
              | refine WL.nil ?_
              | refine WL.load hS rfl rfl (LdOk.box (by repeat (first | exact List.Mem.head _ | apply List.Mem.tail)) rfl) rfl rfl rfl ?_
              | refine WL.add rfl rfl rfl (by omega) rfl rfl rfl ?_
              | (refine WL.load hS rfl rfl (LdOk.ownElem (enc := encRi) (k := j) (fun _ => rfl) (by repeat (first | exact List.Mem.head _ | apply List.Mem.tail)) hlt rfl rfl) rfl rfl rfl ?_)
              | (refine WL.app (m := 1) hS rfl rfl rfl rfl (RdOk.box (by repeat (first | exact List.Mem.head _ | apply List.Mem.tail))) rfl rfl (fun A cap => by repeat (first | exact Repl.here | apply Repl.there)) (by omega) rfl rfl rfl ?_; intro A4 cap4 w hS)
              | refine WL.index rfl rfl rfl rfl (by first | with_reducible assumption | omega) rfl rfl rfl rfl ?_
              | (refine WL.slit hS rfl rfl rfl rfl rfl ?_; intro w b hS))
            | (show WC _ _ _ _ _ _; first
              | refine WC.seq ?_
              | refine WC.region ?_
              | refine WC.block ?_
              | refine WC.skip ?_
              | refine WC.condT rfl (decide_eq_true (by first | with_reducible assumption | omega)) ?_)
            | refine seqQ_n ?_
            | refine blkQ_n ?_)
          replace hS : St w0 _ w (_ :: .own (.slice A4 (L.length + 1) cap4) 110 7 (L.length + 1) (ris L ++ encRi l[j]) :: _) _ := hS
          rw [ris_snoc, hsn, hlen] at hS
          exact rndQ_n (j + 1, A4, cap4) ⟨⟨by omega, by omega⟩, hS.droplast2 (by repeat (first | exact Pulls.nil | (apply Pulls.cons; focus (repeat (first | exact Pull.here | apply Pull.there)))))⟩ (by show l.length - (j + 1) < l.length - j; omega) ⟨(by rw [← hlen]; rfl), vint (by omega), trivial⟩ ⟨rfl, trivial⟩
        · have hje : j = l.length := by omega
          subst hje
          have e : L1 ++ (l.drop m0).take (l.length - m0) = putG Ri.path Op.bytesLess l ⟨q, it⟩ := by
            rw [List.take_of_length_le (by rw [List.length_drop]; exact Nat.le_refl _), hput]
          rw [e] at hS ⊢
          repeat' (first
            | (show WL _ _ _ _ _ _ _; first
              | refine WL.pure rfl rfl rfl rfl ?_
              | refine WL.nil ?_
              | refine WL.load hS rfl rfl (LdOk.box (by repeat (first | exact List.Mem.head _ | apply List.Mem.tail)) rfl) rfl rfl rfl ?_
              | (refine WL.store hS rfl rfl rfl (by repeat (first | exact StB.here rfl | apply StB.there)) rfl rfl rfl ?_; intro w hS))
            | (show WC _ _ _ _ _ _; first
              | refine WC.seq ?_
              | refine WC.region ?_
              | refine WC.exit ?_
              | refine WC.condF rfl (decide_eq_false (by first | with_reducible assumption | omega)) ?_)
            | refine seqQ_n ?_
            | refine seqQ_x ?_
            | refine blkQ_hit rfl ?_
            | refine rndQ_x ?_)
          exact fin0n rfl ⟨rfl, _, _, _, hq, (hS.pulls (D := rfL dk B c (putG Ri.path Op.bytesLess l ⟨q, it⟩) D) (by repeat (first | exact Pulls.nil | (apply Pulls.cons; focus (repeat (first | exact Pull.here | apply Pull.there)))))).mutLOf⟩
  · have hke : k = l.length := by omega
    subst hke
    repeat' (first
      | (show WL _ _ _ _ _ _ _; first
        | refine WL.pure rfl rfl rfl rfl ?_
        | refine WL.nil ?_
        | refine WL.load hS rfl rfl (LdOk.box (by repeat (first | exact List.Mem.head _ | apply List.Mem.tail)) rfl) rfl rfl rfl ?_
        | (refine WL.app (m := 1) hS rfl rfl rfl rfl (RdOk.box (by repeat (first | exact List.Mem.head _ | apply List.Mem.tail))) rfl rfl (fun A cap => by repeat (first | exact Repl.here | apply Repl.there)) (by omega) rfl rfl rfl ?_; intro A3 cap3 w hS)
        | (refine WL.slit hS rfl rfl rfl rfl rfl ?_; intro w b hS))
      | (show WC _ _ _ _ _ _; first
        | refine WC.seq ?_
        | refine WC.region ?_
        | refine WC.block ?_
        | refine WC.skip ?_
        | refine WC.exit ?_
        | (show WC _ _ (Code.region _ (List.toArray [_, _, _, _, _, _, _, _, _, _, _, _, _, _, _, _, _, _, _, _]) true) _ _ _; refine WC.drawS hS [0, 1, 2, 3, 4, 5, 6, 7, 8, 9, 10, 11, 12, 13, 14, 15, 16, 17, 18, 19] [0, 1, 2, 3, 4, 5, 6, 7, 8, 9, 10, 11, 12, 13, 14, 15, 16, 17, 18, 19] (by kernel_rfl) (by kernel_rfl) ?_; clear hS; intro w hS hM)
        | refine WC.condF rfl (by with_reducible rfl) ?_)
      | (show WD _ _ _ _ _ _ _ _ _; first
        | refine WD.pure rfl rfl rfl rfl rfl ?_
        | refine WD.nil ?_
        | refine WD.load rfl rfl (LdOk.box (by repeat (first | exact List.Mem.head _ | apply List.Mem.tail)) rfl) rfl rfl rfl rfl ?_
        | refine WD.pass rfl rfl rfl rfl ?_
        | ((fail_if_success (refine WD.wanted rfl ?_)); refine WD.guard rfl rfl rfl (fun h => ?_) (fun h => ?_) <;> (try simp only [Classical.not_not, Bool.not_eq_true', Bool.not_eq_false', Bool.not_eq_eq_eq_not, Bool.not_true, Bool.not_false, beq_iff_eq, beq_eq_false_iff_ne, ne_eq, decide_eq_decide, decide_eq_true_eq, decide_eq_false_iff_not, Bool.and_eq_true, Bool.or_eq_true, Bool.and_eq_false_iff, Bool.or_eq_false_iff] at h) <;> (try (exfalso; first | omega | contradiction))))
      | refine seqQ_n ?_
      | refine seqQ_x ?_
      | refine blkQ_hit rfl ?_
      | refine rndQ_x ?_)
    replace hS : St w0 _ w (_ :: .own (.slice A3 (l.length + 1) cap3) 110 7 (l.length + 1) (ris (l.take l.length) ++ encRi ⟨q, it⟩) :: _) _ := hS
    rw [ris_snoc] at hS
    obtain ⟨L1, hL1d⟩ : ∃ L1, L1 = l.take l.length ++ [⟨q, it⟩] := ⟨_, rfl⟩
    have hL1 : l.length + 1 = L1.length := by rw [hL1d, List.length_append, List.length_take]; show _ = _ + 1; omega
    rw [← hL1d, hL1] at hS
    obtain ⟨m0, hm0⟩ : ∃ m0 : Nat, m0 = l.length := ⟨_, rfl⟩
    have hm : m0 ≤ l.length := by omega
    have hput : putG Ri.path Op.bytesLess l ⟨q, it⟩ = L1 ++ l.drop m0 := by rw [hL1d, hm0, List.append_assoc]; exact putG_ne bytesO hrise hk hlo fun hh => absurd hh (by omega)
    have hLb : ∀ j, j ≤ l.length → (L1 ++ (l.drop m0).take (j - m0)).length ≤ 2097152 := fun j hj => by rw [List.length_append, ← hL1, List.length_take, List.length_drop]; omega
    clear hlo
    refine WC.loop (σ := Nat × Option Addr × Nat) [0] (fun (j, B, c) => [(4, .slice B (L1 ++ (l.drop m0).take (j - m0)).length c), (5, .int .i64 (j : Int))])
      (fun (j, B, c) w => (m0 ≤ j ∧ j ≤ l.length) ∧ St w0 (fps (rfL dk A cap l D)) w [.own (.slice B (L1 ++ (l.drop m0).take (j - m0)).length c) 110 7 (L1 ++ (l.drop m0).take (j - m0)).length (ris (L1 ++ (l.drop m0).take (j - m0))), .box dk 45 [.slice A l.length cap, .slice none 0 0, .int .i64 D.steps, .int .i64 D.stamps, .int .i64 D.armed, .bool D.down], .own (.slice A l.length cap) 110 7 l.length (ris l)] _) (fun (j, _, _) => l.length - j) (m0, A3, cap3) ⟨⟨Nat.le_refl _, hm⟩, (by rw [Nat.sub_self, List.take_zero, List.append_nil]; exact hS.droplast2 (by repeat (first | exact Pulls.nil | (apply Pulls.cons; focus (repeat (first | exact Pull.here | apply Pull.there))))))⟩ ⟨(by rw [Nat.sub_self, List.take_zero, List.append_nil, ← hL1]; rfl), vint (by omega), trivial⟩ ?_
    clear hS
    rintro ⟨j, B, c⟩ g w ⟨⟨hj1, hj2⟩, hS⟩
    show WC _ _ _ (lf _ [(4, .slice B (L1 ++ (l.drop m0).take (j - m0)).length c), (5, .int .i64 (j : Int))] _ _) _ _
    by_cases hlt : j < l.length
    · obtain ⟨kg, ko, rfl⟩ := hS.own_addr (A := A) (n := l.length) (by repeat (first | exact List.Mem.head _ | apply List.Mem.tail)) (by omega)
      have hdl : j - m0 < (l.drop m0).length := by rw [List.length_drop]; omega
      have hge : (l.drop m0)[j - m0] = l[j] := by rw [List.getElem_drop]; congr 1; omega
      have hsn : L1 ++ (l.drop m0).take (j - m0) ++ [l[j]] = L1 ++ (l.drop m0).take (j + 1 - m0) := by
        rw [show j + 1 - m0 = j - m0 + 1 by omega, List.take_succ_eq_append_getElem hdl, hge, List.append_assoc]
      have hLb := hLb j hj2
      generalize L1 ++ (l.drop m0).take (j - m0) = L at *
      have hlen : L.length + 1 = (L1 ++ (l.drop m0).take (j + 1 - m0)).length := by rw [← hsn]; simp
      repeat' (first
        | (show WL _ _ _ _ _ _ _; first
          | refine WL.pure rfl rfl rfl rfl ?_
          | refine WL.nil ?_
          | refine WL.load hS rfl rfl (LdOk.box (by repeat (first | exact List.Mem.head _ | apply List.Mem.tail)) rfl) rfl rfl rfl ?_
          | refine WL.add rfl rfl rfl (by omega) rfl rfl rfl ?_
          | (refine WL.load hS rfl rfl (LdOk.ownElem (enc := encRi) (k := j) (fun _ => rfl) (by repeat (first | exact List.Mem.head _ | apply List.Mem.tail)) hlt rfl rfl) rfl rfl rfl ?_)
          | (refine WL.app (m := 1) hS rfl rfl rfl rfl (RdOk.box (by repeat (first | exact List.Mem.head _ | apply List.Mem.tail))) rfl rfl (fun A cap => by repeat (first | exact Repl.here | apply Repl.there)) (by omega) rfl rfl rfl ?_; intro A4 cap4 w hS)
          | refine WL.index rfl rfl rfl rfl (by first | with_reducible assumption | omega) rfl rfl rfl rfl ?_
          | (refine WL.slit hS rfl rfl rfl rfl rfl ?_; intro w b hS))
        | (show WC _ _ _ _ _ _; first
          | refine WC.seq ?_
          | refine WC.region ?_
          | refine WC.block ?_
          | refine WC.skip ?_
          | refine WC.condT rfl (decide_eq_true (by first | with_reducible assumption | omega)) ?_)
        | refine seqQ_n ?_
        | refine blkQ_n ?_)
      replace hS : St w0 _ w (_ :: .own (.slice A4 (L.length + 1) cap4) 110 7 (L.length + 1) (ris L ++ encRi l[j]) :: _) _ := hS
      rw [ris_snoc, hsn, hlen] at hS
      exact rndQ_n (j + 1, A4, cap4) ⟨⟨by omega, by omega⟩, hS.droplast2 (by repeat (first | exact Pulls.nil | (apply Pulls.cons; focus (repeat (first | exact Pull.here | apply Pull.there)))))⟩ (by show l.length - (j + 1) < l.length - j; omega) ⟨(by rw [← hlen]; rfl), vint (by omega), trivial⟩ ⟨rfl, trivial⟩
    · have hje : j = l.length := by omega
      subst hje
      have e : L1 ++ (l.drop m0).take (l.length - m0) = putG Ri.path Op.bytesLess l ⟨q, it⟩ := by
        rw [List.take_of_length_le (by rw [List.length_drop]; exact Nat.le_refl _), hput]
      rw [e] at hS ⊢
      repeat' (first
        | (show WL _ _ _ _ _ _ _; first
          | refine WL.pure rfl rfl rfl rfl ?_
          | refine WL.nil ?_
          | refine WL.load hS rfl rfl (LdOk.box (by repeat (first | exact List.Mem.head _ | apply List.Mem.tail)) rfl) rfl rfl rfl ?_
          | (refine WL.store hS rfl rfl rfl (by repeat (first | exact StB.here rfl | apply StB.there)) rfl rfl rfl ?_; intro w hS))
        | (show WC _ _ _ _ _ _; first
          | refine WC.seq ?_
          | refine WC.region ?_
          | refine WC.exit ?_
          | refine WC.condF rfl (decide_eq_false (by first | with_reducible assumption | omega)) ?_)
        | refine seqQ_n ?_
        | refine seqQ_x ?_
        | refine blkQ_hit rfl ?_
        | refine rndQ_x ?_)
      exact fin0n rfl ⟨rfl, _, _, _, hq, (hS.pulls (D := rfL dk B c (putG Ri.path Op.bytesLess l ⟨q, it⟩) D) (by repeat (first | exact Pulls.nil | (apply Pulls.cons; focus (repeat (first | exact Pull.here | apply Pull.there)))))).mutLOf⟩
end
end Go.Proofs.YtccfiohagbneaaaGreatDoor

/- What is proved: parts of rows, cut in a region that draws its order. Conditions: none beyond the rules' own. -/
set_option linter.unusedSimpArgs false
set_option linter.unusedVariables false
namespace Go.J
open Go Go.RowKit
section
variable {P : Program} {N : Fz} {f : Fr} {w w0 : World} {Q : Post} {ops : List Oper} {q : List Nat} {l : List Nat} {i : Nat} {S : World → Prop}
theorem WD.highV {pl : Qs} {t e : TypeId} {size g off n cap j : Nat} {x y : Operand} {k : IntKind} (ho : (ix ops i).op = .slice t x none (some y) none) (he : elemOf P t = some (e, size)) (hx : ev f x = .slice (some ⟨g, off, none⟩) n cap) (hy : ev f y = .int k (Int.ofNat j)) (hj : j ≤ cap)
    (hq : pl.contains i = true) (hg : wants ops f (ix ops i) = true) {d : Nat} (hd : (ix ops i).dst = some d) (hn : N.ok d = true) (h : WD P N S ops pl l (up f d (.slice (some ⟨g, off, none⟩) j cap)) w Q) : WD P N S ops pl (i :: l) f w Q :=
  .take hq hd hn (.inl ⟨hg, fun _ _ => run_sliceHigh ho he hx hy hj⟩) h
theorem WD.lowV {pl : Qs} {t e : TypeId} {size n cap j : Nat} {A A' : Option Addr} {x y : Operand} {k : IntKind} (ho : (ix ops i).op = .slice t x (some y) none none) (he : elemOf P t = some (e, size)) (hx : ev f x = .slice A n cap) (hy : ev f y = .int k (Int.ofNat j)) (hj : j ≤ n) (hA : (if cap = j then A else A.map (·.add (j * size))) = A')
    (hq : pl.contains i = true) (hg : wants ops f (ix ops i) = true) {d : Nat} (hd : (ix ops i).dst = some d) (hn : N.ok d = true) (h : WD P N S ops pl l (up f d (.slice A' (n - j) (cap - j))) w Q) : WD P N S ops pl (i :: l) f w Q :=
  .take hq hd hn (.inl ⟨hg, fun _ _ => hA ▸ run_sliceLow ho he hx hy hj⟩) h
variable {M : List Nat} {H0 H : List Chunk} {Z0 Z : List Snap}
/-- a look at what came within the region: in its place among the effects -/
theorem WD.loadE {pl : Qs} {ty : TypeId} {x : Operand} {a : Addr} {v : Value} (hS : St w0 M w H Z) (hM : More H0 Z0 H Z) (ho : (ix ops i).op = .load ty x) (hx : ev f x = .pointer (some a)) (hl : LdOk P H Z ty a v)
    (hq : pl.contains i = false) (hi : Nat.blt i ops.length = true) (hg : wants ops f (ix ops i) = true) {d : Nat} (hd : (ix ops i).dst = some d) (hn : N.ok d = true) (h : WD P N (SS w0 M H0 Z0) ops pl l (up f d v) w Q) : WD P N (SS w0 M H0 Z0) ops pl (i :: l) f w Q :=
  .val hq hi hg hd hn (run_load ho hx (hl.more ((More.refl _ _).ss hS))) (hM.ss hS) h
end
section
variable {P : Program} {N : Fz} {f : Fr} {w : World} {Q : Post} {ops l : List Oper} {o : Oper}
theorem wrapU64 {a : Int} (h : 0 ≤ a ∧ a < 18446744073709551616) : IntKind.u64.wrap a = a := by rw [IntKind.wrap_u64]; omega
def intoU64 (P : Program) (s d : TypeId) : Bool := match P.underlying s, P.underlying d with
  | some (.int _), some (.int .u64) => true
  | _, _ => false
/-- a number that fits, as an uint -/
theorem WL.cvU {s d' : TypeId} {x : Operand} {k : IntKind} {a : Int} (ho : o.op = .convert s d' x) (ht : intoU64 P s d' = true) (hx : ev f x = .int k a) (hr : 0 ≤ a ∧ a < 18446744073709551616)
    (hg : wants ops f o = true) {d : Nat} (hd : o.dst = some d) (hn : N.ok d = true) (h : WL P N ops l (up f d (.int .u64 a)) w Q) : WL P N ops (o :: l) f w Q := by
  refine .pure (v := .int .u64 a) ?_ hg hd hn h
  unfold intoU64 at ht
  split at ht
  · rename_i k1 h1 h2
    unfold pureV
    rw [ho]
    simp only [pureOp, h1, h2, hx, wrapU64 hr]
    rfl
  · cases ht
end
end Go.J

/- What is proved: append that keeps the row before it; chunks by place; rows that are marked and grown. Conditions: as each names them. -/
set_option linter.unusedSimpArgs false
set_option linter.unusedVariables false
namespace Go.J
open Go Go.RowKit

section
variable {P : Program} {N : Fz} {f : Fr} {w w0 : World} {Q : Post} {ops l : List Oper} {o : Oper} {M : List Nat} {H H' : List Chunk} {Z : List Snap} {ρ : Operand → Value}
/-- append: in its place, or as a new row beside the one before -/
theorem run_appK {s x : Operand} {t e : TypeId} {size bytes n m cap c b off : Nat} {A : Option Addr} {xs news : List Value} (ho : o.op = .call ⟨.builtin .append, ⟨[s, x]⟩, ⟨[t, t]⟩⟩) (hi : appOf P t = some (e, size, bytes))
    (hs : ρ s = .slice A n cap) (hx : ρ x = .slice (some ⟨b, off, none⟩) m c) (hown : RowAt w e size (.slice A n cap) n xs) (hnews : ∀ j u, news[j]? = some u → w.cell? ⟨b, off + j, none⟩ = some u) (hl : news.length = m * size) (h1 : one news = true) (hm0 : 0 < m)
    (hb : (n + m) * bytes ≤ 140737488355328) :
    (∃ w', (execOp ρ o).run P w = .ok (.value (.slice A (n + m) cap)) w' ∧ RowAt w' e size (.slice A (n + m) cap) (n + m) (xs ++ news) ∧ Upd (Value.slice A n cap).ownBlock.toList w w') ∨
    (∃ A' cap' w', (execOp ρ o).run P w = .ok (.value (.slice A' (n + m) cap')) w' ∧ New w w' (.own (.slice A' (n + m) cap') e size (n + m) (xs ++ news)) ∧ Upd [] w w') := by
  obtain ⟨i, z, hu, hinfo, hz, rfl, rfl, hzs, h0, h0b⟩ := appOf_spec hi
  have hle : n + m ≤ (n + m) * i.bytes := Nat.le_mul_of_pos_right _ h0b
  have hmx : n + m ≤ maxLen := by unfold maxLen; omega
  have hnews' : ∀ j u, news[j]? = some u → w.cell? ((⟨b, off, none⟩ : Addr).add j) = some u := fun j u hj => by rw [Addr.add_mid]; exact hnews j u hj
  have h1' : ∀ u ∈ news, u.oneCell' = true := by simpa [one] using h1
  have hlen : (xs ++ news).length = (n + m) * i.size := by rw [List.length_append, hown.1, hl, Nat.add_mul]
  have run : ∀ v' w', (Builtin.append_ #[t, t] o.type #[.slice A n cap, .slice (some ⟨b, off, none⟩) m c]).run P w = .ok v' w' → (execOp ρ o).run P w = .ok (.value v') w' := fun v' w' hr => by
    unfold execOp
    simp only [ho, resolve, invoke, builtin, Sem.run_bind, Sem.run_pure, Result.andThen_ok, List.map_toArray, List.map_cons, List.map_nil, hs, hx, hr]
  have grown : ∀ old, old < n + m → New w (w.drew.alloc (.cells (xs.toArray ++ news.toArray ++ Builtin.zeroCells z.cells (grownCap w (n + m) old e - (n + m))) e))
      (.own (.slice (some ⟨w.heap.size, 0, none⟩) (n + m) (grownCap w (n + m) old e)) e i.size (n + m) (xs ++ news)) := by
    intro old ho
    have hge := grownCap_ge w (n + m) old e
    have hcm : grownCap w (n + m) old e ≤ maxLen := grownCap_le_maxLen w (n + m) old e hmx
    refine ⟨⟨hlen, .inr ⟨w.heap.size, 0, _, (xs.toArray ++ news.toArray ++ Builtin.zeroCells z.cells (grownCap w (n + m) old e - (n + m))).toList, rfl, heap_alloc_new w.drew _, hge, hcm, ?_, ?_⟩⟩, fun g hg => ?_⟩
    · simp only [Array.length_toList, Array.size_append, List.size_toArray, size_zeroCells, hzs, hown.1, hl, ← Nat.add_mul, Nat.zero_add]
      exact Nat.mul_le_mul_right _ (by omega)
    · simp only [Array.toList_append, List.append_assoc, List.drop_zero]
      rw [← List.append_assoc, ← hlen]
      exact List.take_left
    · simp only [Chunk.fp, Value.ownBlock, Option.toList, List.mem_singleton] at hg
      subst hg
      simp
  have hup : ∀ (fp : List Nat) (ob : Obj), Upd fp w (w.drew.alloc ob) := fun fp ob => (Upd.drew fp w).trans (.alloc _ _ _)
  rcases hown.2 with ⟨h2, rfl⟩ | ⟨g, og, cap0, cur, h2, hgg, hnc, hcm, hcs, htake⟩
  · simp only [Value.slice.injEq] at h2
    obtain ⟨rfl, _, rfl⟩ := h2
    have hx0 : xs = [] := List.eq_nil_of_length_eq_zero (by simpa using hown.1)
    subst hx0
    have hr := run_append_nil (P := P) w t o.type e i z hu hinfo hz ⟨b, off, none⟩ m c news hl hnews' (by omega) (by omega) (by have hb := hb; simp only [Nat.zero_add] at hb; omega)
    have hgr := grown 0 (by omega)
    simp only [Nat.zero_add, List.nil_append, Array.empty_append] at hgr ⊢
    exact .inr ⟨_, _, _, run _ _ hr, hgr, hup _ _⟩
  · simp only [Value.slice.injEq] at h2
    obtain ⟨rfl, _, rfl⟩ := h2
    by_cases hroom : n + m ≤ cap
    · have hns : (n + m) * i.size ≤ cap * i.size := Nat.mul_le_mul_right _ hroom
      rw [Nat.add_mul] at hns
      have hfit : og + n * i.size + news.length ≤ cur.length := by rw [hl]; omega
      have hr := run_append_off (P := P) t o.type e i hu hinfo g og n cap cur hgg ⟨b, off, none⟩ m c news hl hnews' h1' hroom hfit
      refine .inl ⟨_, run _ _ hr, ⟨hlen, .inr ⟨g, og, cap, _, rfl, heap_setRow hgg, hroom, hcm, ?_, ?_⟩⟩, (Upd.setRow _ _ _).mono (by simp [Value.ownBlock])⟩
      · simp only [List.length_append, List.length_take, List.length_drop]; omega
      · rw [Nat.add_mul, ← hl]
        rw [drop_take_app cur news og (n * i.size) hfit, htake]
    · have holds : ∀ j u, xs[j]? = some u → w.cell? ((⟨g, og, none⟩ : Addr).add j) = some u := fun j u hj => by rw [Addr.add_mid]; exact hown.cells j u hj
      have hr := run_append_grow (P := P) w t o.type e i z hu hinfo hz ⟨g, og, none⟩ n cap xs hown.1 holds ⟨b, off, none⟩ m c news hl hnews' (by omega) (by omega) (growslice_fits (by omega) hb)
      exact .inr ⟨_, _, _, run _ _ hr, grown cap (by omega), hup _ _⟩
theorem WL.appK {s x : Operand} {t e : TypeId} {size bytes n m cap c b off : Nat} {A : Option Addr} {xs news : List Value} (hS : St w0 M w H Z) (ho : o.op = .call ⟨.builtin .append, ⟨[s, x]⟩, ⟨[t, t]⟩⟩) (hi : appOf P t = some (e, size, bytes))
    (hs : ev f s = .slice A n cap) (hx : ev f x = .slice (some ⟨b, off, none⟩) m c) (hnews : RdOk H Z b off news) (hl : news.length = m * size) (h1 : one news = true) (hm0 : 0 < m)
    (hr : Repl (.own (.slice A n cap) e size n xs) (.own (.slice A (n + m) cap) e size (n + m) (xs ++ news)) H H') (hb : (n + m) * bytes ≤ 140737488355328)
    (hg : wants ops f o = true) {d : Nat} (hd : o.dst = some d) (hn : N.ok d = true)
    (ha : ∀ w', St w0 M w' H' Z → WL P N ops l (up f d (.slice A (n + m) cap)) w' Q)
    (hb2 : ∀ A' cap' w', St w0 M w' (.own (.slice A' (n + m) cap') e size (n + m) (xs ++ news) :: H) Z → WL P N ops l (up f d (.slice A' (n + m) cap')) w' Q) : WL P N ops (o :: l) f w Q := by
  rcases run_appK (P := P) (w := w) ho hi hs hx (hS.holds _ hr.mem) (hnews.out w0 M w [] [] hS) hl h1 hm0 hb with ⟨w', hrun, hown', hgr⟩ | ⟨A', cap', w', hrun, hnew, hup⟩
  · exact .val hg hd hn hrun (ha w' (hS.app hr hown' hgr fun g hg => .inl (by cases A <;> exact hg)))
  · exact .val hg hd hn hrun (hb2 A' cap' w' (hS.new hup hnew))
end
section
variable {P : Program} {N : Fz} {f : Fr} {w w0 : World} {Q : Post} {ops : List Oper} {M : List Nat} {H0 H H' : List Chunk} {Z0 Z : List Snap} {q : Qs} {l : List Nat} {i : Nat}
/-- append of the caller's list to a row on which the region does not lean -/
theorem WD.appSl {α : Type} {enc : α → List Value} {sz : Nat} {hsz : ∀ x, (enc x).length = sz} {F : Nat → Prop} {wz : World} {ys : List α} {s x : Operand} {t e : TypeId} {bytes n cap c : Nat} {A B : Option Addr} {xs : List Value} (hS : St w0 M w H Z) (hp : Pull (.own (.slice A n cap) e sz n xs) H H') (hM : More H0 Z0 H' Z) (ho : (ix ops i).op = .call ⟨.builtin .append, ⟨[s, x]⟩, ⟨[t, t]⟩⟩) (hi0 : appOf P t = some (e, sz, bytes))
    (hs : ev f s = .slice A n cap) (hx : ev f x = .slice B ys.length c) (h : SlAt (Cod.flat enc sz hsz) F wz B ys) (hz : Snap.mk wz F ∈ Z) (h0 : 0 < sz) (h1 : one (ys.flatMap enc) = true) (hb : (n + ys.length) * bytes ≤ 140737488355328)
    (hq : q.contains i = false) (hi : Nat.blt i ops.length = true) (hg : wants ops f (ix ops i) = true) {d : Nat} (hd : (ix ops i).dst = some d) (hn : N.ok d = true)
    (hk : ∀ A' cap' w', St w0 M w' (.own (.slice A' (n + ys.length) cap') e sz (n + ys.length) (xs ++ ys.flatMap enc) :: H') Z → More H0 Z0 (.own (.slice A' (n + ys.length) cap') e sz (n + ys.length) (xs ++ ys.flatMap enc) :: H') Z → WD P N (SS w0 M H0 Z0) ops q l (up f d (.slice A' (n + ys.length) cap')) w' Q) : WD P N (SS w0 M H0 Z0) ops q (i :: l) f w Q := by
  rcases ys with _ | ⟨y, ys⟩
  · have hS' := hS.pull hp
    have hcap := (hS'.own_len (List.Mem.head _)).2.2
    have hS2 := hS'.recast (c' := .own (.slice A (n + 0) cap) e sz (n + 0) (xs ++ [])) .here (fun h => by simpa using h) (fun b hb => by simpa using hb)
    exact .val hq hi hg hd hn (run_app0B ho hi0 hs hx hcap) ((hM.chunk _).ss hS2) (hk A cap w hS2 (hM.chunk _))
  · obtain ⟨b, off, es, rfl, hF, _, _⟩ := h.at_ (k := 0) (by simp)
    exact WD.app hS hp hM ho hi0 hs hx (RdOk.ofSl h hz h0) (flat_len hsz _) h1 hb hq hi hg hd hn hk
end
/-- a row of the call's own that nobody changes any more -/
theorem St.keepRow {w0 w wz : World} {M : List Nat} {c : Chunk} {H : List Chunk} {Z : List Snap} {F : Nat → Prop} (hS : St w0 M w (c :: H) Z) (hz : Snap.mk wz F ∈ Z) : St w0 M w H (⟨w, fun b => b ∈ c.fp ∨ F b⟩ :: Z) :=
  ⟨hS.upd, fun d hd => hS.holds d (List.mem_cons_of_mem _ hd), fun d hd => hS.inb d (List.mem_cons_of_mem _ hd), (List.pairwise_cons.1 hS.disj).2, fun z hzm b hb => by
    rcases List.mem_cons.1 hzm with rfl | hzm
    · rcases hb with hb | hb
      · exact ⟨(hS.inb c (List.mem_cons_self ..) b hb).1, rfl, fun d hd => (List.pairwise_cons.1 hS.disj).1 d hd b hb⟩
      · obtain ⟨h1, _, h3⟩ := hS.snap _ hz b hb
        exact ⟨h1, rfl, fun d hd => h3 d (List.mem_cons_of_mem _ hd)⟩
    · obtain ⟨h1, h2, h3⟩ := hS.snap z hzm b hb
      exact ⟨h1, h2, fun d hd => h3 d (List.mem_cons_of_mem _ hd)⟩⟩
/-! ## chunks by their place -/
theorem erase_perm : ∀ {cs : List Chunk} {i : Nat} (h : i < cs.length), (cs[i] :: cs.eraseIdx i).Perm cs
  | _ :: _, 0, _ => .refl _
  | a :: cs, i + 1, h => (List.Perm.swap _ _ _).trans (.cons a (erase_perm (cs := cs) (i := i) (by simpa using h)))
theorem pfront {cs : List Chunk} {i : Nat} {c : Chunk} (h : cs[i]? = some c) : cs.Perm (c :: cs.eraseIdx i) := by
  obtain ⟨hi, rfl⟩ := List.getElem?_eq_some_iff.1 h
  exact (erase_perm hi).symm
theorem pback {cs : List Chunk} {i : Nat} (h : i < cs.length) (c : Chunk) : (c :: cs.eraseIdx i).Perm (cs.set i c) := by
  have hi : i < (cs.set i c).length := by rw [List.length_set]; exact h
  have := erase_perm hi
  rwa [List.getElem_set_self, List.eraseIdx_set_eq] at this
/-- what is there now stays as it is, for one who changes nothing any more -/
theorem St.freeze {w0 w : World} {M : List Nat} {H : List Chunk} {Z : List Snap} (hS : St w0 M w H Z) : St w0 M w [] (⟨w, fun b => b < w.heap.size⟩ :: Z) :=
  ⟨hS.upd, fun c hc => (by cases hc), fun c hc => (by cases hc), .nil, fun z hz b hb => by
    rcases List.mem_cons.1 hz with rfl | hz
    · exact ⟨hb, rfl, fun c hc => (by cases hc)⟩
    · obtain ⟨h1, h2, _⟩ := hS.snap z hz b hb
      exact ⟨h1, h2, fun c hc => (by cases hc)⟩⟩
theorem flat_set {α : Type} {enc : α → List Value} {sz : Nat} (hsz : ∀ x, (enc x).length = sz) (x : α) : ∀ {l : List α} {k : Nat}, k < l.length → (l.flatMap enc).take (k * sz) ++ enc x ++ (l.flatMap enc).drop (k * sz + (enc x).length) = (l.set k x).flatMap enc
  | [], _, h => absurd h (Nat.not_lt_zero _)
  | a :: l, 0, _ => by
    simp only [List.flatMap_cons, List.set_cons_zero, Nat.zero_mul, List.take_zero, List.nil_append, Nat.zero_add, hsz]
    rw [List.drop_append_of_le_length (by rw [hsz]; exact Nat.le_refl _), List.drop_of_length_le (by rw [hsz]; exact Nat.le_refl _), List.nil_append]
  | a :: l, k + 1, h => by
    have ih := flat_set hsz x (l := l) (k := k) (by simpa using h)
    rw [List.flatMap_cons, List.set_cons_succ, List.flatMap_cons, ← ih, show (k + 1) * sz = (enc a).length + k * sz by rw [hsz, Nat.add_mul]; omega]
    rw [List.take_append, List.take_of_length_le (show (enc a).length ≤ (enc a).length + k * sz by omega), Nat.add_sub_cancel_left, Nat.add_assoc, ← List.drop_drop, List.drop_left]
    simp only [List.append_assoc]
/-! ## rows that are marked, then grown -/
structure Rw where
  A : Option Addr
  n : Nat
  cap : Nat
def Rw.val (r : Rw) : Value := .slice r.A r.n r.cap
def encRw (r : Rw) : List Value := [r.val]
def ownRw {α : Type} (enc : α → List Value) (e : TypeId) (sz : Nat) (r : Rw) (l : List α) : Chunk := .own (.slice r.A r.n r.cap) e sz r.n (l.flatMap enc)
def grw {α : Type} (mk nw : Nat → α) (j n k : Nat) : List α := List.replicate n (mk j) ++ List.replicate k (nw j)
/-- a row that has grown by k: in its place, or beside itself -/
def GrowP {α : Type} (enc : α → List Value) (e : TypeId) (sz : Nat) (mk nw : Nat → α) (j : Nat) (r : Rw) (k : Nat) (A : Option Addr) (cap : Nat) (D : List Chunk) : Prop :=
  (A = r.A ∧ cap = r.cap ∧ D = [.own (.slice r.A (r.n + k) r.cap) e sz (r.n + k) ((grw mk nw j r.n k).flatMap enc)]) ∨
  (∃ i, D = [.own (.slice A (r.n + k) cap) e sz (r.n + k) ((grw mk nw j r.n k).flatMap enc), .own (.slice r.A (r.n + i) r.cap) e sz (r.n + i) ((grw mk nw j r.n i).flatMap enc)])
section
variable {α : Type} {enc : α → List Value} {e : TypeId} {sz : Nat} {mk nw : Nat → α} {rs ls : List Rw} {cs : List Chunk} {i j : Nat}
/-- as far as rows are marked -/
structure MarkIs (enc : α → List Value) (e : TypeId) (sz : Nat) (mk : Nat → α) (rs : List Rw) (cs : List Chunk) (i : Nat) : Prop where
  len : cs.length = rs.length
  at_ : ∀ j (h : j < rs.length), ∃ l : List α, l.length = rs[j].n ∧ cs[j]? = some (ownRw enc e sz rs[j] l) ∧ (j < i → l = List.replicate rs[j].n (mk j))
/-- as far as rows are grown -/
structure GrowIs (enc : α → List Value) (e : TypeId) (sz : Nat) (mk nw : Nat → α) (rs ls : List Rw) (cs : List Chunk) (i : Nat) : Prop where
  len : cs.length = rs.length
  llen : ls.length = i
  at_ : ∀ j (h : j < rs.length), i ≤ j → cs[j]? = some (ownRw enc e sz rs[j] (List.replicate rs[j].n (mk j)))
  got : ∀ j (h : j < rs.length), j < i → ∃ l fp, ls[j]? = some l ∧ l.n = rs[j].n + 20 ∧ cs[j]? = some (objC (GrowP enc e sz mk nw j rs[j] 20 l.A l.cap) fp)
theorem MarkIs.next (h : MarkIs enc e sz mk rs cs i) (hi : i < rs.length) : MarkIs enc e sz mk rs (cs.set i (ownRw enc e sz rs[i] (List.replicate rs[i].n (mk i)))) (i + 1) := by
  refine ⟨by rw [List.length_set]; exact h.len, fun j hj => ?_⟩
  obtain ⟨l, h0, h1, h2⟩ := h.at_ j hj
  by_cases e : i = j
  · subst e
    exact ⟨_, List.length_replicate, by rw [List.getElem?_set_self (by rw [h.len]; exact hi)], fun _ => rfl⟩
  · exact ⟨l, h0, by rw [List.getElem?_set_ne e]; exact h1, fun hlt => h2 (by omega)⟩
theorem MarkIs.grow (h : MarkIs enc e sz mk rs cs i) (hi : i = rs.length) : GrowIs enc e sz mk nw rs [] cs 0 := by
  subst hi
  refine ⟨h.len, rfl, fun j hj _ => ?_, fun j _ hj => absurd hj (Nat.not_lt_zero _)⟩
  obtain ⟨l, _, h1, h2⟩ := h.at_ j hj
  rw [h1, h2 hj]
theorem GrowIs.next (h : GrowIs enc e sz mk nw rs ls cs i) (hi : i < rs.length) {A : Option Addr} {cap : Nat} {fp : List Nat} : GrowIs enc e sz mk nw rs (ls ++ [⟨A, rs[i].n + 20, cap⟩]) (cs.set i (objC (GrowP enc e sz mk nw i rs[i] 20 A cap) fp)) (i + 1) := by
  refine ⟨by rw [List.length_set]; exact h.len, by rw [List.length_append, h.llen]; rfl, fun j hj hij => ?_, fun j hj hij => ?_⟩
  · rw [List.getElem?_set_ne (by omega)]; exact h.at_ j hj (by omega)
  · by_cases e : i = j
    · subst e
      refine ⟨⟨A, rs[i].n + 20, cap⟩, fp, ?_, rfl, by rw [List.getElem?_set_self (by rw [h.len]; exact hi)]⟩
      rw [List.getElem?_append_right (by rw [h.llen]; exact Nat.le_refl _), h.llen, Nat.sub_self]; rfl
    · obtain ⟨l, fp', h1, h2, h3⟩ := h.got j hj (by omega)
      exact ⟨l, fp', by rw [List.getElem?_append_left (by rw [h.llen]; omega)]; exact h1, h2, by rw [List.getElem?_set_ne e]; exact h3⟩
theorem ownAll {hsz : ∀ x, (enc x).length = sz} (h0 : 0 < sz) {w : World} {A : Option Addr} {n cap n' : Nat} {l : List α} (h : RowAt w e sz (.slice A n cap) n' (l.flatMap enc)) (hin : ∀ b ∈ (Value.slice A n cap).ownBlock.toList, b < w.heap.size) : SlAt (Cod.flat enc sz hsz) (fun b => b < w.heap.size) w A l :=
  SlAt.ofOwn h0 h fun g hg => hin g (by rw [hg]; simp)
/-- how they read when all are grown -/
theorem GrowIs.reads (h : GrowIs enc e sz mk nw rs ls cs i) (hi : i = rs.length) {hsz : ∀ x, (enc x).length = sz} (h0 : 0 < sz) {w w0 : World} {M : List Nat} {H : List Chunk} {Z : List Snap} (hS : St w0 M w H Z) (hc : ∀ c ∈ cs, c ∈ H) (j : Nat) (hj : j < rs.length) :
    ∃ l, ls[j]? = some l ∧ l.n = rs[j].n + 20 ∧ SlAt (Cod.flat enc sz hsz) (fun b => b < w.heap.size) w rs[j].A (List.replicate rs[j].n (mk j)) ∧ SlAt (Cod.flat enc sz hsz) (fun b => b < w.heap.size) w l.A (grw mk nw j rs[j].n 20) := by
  subst hi
  obtain ⟨l, fp, h1, h2, h3⟩ := h.got j hj hj
  have hm := hc _ (List.mem_of_getElem? h3)
  obtain ⟨D, hD, hfp, _, hh⟩ := (hS.holds _ hm).1
  have hb : ∀ d ∈ D, ∀ b ∈ d.fp, b < w.heap.size := fun d hd b hb => (hS.inb _ hm b (by show b ∈ fp; rw [hfp]; exact List.mem_flatMap.2 ⟨d, hd, hb⟩)).1
  refine ⟨l, h1, h2, ?_⟩
  rcases hD with ⟨e1, e2, rfl⟩ | ⟨k, rfl⟩
  · have hd := hh _ (List.Mem.head _)
    have hf := ownAll (hsz := hsz) h0 (show RowAt w e sz _ _ _ from hd) (hb _ (List.Mem.head _))
    rw [e1]
    exact ⟨SlAt.pre hf, hf⟩
  · have hd := hh _ (List.Mem.head _)
    have hf := ownAll (hsz := hsz) h0 (show RowAt w e sz _ _ _ from hd) (hb _ (List.Mem.head _))
    have hd2 := hh _ (List.Mem.tail _ (List.Mem.head _))
    have hf2 := ownAll (hsz := hsz) h0 (show RowAt w e sz _ _ _ from hd2) (hb _ (List.Mem.tail _ (List.Mem.head _)))
    exact ⟨SlAt.pre hf2, hf⟩
theorem grw_snoc (j n k : Nat) : grw mk nw j n (k + 1) = grw mk nw j n k ++ [nw j] := by
  unfold grw
  rw [List.append_assoc, ← List.replicate_succ']
theorem grw_flat (j n k : Nat) : (grw mk nw j n (k + 1)).flatMap enc = (grw mk nw j n k).flatMap enc ++ enc (nw j) := by
  rw [grw_snoc, List.flatMap_append]; simp
theorem grw_at {j n k p : Nat} (h : p < n + k) : (grw mk nw j n k)[p]? = some (if p < n then mk j else nw j) := by
  unfold grw
  split
  · rename_i h1
    rw [List.getElem?_append_left (by simpa using h1), List.getElem?_replicate, if_pos h1]
  · rename_i h1
    rw [List.getElem?_append_right (by simpa using h1), List.getElem?_replicate, List.length_replicate, if_pos (by omega)]
end
end Go.J

/- What is proved: rules for literals, appends and cuts whose place among a region's effects is drawn. Conditions: as each names them. -/
set_option linter.unusedSimpArgs false
set_option linter.unusedVariables false
namespace Go.J
open Go Go.RowKit
section
variable {P : Program} {N : Fz} {f : Fr} {w w0 : World} {Q : Post} {ops : List Oper} {M : List Nat} {H0 H H' : List Chunk} {Z0 Z : List Snap} {q : Qs} {l : List Nat} {i : Nat}
theorem WD.slit0 {t e : TypeId} {n size : Nat} {ps : List (Nat × Operand)} (hS : St w0 M w H Z) (hM : More H0 Z0 H Z) (ho : (ix ops i).op = .buildSlice t 0 ⟨ps⟩) (hv : buildSliceV P t 0 (evP (ev f) ps) = some (e, n, []))
    (hq : q.contains i = false) (hi : Nat.blt i ops.length = true) (hg : wants ops f (ix ops i) = true) {d : Nat} (hd : (ix ops i).dst = some d) (hn : N.ok d = true)
    (h : ∀ w' b, St w0 M w' (.own (.slice (some ⟨b, 0, none⟩) 0 0) e size 0 [] :: H) Z → More H0 Z0 (.own (.slice (some ⟨b, 0, none⟩) 0 0) e size 0 [] :: H) Z → WD P N (SS w0 M H0 Z0) ops q l (up f d (.slice (some ⟨b, 0, none⟩) 0 0)) w' Q) : WD P N (SS w0 M H0 Z0) ops q (i :: l) f w Q := by
  refine .slit hS hM ho hv hq hi hg hd hn fun w' b hS' _ => ?_
  exact h w' b (hS'.boxRow (n := 0) (size := size) .here (by simp) (Nat.zero_le _)) (hM.chunk _)
theorem WDo.slit0 {t e : TypeId} {n size : Nat} {ps : List (Nat × Operand)} (hS : St w0 M w H Z) (hM : More H0 Z0 H Z) (ho : (ix ops i).op = .buildSlice t 0 ⟨ps⟩) (hv : buildSliceV P t 0 (evP (ev f) ps) = some (e, n, []))
    (hi : Nat.blt i ops.length = true) (hg : wants ops f (ix ops i) = true) {d : Nat} (hd : (ix ops i).dst = some d) (hn : N.ok d = true)
    (h : ∀ w' b, St w0 M w' (.own (.slice (some ⟨b, 0, none⟩) 0 0) e size 0 [] :: H) Z → More H0 Z0 (.own (.slice (some ⟨b, 0, none⟩) 0 0) e size 0 [] :: H) Z → WD P N (SS w0 M H0 Z0) ops q l (up f d (.slice (some ⟨b, 0, none⟩) 0 0)) w' Q) : WDo P N (SS w0 M H0 Z0) ops q i l f w Q := by
  refine .slit hS hM ho hv hi hg hd hn fun w' b hS' _ => ?_
  exact h w' b (hS'.boxRow (n := 0) (size := size) .here (by simp) (Nat.zero_le _)) (hM.chunk _)
theorem WDo.app {s x : Operand} {t e : TypeId} {size bytes n m cap c b off : Nat} {A : Option Addr} {xs news : List Value} (hS : St w0 M w H Z) (hp : Pull (.own (.slice A n cap) e size n xs) H H') (hM : More H0 Z0 H' Z) (ho : (ix ops i).op = .call ⟨.builtin .append, ⟨[s, x]⟩, ⟨[t, t]⟩⟩) (hi0 : appOf P t = some (e, size, bytes))
    (hs : ev f s = .slice A n cap) (hx : ev f x = .slice (some ⟨b, off, none⟩) m c) (hnews : RdOk H Z b off news) (hl : news.length = m * size) (h1 : one news = true) (hb : (n + m) * bytes ≤ 140737488355328)
    (hi : Nat.blt i ops.length = true) (hg : wants ops f (ix ops i) = true) {d : Nat} (hd : (ix ops i).dst = some d) (hn : N.ok d = true)
    (h : ∀ A' cap' w', St w0 M w' (.own (.slice A' (n + m) cap') e size (n + m) (xs ++ news) :: H') Z → More H0 Z0 (.own (.slice A' (n + m) cap') e size (n + m) (xs ++ news) :: H') Z → WD P N (SS w0 M H0 Z0) ops q l (up f d (.slice A' (n + m) cap')) w' Q) : WDo P N (SS w0 M H0 Z0) ops q i l f w Q := by
  have hS' := hS.pull hp
  obtain ⟨A', cap', w', hrun, hown', hgr, hat⟩ := run_appOp (P := P) (w := w) ho hi0 hs hx (hS'.holds _ (List.Mem.head _)) (hnews.out w0 M w [] [] hS) hl h1 hb
  have hS2 := hS'.app (.here) hown' hgr hat
  exact .val hi hg hd hn hrun ((hM.chunk _).ss hS2) (h A' cap' w' hS2 (hM.chunk _))
theorem WDo.appSl {α : Type} {enc : α → List Value} {sz : Nat} {hsz : ∀ x, (enc x).length = sz} {F : Nat → Prop} {wz : World} {ys : List α} {s x : Operand} {t e : TypeId} {bytes n cap c : Nat} {A B : Option Addr} {xs : List Value} (hS : St w0 M w H Z) (hp : Pull (.own (.slice A n cap) e sz n xs) H H') (hM : More H0 Z0 H' Z) (ho : (ix ops i).op = .call ⟨.builtin .append, ⟨[s, x]⟩, ⟨[t, t]⟩⟩) (hi0 : appOf P t = some (e, sz, bytes))
    (hs : ev f s = .slice A n cap) (hx : ev f x = .slice B ys.length c) (h : SlAt (Cod.flat enc sz hsz) F wz B ys) (hz : Snap.mk wz F ∈ Z) (h0 : 0 < sz) (h1 : one (ys.flatMap enc) = true) (hb : (n + ys.length) * bytes ≤ 140737488355328)
    (hi : Nat.blt i ops.length = true) (hg : wants ops f (ix ops i) = true) {d : Nat} (hd : (ix ops i).dst = some d) (hn : N.ok d = true)
    (hk : ∀ A' cap' w', St w0 M w' (.own (.slice A' (n + ys.length) cap') e sz (n + ys.length) (xs ++ ys.flatMap enc) :: H') Z → More H0 Z0 (.own (.slice A' (n + ys.length) cap') e sz (n + ys.length) (xs ++ ys.flatMap enc) :: H') Z → WD P N (SS w0 M H0 Z0) ops q l (up f d (.slice A' (n + ys.length) cap')) w' Q) : WDo P N (SS w0 M H0 Z0) ops q i l f w Q := by
  rcases ys with _ | ⟨y, ys⟩
  · have hS' := hS.pull hp
    have hcap := (hS'.own_len (List.Mem.head _)).2.2
    have hS2 := hS'.recast (c' := .own (.slice A (n + 0) cap) e sz (n + 0) (xs ++ [])) .here (fun h => by simpa using h) (fun b hb => by simpa using hb)
    exact .val hi hg hd hn (run_app0B ho hi0 hs hx hcap) ((hM.chunk _).ss hS2) (hk A cap w hS2 (hM.chunk _))
  · obtain ⟨b, off, es, rfl, hF, _, _⟩ := h.at_ (k := 0) (by simp)
    exact WDo.app hS hp hM ho hi0 hs hx (RdOk.ofSl h hz h0) (flat_len hsz _) h1 hb hi hg hd hn hk
/-- append of another row of the call's own -/
theorem WD.appS {s x : Operand} {t e : TypeId} {size bytes n m cap c : Nat} {A B : Option Addr} {xs news : List Value} (hS : St w0 M w H Z) (hp : Pull (.own (.slice A n cap) e size n xs) H H') (hM : More H0 Z0 H' Z) (ho : (ix ops i).op = .call ⟨.builtin .append, ⟨[s, x]⟩, ⟨[t, t]⟩⟩) (hi0 : appOf P t = some (e, size, bytes))
    (hs : ev f s = .slice A n cap) (hx : ev f x = .slice B m c) (hnews : RdSl H Z B m news) (hl : news.length = m * size) (h1 : one news = true) (hb : (n + m) * bytes ≤ 140737488355328)
    (hq : q.contains i = false) (hi : Nat.blt i ops.length = true) (hg : wants ops f (ix ops i) = true) {d : Nat} (hd : (ix ops i).dst = some d) (hn : N.ok d = true)
    (h : ∀ A' cap' w', St w0 M w' (.own (.slice A' (n + m) cap') e size (n + m) (xs ++ news) :: H') Z → More H0 Z0 (.own (.slice A' (n + m) cap') e size (n + m) (xs ++ news) :: H') Z → WD P N (SS w0 M H0 Z0) ops q l (up f d (.slice A' (n + m) cap')) w' Q) : WD P N (SS w0 M H0 Z0) ops q (i :: l) f w Q := by
  rcases hnews with ⟨rfl, rfl, rfl⟩ | ⟨b, off, rfl, hnews⟩
  · have hS' := hS.pull hp
    have hcap := (hS'.own_len (List.Mem.head _)).2.2
    have hS2 := hS'.recast (c' := .own (.slice A (n + 0) cap) e size (n + 0) (xs ++ [])) .here (fun h => by simpa using h) (fun b hb => by simpa using hb)
    exact .val hq hi hg hd hn (run_app0 ho hi0 hs hx hcap) ((hM.chunk _).ss hS2) (h A cap w hS2 (hM.chunk _))
  · exact .app hS hp hM ho hi0 hs hx hnews hl h1 hb hq hi hg hd hn h
theorem run_sliceHighO {o : Oper} {ρ : Operand → Value} {t e : TypeId} {size n cap j : Nat} {A : Option Addr} {x y : Operand} {k : IntKind} (ho : o.op = .slice t x none (some y) none) (he : elemOf P t = some (e, size)) (hx : ρ x = .slice A n cap) (hy : ρ y = .int k (Int.ofNat j)) (hj : j ≤ cap) (hc : A = none → cap = 0) :
    (execOp ρ o).run P w = .ok (.value (.slice A j cap)) w := by
  cases A with
  | some a =>
    obtain ⟨b, off, pt⟩ := a
    unfold elemOf at he
    split at he
    · rename_i e' hu
      split at he
      · rename_i n' hn
        simp [execOp, ho, hx, hy, Instr.sliceAt, Instr.slice, Instr.sliceBounds, Instr.sliceBound, asIntOf, Sem.run_bind, run_underlying hu, run_sizeOf hn, hj]
        try (intro _; simp [Addr.add])
      · cases he
    · cases he
  | none =>
    have hc := hc rfl
    subst hc
    have : j = 0 := by omega
    subst this
    unfold elemOf at he
    split at he
    · rename_i e' hu
      split at he
      · rename_i n' hn
        simp [execOp, ho, hx, hy, Instr.sliceAt, Instr.slice, Instr.sliceBounds, Instr.sliceBound, asIntOf, Sem.run_bind, run_underlying hu, run_sizeOf hn]
      · cases he
    · cases he
theorem WD.highO {S : World → Prop} {t e : TypeId} {size n cap j : Nat} {A : Option Addr} {x y : Operand} {k : IntKind} (ho : (ix ops i).op = .slice t x none (some y) none) (he : elemOf P t = some (e, size)) (hx : ev f x = .slice A n cap) (hy : ev f y = .int k (Int.ofNat j)) (hj : j ≤ cap) (hc : A = none → cap = 0)
    (hq : q.contains i = true) (hg : wants ops f (ix ops i) = true) {d : Nat} (hd : (ix ops i).dst = some d) (hn : N.ok d = true) (h : WD P N S ops q l (up f d (.slice A j cap)) w Q) : WD P N S ops q (i :: l) f w Q :=
  .take hq hd hn (.inl ⟨hg, fun _ _ => run_sliceHighO ho he hx hy hj hc⟩) h
theorem WDo.loadE {ty : TypeId} {x : Operand} {a : Addr} {v : Value} (hS : St w0 M w H Z) (hM : More H0 Z0 H Z) (ho : (ix ops i).op = .load ty x) (hx : ev f x = .pointer (some a)) (hl : LdOk P H Z ty a v)
    (hi : Nat.blt i ops.length = true) (hg : wants ops f (ix ops i) = true) {d : Nat} (hd : (ix ops i).dst = some d) (hn : N.ok d = true) (h : WD P N (SS w0 M H0 Z0) ops q l (up f d v) w Q) : WDo P N (SS w0 M H0 Z0) ops q i l f w Q :=
  .val hi hg hd hn (run_load ho hx (hl.more ((More.refl _ _).ss hS))) (hM.ss hS) h
theorem WDo.callG {fid : FuncId} {xs : List Operand} {ts : Array TypeId} {args : List Value} {R : Value → World → Prop} (ho : (ix ops i).op = .call ⟨.value (.func fid), ⟨xs⟩, ts⟩) (ha : xs.map (ev f) = args)
    (hc : Cal P fid args w R) (hi : Nat.blt i ops.length = true) (hg : wants ops f (ix ops i) = true) {d : Nat} (hd : (ix ops i).dst = some d) (hn : N.ok d = true)
    (h : ∀ v w', R v w' → SS w0 M H0 Z0 w' ∧ WD P N (SS w0 M H0 Z0) ops q l (up f d v) w' Q) : WDo P N (SS w0 M H0 Z0) ops q i l f w Q :=
  .enter hi hg hd hn (run_callOp ho ha hc.ok) hc.calls h
theorem WDo.alloc {t : TypeId} {z : Value} (hS : St w0 M w H Z) (hM : More H0 Z0 H Z) (ho : (ix ops i).op = .alloc t) (hz : tyZero P t = some z) {cs : List Value} (hcs : cellsO z = some cs) (hi : Nat.blt i ops.length = true) (hg : wants ops f (ix ops i) = true) {d : Nat} (hd : (ix ops i).dst = some d) (hn : N.ok d = true)
    (h : ∀ w' b, St w0 M w' (.box b t cs :: H) Z → More H0 Z0 (.box b t cs :: H) Z → WD P N (SS w0 M H0 Z0) ops q l (up f d (.pointer (some ⟨b, 0, none⟩))) w' Q) : WDo P N (SS w0 M H0 Z0) ops q i l f w Q :=
  .val hi hg hd hn (run_allocOp ho hz) ((hM.chunk _).ss (hS.newBox _ _)) (by rw [cellsO_eq hcs]; exact h _ _ (hS.newBox _ _) (hM.chunk _))
end
theorem St.ownSlY {w0 w : World} {M : List Nat} {D H : List Chunk} {Z : List Snap} {α : Type} {enc : α → List Value} {sz : Nat} {hsz : ∀ x, (enc x).length = sz} {e : TypeId} {A : Option Addr} {n cap n' : Nat} {l : List α} (h0 : 0 < sz) (hS : St w0 M w (D ++ H) Z) (hm : Chunk.own (.slice A n cap) e sz n' (l.flatMap enc) ∈ H) :
    SlAt (Cod.flat enc sz hsz) (fun b => b < w.heap.size ∧ b ∉ fps D) w A l :=
  SlAt.ofOwn h0 (hS.holds _ (List.mem_append_right _ hm)) fun g hg => by
    refine ⟨(hS.inb _ (List.mem_append_right _ hm) g (by simp [Chunk.fp, hg])).1, fun hf => ?_⟩
    obtain ⟨c, hc, hb⟩ := mem_fps.1 hf
    exact (List.pairwise_append.1 hS.disj).2.2 c hc _ hm g hb (by simp [Chunk.fp, hg])
/-- what a snapshot tells, as a callee reads it that changes chunks of the call's own -/
theorem St.slY {w0 w wz : World} {M : List Nat} {D H : List Chunk} {Z : List Snap} {α : Type} {c : Cod α} {F : Nat → Prop} {A : Option Addr} {l : List α} (hS : St w0 M w (D ++ H) Z) (hz : Snap.mk wz F ∈ Z) (h : SlAt c F wz A l) : SlAt c (fun b => b < w.heap.size ∧ b ∉ fps D) w A l :=
  (h.loc fun b hb => (hS.snap _ hz b hb).2.1).mono fun b hb => by
    obtain ⟨h1, _, h3⟩ := hS.snap _ hz b hb
    refine ⟨h1, fun hf => ?_⟩
    obtain ⟨d, hd, hbd⟩ := mem_fps.1 hf
    exact h3 d (List.mem_append_left _ hd) hbd
theorem WC.drawLP {P : Program} {N : Fz} {f : Fr} {w w0 : World} {Q : Post} {ops : List Oper} {M : List Nat} {H H' : List Chunk} {Z : List Snap} {id : Nat} (D : List Chunk) (hS : St w0 M w H Z) (hp : Pulls D H H') (q l : List Nat) (t : Pl) (hm : P.follows .mixedOrders = true)
    (hk : (Region.noSelect ops.toArray && ordOk ops.toArray ⟨q, t⟩ (Array.replicate ops.toArray.size false) l && Nat.beq (l.length + t.len) ops.length) = true)
    (h : ∀ w', St w0 M w' (D ++ H') Z → More H' Z (D ++ H') Z → WD P N (SS w0 M H' Z) ops ⟨q, t⟩ l f w' Q) (hok : okR N ops = true := by rfl) : WC P N (.region id ops.toArray true) f w Q := by
  have hS' := hS.pulls hp
  simp only [Bool.and_eq_true] at hk
  exact WC.draw (SS w0 M H' Z) ⟨q, t⟩ l hm hk.1.1 hk.1.2 hk.2 ((More.app (.refl _ _)).ss hS'.drew) (h _ hS'.drew (More.app (.refl _ _))) hok
theorem InL.none (w : World) : InL w [] := ⟨fun c hc => (by cases hc), fun c hc => (by cases hc), .nil⟩
end Go.J
