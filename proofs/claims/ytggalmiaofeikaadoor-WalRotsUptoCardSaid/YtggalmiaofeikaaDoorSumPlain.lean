/- What is proved: plain facts on frames: what was packed is read, and a turned bit is told. Conditions: texts of bounded length. -/
import Derived.Test.YtggalmiaofeikaaDoorFrameRd
set_option linter.unusedSimpArgs false
set_option linter.unusedVariables false
namespace Go.J
open Go

theorem crcS_inj {a b : Nat} (ha : a < 4294967296) (hb : b < 4294967296) (h : crcS a = crcS b) : a = b := by
  have t : ∀ m, m < 2147483648 → m.testBit 31 = false := fun m hm => Nat.testBit_lt_two_pow (by omega)
  have tp : (3988292384 : Nat).testBit 31 = true := by decide
  unfold crcS at h
  have h31 := congrArg (fun n => Nat.testBit n 31) h
  simp only [Nat.testBit_xor, t (a / 2) (by omega), t (b / 2) (by omega), Bool.false_bne] at h31
  by_cases pa : a % 2 = 1 <;> by_cases pb : b % 2 = 1
  · rw [if_pos pa, if_pos pb] at h
    have := congrArg (fun n => n ^^^ 3988292384) h
    simp only [Nat.xor_assoc, Nat.xor_self, Nat.xor_zero] at this
    omega
  · rw [if_pos pa, if_neg pb] at h31; simp [tp] at h31
  · rw [if_neg pa, if_pos pb] at h31; simp [tp] at h31
  · rw [if_neg pa, if_neg pb] at h
    simp only [Nat.xor_zero] at h
    omega
theorem crcN_inj : ∀ (j : Nat) {a b : Nat}, a < 4294967296 → b < 4294967296 → crcN j a = crcN j b → a = b
  | 0, _, _, _, _, h => h
  | j + 1, _, _, ha, hb, h => crcS_inj ha hb (crcN_inj j (crcS_lt ha) (crcS_lt hb) h)
theorem xor_lt32 {a : Nat} (h : a < 4294967296) (x : UInt8) : a ^^^ x.toNat < 4294967296 := Nat.xor_lt_two_pow (n := 32) h (by have := x.toNat_lt; omega)
theorem crcB_inj {a b : Nat} (ha : a < 4294967296) (hb : b < 4294967296) {x : UInt8} (h : crcB a x = crcB b x) : a = b := by
  have h := crcN_inj 8 (xor_lt32 ha x) (xor_lt32 hb x) h
  have := congrArg (fun n => n ^^^ x.toNat) h
  simpa only [Nat.xor_assoc, Nat.xor_self, Nat.xor_zero] using this
theorem crcB_inj2 {a : Nat} (ha : a < 4294967296) {x y : UInt8} (h : crcB a x = crcB a y) : x = y := by
  have h := crcN_inj 8 (xor_lt32 ha x) (xor_lt32 ha y) h
  have := congrArg (fun n => a ^^^ n) h
  simp only [← Nat.xor_assoc, Nat.xor_self, Nat.zero_xor] at this
  exact UInt8.toNat.inj this
theorem crcL_inj : ∀ (s : List UInt8) {a b : Nat}, a < 4294967296 → b < 4294967296 → crcL a s = crcL b s → a = b
  | [], _, _, _, _, h => h
  | x :: s, _, _, ha, hb, h => crcB_inj ha hb (crcL_inj s (crcB_lt ha x) (crcB_lt hb x) h)
/-- one byte that is another one makes another checksum -/
theorem sumE_byte (u v : List UInt8) (x y : UInt8) (h : sumE (u ++ x :: v) = sumE (u ++ y :: v)) : x = y := by
  have h2 := congrArg (fun n => 4294967295 ^^^ n) h
  simp only [sumE, ← Nat.xor_assoc, Nat.xor_self, Nat.zero_xor] at h2
  unfold crcL at h2
  rw [List.foldl_append, List.foldl_append] at h2
  have hu : crcL 4294967295 u < 4294967296 := crcL_lt u (by omega)
  exact crcB_inj2 hu (crcL_inj v (crcB_lt hu x) (crcB_lt hu y) h2)
theorem le4_inj {a b : Nat} (ha : a < 4294967296) (hb : b < 4294967296) (h : le4 a = le4 b) : a = b := by
  simp only [le4, List.cons.injEq, and_true] at h
  obtain ⟨h1, h2, h3, h4⟩ := h
  have k : ∀ n m : Nat, n < 256 → m < 256 → UInt8.ofNat n = UInt8.ofNat m → n = m := fun n m hn hm h => by
    have := congrArg UInt8.toNat h
    rwa [ofNat_toNat hn, ofNat_toNat hm] at this
  have h1 := k _ _ (by omega) (by omega) h1
  have h2 := k _ _ (by omega) (by omega) h2
  have h3 := k _ _ (by omega) (by omega) h3
  have h4 := k _ _ (by omega) (by omega) h4
  omega
theorem le4_len (n : Nat) : (le4 n).length = 4 := rfl
end Go.J
namespace Go.Proofs.YtggalmiaofeikaaDoor
open Go Go.J Go.RowKit
theorem uintE_put (n : Nat) (hn : n < 9223372036854775808) (t : List UInt8) : uintE (putN n ++ t) = (n, (putN n).length, 0) := by
  have h := varE_put n n (Nat.le_refl _) 0 0 t (.inr rfl) (by omega) (by simp; omega)
  simp only [Nat.pow_zero, Nat.mul_one, Nat.zero_add] at h
  unfold uintE
  rw [h]
  simp [hn]
theorem rtextE_text (s t : List UInt8) (h : s.length < 9223372036854775808) : rtextE (putN s.length ++ (s ++ t)) = (s, s.length + (putN s.length).length, 0) := by
  unfold rtextE
  rw [uintE_put _ h]
  simp only [if_true, List.length_append]
  rw [if_pos (by omega)]
  simp
/-- what was packed is read -/
theorem readE_pack (s t : List UInt8) (h : s.length < 9223372036854775808) : readE (packE s ++ t) = (s, (packE s).length, 0) := by
  have e : packE s ++ t = putN s.length ++ (s ++ (le4 (sumE s) ++ t)) := by simp [packE, textE]
  have hl : (packE s).length = s.length + (putN s.length).length + 4 := by simp [packE, textE, le4_len]; omega
  unfold readE
  rw [e, rtextE_text s _ h, ← e]
  simp only [if_true]
  rw [if_neg (by simp [hl]), if_pos (by rw [← hl]; simp), ← hl]
theorem append_eq_of_len {α : Type} {a b c d : List α} (h : a ++ b = c ++ d) (hl : a.length = c.length) : a = c ∧ b = d := List.append_inj h hl
/-- a frame of which a byte behind the length is another one is refused: its checksum doesn't hold -/
theorem readE_rot (s : List UInt8) (j : Nat) (x : UInt8) (t : List UInt8) (h : s.length < 9223372036854775808) (h1 : (putN s.length).length ≤ j) (h2 : j < (packE s).length) (hx : (packE s)[j]? ≠ some x) :
    readE ((packE s).set j x ++ t) = ([], 0, 6) := by
  have hl : (packE s).length = s.length + (putN s.length).length + 4 := by simp [packE, textE, le4_len]; omega
  -- the text and the four bytes, of which one is another
  have key : ∃ s' z, (packE s).set j x = putN s.length ++ (s' ++ z) ∧ s'.length = s.length ∧ z.length = 4 ∧ z ≠ le4 (sumE s') := by
    by_cases hj : j < (putN s.length).length + s.length
    · obtain ⟨k, rfl⟩ : ∃ k, j = (putN s.length).length + k := ⟨j - (putN s.length).length, by omega⟩
      have hk : k < s.length := by omega
      refine ⟨s.set k x, le4 (sumE s), ?_, by simp, le4_len _, fun he => hx ?_⟩
      · unfold packE textE
        rw [List.append_assoc, List.set_append_right _ _ (by omega), List.set_append_left _ _ (by omega), Nat.add_sub_cancel_left]
      · have he := le4_inj (sumE_lt _) (sumE_lt _) he
        have hs : s = s.take k ++ s[k] :: s.drop (k + 1) := by simp
        have hs' : s.set k x = s.take k ++ x :: s.drop (k + 1) := List.set_eq_take_append_cons_drop .. |>.trans (by rw [if_pos hk])
        rw [hs'] at he
        have he2 : sumE (s.take k ++ s[k] :: s.drop (k + 1)) = sumE (s.take k ++ x :: s.drop (k + 1)) := by rw [← hs]; exact he
        have := sumE_byte _ _ _ _ he2
        unfold packE textE
        rw [List.append_assoc, List.getElem?_append_right (by omega), Nat.add_sub_cancel_left, List.getElem?_append_left hk, List.getElem?_eq_getElem hk, this]
    · obtain ⟨k, rfl⟩ : ∃ k, j = (putN s.length).length + s.length + k := ⟨j - ((putN s.length).length + s.length), by omega⟩
      have hk : k < 4 := by omega
      refine ⟨s, (le4 (sumE s)).set k x, ?_, rfl, by simp [le4_len], fun he => hx ?_⟩
      · unfold packE textE
        rw [List.append_assoc, List.set_append_right _ _ (by omega), List.set_append_right _ _ (by omega)]
        congr 3; omega
      · unfold packE textE
        rw [List.append_assoc, List.getElem?_append_right (by omega), List.getElem?_append_right (by omega)]
        have e2 : (putN s.length).length + s.length + k - (putN s.length).length - s.length = k := by omega
        rw [e2, ← he, List.getElem?_set_self (by simpa [le4_len] using hk)]
  obtain ⟨s', z, e, hs', hz, hne⟩ := key
  have e2 : (packE s).set j x ++ t = putN s'.length ++ (s' ++ (z ++ t)) := by rw [e, hs']; simp
  unfold readE
  rw [e2, rtextE_text s' _ (by omega)]
  simp only [if_true, List.length_append]
  rw [if_neg (by omega), if_neg ?_]
  intro hp
  have ht : (putN s'.length ++ (s' ++ (z ++ t))).take (s'.length + (putN s'.length).length + 4) = putN s'.length ++ (s' ++ z) := by
    have : putN s'.length ++ (s' ++ (z ++ t)) = (putN s'.length ++ (s' ++ z)) ++ t := by simp
    rw [this, List.take_append_of_le_length (by simp; omega), List.take_of_length_le (by simp; omega)]
  rw [ht] at hp
  unfold packE textE at hp
  rw [List.append_assoc] at hp
  have := List.append_cancel_left (List.append_cancel_left hp)
  exact hne this.symm
end Go.Proofs.YtggalmiaofeikaaDoor
