/- What is proved: plain facts on a file of frames: what is read of it whole, torn, or rotten. Conditions: texts of bounded length. -/
import Derived.Test.YtggalmiaofeikaaDoorSumPlain
import Derived.Test.YtggalmiaofeikaaDoorFrameSc
set_option linter.unusedSimpArgs false
set_option linter.unusedVariables false
namespace Go.Proofs.YtggalmiaofeikaaDoor
open Go Go.J Go.RowKit

def frames (l : List (List UInt8)) : List UInt8 := l.flatMap packE
theorem frames_app (a b : List (List UInt8)) : frames (a ++ b) = frames a ++ frames b := List.flatMap_append
theorem frames_one (s : List UInt8) : frames [s] = packE s := by simp [frames]
theorem packE_len (s : List UInt8) : (packE s).length = (putN s.length).length + s.length + 4 := by simp [packE, textE, le4_len]; omega
theorem putN_pos (n : Nat) : 0 < (putN n).length := by
  rcases Nat.eq_zero_or_pos (putN n).length with h | h
  · exact absurd (List.eq_nil_of_length_eq_zero h) (putN_ne n)
  · exact h
theorem scanF_fuel : ∀ (k k' : Nat) (t : List UInt8), t.length ≤ k → t.length ≤ k' → scanF k t = scanF k' t
  | 0, k', t, h, h' => by
    obtain rfl : t = [] := List.eq_nil_of_length_eq_zero (by omega)
    cases k' with
    | zero => rfl
    | succ k' => simp [scanF]
  | k + 1, 0, t, h, h' => by
    obtain rfl : t = [] := List.eq_nil_of_length_eq_zero (by omega)
    simp [scanF]
  | k + 1, k' + 1, t, h, h' => by
    unfold scanF
    by_cases h0 : t = []
    · rw [if_pos h0, if_pos h0]
    · rw [if_neg h0, if_neg h0]
      by_cases he : (readE t).2.2 = 0
      · rw [if_pos he, if_pos he]
        have := readE_le t he
        have hd : (t.drop (readE t).2.1).length ≤ k ∧ (t.drop (readE t).2.1).length ≤ k' := by rw [List.length_drop]; omega
        rw [scanF_fuel k k' _ hd.1 hd.2]
      · rw [if_neg he, if_neg he]
theorem scanE_nil : scanE [] = ([], 0, 0) := rfl
theorem scanE_bad {t : List UInt8} (h0 : t ≠ []) (he : (readE t).2.2 ≠ 0) : scanE t = ([], 0, (readE t).2.2) := by
  unfold scanE
  cases t with
  | nil => exact absurd rfl h0
  | cons c t => rw [List.length_cons]; unfold scanF; rw [if_neg h0, if_neg he]
theorem scanE_cons (s t : List UInt8) (h : s.length < 9223372036854775808) : scanE (packE s ++ t) = (s :: (scanE t).1, (packE s).length + (scanE t).2.1, (scanE t).2.2) := by
  have hr := readE_pack s t h
  have hl := packE_len s
  have hp := putN_pos s.length
  unfold scanE
  obtain ⟨k, hk⟩ : ∃ k, (packE s ++ t).length = k + 1 := ⟨(packE s ++ t).length - 1, by rw [List.length_append]; omega⟩
  rw [hk]
  have hne : packE s ++ t ≠ [] := fun hh => by rw [hh] at hk; simp at hk
  conv => lhs; unfold scanF
  rw [if_neg hne, hr]
  simp only [if_true]
  have hd : (packE s ++ t).drop (packE s).length = t := by simp
  rw [hd, scanF_fuel k t.length t (by rw [List.length_append] at hk; omega) (Nat.le_refl _)]
theorem scanE_frames : ∀ (l : List (List UInt8)) (t : List UInt8), (∀ s ∈ l, s.length < 9223372036854775808) → scanE (frames l ++ t) = (l ++ (scanE t).1, (frames l).length + (scanE t).2.1, (scanE t).2.2)
  | [], t, _ => by simp [frames]
  | s :: l, t, h => by
    have e : frames (s :: l) ++ t = packE s ++ (frames l ++ t) := by simp [frames]
    have e2 : (frames (s :: l)).length = (packE s).length + (frames l).length := by simp [frames]
    rw [e, scanE_cons s _ (h s (by simp)), scanE_frames l t (fun u hu => h u (by simp [hu])), e2]
    simp [Nat.add_assoc]
theorem scanE_whole (l : List (List UInt8)) (h : ∀ s ∈ l, s.length < 9223372036854775808) : scanE (frames l) = (l, (frames l).length, 0) := by
  have := scanE_frames l [] h
  simpa [scanE_nil] using this
/-- numbers cut short -/
theorem varE_short : ∀ (k m : Nat), m ≤ k → ∀ (i x j : Nat), i ≤ 9 → m * 128 ^ i < 18446744073709551616 → j < (putN m).length → varE ((putN m).take j) i x = (0, 0, 2)
  | k, m, hk, i, x, 0, _, _, _ => by simp [varE]
  | k, m, hk, i, x, j + 1, hi, hm, hj => by
    by_cases hs : m < 128
    · rw [putN_small hs] at hj; simp at hj
    · rw [putN_big hs] at hj ⊢
      rw [List.take_succ_cons]
      have hc : (UInt8.ofNat (m % 128 + 128)).toNat = m % 128 + 128 := ofNat_toNat (by omega)
      have hp : 0 < 128 ^ i := Nat.pow_pos (by omega)
      have hi9 : i ≠ 9 := by
        rintro rfl
        rw [pow128_9] at hm; omega
      unfold varE
      rw [hc, if_neg (by omega), if_pos (by omega)]
      cases k with
      | zero => omega
      | succ k =>
        refine varE_short k (m / 128) (by omega) (i + 1) _ j (by omega) ?_ (by simpa using hj)
        have : m / 128 * 128 ≤ m := Nat.div_mul_le_self ..
        calc m / 128 * 128 ^ (i + 1) = m / 128 * 128 * 128 ^ i := by rw [Nat.pow_succ, Nat.mul_comm (128 ^ i), Nat.mul_assoc]
          _ ≤ m * 128 ^ i := Nat.mul_le_mul_right _ this
          _ < _ := hm
/-- a frame that is torn -/
theorem readE_torn (s : List UInt8) (j : Nat) (h : s.length < 9223372036854775808) (hj : j < (packE s).length) : readE ((packE s).take j) = ([], 0, 2) := by
  have hl := packE_len s
  unfold readE
  by_cases h1 : j < (putN s.length).length
  · have e : (packE s).take j = (putN s.length).take j := by unfold packE textE; rw [List.append_assoc, List.take_append_of_le_length (by omega)]
    have : uintE ((putN s.length).take j) = (0, 0, 2) := by
      unfold uintE
      rw [varE_short _ s.length (Nat.le_refl _) 0 0 j (by omega) (by simp; omega) h1]
      rfl
    have hr : rtextE ((packE s).take j) = ([], 0, 2) := by rw [e]; unfold rtextE; rw [this]; rfl
    rw [hr]; rfl
  · have e : (packE s).take j = putN s.length ++ (s ++ le4 (sumE s)).take (j - (putN s.length).length) := by
      unfold packE textE; rw [List.append_assoc, List.take_append, List.take_of_length_le (by omega)]
    have hu := uintE_put s.length h ((s ++ le4 (sumE s)).take (j - (putN s.length).length))
    rw [← e] at hu
    have hlen : ((packE s).take j).length = j := by rw [List.length_take]; omega
    by_cases h2 : j < (putN s.length).length + s.length
    · have hr : rtextE ((packE s).take j) = ([], 0, 2) := by
        unfold rtextE; rw [hu]
        simp only [if_true]
        rw [if_neg (by rw [hlen]; omega)]
      rw [hr]; rfl
    · have hr : rtextE ((packE s).take j) = (s, s.length + (putN s.length).length, 0) := by
        have e3 : (s ++ le4 (sumE s)).take (j - (putN s.length).length) = s ++ (le4 (sumE s)).take (j - (putN s.length).length - s.length) := by
          rw [List.take_append, List.take_of_length_le (l := s) (by omega)]
        rw [e, e3]
        exact rtextE_text s _ h
      rw [hr]
      simp only [if_true]
      rw [if_pos (by rw [hlen]; omega)]
theorem scanE_torn (l : List (List UInt8)) (s : List UInt8) (j : Nat) (h : ∀ u ∈ l ++ [s], u.length < 9223372036854775808) (hj : j < (packE s).length) (h0 : 0 < j) :
    scanE (frames l ++ (packE s).take j) = (l, (frames l).length, 2) := by
  have hr := readE_torn s j (h s (by simp)) hj
  have hne : (packE s).take j ≠ [] := fun hh => by
    have := congrArg List.length hh
    rw [List.length_take, List.length_nil] at this; omega
  rw [scanE_frames l _ (fun u hu => h u (by simp [hu])), scanE_bad hne (by rw [hr]; decide), hr]
  simp
/-- a turned bit behind a record's length -/
theorem scanE_rot (l r : List (List UInt8)) (s : List UInt8) (j : Nat) (x : UInt8) (h : ∀ u ∈ l ++ [s], u.length < 9223372036854775808) (h1 : (putN s.length).length ≤ j) (h2 : j < (packE s).length) (hx : (packE s)[j]? ≠ some x) :
    scanE (frames l ++ ((packE s).set j x ++ frames r)) = (l, (frames l).length, 6) := by
  have hr := readE_rot s j x (frames r) (h s (by simp)) h1 h2 hx
  have hne : (packE s).set j x ++ frames r ≠ [] := fun hh => by
    have := congrArg List.length hh
    simp at this; rw [this.1] at h2; simp at h2
  rw [scanE_frames l _ (fun u hu => h u (by simp [hu])), scanE_bad hne (by rw [hr]; decide), hr]
  simp
end Go.Proofs.YtggalmiaofeikaaDoor
