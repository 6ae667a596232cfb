/- What is proved: plain facts on numbers and texts as bytes. Conditions: none. -/
import Derived.Test.YtggalmiaofeikaaDoorJW
set_option linter.unusedSimpArgs false
set_option linter.unusedVariables false
namespace Go.J
open Go

/-- seven bits a byte, the lowest first -/
def putN (n : Nat) : List UInt8 := if h : n < 128 then [UInt8.ofNat n] else UInt8.ofNat (n % 128 + 128) :: putN (n / 128)
termination_by n
decreasing_by omega
theorem putN_small {n : Nat} (h : n < 128) : putN n = [UInt8.ofNat n] := by rw [putN, dif_pos h]
theorem putN_big {n : Nat} (h : ¬ n < 128) : putN n = UInt8.ofNat (n % 128 + 128) :: putN (n / 128) := by rw [putN, dif_neg h]
theorem putN_ne (n : Nat) : putN n ≠ [] := by
  by_cases h : n < 128
  · rw [putN_small h]; simp
  · rw [putN_big h]; simp
theorem putN_len : ∀ (k n : Nat), n < 128 ^ (k + 1) → (putN n).length ≤ k + 1
  | k, n, h => by
    by_cases hn : n < 128
    · rw [putN_small hn]; simp
    · rw [putN_big hn]
      cases k with
      | zero => simp at h; omega
      | succ k =>
        have := putN_len k (n / 128) (by
          rw [Nat.div_lt_iff_lt_mul (by omega)]
          rwa [Nat.pow_succ] at h)
        simp only [List.length_cons]; omega
theorem putN_len10 {n : Nat} (h : n < 18446744073709551616) : (putN n).length ≤ 10 := putN_len 9 n (by
  have : (128 : Nat) ^ (9 + 1) = 1180591620717411303424 := by decide
  omega)
def textE (s : List UInt8) : List UInt8 := putN s.length ++ s
theorem ofNat_toNat {n : Nat} (h : n < 256) : (UInt8.ofNat n).toNat = n := by simp; omega
theorem byte_low {n : Nat} (h : n < 128) : IntKind.u8.wrap (n : Int) = (((UInt8.ofNat n).toNat : Nat) : Int) := by
  rw [IntKind.wrap_u8', ofNat_toNat (by omega)]; omega
set_option maxRecDepth 100000 in
theorem or128 : ∀ a, a < 256 → a ||| 128 = a % 128 + 128 := by decide
theorem byte_high (n : Nat) : bits .or .u8 (IntKind.u8.wrap (n : Int)) 128 = (((UInt8.ofNat (n % 128 + 128)).toNat : Nat) : Int) := by
  have e : IntKind.u8.wrap (n : Int) = ((n % 256 : Nat) : Int) := by rw [IntKind.wrap_u8']; omega
  have := u8_or_nat (n % 256) 128 (by omega) (by omega)
  rw [e]
  refine Eq.trans this ?_
  rw [or128 _ (by omega), ofNat_toNat (by omega)]
  omega
theorem shrI_nat (k : IntKind) (n m : Nat) (h : m ≤ k.bits) : shrI k (n : Int) (m : Int) = ((n / 2 ^ m : Nat) : Int) := by
  unfold shrI
  have : min ((m : Int).toNat) k.bits = m := by simp; omega
  rw [this, Int.fdiv_eq_ediv_of_nonneg _ (by exact Int.le_of_lt (Int.pow_pos (by decide)))]
  rw [Int.natCast_ediv, Int.natCast_pow]; rfl
theorem shr7 (n : Nat) : shrI .u64 (n : Int) 7 = ((n / 128 : Nat) : Int) := shrI_nat .u64 n 7 (by decide)

/-! ## read back -/
/-- the number that stands at the head of the bytes, how many bytes it has, the error -/
def varE : List UInt8 → Nat → Nat → Nat × Nat × Int
  | [], _, _ => (0, 0, 2)
  | c :: t, i, x => if i = 9 ∧ 1 < c.toNat then (0, 0, 3)
    else if 128 ≤ c.toNat then varE t (i + 1) (x + c.toNat % 128 * 128 ^ i)
    else if c.toNat = 0 ∧ 0 < i then (0, 0, 3)
    else (x + c.toNat % 128 * 128 ^ i, i + 1, 0)
theorem pow128 (i : Nat) : 128 ^ i = 2 ^ (7 * i) := by rw [Nat.pow_mul]
theorem pow128_9 : 128 ^ 9 = 9223372036854775808 := by decide
theorem pow128_le {i : Nat} (h : i ≤ 8) : 128 ^ i ≤ 72057594037927936 := by
  have := Nat.pow_le_pow_right (n := 128) (by omega) h
  have e : 128 ^ 8 = 72057594037927936 := by decide
  omega
theorem u64_var {x i : Nat} {c : UInt8} (hx : x < 128 ^ i) (hi : i ≤ 9) (h9 : i = 9 → c.toNat ≤ 1) :
    bits .or .u64 (x : Int) (shlI .u64 (IntKind.u64.wrap (bits .and .u8 (c.toNat : Int) 127)) (7 * (i : Int))) = ((x + c.toNat % 128 * 128 ^ i : Nat) : Int) := by
  have hc := c.toNat_lt
  have h1 : bits .and .u8 (c.toNat : Int) 127 = ((c.toNat % 128 : Nat) : Int) := by
    have := u8_and_nat c.toNat 127 (by omega) (by omega)
    rw [nat_mask7] at this
    exact this
  have hw : ∀ m : Nat, m < 18446744073709551616 → IntKind.u64.wrap (m : Int) = (m : Int) := fun m hm => by
    simp only [IntKind.wrap, IntKind.bits, IntKind.signed, Bool.false_and, Bool.false_eq_true, if_false]; omega
  have hb : c.toNat % 128 * 128 ^ i < 18446744073709551616 := by
    rcases Nat.lt_or_ge i 9 with h | h
    · have := pow128_le (i := i) (by omega)
      have h2 : c.toNat % 128 * 128 ^ i ≤ 127 * 128 ^ i := Nat.mul_le_mul_right _ (by omega)
      omega
    · obtain rfl : i = 9 := by omega
      have := h9 rfl
      have h2 : c.toNat % 128 * 128 ^ 9 ≤ 1 * 128 ^ 9 := Nat.mul_le_mul_right _ (by omega)
      rw [pow128_9] at h2 ⊢
      omega
  rw [h1, hw _ (by omega)]
  have h3 : shlI .u64 ((c.toNat % 128 : Nat) : Int) (7 * (i : Int)) = ((c.toNat % 128 * 128 ^ i : Nat) : Int) := by
    unfold shlI
    have e : min (7 * (i : Int)).toNat (IntKind.u64.bits) = 7 * i := by
      have : IntKind.u64.bits = 64 := rfl
      rw [this]; omega
    rw [e, show (2 : Int) ^ (7 * i) = ((2 ^ (7 * i) : Nat) : Int) by rw [Int.natCast_pow]; rfl, ← pow128, ← Int.natCast_mul]
    exact hw _ hb
  rw [h3]
  have hx64 : x < 18446744073709551616 := by
    rcases Nat.lt_or_ge i 9 with h | h
    · have := pow128_le (i := i) (by omega); omega
    · obtain rfl : i = 9 := by omega
      rw [pow128_9] at hx; omega
  rw [u64_or_nat _ _ hx64 hb, Nat.or_comm, nat_join (7 * i) _ _ (by rw [pow128]; exact Nat.mul_mod_left _ _) (by rw [← pow128]; exact hx), Nat.add_comm]
theorem varE_put : ∀ (k m : Nat), m ≤ k → ∀ (i x : Nat) (t : List UInt8), (m ≠ 0 ∨ i = 0) → i ≤ 9 → m * 128 ^ i < 18446744073709551616 → varE (putN m ++ t) i x = (x + m * 128 ^ i, i + (putN m).length, 0)
  | k, m, hk, i, x, t, h0, hi, hm => by
    have h9 : i = 9 → m ≤ 1 := by
      rintro rfl
      rw [pow128_9] at hm; omega
    by_cases h : m < 128
    · rw [putN_small h]
      simp only [List.singleton_append, varE, ofNat_toNat (show m < 256 by omega)]
      rw [if_neg (by omega), if_neg (by omega), if_neg (by omega), Nat.mod_eq_of_lt h]
      rfl
    · have hm0 : m / 128 < m := by omega
      cases k with
      | zero => omega
      | succ k =>
        rw [putN_big h]
        simp only [List.cons_append, varE, ofNat_toNat (show m % 128 + 128 < 256 by omega)]
        have hi9 : i ≠ 9 := fun e => by have := h9 e; omega
        rw [if_neg (by omega), if_pos (by omega)]
        have e1 : m / 128 * 128 ^ (i + 1) ≤ m * 128 ^ i := by
          rw [Nat.pow_succ, Nat.mul_comm (128 ^ i) 128, ← Nat.mul_assoc]
          exact Nat.mul_le_mul_right _ (by omega)
        rw [varE_put k (m / 128) (by omega) (i + 1) _ t (.inl (by omega)) (by omega) (by omega)]
        have e2 : (m % 128 + 128) % 128 = m % 128 := by omega
        have e3 : m % 128 * 128 ^ i + m / 128 * 128 ^ (i + 1) = m * 128 ^ i := by
          rw [Nat.pow_succ, Nat.mul_comm (128 ^ i) 128, ← Nat.mul_assoc, ← Nat.add_mul]
          congr 1; omega
        simp only [List.length_cons, Prod.mk.injEq, and_true]
        refine ⟨by rw [e2, Nat.add_assoc, e3], by omega⟩
theorem varE_ok : ∀ (t : List UInt8) (i x : Nat), x < 128 ^ i → i ≤ 9 → (varE t i x).2.2 = 0 → (varE t i x).1 < 18446744073709551616 ∧ (varE t i x).2.1 ≤ i + t.length
  | [], i, x, hx, hi, h => by simp [varE] at h
  | c :: t, i, x, hx, hi, h => by
    have hp : 0 < 128 ^ i := Nat.pow_pos (by omega)
    simp only [varE] at h ⊢
    split at h
    · simp at h
    · rename_i h9
      rw [if_neg h9]
      split at h
      · rename_i hc
        rw [if_pos hc]
        have hi8 : i ≤ 8 := by
          rcases Nat.lt_or_ge i 9 with h2 | h2
          · omega
          · exact absurd ⟨by omega, by omega⟩ h9
        have hn : x + c.toNat % 128 * 128 ^ i < 128 ^ (i + 1) := by
          rw [Nat.pow_succ]
          have : c.toNat % 128 * 128 ^ i ≤ 127 * 128 ^ i := Nat.mul_le_mul_right _ (by omega)
          omega
        have := varE_ok t (i + 1) _ hn (by omega) h
        simp only [List.length_cons]
        omega
      · rename_i hc
        rw [if_neg hc]
        split at h
        · simp at h
        · rename_i hz
          rw [if_neg hz]
          simp only [List.length_cons]
          refine ⟨?_, by omega⟩
          rcases Nat.lt_or_ge i 9 with h2 | h2
          · have := pow128_le (i := i) (by omega)
            have : c.toNat % 128 * 128 ^ i ≤ 127 * 128 ^ i := Nat.mul_le_mul_right _ (by omega)
            omega
          · obtain rfl : i = 9 := by omega
            have h1 : c.toNat ≤ 1 := by
              rcases Nat.lt_or_ge 1 c.toNat with h3 | h3
              · exact absurd ⟨rfl, h3⟩ h9
              · exact h3
            have : c.toNat % 128 * 128 ^ 9 ≤ 1 * 128 ^ 9 := Nat.mul_le_mul_right _ (by omega)
            rw [pow128_9] at *
            omega
end Go.J
