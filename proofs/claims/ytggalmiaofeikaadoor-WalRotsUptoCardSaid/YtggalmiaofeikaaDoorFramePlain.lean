/- What is proved: plain facts on checksums. Conditions: none. -/
import Derived.Test.YtggalmiaofeikaaDoorWirePlain
set_option linter.unusedSimpArgs false
set_option linter.unusedVariables false
namespace Go.J
open Go

/-- one bit of the checksum -/
def crcS (c : Nat) : Nat := (c / 2) ^^^ (if c % 2 = 1 then 3988292384 else 0)
def crcN : Nat → Nat → Nat
  | 0, c => c
  | j + 1, c => crcN j (crcS c)
def crcB (c : Nat) (x : UInt8) : Nat := crcN 8 (c ^^^ x.toNat)
def crcL (c : Nat) (s : List UInt8) : Nat := s.foldl crcB c
def sumE (s : List UInt8) : Nat := 4294967295 ^^^ crcL 4294967295 s
def le4 (n : Nat) : List UInt8 := [UInt8.ofNat (n % 256), UInt8.ofNat (n / 256 % 256), UInt8.ofNat (n / 65536 % 256), UInt8.ofNat (n / 16777216 % 256)]
def packE (s : List UInt8) : List UInt8 := textE s ++ le4 (sumE s)
theorem crcS_lt {c : Nat} (h : c < 4294967296) : crcS c < 4294967296 := by
  unfold crcS
  refine Nat.xor_lt_two_pow (n := 32) (by omega) ?_
  split <;> omega
theorem crcN_lt : ∀ (j : Nat) {c : Nat}, c < 4294967296 → crcN j c < 4294967296
  | 0, _, h => h
  | j + 1, _, h => crcN_lt j (crcS_lt h)
theorem crcB_lt {c : Nat} (h : c < 4294967296) (x : UInt8) : crcB c x < 4294967296 :=
  crcN_lt 8 (Nat.xor_lt_two_pow (n := 32) h (by have := x.toNat_lt; omega))
theorem crcL_lt : ∀ (s : List UInt8) {c : Nat}, c < 4294967296 → crcL c s < 4294967296
  | [], _, h => h
  | x :: s, _, h => crcL_lt s (crcB_lt h x)
theorem sumE_lt (s : List UInt8) : sumE s < 4294967296 := Nat.xor_lt_two_pow (n := 32) (by omega) (crcL_lt s (by omega))
theorem crcL_snoc (c : Nat) (s : List UInt8) (x : UInt8) : crcL c (s ++ [x]) = crcB (crcL c s) x := by unfold crcL; rw [List.foldl_append]; rfl
theorem u32_step {c : Nat} (h : c < 4294967296) : bits .xor .u32 (shrI .u32 (c : Int) 1) (bits .and .u32 3988292384 (IntKind.u32.wrap (0 - bits .and .u32 (c : Int) 1))) = ((crcS c : Nat) : Int) := by
  have h1 : bits .and .u32 (c : Int) 1 = ((c % 2 : Nat) : Int) := by
    have := u32_and_nat c 1 h (by omega)
    rw [Nat.and_one_is_mod] at this
    exact this
  have h2 : shrI .u32 (c : Int) 1 = ((c / 2 : Nat) : Int) := shrI_nat .u32 c 1 (by decide)
  rw [h1, h2, IntKind.wrap_u32']
  unfold crcS
  by_cases hp : c % 2 = 1
  · rw [hp, if_pos rfl]
    have h3 : (0 - ((1 : Nat) : Int)) % 4294967296 = ((4294967295 : Nat) : Int) := by decide
    have h4 := u32_and_nat 3988292384 4294967295 (by omega) (by omega)
    rw [h3, show (3988292384 : Int) = ((3988292384 : Nat) : Int) from rfl, h4]
    have h5 : 3988292384 &&& 4294967295 = 3988292384 := by decide
    rw [h5]
    exact u32_xor_nat _ _ (by omega) (by omega)
  · have hp : c % 2 = 0 := by omega
    rw [hp, if_neg (by omega)]
    have h3 : (0 - ((0 : Nat) : Int)) % 4294967296 = ((0 : Nat) : Int) := by decide
    have h4 := u32_and_nat 3988292384 0 (by omega) (by omega)
    rw [h3, show (3988292384 : Int) = ((3988292384 : Nat) : Int) from rfl, h4, Nat.and_zero]
    exact u32_xor_nat _ _ (by omega) (by omega)
theorem u32_mix {c : Nat} (h : c < 4294967296) (x : UInt8) : bits .xor .u32 (c : Int) (IntKind.u32.wrap (x.toNat : Int)) = ((c ^^^ x.toNat : Nat) : Int) := by
  have hx := x.toNat_lt
  have e : IntKind.u32.wrap (x.toNat : Int) = ((x.toNat : Nat) : Int) := by rw [IntKind.wrap_u32']; omega
  rw [e]
  exact u32_xor_nat _ _ h (by omega)
theorem u32_comp {c : Nat} (h : c < 4294967296) : compI .u32 (c : Int) = ((4294967295 ^^^ c : Nat) : Int) := u32_xor_nat 4294967295 c (by omega) h
theorem le4_bytes {n : Nat} (h : n < 4294967296) : [Value.int .u8 (IntKind.u8.wrap (n : Int)), .int .u8 (IntKind.u8.wrap (shrI .u32 (n : Int) 8)), .int .u8 (IntKind.u8.wrap (shrI .u32 (n : Int) 16)), .int .u8 (IntKind.u8.wrap (shrI .u32 (n : Int) 24))] = byteC (le4 n) := by
  have h1 : shrI .u32 (n : Int) 8 = ((n / 256 : Nat) : Int) := shrI_nat .u32 n 8 (by decide)
  have h2 : shrI .u32 (n : Int) 16 = ((n / 65536 : Nat) : Int) := shrI_nat .u32 n 16 (by decide)
  have h3 : shrI .u32 (n : Int) 24 = ((n / 16777216 : Nat) : Int) := shrI_nat .u32 n 24 (by decide)
  have hw : ∀ m : Nat, IntKind.u8.wrap (m : Int) = (((UInt8.ofNat (m % 256)).toNat : Nat) : Int) := fun m => by rw [IntKind.wrap_u8', ofNat_toNat (by omega)]; omega
  rw [h1, h2, h3, hw, hw, hw, hw]
  rfl
end Go.J
