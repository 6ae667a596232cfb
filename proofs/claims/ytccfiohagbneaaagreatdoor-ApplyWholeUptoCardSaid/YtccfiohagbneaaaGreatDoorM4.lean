/- What is proved: contracts and plain facts that the law leans on (texts put together). Conditions: as each names them. -/
import Derived.Test.YtccfiohagbneaaaGreatDoorM3
set_option linter.unusedSimpArgs false
set_option linter.unusedVariables false
set_option linter.unusedSectionVars false
set_option maxHeartbeats 64000000
set_option maxRecDepth 100000
namespace Go.J
open Go
def zigN (n : Int) : Nat := if 0 ≤ n then (2 * n).toNat else (-2 * n - 1).toNat
def unzig (x : Nat) : Int := if x % 2 = 0 then ((x / 2 : Nat) : Int) else -((x / 2 : Nat) : Int) - 1
theorem unzig_zig (n : Int) : unzig (zigN n) = n := by
 unfold unzig zigN
 split <;> split <;> omega
theorem zig_lt {n : Int} (h : -9223372036854775808 ≤ n ∧ n ≤ 9223372036854775807) : zigN n < 18446744073709551616 := by
 unfold zigN
 split <;> omega
theorem xor_all {x : Nat} (h : x < 18446744073709551616) : x ^^^ 18446744073709551615 = 18446744073709551615 - x := by
 have e1 : (18446744073709551615 : Nat) = 2 ^ 64 - (0 + 1) := Zd
 have e2 : 18446744073709551615 - x = 2 ^ 64 - (x + 1) := by
  have : (2 : Nat) ^ 64 = 18446744073709551616 := Zd
  omega
 have hx : x < 2 ^ 64 := by
  have : (2 : Nat) ^ 64 = 18446744073709551616 := Zd
  omega
 apply Nat.eq_of_testBit_eq
 intro i
 rw [Nat.testBit_xor, e2, Nat.testBit_two_pow_sub_succ hx, e1, Nat.testBit_two_pow_sub_succ Zd]
 by_cases hi : i < 64
 ·simp [hi]
 ·have : x.testBit i = false := Nat.testBit_lt_two_pow (Nat.lt_of_lt_of_le hx (Nat.pow_le_pow_right Zd Zo))
  simp [hi, this]
theorem wrapUz (n : Int) : IntKind.u64.wrap n = n % 18446744073709551616 := by
 simp only [IntKind.wrap, IntKind.bits, IntKind.signed, Bool.false_and, Bool.false_eq_true, if_false]; omega
theorem zig_bits {n : Int} (h : -9223372036854775808 ≤ n ∧ n ≤ 9223372036854775807) : bits .xor .u64 (shlI .u64 (IntKind.u64.wrap n) 1) (IntKind.u64.wrap (shrI .i64 n 63)) = (zigN n : Int) := by
 have e1 : shlI .u64 (IntKind.u64.wrap n) 1 = IntKind.u64.wrap (IntKind.u64.wrap n * 2) := rfl
 have e2 : shrI .i64 n 63 = n.fdiv 9223372036854775808 := rfl
 rw [e1, e2, Int.fdiv_eq_ediv_of_nonneg _ Zd, wrapUz, wrapUz, wrapUz]
 unfold zigN
 by_cases h0 : 0 ≤ n
 ·rw [if_pos h0]
  have f1 : n % 18446744073709551616 * 2 % 18446744073709551616 = ((2 * n).toNat : Int) := Zo
  have f2 : n / 9223372036854775808 % 18446744073709551616 = ((0 : Nat) : Int) := Zo
  rw [f1, f2, u64_xor_nat _ _ Zo Zo, Nat.xor_zero]
 ·rw [if_neg h0]
  have f1 : n % 18446744073709551616 * 2 % 18446744073709551616 = ((2 * n + 18446744073709551616).toNat : Int) := Zo
  have f2 : n / 9223372036854775808 % 18446744073709551616 = ((18446744073709551615 : Nat) : Int) := Zo
  rw [f1, f2, u64_xor_nat _ _ Zo Zo, xor_all Zo]
  omega
theorem i64_xor0 {a : Int} (h : 0 ≤ a ∧ a ≤ 9223372036854775807) : bits .xor .i64 a 0 = a := by
 have e : bits .xor .i64 a 0 = IntKind.i64.wrap ((BitVec.ofInt 64 a ^^^ BitVec.ofInt 64 0).toNat : Int) := rfl
 have e0 : BitVec.ofInt 64 0 = 0#64 := rfl
 rw [e, e0, BitVec.xor_zero, BitVec.toNat_ofInt, wrap_in Zo]
 omega
theorem i64_xor1 {a : Int} (h : 0 ≤ a ∧ a ≤ 9223372036854775807) : bits .xor .i64 a (-1) = -a - 1 := by
 have e : bits .xor .i64 a (-1) = IntKind.i64.wrap ((BitVec.ofInt 64 a ^^^ BitVec.ofInt 64 (-1)).toNat : Int) := rfl
 have e0 : BitVec.ofInt 64 (-1) = BitVec.allOnes 64 := rfl
 rw [e, e0, BitVec.xor_allOnes, BitVec.toNat_not, BitVec.toNat_ofInt]
 have h1 : (a % ((2 ^ 64 : Nat) : Int)).toNat = a.toNat := Zo
 rw [h1]
 have h2 : ((2 ^ 64 - 1 - a.toNat : Nat) : Int) = 18446744073709551615 - a := Zo
 rw [h2]
 rw [IntKind.wrap_i64]
 omega
theorem u64_low (x : Nat) (h : x < 18446744073709551616) : bits .and .u64 (x : Int) 1 = ((x % 2 : Nat) : Int) := by
 have := u64_and_nat x 1 h Zd
 rw [Nat.and_one_is_mod] at this
 exact this
end Go.J
namespace Go.Proofs.YtccfiohagbneaaaGreatDoor
open Go Go.J Go.RowKit
theorem wint_c (n : Int) (h : -9223372036854775808 ≤ n ∧ n ≤ 9223372036854775807) (w0 : World) : Cal Tryz.prog 169 [.int .i64 n] w0 (fun v w' => Upd [] w0 w' ∧ v = str (putN (zigN n))) := by
 refine Cal.mk' Zk Tryz.func169 rfl rfl fun hS => ?_
 have hz := zig_bits h
 have hl := zig_lt h
 repeat' (first | (show WL _ _ _ _ _ _ _; first | refine WL.pure rfl rfl rfl rfl ?_ | refine WL.nil ?_ | (refine WL.shl rfl rfl rfl Zd rfl rfl rfl ?_) | (refine WL.shr rfl rfl rfl Zd rfl rfl rfl ?_) | (refine WL.calls hS rfl (congrArg (fun z => [Value.int .u64 z]) hz) (put_c (zigN n) _ hl) rfl rfl rfl ?_; rintro v w rfl hS)) | (show WC _ _ _ _ _ _; first | refine WC.seq ?_ | refine WC.region ?_ | refine WC.ret ?_) | refine seqQ_n ?_)
 exact fin1r rfl rfl ⟨hS.upd, rfl⟩
theorem rint_e {r : Nat} {s : List UInt8} {p x u : Nat} (hv : varE (s.drop p) 0 0 = (x, u, 0)) {w0 : World} (h : RdAt r s p w0) (hi : inB (rdC r s p) w0) (hp : p ≤ s.length) (hl : s.length ≤ 1099511627776) : Cal Tryz.prog 170 [.pointer (some ⟨r, 0, none⟩)] w0
  (fun v w' => v = .tuple #[.int .i64 (unzig x), .int .i64 0] ∧ Mut w0 w' (rdC r s p) (rdC r s (p + u))) := by
 refine Cal.mkM (k := rdC r s p) h hi Zk Tryz.func170 rfl rfl fun hS => ?_
 have hok := varE_ok (s.drop p) 0 0 Zd Zo
 rw [hv] at hok
 obtain ⟨hx, hul⟩ := hok rfl
 dsimp only at hx hul
 have hvv : varV p (x, u, 0) = .tuple #[.int .u64 (x : Int), .int .i64 ((p + u : Nat) : Int), .int .i64 0] := by simp [varV]
 have hsh : shrI .u64 (x : Int) 1 = ((x / 2 : Nat) : Int) := shrI_nat .u64 x 1 Zd
 have hlo := u64_low x hx
 have hlen : (s.drop p).length = s.length - p := by simp
 rw [hlen] at hul
 have hx0 := i64_xor0 (a := ((x / 2 : Nat) : Int)) Zo
 have hx1 := i64_xor1 (a := ((x / 2 : Nat) : Int)) Zo
 by_cases h2 : x % 2 = 0
 ·have hu : unzig x = ((x / 2 : Nat) : Int) := if_pos h2
  rw [hu]
  rw [h2] at hlo
  repeat' (first | (show WL _ _ _ _ _ _ _; first | refine WL.pure rfl rfl rfl rfl ?_ | refine WL.nil ?_ | (refine WL.callG rfl rfl (varint_c r s p _ (hS.holds _ Zh) hp hl) rfl rfl rfl ?_; rintro v w ⟨hu, rfl⟩; have hS := hS.upd0 hu; rw [hv, hvv]) | (refine WL.shr rfl rfl rfl Zd rfl rfl rfl ?_; rw [hsh]) | refine WL.conv64 rfl rfl rfl Zo rfl rfl rfl ?_ | (refine WL.store hS rfl rfl rfl Sb rfl rfl rfl ?_; intro w hS)) | (show WC _ _ _ _ _ _; first | refine WC.seq ?_ | refine WC.region ?_ | refine WC.skip ?_ | refine WC.ret ?_ | refine WC.condF rfl Zr ?_ | refine WC.condF rfl Zd ?_) | refine seqQ_n ?_)
  refine fin2r rfl rfl rfl ⟨?_, hS.mutOf Zh⟩
  refine congrArg (fun z => Value.tuple #[.int .i64 z, .int .i64 0]) ?_
  rw [hlo]
  exact hx0
 ·have h2 : x % 2 = 1 := Zo
  have hu : unzig x = -((x / 2 : Nat) : Int) - 1 := if_neg Zo
  rw [hu]
  rw [h2] at hlo
  repeat' (first | (show WL _ _ _ _ _ _ _; first | refine WL.pure rfl rfl rfl rfl ?_ | refine WL.nil ?_ | (refine WL.callG rfl rfl (varint_c r s p _ (hS.holds _ Zh) hp hl) rfl rfl rfl ?_; rintro v w ⟨hu, rfl⟩; have hS := hS.upd0 hu; rw [hv, hvv]) | (refine WL.shr rfl rfl rfl Zd rfl rfl rfl ?_; rw [hsh]) | refine WL.conv64 rfl rfl rfl Zo rfl rfl rfl ?_ | (refine WL.store hS rfl rfl rfl Sb rfl rfl rfl ?_; intro w hS)) | (show WC _ _ _ _ _ _; first | refine WC.seq ?_ | refine WC.region ?_ | refine WC.skip ?_ | refine WC.ret ?_ | refine WC.condF rfl Zr ?_ | refine WC.condF rfl Zd ?_) | refine seqQ_n ?_)
  refine fin2r rfl rfl rfl ⟨?_, hS.mutOf Zh⟩
  refine congrArg (fun z => Value.tuple #[.int .i64 z, .int .i64 0]) ?_
  rw [hlo]
  exact hx1
theorem varE_zig {n : Int} (h : -9223372036854775808 ≤ n ∧ n ≤ 9223372036854775807) (t : List UInt8) : varE (putN (zigN n) ++ t) 0 0 = (zigN n, (putN (zigN n)).length, 0) := by
 have := varE_put (zigN n) (zigN n) (Nat.le_refl _) 0 0 t (.inr rfl) Zd (by have := zig_lt h; omega)
 simpa using this
theorem rintZ_e {r : Nat} {s : List UInt8} {p : Nat} {n : Int} {t : List UInt8} (hn : -9223372036854775808 ≤ n ∧ n ≤ 9223372036854775807) (hd : s.drop p = putN (zigN n) ++ t) {w0 : World} (h : RdAt r s p w0) (hi : inB (rdC r s p) w0) (hp : p ≤ s.length) (hl : s.length ≤ 1099511627776) : Cal Tryz.prog 170 [.pointer (some ⟨r, 0, none⟩)] w0
  (fun v w' => v = .tuple #[.int .i64 n, .int .i64 0] ∧ Mut w0 w' (rdC r s p) (rdC r s (p + (putN (zigN n)).length))) := by
 have := rint_e (r := r) (s := s) (p := p) (x := zigN n) (u := (putN (zigN n)).length) (by rw [hd]; exact varE_zig hn t) h hi hp hl
 rwa [unzig_zig] at this
open Go Go.J Go.RowKit
def QEnt (e : Ent) (b : Nat) : Prop := e.path.length + e.data.length + 3 ≤ b
theorem list2S {α : Type} {l : List α} (h : l.length = 2) : ∃ a b, l = [a, b] := by match l, h with | [a, b], _ => exact ⟨a, b, rfl⟩
theorem list3S {α : Type} {l : List α} (h : l.length = 3) : ∃ a b c, l = [a, b, c] := by match l, h with | [a, b, c], _ => exact ⟨a, b, c, rfl⟩
def NodeRd (cs : List Value) (b : Nat) : Prop := ∃ (k : Int) (d : List UInt8), cs = [.int .i64 k, str d] ∧ -9223372036854775808 ≤ k ∧ k ≤ 9223372036854775807 ∧ d.length + 2 ≤ b
theorem open_node {H : Type} (enc : TypeId × Value → H) (W : World) (fuel : Nat) (cs : List Value) (x : DataW H × List MemPlace) (h : DataW.trod enc Tryz.prog W 0 (fun _ => true) true fuel 94 cs = some x) : NodeRd cs (Rows.uptoBulk x.1) := by
 obtain ⟨xs, n, _, rfl, hlen, hxl, hf⟩ := DataW.trod_struct Tryz.underlying94 h
 obtain ⟨x0, x1, rfl⟩ := list2S hxl
 obtain ⟨c0, c1, rfl⟩ := list2S (hlen.trans Zk)
 obtain ⟨s0, e0, q0⟩ := Opens.int Tryz.underlying3 enc W n [c0] x0 (hf 0 _ rfl)
 obtain ⟨s1, e1, q1⟩ := Opens.str Tryz.underlying9 enc W n [c1] x1 (hf 1 _ rfl)
 have e0 : [c0] = [.int .i64 s0] := e0
 have e1 : [c1] = [str s1] := e1
 simp only [List.cons.injEq, and_true] at e0 e1
 subst e0 e1
 refine ⟨s0, s1, rfl, q0.1, q0.2.1, ?_⟩
 simp [Rows.uptoBulk, Rows.uptoBulkAll] at *
 omega
theorem open_ent : Opens Tryz.prog 165 cEnt QEnt := by
 intro H enc W fuel cs x h
 obtain ⟨xs, n, _, rfl, hlen, hxl, hf⟩ := DataW.trod_struct Tryz.underlying165 h
 obtain ⟨x0, x1, rfl⟩ := list2S hxl
 obtain ⟨c0, c1, c2, rfl⟩ := list3S (hlen.trans Zk)
 obtain ⟨s0, e0, q0⟩ := Opens.str Tryz.underlying9 enc W n [c0] x0 (hf 0 _ rfl)
 obtain ⟨k, d, e1, _, _, q1⟩ := open_node enc W n [c1, c2] x1 (hf 1 _ rfl)
 have e0 : [c0] = [str s0] := e0
 simp only [List.cons.injEq, and_true] at e0 e1
 obtain ⟨e1, e2⟩ := e1
 subst e0 e1 e2
 refine ⟨⟨s0, k, d⟩, rfl, ?_⟩
 unfold QEnt
 simp [Rows.uptoBulk, Rows.uptoBulkAll] at *
 omega
theorem arg_ents : Arg Tryz.prog 84 (ASl cEnt) (QL QEnt) := Arg.slice Tryz.underlying84 (Opens.slice Tryz.underlying84 Zk Zd open_ent)
theorem ql_each {α : Type} {Q : α → Nat → Prop} {ys : List α} {b : Nat} (h : QL Q ys b) (h1 : ∀ y n, Q y n → 1 ≤ n) : (∀ y ∈ ys, ∃ n, n ≤ b ∧ Q y n) ∧ ys.length ≤ b := by
 obtain ⟨bs, hl, hq, hs⟩ := h
 have hsum : ∀ bs : List Nat, (∀ n ∈ bs, n ≤ bs.sum) := by
  intro bs
  induction bs with
  |nil => intro n hn; cases hn
  |cons a l ih =>
   intro n hn
   rw [List.sum_cons]
   rcases List.mem_cons.1 hn with rfl | hn
   ·omega
   ·have := ih n hn; omega
 have hcnt : ∀ bs : List Nat, (∀ n ∈ bs, 1 ≤ n) → bs.length ≤ bs.sum := by
  intro bs
  induction bs with
  |nil => intro _; exact Nat.zero_le _
  |cons a l ih =>
   intro hn
   rw [List.sum_cons, List.length_cons]
   have := ih fun n h => hn n (List.mem_cons_of_mem _ h)
   have := hn a (List.mem_cons_self ..)
   omega
 refine ⟨fun y hy => ?_, ?_⟩
 ·obtain ⟨i, hi, rfl⟩ := List.getElem_of_mem hy
  have hi' : i < bs.length := Zo
  exact ⟨bs[i], by have := hsum bs _ (List.getElem_mem hi'); omega, hq i hi hi'⟩
 ·have := hcnt bs fun n hn => by
   obtain ⟨i, hi, rfl⟩ := List.getElem_of_mem hn
   exact h1 _ _ (hq i Zo hi)
  omega
theorem ents_each {y : List Ent} {b : Nat} (q : QL QEnt y b) (hb : b ≤ 1048576) : (∀ e ∈ y, e.path.length ≤ 1048576) ∧ y.length ≤ 1048576 := by
 obtain ⟨e0, l0⟩ := ql_each q fun y n h => (by unfold QEnt at h; omega)
 exact ⟨fun e he => by obtain ⟨n, hn, h⟩ := e0 e he; unfold QEnt at h; omega, Zo⟩
end Go.Proofs.YtccfiohagbneaaaGreatDoor
