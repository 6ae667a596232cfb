/- What is proved: contracts and plain facts that the law leans on (texts put together). Conditions: as each names them. -/
import Derived.Test.YtobfdeiimnnanaaGreatDoorM4
import Derived.Lib.Bytealg
import Derived.Shelf.Small.Strs
/- What is proved: what bytes of which one bit is turned are, and what the disk's Rot does. Conditions: texts of bounded length. -/
set_option linter.unusedSimpArgs false
set_option linter.unusedVariables false
namespace Go.Proofs.YtobfdeiimnnanaaGreatDoor
open Go Go.J Go.RowKit

/-- bytes of which one bit is turned -/
def turnK (s : List UInt8) (bit : Int) : Nat := (bit % (8 * (s.length : Int))).toNat
def turnE (s : List UInt8) (bit : Int) : List UInt8 := match s[turnK s bit / 8]? with
  | some c => s.set (turnK s bit / 8) (UInt8.ofNat (c.toNat ^^^ 2 ^ (turnK s bit % 8)))
  | none => s
theorem pow_lt256 {m : Nat} (h : m < 8) : 2 ^ m < 256 := by
  have : (2 : Nat) ^ m ≤ 2 ^ 7 := Nat.pow_le_pow_right (by omega) (by omega)
  omega
theorem turn_byte (c : UInt8) (m : Nat) (h : m < 8) : bits .xor .u8 (c.toNat : Int) (shlI .u8 1 (m : Int)) = (((UInt8.ofNat (c.toNat ^^^ 2 ^ m)).toNat : Nat) : Int) := by
  have hc := c.toNat_lt
  have hp := pow_lt256 h
  have e : shlI .u8 1 (m : Int) = ((2 ^ m : Nat) : Int) := by
    unfold shlI
    rw [show min (m : Int).toNat IntKind.u8.bits = m from by simp [IntKind.bits]; omega, IntKind.wrap_u8']
    have : (1 : Int) * 2 ^ m = ((2 ^ m : Nat) : Int) := by simp
    rw [this]; generalize (2 : Nat) ^ m = p at hp; omega
  rw [e, u8_xor_nat _ _ (by omega) hp]
  have hx : c.toNat ^^^ 2 ^ m < 256 := Nat.xor_lt_two_pow (n := 8) (by omega) (by omega)
  rw [ofNat_toNat hx]
theorem turnE_len (s : List UInt8) (bit : Int) : (turnE s bit).length = s.length := by
  unfold turnE
  split
  · rw [List.length_set]
  · rfl
set_option maxHeartbeats 4000000 in
set_option maxRecDepth 100000 in
theorem turn_c (s : List UInt8) (bit : Int) (w0 : World) (hl : s.length ≤ 1099511627776) : Cal Tryz.prog 75 [str s, .int .i64 bit] w0 (fun v w' => Upd [] w0 w' ∧ v = str (turnE s bit)) := by
  refine Cal.mk' (by kernel_rfl) Tryz.func75 rfl rfl fun hS => ?_
  by_cases h0 : s = []
  · subst h0
    repeat' (first
      | (show WL _ _ _ _ _ _ _; first
        | refine WL.pure rfl rfl rfl rfl ?_
        | refine WL.nil ?_)
      | (show WC _ _ _ _ _ _; first
        | refine WC.seq ?_
        | refine WC.region ?_
        | refine WC.ret ?_
        | refine WC.condT rfl (by decide) ?_)
      | refine seqQ_n ?_
      | refine seqQ_r ?_)
    exact fin1r rfl rfl ⟨hS.upd, rfl⟩
  · have hpos : 0 < s.length := by
      rcases Nat.eq_zero_or_pos s.length with h | h
      · exact absurd (List.eq_nil_of_length_eq_zero h) h0
      · exact h
    have hn8 : (0 : Int) < 8 * (s.length : Int) := by omega
    have hb := tmod_bound bit hn8
    have he0 := Int.emod_nonneg bit (show (8 * (s.length : Int)) ≠ 0 by omega)
    have he1 := Int.emod_lt_of_pos bit hn8
    obtain ⟨k, hk⟩ : ∃ k : Nat, bit % (8 * (s.length : Int)) = (k : Int) := ⟨_, (Int.toNat_of_nonneg he0).symm⟩
    have hkk : turnK s bit = k := by unfold turnK; rw [hk]; rfl
    have hk8 : k / 8 < s.length := by omega
    have hm := turn_byte s[k / 8] (k % 8) (by omega)
    have hT : turnE s bit = s.set (k / 8) (UInt8.ofNat (s[k / 8].toNat ^^^ 2 ^ (k % 8))) := by unfold turnE; rw [hkk, List.getElem?_eq_getElem hk8]
    have hj : s[k / 8]? = some s[k / 8] := List.getElem?_eq_getElem hk8
    rw [hT]
    generalize s[k / 8] = c at *
    generalize UInt8.ofNat (c.toNat ^^^ 2 ^ (k % 8)) = c' at *
    clear hT hkk
    have q1 : ((k : Int) / 8) = ((k / 8 : Nat) : Int) := rfl
    have q2 : ((k : Int) % 8) = ((k % 8 : Nat) : Int) := rfl
    repeat' (first
      | (show WL _ _ _ _ _ _ _; first
        | refine WL.pure rfl rfl rfl rfl ?_
        | refine WL.nil ?_
        | refine WL.add rfl rfl rfl (by omega) rfl rfl rfl ?_
        | (refine WL.mul rfl rfl rfl (by omega) rfl rfl rfl ?_)
        | (refine WL.remT rfl rfl rfl hn8 rfl rfl rfl ?_; rw [tmod_twice bit hn8, hk])
        | (refine WL.remT rfl rfl rfl hn8 rfl rfl rfl ?_)
        | (refine WL.s2b hS rfl rfl rfl rfl rfl rfl rfl ?_; intro w b cap hcap hS)
        | (refine WL.b2sBs hS rfl rfl rfl rfl (by repeat (first | exact List.Mem.head _ | apply List.Mem.tail)) (by rw [List.length_set]) rfl rfl rfl ?_))
      | (show WC _ _ _ _ _ _; first
        | refine WC.seq ?_
        | refine WC.region ?_
        | refine WC.skip ?_
        | refine WC.ret ?_
        | (show WC _ _ (Code.region _ (List.toArray [_, _, _, _, _, _, _, _, _, _, _]) true) _ _ _; refine WC.drawV hS [0,1,2,3,4,5,6,7,8,9] [0,1,2,3,4,5,6,7,8,9] 10 [] (by kernel_rfl) (by kernel_rfl) ?_; clear hS; intro w hS hM)
        | refine WC.condF rfl (decide_eq_false (by first | with_reducible assumption | omega)) ?_)
      | (show WD _ _ _ _ _ _ _ _ _; first
        | refine WD.pure rfl rfl rfl rfl rfl ?_
        | refine WD.nil ?_
        | (refine WD.quo rfl rfl rfl (by omega) (by omega) (by omega) rfl rfl rfl rfl ?_; rw [q1])
        | (refine WD.rem rfl rfl rfl (by omega) (by omega) rfl rfl rfl rfl ?_; rw [q2])
        | (refine WD.shl rfl rfl rfl (by omega) rfl rfl rfl rfl ?_)
        | (refine WD.load rfl rfl (LdOk.bs (by repeat (first | exact List.Mem.head _ | apply List.Mem.tail)) hj rfl ⟨_, rfl⟩) rfl rfl rfl rfl ?_)
        | (refine WD.pivBs hS rfl rfl (vint hm) (by repeat (first | exact Repl.here | apply Repl.there)) hk8 rfl rfl rfl rfl ?_; clear hS; intro w hS hM)
        | refine WD.index rfl rfl rfl rfl (by first | with_reducible assumption | omega) rfl rfl rfl rfl rfl ?_)
      | refine seqQ_n ?_)
    exact fin1r rfl rfl ⟨hS.upd, rfl⟩
def Dk.rot (D : Dk) (p : List UInt8) (bit : Int) : Int × Dk := if D.file p ≠ 0 then (D.file p, D) else (0, D.set p { D.at p with data := turnE (D.at p).data bit, kept := turnE (D.at p).kept bit })
end Go.Proofs.YtobfdeiimnnanaaGreatDoor

/- What is proved: parts of rows, cut in a region that draws its order. Conditions: none beyond the rules' own. -/
set_option linter.unusedSimpArgs false
set_option linter.unusedVariables false
namespace Go.J
open Go Go.RowKit
section
variable {P : Program} {N : Nat} {f : Fr} {w w0 : World} {Q : Post} {ops : List Oper} {q : List Nat} {l : List Nat} {i : Nat} {S : World → Prop}
theorem WD.highV {pl : Qs} {t e : TypeId} {size g off n cap j : Nat} {x y : Operand} {k : IntKind} (ho : (ix ops i).op = .slice t x none (some y) none) (he : elemOf P t = some (e, size)) (hx : ev f x = .slice (some ⟨g, off, none⟩) n cap) (hy : ev f y = .int k (Int.ofNat j)) (hj : j ≤ cap)
    (hq : pl.contains i = true) (hg : wants ops f (ix ops i) = true) {d : Nat} (hd : (ix ops i).dst = some d) (hn : Nat.blt d N = true) (h : WD P N S ops pl l (up f d (.slice (some ⟨g, off, none⟩) j cap)) w Q) : WD P N S ops pl (i :: l) f w Q :=
  .take hq hd hn (.inl ⟨hg, fun _ _ => run_sliceHigh ho he hx hy hj⟩) h
variable {M : List Nat} {H0 H : List Chunk} {Z0 Z : List Snap}
end
section
variable {P : Program} {N : Nat} {f : Fr} {w : World} {Q : Post} {ops l : List Oper} {o : Oper}
theorem wrapU64 {a : Int} (h : 0 ≤ a ∧ a < 18446744073709551616) : IntKind.u64.wrap a = a := by rw [IntKind.wrap_u64]; omega
def intoU64 (P : Program) (s d : TypeId) : Bool := match P.underlying s, P.underlying d with
  | some (.int _), some (.int .u64) => true
  | _, _ => false
/-- a number that fits, as an uint -/
theorem WL.cvU {s d' : TypeId} {x : Operand} {k : IntKind} {a : Int} (ho : o.op = .convert s d' x) (ht : intoU64 P s d' = true) (hx : ev f x = .int k a) (hr : 0 ≤ a ∧ a < 18446744073709551616)
    (hg : wants ops f o = true) {d : Nat} (hd : o.dst = some d) (hn : Nat.blt d N = true) (h : WL P N ops l (up f d (.int .u64 a)) w Q) : WL P N ops (o :: l) f w Q := by
  refine .pure (v := .int .u64 a) ?_ hg hd hn h
  unfold intoU64 at ht
  split at ht
  · rename_i k1 h1 h2
    unfold pureV
    rw [ho]
    simp only [pureOp, h1, h2, hx, wrapU64 hr]
    rfl
  · cases ht
end
end Go.J

/- What is proved: numbers and texts that are read are just what stands there. Conditions: none. -/
set_option linter.unusedSimpArgs false
set_option linter.unusedVariables false
namespace Go.Proofs.YtobfdeiimnnanaaGreatDoor
open Go Go.J Go.RowKit

/-- a frame that is read as a whole is that of its text -/
theorem readE_canon {t x : List UInt8} {u : Nat} (h : readE t = (x, u, 0)) : t.take u = packE x := by
  unfold readE at h
  split at h
  · split at h
    · cases h
    · split at h
      · rename_i h2
        simp only [Prod.mk.injEq, and_true] at h
        obtain ⟨rfl, rfl⟩ := h
        exact h2.symm
      · cases h
  · rename_i h0
    simp only [Prod.mk.injEq] at h
    exact absurd h.2.2 h0
theorem putN_mono : ∀ (k n m : Nat), n ≤ k → n ≤ m → (putN n).length ≤ (putN m).length := by
  intro k
  induction k using Nat.strongRecOn with
  | ind k ih =>
    intro n m hk h
    by_cases h1 : n < 128
    · rw [putN_small h1]
      exact List.length_pos_iff.2 (putN_ne m)
    · rw [putN_big h1, putN_big (show ¬ m < 128 by omega)]
      simp only [List.length_cons]
      have := ih (n / 128) (by omega) (n / 128) (m / 128) (Nat.le_refl _) (Nat.div_le_div_right h)
      omega
theorem pack_same_len {x y : List UInt8} (h : (packE x).length = (packE y).length) : x.length = y.length := by
  unfold packE textE at h
  have l4 : ∀ n, (le4 n).length = 4 := fun n => rfl
  simp only [List.length_append, l4] at h
  rcases Nat.lt_trichotomy x.length y.length with h1 | h1 | h1
  · have := putN_mono x.length x.length y.length (Nat.le_refl _) (Nat.le_of_lt h1); omega
  · exact h1
  · have := putN_mono y.length y.length x.length (Nat.le_refl _) (Nat.le_of_lt h1); omega
end Go.Proofs.YtobfdeiimnnanaaGreatDoor

/- What is proved: lists of entries, in plain lists: when they are trees. Conditions: none. -/
set_option linter.unusedSimpArgs false
set_option linter.unusedVariables false
namespace Go.J
open Go

theorem cmp_lt : ∀ a b : List UInt8, (Lib.compareBytes a b < 0 ↔ Op.bytesLess a b = true)
  | [], [] => by simp [Lib.compareBytes, Op.bytesLess]
  | [], _ :: _ => by simp [Lib.compareBytes, Op.bytesLess]
  | _ :: _, [] => by simp [Lib.compareBytes, Op.bytesLess]
  | a :: x, b :: y => by
    have ih := cmp_lt x y
    unfold Lib.compareBytes Op.bytesLess
    by_cases h1 : a < b
    · simp [h1]
    · rw [if_neg h1]
      by_cases h2 : b < a
      · have h3 : ¬ a = b := fun e => by subst e; exact h1 h2
        rw [if_pos h2]
        simp [h1, h3]
      · have h3 : a = b := by
          apply UInt8.toNat_inj.1
          have h1 : ¬ a.toNat < b.toNat := h1
          have h2 : ¬ b.toNat < a.toNat := h2
          omega
        rw [if_neg h2, ih]
        simp [h1, h3]
theorem cmp_eq : ∀ a b : List UInt8, (Lib.compareBytes a b = 0 ↔ a = b)
  | [], [] => by simp [Lib.compareBytes]
  | [], _ :: _ => by simp [Lib.compareBytes]
  | _ :: _, [] => by simp [Lib.compareBytes]
  | a :: x, b :: y => by
    have ih := cmp_eq x y
    unfold Lib.compareBytes
    by_cases h1 : a < b
    · rw [if_pos h1]
      constructor
      · intro h; omega
      · intro h
        rw [List.cons.injEq] at h
        rw [h.1] at h1
        exact absurd h1 (by simp)
    · rw [if_neg h1]
      by_cases h2 : b < a
      · rw [if_pos h2]
        constructor
        · intro h; omega
        · intro h
          rw [List.cons.injEq] at h
          rw [h.1] at h2
          exact absurd h2 (by simp)
      · have h3 : a = b := by
          apply UInt8.toNat_inj.1
          have h1 : ¬ a.toNat < b.toNat := h1
          have h2 : ¬ b.toNat < a.toNat := h2
          omega
        rw [if_neg h2, ih, h3]
        simp
theorem less_irr (a : List UInt8) : Op.bytesLess a a = false := by
  cases h : Op.bytesLess a a with
  | false => rfl
  | true =>
    have := (cmp_lt a a).2 h
    rw [(cmp_eq a a).2 rfl] at this
    omega
theorem less_trans : ∀ {a b c : List UInt8}, Op.bytesLess a b = true → Op.bytesLess b c = true → Op.bytesLess a c = true
  | _, _, [], _, h => by simp [Op.bytesLess] at h
  | _, [], _ :: _, h, _ => by simp [Op.bytesLess] at h
  | [], _ :: _, _ :: _, _, _ => by simp [Op.bytesLess]
  | x :: a, y :: b, z :: c, h1, h2 => by
    unfold Op.bytesLess at *
    simp only [Bool.or_eq_true, decide_eq_true_eq, Bool.and_eq_true, beq_iff_eq] at *
    rcases h1 with h1 | ⟨h1, h1'⟩ <;> rcases h2 with h2 | ⟨h2, h2'⟩
    · exact .inl (UInt8.lt_trans h1 h2)
    · subst h2; exact .inl h1
    · subst h1; exact .inl h2
    · subst h1 h2; exact .inr ⟨rfl, less_trans h1' h2'⟩
theorem less_asym {a b : List UInt8} (h : Op.bytesLess a b = true) : Op.bytesLess b a = false := by
  cases h2 : Op.bytesLess b a with
  | false => rfl
  | true => have := less_trans h h2; rw [less_irr] at this; cases this
/-! ## entries -/
structure Ent where
  path : List UInt8
  kind : Int
  data : List UInt8
instance : Inhabited Ent := ⟨⟨[], 0, []⟩⟩
def encEnt (e : Ent) : List Value := [str e.path, .int .i64 e.kind, str e.data]
def cEnt : Cod Ent := .flat encEnt 3 fun _ => rfl
/-- may a node be? -/
def wholeE (kind : Int) (data : List UInt8) : Bool := if kind = 0 ∨ kind = 1 then decide (data = []) else if kind = 2 then decide (data.length ≤ 4096) else false
/-- is an entry right behind those ahead of it? -/
structure EntOk (t : List Ent) (i : Nat) (h : i < t.length) : Prop where
  path : checkE t[i].path 5 = 0
  whole : wholeE t[i].kind t[i].data = true
  kind : t[i].kind ≠ 0
  ord : ∀ j (hj : j + 1 = i), Op.bytesLess (t[j]'(by omega)).path t[i].path = true
  up : parentE t[i].path ≠ [] → ∃ j, ∃ hj : j < i, (t[j]'(by omega)).path = parentE t[i].path ∧ (t[j]'(by omega)).kind = 1
def TreeOk (t : List Ent) : Prop := ∀ i (h : i < t.length), EntOk t i h
open Classical in
noncomputable def checkT (t : List Ent) : Int := if 200 < t.length then 4 else if TreeOk t then 0 else 3
/-- entries rise, up to a place -/
def Rise (t : List Ent) (n : Nat) : Prop := ∀ i j (hi : i < j) (hj : j < t.length), j < n → Op.bytesLess (t[i]'(by omega)).path t[j].path = true
theorem Rise.of {t : List Ent} {n : Nat} (h : ∀ i (h : i < t.length), i < n → ∀ j (hj : j + 1 = i), Op.bytesLess (t[j]'(by omega)).path t[i].path = true) : Rise t n := by
  intro i j hi hj hn
  induction j with
  | zero => omega
  | succ j ih =>
    have h1 := h (j + 1) hj hn j rfl
    by_cases e : i = j
    · subst e; exact h1
    · exact less_trans (ih (by omega) (by omega) (by omega)) h1
theorem TreeOk.rise {t : List Ent} (h : TreeOk t) : Rise t t.length := Rise.of fun i hi _ j hj => (h i hi).ord j hj
/-- what stands at a path: the first entry of it -/
def getT (t : List Ent) (p : List UInt8) : Ent := (t.find? fun e => decide (e.path = p)).getD ⟨[], 0, []⟩
theorem getT_at {t : List Ent} (hr : Rise t t.length) {i : Nat} (hi : i < t.length) : getT t t[i].path = t[i] := by
  unfold getT
  cases hf : t.find? fun e => decide (e.path = t[i].path) with
  | none => exact absurd (decide_eq_true rfl) (List.find?_eq_none.1 hf t[i] (List.getElem_mem hi))
  | some e =>
    have h1 := List.find?_some hf
    have h1 : e.path = t[i].path := by simpa using h1
    obtain ⟨j, hj, rfl⟩ := List.getElem_of_mem (List.mem_of_find?_eq_some hf)
    have : j = i := by
      rcases Nat.lt_trichotomy j i with h | h | h
      · have := hr j i h hi hi; rw [h1, less_irr] at this; cases this
      · exact h
      · have := hr i j h hj hj; rw [h1, less_irr] at this; cases this
    subst this
    rfl
theorem getT_no {t : List Ent} {p : List UInt8} (h : ∀ e ∈ t, e.path ≠ p) : getT t p = ⟨[], 0, []⟩ := by
  unfold getT
  rw [List.find?_eq_none.2 fun e he => by simpa using h e he]
  rfl
end Go.J

/- What is proved: two ways to tell whether a list of entries is a tree. Conditions: none. -/
set_option linter.unusedSimpArgs false
set_option linter.unusedVariables false
namespace Go.J
open Go

theorem parent_less {p : List UInt8} (h : parentE p ≠ []) : Op.bytesLess (parentE p) p = true := by
  have hl := lastE_ge p
  have hlt : (lastE p).toNat < p.length := by
    apply Classical.byContradiction
    intro hn
    have : p = [] := by
      cases p with
      | nil => rfl
      | cons a l => simp at hn hl; omega
    subst this
    exact h (by unfold parentE; simp)
  unfold parentE
  have e := List.take_append_drop (lastE p).toNat p
  cases hd : p.drop (lastE p).toNat with
  | nil =>
    have := congrArg List.length hd
    rw [List.length_drop] at this
    simp at this
    omega
  | cons c r =>
    rw [hd] at e
    have h2 := less_app [] r c (p.take (lastE p).toNat)
    rw [e] at h2
    exact h2
theorem getT_kind {t : List Ent} (hr : Rise t t.length) {q : List UInt8} : (getT t q).kind = 1 ↔ ∃ j, ∃ h : j < t.length, t[j].path = q ∧ t[j].kind = 1 := by
  constructor
  · intro hk
    unfold getT at hk
    cases hf : t.find? fun e => decide (e.path = q) with
    | none => rw [hf] at hk; exact absurd hk (by decide)
    | some e =>
      rw [hf] at hk
      have h1 := List.find?_some hf
      have h1 : e.path = q := by simpa using h1
      obtain ⟨j, hj, rfl⟩ := List.getElem_of_mem (List.mem_of_find?_eq_some hf)
      exact ⟨j, hj, h1, hk⟩
  · rintro ⟨j, hj, rfl, hk⟩
    rw [getT_at hr hj]
    exact hk
/-- as the document tells it -/
structure RefOk (t : List Ent) (i : Nat) (h : i < t.length) : Prop where
  path : checkE t[i].path 5 = 0
  whole : wholeE t[i].kind t[i].data = true
  kind : t[i].kind ≠ 0
  ord : ∀ j (hj : j + 1 = i), Op.bytesLess (t[j]'(by omega)).path t[i].path = true
  up : parentE t[i].path ≠ [] → (getT t (parentE t[i].path)).kind = 1
theorem refOk_tree {t : List Ent} (h : ∀ i (h : i < t.length), RefOk t i h) : TreeOk t := by
  have hr : Rise t t.length := Rise.of fun i hi _ j hj => (h i hi).ord j hj
  refine fun i hi => ⟨(h i hi).path, (h i hi).whole, (h i hi).kind, (h i hi).ord, fun hne => ?_⟩
  obtain ⟨j, hj, e1, e2⟩ := (getT_kind hr).1 ((h i hi).up hne)
  have hpl := parent_less hne
  rw [← e1] at hpl
  refine ⟨j, ?_, e1, e2⟩
  rcases Nat.lt_trichotomy j i with h4 | h4 | h4
  · exact h4
  · subst h4; rw [less_irr] at hpl; cases hpl
  · have := hr i j h4 hj hj
    rw [less_asym hpl] at this
    cases this
theorem tree_refOk {t : List Ent} (h : TreeOk t) : ∀ i (h : i < t.length), RefOk t i h := fun i hi =>
  ⟨(h i hi).path, (h i hi).whole, (h i hi).kind, (h i hi).ord, fun hne => by
    obtain ⟨j, hj, e1, e2⟩ := (h i hi).up hne
    exact (getT_kind h.rise).2 ⟨j, by omega, e1, e2⟩⟩
/-- entries up to a place are as they should -/
def TreeTo (t : List Ent) (n : Nat) : Prop := ∀ i (h : i < t.length), i < n → EntOk t i h
theorem TreeTo.rise {t : List Ent} {n : Nat} (h : TreeTo t n) : Rise t n := Rise.of fun i hi hn j hj => (h i hi hn).ord j hj
theorem Rise.take {t : List Ent} {n : Nat} (h : Rise t n) (hn : n ≤ t.length) : Rise (t.take n) (t.take n).length := by
  intro i j hi hj _
  rw [List.length_take] at hj
  rw [List.getElem_take, List.getElem_take]
  exact h i j hi (by omega) (by omega)
theorem up_take {t : List Ent} {n : Nat} (h : Rise t n) (hn : n ≤ t.length) {q : List UInt8} : (getT (t.take n) q).kind = 1 ↔ ∃ j, ∃ hj : j < n, (t[j]'(by omega)).path = q ∧ (t[j]'(by omega)).kind = 1 := by
  rw [getT_kind (h.take hn)]
  constructor
  · rintro ⟨j, hj, e1, e2⟩
    rw [List.length_take] at hj
    rw [List.getElem_take] at e1 e2
    exact ⟨j, by omega, e1, e2⟩
  · rintro ⟨j, hj, e1, e2⟩
    refine ⟨j, by rw [List.length_take]; omega, ?_, ?_⟩ <;> rw [List.getElem_take]
    · exact e1
    · exact e2
end Go.J

/- What is proved: frames of which a bit is turned; what an archive keeps. Conditions: texts of bounded length. -/
set_option linter.unusedSimpArgs false
set_option linter.unusedVariables false
namespace Go.Proofs.YtobfdeiimnnanaaGreatDoor
open Go Go.J Go.RowKit

theorem xor_neA (c : UInt8) (m : Nat) (h : m < 8) : UInt8.ofNat (c.toNat ^^^ 2 ^ m) ≠ c := fun e => by
  have hc := c.toNat_lt
  have hp := pow_lt256 h
  have h2 := congrArg UInt8.toNat e
  rw [ofNat_toNat (Nat.xor_lt_two_pow (n := 8) (by omega) (by omega))] at h2
  have h3 := congrArg (fun n => c.toNat ^^^ n) h2
  simp only [← Nat.xor_assoc, Nat.xor_self, Nat.zero_xor] at h3
  have : 0 < 2 ^ m := Nat.pow_pos (by omega)
  omega
theorem turnK_lt {s : List UInt8} (h : s ≠ []) (bit : Int) : turnK s bit / 8 < s.length := by
  have hp := List.length_pos_iff.2 h
  unfold turnK
  have h1 := Int.emod_nonneg bit (b := 8 * (s.length : Int)) (by omega)
  have h2 := Int.emod_lt_of_pos bit (b := 8 * (s.length : Int)) (by omega)
  omega
theorem turnE_at {s : List UInt8} (h : s ≠ []) (bit : Int) : turnE s bit = s.set (turnK s bit / 8) (UInt8.ofNat ((s[turnK s bit / 8]'(turnK_lt h bit)).toNat ^^^ 2 ^ (turnK s bit % 8))) := by
  conv => lhs; unfold turnE
  rw [List.getElem?_eq_getElem (turnK_lt h bit)]
theorem turnE_eq {s : List UInt8} {bit : Int} {c : UInt8} (hc : s[turnK s bit / 8]? = some c) : turnE s bit = s.set (turnK s bit / 8) (UInt8.ofNat (c.toNat ^^^ 2 ^ (turnK s bit % 8))) := by unfold turnE; rw [hc]
/-- turned twice it is as it was -/
theorem turnE_twice (s : List UInt8) (bit : Int) : turnE (turnE s bit) bit = s := by
  by_cases h : s = []
  · subst h; rfl
  · have hk : turnK (turnE s bit) bit = turnK s bit := by unfold turnK; rw [turnE_len]
    have hl := turnK_lt h bit
    have h8 : turnK s bit % 8 < 8 := Nat.mod_lt _ (by decide)
    have hc := (s[turnK s bit / 8]).toNat_lt
    have hp := pow_lt256 h8
    have e1 := turnE_at h bit
    have e2 := turnE_eq (s := turnE s bit) (bit := bit) (c := UInt8.ofNat ((s[turnK s bit / 8]).toNat ^^^ 2 ^ (turnK s bit % 8))) (by
      rw [hk, e1, List.getElem?_set, if_pos rfl, if_pos hl])
    rw [e2, hk, e1, ofNat_toNat (Nat.xor_lt_two_pow (n := 8) (by omega) (by omega)), Nat.xor_assoc, Nat.xor_self, Nat.xor_zero, UInt8.ofNat_toNat, List.set_set]
    exact List.set_getElem_self hl
/-- a frame of which a bit is turned is not read as a whole -/
theorem turned_bad (s : List UInt8) (bit : Int) (hs : s.length < 9223372036854775808) : (readE (turnE (packE s) bit)).2.2 ≠ 0 ∨ (readE (turnE (packE s) bit)).2.1 ≠ (turnE (packE s) bit).length := by
  rcases hr : readE (turnE (packE s) bit) with ⟨x, u, e⟩
  by_cases he : e = 0
  · by_cases hu : u = (turnE (packE s) bit).length
    · exfalso
      subst he
      have hc := readE_canon hr
      rw [hu, List.take_length] at hc
      have hne : packE s ≠ [] := by unfold packE textE; intro h; simp [le4] at h
      have hlt := turnK_lt hne bit
      have hat := turnE_at hne bit
      have hlen := turnE_len (packE s) bit
      rw [hc] at hlen
      have hxs := pack_same_len hlen
      have h8 : turnK (packE s) bit % 8 < 8 := Nat.mod_lt _ (by decide)
      have hx := xor_neA ((packE s)[turnK (packE s) bit / 8]) _ h8
      by_cases hj : turnK (packE s) bit / 8 < (putN s.length).length
      · -- within the length: both frames have the same there
        have h1 := congrArg (fun l => l[turnK (packE s) bit / 8]?) (hc.symm.trans hat)
        rw [List.getElem?_set, if_pos rfl, if_pos hlt] at h1
        have h2 : ∀ j, j < (putN s.length).length → (packE x)[j]? = (packE s)[j]? := fun j hj => by
          unfold packE textE
          rw [List.append_assoc, List.append_assoc, List.getElem?_append_left (by rw [hxs]; exact hj), List.getElem?_append_left hj, hxs]
        rw [h2 _ hj, List.getElem?_eq_getElem hlt] at h1
        exact hx (Option.some.inj h1).symm
      · have h := readE_rot s (turnK (packE s) bit / 8) (UInt8.ofNat (((packE s)[turnK (packE s) bit / 8]).toNat ^^^ 2 ^ (turnK (packE s) bit % 8))) [] hs (by omega) hlt (by
          rw [List.getElem?_eq_getElem hlt]
          intro e
          exact hx (Option.some.inj e).symm)
        rw [List.append_nil, ← hat, hr] at h
        cases h
    · exact .inr hu
  · exact .inl he
/-! ## what an archive keeps: paths and keys -/
structure Ae where
  path : List UInt8
  key : List UInt8
def arcRow (a : Ae) : List UInt8 := textE a.path ++ textE a.key
def arcE (l : List Ae) : List UInt8 := putN l.length ++ l.flatMap arcRow
def arcK (spoke : Int) : List UInt8 := [97, 47] ++ Lib.itoa spoke
end Go.Proofs.YtobfdeiimnnanaaGreatDoor

/- What is proved: contents that are held by archives, in plain lists. Conditions: as each names them. -/
set_option linter.unusedSimpArgs false
set_option linter.unusedVariables false
namespace Go.Proofs.YtobfdeiimnnanaaGreatDoor
open Go Go.J Go.RowKit

/-- keys and contents that are held: each is there, and counted often enough (ex: just so often) -/
structure Held (ex : Prop) (L : List One) (Hd : List (List UInt8 × List UInt8)) : Prop where
  have_ : ∀ p ∈ Hd, ∃ x ∈ L, x.key = p.1 ∧ x.data = p.2
  cnt : ∀ x ∈ L, (Hd.map Prod.snd).count x.data ≤ x.refs ∧ (ex → x.refs = (Hd.map Prod.snd).count x.data)
theorem Held.nil (ex : Prop) : Held ex [] [] := ⟨fun p h => (by cases h), fun x h => (by cases h)⟩
section
variable {ex : Prop} {L : List One} {Hd Hd' : List (List UInt8 × List UInt8)}
theorem Held.perm (h : Held ex L Hd) (hp : Hd.Perm Hd') : Held ex L Hd' := by
  have hc : ∀ d, (Hd'.map Prod.snd).count d = (Hd.map Prod.snd).count d := fun d => ((hp.map Prod.snd).count_eq d).symm
  exact ⟨fun p hm => h.have_ p (hp.mem_iff.2 hm), fun x hx => by rw [hc]; exact h.cnt x hx⟩
/-- some are let go, without a word -/
theorem Held.less {A : List (List UInt8 × List UInt8)} (h : Held ex L (A ++ Hd)) : Held False L Hd := by
  refine ⟨fun p hm => h.have_ p (List.mem_append_right _ hm), fun x hx => ⟨?_, fun hf => hf.elim⟩⟩
  have := (h.cnt x hx).1
  rw [List.map_append, List.count_append] at this
  omega
theorem Held.put (h : Held ex L Hd) (hk : (L.map One.key).Nodup) (hd : (L.map One.data).Nodup) (data : List UInt8) : Held ex (putB L data).1 (((putB L data).2, data) :: Hd) := by
  refine ⟨fun p hp => ?_, fun y hy => ?_⟩
  · rcases List.mem_cons.1 hp with rfl | hp
    · obtain ⟨y, hy, e1, e2⟩ := put_has hd data
      exact ⟨y, hy, e2, e1⟩
    · obtain ⟨x, hx, e1, e2⟩ := h.have_ p hp
      obtain ⟨y, hy, e3, e4⟩ := put_keeps hd data hx
      exact ⟨y, hy, e4.trans e1, e3.trans e2⟩
  · rw [List.map_cons]
    by_cases hz : ∃ z ∈ L, z.data = data
    · obtain ⟨z, hz, rfl⟩ := hz
      rw [putB_old hd hz rfl] at hy
      obtain ⟨x, hx, e1, e2, e3, e4, e5⟩ := mem_upd hy
      obtain ⟨h1, h2⟩ := h.cnt x hx
      rw [e5, e4]
      show List.count x.data (z.data :: Hd.map Prod.snd) ≤ _ ∧ _
      by_cases he : x.key = z.key
      · have := nd_key hk hx hz he
        subst this
        rw [if_pos rfl, List.count_cons_self]
        exact ⟨by omega, fun he => by have := h2 he; omega⟩
      · have hne : z.data ≠ x.data := fun e => he (by rw [nd_data hd hz hx e])
        rw [if_neg he, List.count_cons_of_ne hne]
        exact ⟨h1, h2⟩
    · have hz : ∀ x ∈ L, x.data ≠ data := fun x h1 h2 => hz ⟨x, h1, h2⟩
      have hno : (Hd.map Prod.snd).count data = 0 := List.count_eq_zero.2 fun hm => by
        obtain ⟨p, hp, e⟩ := List.mem_map.1 hm
        obtain ⟨x, hx, _, e2⟩ := h.have_ p hp
        exact hz x hx (e2.trans e)
      rw [putB_new hz] at hy
      show List.count y.data (data :: Hd.map Prod.snd) ≤ _ ∧ _
      rcases List.mem_append.1 hy with hy | hy
      · obtain ⟨h1, h2⟩ := h.cnt y hy
        rw [List.count_cons_of_ne (fun e => hz y hy e.symm)]
        exact ⟨h1, h2⟩
      · rw [List.mem_singleton.1 hy]
        dsimp only
        rw [List.count_cons_self, hno]
        exact ⟨Nat.le_refl _, fun _ => rfl⟩
theorem Held.rel {k d : List UInt8} (h : Held ex L ((k, d) :: Hd)) (hk : (L.map One.key).Nodup) (hd : (L.map One.data).Nodup) : (∃ x, findB L k = some x) ∧ Held ex (relB L k) Hd := by
  obtain ⟨x, hx, e2, e1⟩ := h.have_ _ (List.mem_cons_self ..)
  replace e1 : x.data = d := e1
  replace e2 : x.key = k := e2
  subst e2
  have hf := find_of hk hx
  obtain ⟨hr1, hr2⟩ := h.cnt x hx
  rw [List.map_cons] at hr1 hr2
  replace hr1 : List.count x.data (d :: Hd.map Prod.snd) ≤ x.refs := hr1
  replace hr2 : ex → x.refs = List.count x.data (d :: Hd.map Prod.snd) := hr2
  rw [e1, List.count_cons_self] at hr1 hr2
  refine ⟨⟨x, hf⟩, fun p hp => ?_, fun y hy => ?_⟩
  · obtain ⟨y, hy, f2, f1⟩ := h.have_ p (List.mem_cons_of_mem _ hp)
    unfold relB
    rw [hf]
    dsimp only
    by_cases h1 : 1 < x.refs
    · rw [if_pos h1]
      refine ⟨if y.key = x.key then { y with refs := x.refs - 1 } else y, List.mem_map.2 ⟨y, hy, rfl⟩, ?_, ?_⟩
      · rw [← f2]; split <;> rfl
      · rw [← f1]; split <;> rfl
    · rw [if_neg h1]
      refine ⟨y, List.mem_filter.2 ⟨hy, decide_eq_true fun e => ?_⟩, f2, f1⟩
      have := nd_key hk hy hx e
      subst this
      have h2 : 0 < (Hd.map Prod.snd).count d := List.count_pos_iff.2 (by rw [← e1, f1]; exact List.mem_map.2 ⟨p, hp, rfl⟩)
      omega
  · unfold relB at hy
    rw [hf] at hy
    dsimp only at hy
    by_cases h1 : 1 < x.refs
    · rw [if_pos h1] at hy
      obtain ⟨z, hz, g1, g2, g3, g4, g5⟩ := mem_upd hy
      obtain ⟨b1, b2⟩ := h.cnt z hz
      rw [g4, g5]
      by_cases hzx : z.key = x.key
      · have := nd_key hk hz hx hzx
        subst this
        rw [if_pos rfl, e1]
        exact ⟨by omega, fun he => by have := hr2 he; omega⟩
      · have hne : d ≠ z.data := fun e => hzx (by rw [nd_data hd hz hx (e.symm.trans e1.symm)])
        rw [List.map_cons] at b1 b2
        have b1 : List.count z.data (d :: Hd.map Prod.snd) ≤ z.refs := b1
        have b2 : ex → z.refs = List.count z.data (d :: Hd.map Prod.snd) := b2
        rw [List.count_cons_of_ne hne] at b1 b2
        rw [if_neg hzx]
        exact ⟨b1, b2⟩
    · rw [if_neg h1] at hy
      obtain ⟨hz, hne'⟩ := List.mem_filter.1 hy
      have hne' := of_decide_eq_true hne'
      obtain ⟨b1, b2⟩ := h.cnt y hz
      have hne : d ≠ y.data := fun e => hne' (by rw [nd_data hd hz hx (e.symm.trans e1.symm)])
      rw [List.map_cons] at b1 b2
      have b1 : List.count y.data (d :: Hd.map Prod.snd) ≤ y.refs := b1
      have b2 : ex → y.refs = List.count y.data (d :: Hd.map Prod.snd) := b2
      rw [List.count_cons_of_ne hne] at b1 b2
      exact ⟨b1, b2⟩
/-- the contents are just those that are held -/
theorem Held.same {rows : Rws} {m : Bch} {K : Nat} (h : Held True L Hd) (hb : BlobIs rows m L K) (d : List UInt8) : d ∈ L.map One.data ↔ d ∈ Hd.map Prod.snd := by
  constructor
  · intro hd
    obtain ⟨x, hx, rfl⟩ := List.mem_map.1 hd
    have h1 := hb.refs x hx
    have h2 := (h.cnt x hx).2 trivial
    exact List.count_pos_iff.1 (by omega)
  · intro hd
    obtain ⟨p, hp, rfl⟩ := List.mem_map.1 hd
    obtain ⟨x, hx, _, e⟩ := h.have_ p hp
    exact List.mem_map.2 ⟨x, hx, e⟩
end
end Go.Proofs.YtobfdeiimnnanaaGreatDoor

/- What is proved: what a batch holds for archives, in plain lists. Conditions: as each names them. -/
set_option linter.unusedSimpArgs false
set_option linter.unusedVariables false
namespace Go.Proofs.YtobfdeiimnnanaaGreatDoor
open Go Go.J Go.RowKit

/-- an archive: its tree, its paths and keys, the bit that is turned -/
structure Arc where
  tree : List Ent
  l : List Ae
  bit : Option Int
def Arc.raw (a : Arc) : List UInt8 := packE (arcE a.l)
def Arc.val (a : Arc) : List UInt8 := match a.bit with
  | none => a.raw
  | some b => turnE a.raw b
def pairO (e : Ent) (r : Ae) : Option (List UInt8 × List UInt8) := if e.kind = 2 then some (r.key, e.data) else none
def pairsE (t : List Ent) (l : List Ae) : List (List UInt8 × List UInt8) := (List.zipWith pairO t l).filterMap id
/-- what the rows of a tree are -/
structure RowOk (e : Ent) (r : Ae) : Prop where
  path : r.path = e.path
  file : e.kind = 2 → r.key ≠ []
  dir : e.kind ≠ 2 → r.key = [] ∧ e.kind = 1 ∧ e.data = []
  keyl : r.key.length ≤ 100
structure ArcOk (a : Arc) : Prop where
  tree : TreeOk a.tree
  few : a.tree.length ≤ 200
  len : a.l.length = a.tree.length
  row : ∀ i (h : i < a.tree.length), RowOk a.tree[i] (a.l[i]'(by omega))
  size : ∀ e ∈ a.tree, e.path.length ≤ 1048576
def keysA (l : List Ae) : List (List UInt8) := (l.map Ae.key).filter fun k => decide (k ≠ [])
theorem pairs_keys : ∀ {t : List Ent} {l : List Ae} (hl : l.length = t.length) (h : ∀ i (h : i < t.length), RowOk t[i] (l[i]'(by omega))), (pairsE t l).map Prod.fst = keysA l
  | [], [], _, _ => rfl
  | [], _ :: _, hl, _ => by cases hl
  | _ :: _, [], hl, _ => by cases hl
  | e :: t, r :: l, hl, h => by
    have hl : l.length = t.length := by simpa using hl
    have ih := pairs_keys (t := t) (l := l) hl fun i hi => h (i + 1) (by simp; omega)
    have h0 : RowOk e r := h 0 (by simp)
    unfold pairsE keysA at *
    rw [List.zipWith_cons_cons, List.filterMap_cons, List.map_cons, List.filter_cons]
    by_cases hk : e.kind = 2
    · have e1 : pairO e r = some (r.key, e.data) := if_pos hk
      rw [e1, if_pos (by simpa using h0.file hk)]
      show r.key :: _ = r.key :: _
      rw [ih]
    · have e1 : pairO e r = none := if_neg hk
      rw [e1, if_neg (by simp [(h0.dir hk).1])]
      exact ih
theorem pairs_snoc {t : List Ent} {l : List Ae} (hl : l.length = t.length) (e : Ent) (r : Ae) : pairsE (t ++ [e]) (l ++ [r]) = pairsE t l ++ (pairO e r).toList := by
  unfold pairsE
  rw [List.zipWith_append hl.symm, List.filterMap_append]
  cases h : pairO e r <;> simp [h]
theorem pairs_mem {t : List Ent} {l : List Ae} {i : Nat} (h1 : i < t.length) (h2 : i < l.length) (hk : t[i].kind = 2) : (l[i].key, t[i].data) ∈ pairsE t l := by
  unfold pairsE
  rw [List.mem_filterMap]
  refine ⟨some (l[i].key, t[i].data), List.mem_iff_getElem.2 ⟨i, by rw [List.length_zipWith]; omega, ?_⟩, rfl⟩
  rw [List.getElem_zipWith]
  exact if_pos hk
def partA : Option Arc → List (List UInt8 × List UInt8)
  | some a => if a.bit = none then pairsE a.tree a.l else []
  | none => []
/-- what all archives hold -/
def heldA (P : Nat → Option Arc) : List (List UInt8 × List UInt8) := (List.range 7).flatMap fun n => partA (P n)
def updA (P : Nat → Option Arc) (n : Nat) (v : Option Arc) : Nat → Option Arc := fun k => if k = n then v else P k
theorem flat_perm {α β : Type} [DecidableEq α] {f : α → List β} : ∀ {l : List α} {n : α}, n ∈ l → (l.flatMap f).Perm (f n ++ (l.erase n).flatMap f)
  | a :: l, n, h => by
    by_cases e : a = n
    · subst e; rw [List.erase_cons_head, List.flatMap_cons]
    · have hm : n ∈ l := by rcases List.mem_cons.1 h with h | h; exact absurd h.symm e; exact h
      rw [List.erase_cons_tail (by simpa using e), List.flatMap_cons, List.flatMap_cons]
      have ih := flat_perm (f := f) hm
      refine (List.Perm.append_left (f a) ih).trans ?_
      rw [← List.append_assoc, ← List.append_assoc]
      exact List.perm_append_comm.append_right _
theorem held_split (P : Nat → Option Arc) {n : Nat} (hn : n ≤ 6) (v : Option Arc) : (heldA (updA P n v)).Perm (partA v ++ heldA (updA P n none)) := by
  have hm : n ∈ List.range 7 := List.mem_range.2 (by omega)
  have h1 := flat_perm (f := fun k => partA (updA P n v k)) hm
  have h2 := flat_perm (f := fun k => partA (updA P n none k)) hm
  have hnd : (List.range 7).Nodup := List.nodup_range
  have hsame : ((List.range 7).erase n).flatMap (fun k => partA (updA P n v k)) = ((List.range 7).erase n).flatMap fun k => partA (updA P n none k) := by
    rw [List.flatMap_def, List.flatMap_def]
    congr 1
    refine List.map_congr_left fun k hk => ?_
    have hne : k ≠ n := fun e => by subst e; exact (hnd.not_mem_erase) hk
    show partA (if k = n then v else P k) = partA (if k = n then none else P k)
    rw [if_neg hne, if_neg hne]
  have e1 : updA P n v n = v := if_pos rfl
  have e2 : updA P n none n = none := if_pos rfl
  rw [e1, hsame] at h1
  rw [e2] at h2
  exact h1.trans (List.Perm.append_left _ h2.symm)
theorem updA_self (P : Nat → Option Arc) (n : Nat) : updA P n (P n) = P := funext fun k => by
  show (if k = n then P n else P k) = P k
  split
  · rename_i e; rw [e]
  · rfl
theorem held_at (P : Nat → Option Arc) {n : Nat} (hn : n ≤ 6) : (heldA P).Perm (partA (P n) ++ heldA (updA P n none)) := by
  have := held_split P hn (P n)
  rwa [updA_self] at this
theorem arcK_inj {a b : Nat} (hb : 1 ≤ b) (h : arcK (a : Int) = arcK (b : Int)) : a = b := by
  have h := List.append_cancel_left h
  rw [itoa_nat, itoa_nat] at h
  exact dec_inj h
theorem arcK_take (n : Int) : (arcK n).take 2 ≠ [98, 47] := by
  show ([97, 47] : List UInt8) ≠ [98, 47]
  decide
/-- a batch that holds archives and their contents -/
structure ArcIs (ex : Prop) (rows : Rws) (m : Bch) (L : List One) (K : Nat) (P : Nat → Option Arc) : Prop where
  blob : BlobIs rows m L K
  held : Held ex L (heldA P)
  has : ∀ n a, 1 ≤ n → n ≤ 6 → P n = some a → bgetE rows m (arcK (n : Int)) = (a.val, true)
  no : ∀ n, 1 ≤ n → n ≤ 6 → P n = none → (bgetE rows m (arcK (n : Int))).2 = false
  ok : ∀ n a, P n = some a → ArcOk a
  only : ∀ k, (bgetE rows m k).2 = true → begB [97, 47] k = true → ∃ n : Nat, 1 ≤ n ∧ n ≤ 6 ∧ k = arcK (n : Int)
  zero : P 0 = none
theorem ArcIs.nil (ex : Prop) : ArcIs ex [] [] [] 0 fun _ => none :=
  ⟨⟨by simp, by simp, by simp, fun k h => (by cases h), by simp, by simp, by simp, Nat.le_refl _, by simp, by simp, by simp⟩, Held.nil ex, fun n a _ _ h => (by cases h), fun n _ _ _ => rfl, fun n a h => (by cases h), fun k h => (by cases h), rfl⟩
end Go.Proofs.YtobfdeiimnnanaaGreatDoor

/- What is proved: what find, Get, Whole and Check of the package tree answer. Conditions: entries of bounded length; Get at entries that rise. -/
set_option linter.unusedSimpArgs false
set_option linter.unusedVariables false
namespace Go.Proofs.YtobfdeiimnnanaaGreatDoor
open Go Go.J Go.RowKit

theorem compare_c (a b : List UInt8) (w0 : World) : Cal Tryz.prog 189 [str a, str b] w0 (fun v w' => Upd [] w0 w' ∧ v = .int .i64 (Lib.compareBytes a b)) :=
  ⟨by kernel_rfl, (Any.strings_Compare Tryz.compareL ⟨⟨a⟩⟩ ⟨⟨b⟩⟩ w0).mono fun e w' ⟨h1, h2⟩ => ⟨_, h1, by rw [h2]; exact .refl _ _, rfl⟩⟩
set_option maxHeartbeats 4000000 in
set_option maxRecDepth 100000 in
theorem tcmp_c (e : Ent) (p : List UInt8) (w0 : World) : Cal Tryz.prog 188 [.agg ⟨encEnt e⟩, str p] w0 (fun v w' => Upd [] w0 w' ∧ v = .int .i64 (Lib.compareBytes e.path p)) := by
  refine Cal.mk' (by kernel_rfl) Tryz.func188 rfl rfl fun hS => ?_
  obtain ⟨path, kind, data⟩ := e
  repeat' (first
    | (show WL _ _ _ _ _ _ _; first
      | refine WL.pure rfl rfl rfl rfl ?_
      | refine WL.nil ?_
      | refine WL.load hS rfl rfl (LdOk.box (by repeat (first | exact List.Mem.head _ | apply List.Mem.tail)) rfl) rfl rfl rfl ?_
      | (refine WL.calls hS rfl rfl (compare_c path p _) rfl rfl rfl ?_; rintro v w rfl hS)
      | (refine WL.box hS rfl rfl rfl rfl rfl ?_; intro w b hS))
    | (show WC _ _ _ _ _ _; first
      | refine WC.seq ?_
      | refine WC.region ?_
      | refine WC.ret ?_)
    | refine seqQ_n ?_)
  exact fin1r rfl rfl ⟨hS.upd, rfl⟩
def findIs (t : List Ent) (p : List UInt8) (i : Nat) (b : Bool) : Prop := (b = true ∧ ∃ h : i < t.length, t[i].path = p) ∨ (b = false ∧ ∀ e ∈ t, e.path ≠ p)
abbrev cmpF : Value := .func (.func 188) ⟨[]⟩ ⟨[]⟩
set_option maxHeartbeats 16000000 in
set_option maxRecDepth 100000 in
theorem bsearch_c (t : List Ent) (p : List UInt8) {A : Option Addr} {cap : Nat} {w0 : World} (hA : SlAt cEnt (Old w0) w0 A t) (hr : Rise t t.length) (hl : t.length ≤ 1048576) :
    Cal Tryz.prog 187 [.slice A t.length cap, str p, cmpF] w0 (fun v w' => Upd [] w0 w' ∧ ∃ (i : Nat) (b : Bool), v = .tuple #[.int .i64 (i : Int), .bool b] ∧ findIs t p i b) := by
  refine Cal.mk' (by kernel_rfl) Tryz.func187 rfl rfl fun hS => ?_
  repeat' (first
    | (show WL _ _ _ _ _ _ _; first
      | refine WL.pure rfl rfl rfl rfl ?_
      | refine WL.nil ?_)
    | (show WC _ _ _ _ _ _; first
      | refine WC.seq ?_
      | refine WC.region ?_
      | refine WC.block ?_)
    | refine seqQ_n ?_)
  refine WC.loop (σ := Nat × Nat) [0, 1, 2, 8] (fun (i, j) => [(9, .int .i64 (i : Int)), (10, .int .i64 (j : Int))])
    (fun (i, j) w => (i ≤ j ∧ j ≤ t.length ∧ (∀ k (h : k < t.length), k < i → Op.bytesLess t[k].path p = true) ∧ (∀ k (h : k < t.length), j ≤ k → Op.bytesLess t[k].path p = false)) ∧ St w0 [] w [] [⟨w0, Old w0⟩])
    (fun (i, j) => j - i) (0, t.length) ⟨⟨Nat.zero_le _, Nat.le_refl _, fun k _ h => absurd h (Nat.not_lt_zero _), fun k h1 h2 => by omega⟩, hS⟩ ⟨rfl, rfl, trivial⟩ ?_
  clear hS
  rintro ⟨i, j⟩ g w ⟨⟨hij, hj, hlo, hhi⟩, hS⟩
  show WC _ _ _ (lf _ [(9, .int .i64 (i : Int)), (10, .int .i64 (j : Int))] _ _) _ _
  by_cases hlt : i < j
  · obtain ⟨m, hm⟩ : ∃ m, m = (i + j) / 2 := ⟨_, rfl⟩
    have hml : m < t.length := by omega
    have hsh : shrI .u64 ((i : Int) + (j : Int)) 1 = ((m : Nat) : Int) := (shrI_nat .u64 (i + j) 1 (by decide)).trans (by rw [hm])
    obtain ⟨rb, ro, es, rfl, hF, hrr, hes⟩ := hA.at_ hml
    have hes : es = encEnt t[m] := hes
    subst hes
    have hrr : w0.rangeAt rb (ro + m * 3) (encEnt t[m]) := hrr
    have hcl := cmp_lt t[m].path p
    cases hb : Op.bytesLess t[m].path p with
    | true =>
      rw [hb] at hcl
      have hc0 : Lib.compareBytes t[m].path p < 0 := hcl.2 rfl
      have hlo2 : ∀ k (h : k < t.length), k < m + 1 → Op.bytesLess t[k].path p = true := fun k hk hkm => by
        by_cases e : k = m
        · subst e; exact hb
        · exact less_trans (hr k m (by omega) hml hml) hb
      obtain ⟨HL, rfl⟩ : ∃ h : (∀ k (h : k < t.length), k < m + 1 → Op.bytesLess t[k].path p = true), h = hlo2 := ⟨_, rfl⟩
      have hc := fun w0 => tcmp_c t[m] p w0
      generalize Lib.compareBytes t[m].path p = c at *
      generalize t[m] = e at *
      clear hcl hlo
      repeat' (first
        | (show WL _ _ _ _ _ _ _; first
          | (refine WL.cvU rfl rfl rfl (by omega) rfl rfl rfl ?_)
          | refine WL.pure rfl rfl rfl rfl ?_
          | refine WL.nil ?_
          | refine WL.add rfl rfl rfl (by omega) rfl rfl rfl ?_
          | (refine WL.shr rfl rfl rfl (by decide) rfl rfl rfl ?_; rw [hsh])
          | (refine WL.load hS rfl rfl (LdOk.snap0 hF hrr (by repeat (first | exact List.Mem.head _ | apply List.Mem.tail)) rfl) rfl rfl rfl ?_)
          | (refine WL.callF rfl rfl rfl (hc _) rfl rfl rfl ?_; rintro v w ⟨hu, rfl⟩; replace hS := hS.upd0 hu; clear hu)
          | refine WL.conv64 rfl rfl rfl (by omega) rfl rfl rfl ?_
          | refine WL.index rfl rfl rfl rfl (by first | with_reducible assumption | omega) rfl rfl rfl rfl ?_)
        | (show WC _ _ _ _ _ _; first
          | refine WC.seq ?_
          | refine WC.region ?_
          | refine WC.block ?_
          | refine WC.skip ?_
          | refine WC.condT rfl (decide_eq_true (by first | with_reducible assumption | omega)) ?_)
        | refine seqQ_n ?_
        | refine blkQ_n ?_)
      exact rndQ_n (m + 1, j) ⟨⟨by omega, hj, HL, hhi⟩, hS⟩ (by show j - (m + 1) < j - i; omega) ⟨vint (by omega), rfl, trivial⟩ ⟨rfl, rfl, rfl, rfl, trivial⟩
    | false =>
      rw [hb] at hcl
      have hc0 : ¬ Lib.compareBytes t[m].path p < 0 := fun h => by have := hcl.1 h; cases this
      have hhi2 : ∀ k (h : k < t.length), m ≤ k → Op.bytesLess t[k].path p = false := fun k hk hkm => by
        by_cases e : k = m
        · subst e; exact hb
        · cases h2 : Op.bytesLess t[k].path p with
          | false => rfl
          | true => have := less_trans (hr m k (by omega) hk hk) h2; rw [hb] at this; cases this
      obtain ⟨HH, rfl⟩ : ∃ h : (∀ k (h : k < t.length), m ≤ k → Op.bytesLess t[k].path p = false), h = hhi2 := ⟨_, rfl⟩
      have hc := fun w0 => tcmp_c t[m] p w0
      generalize Lib.compareBytes t[m].path p = c at *
      generalize t[m] = e at *
      clear hcl hhi
      repeat' (first
        | (show WL _ _ _ _ _ _ _; first
          | (refine WL.cvU rfl rfl rfl (by omega) rfl rfl rfl ?_)
          | refine WL.pure rfl rfl rfl rfl ?_
          | refine WL.nil ?_
          | refine WL.add rfl rfl rfl (by omega) rfl rfl rfl ?_
          | (refine WL.shr rfl rfl rfl (by decide) rfl rfl rfl ?_; rw [hsh])
          | (refine WL.load hS rfl rfl (LdOk.snap0 hF hrr (by repeat (first | exact List.Mem.head _ | apply List.Mem.tail)) rfl) rfl rfl rfl ?_)
          | (refine WL.callF rfl rfl rfl (hc _) rfl rfl rfl ?_; rintro v w ⟨hu, rfl⟩; replace hS := hS.upd0 hu; clear hu)
          | refine WL.conv64 rfl rfl rfl (by omega) rfl rfl rfl ?_
          | refine WL.index rfl rfl rfl rfl (by first | with_reducible assumption | omega) rfl rfl rfl rfl ?_)
        | (show WC _ _ _ _ _ _; first
          | refine WC.seq ?_
          | refine WC.region ?_
          | refine WC.block ?_
          | refine WC.skip ?_
          | refine WC.condT rfl (decide_eq_true (by first | with_reducible assumption | omega)) ?_
          | refine WC.condF rfl (decide_eq_false (by first | with_reducible assumption | omega)) ?_)
        | refine seqQ_n ?_
        | refine blkQ_n ?_)
      exact rndQ_n (i, m) ⟨⟨by omega, by omega, hlo, HH⟩, hS⟩ (by show m - i < j - i; omega) ⟨rfl, vint (by omega), trivial⟩ ⟨rfl, rfl, rfl, rfl, trivial⟩
  · have hie : j = i := by omega
    subst hie
    have hfi : ∀ b : Bool, (b = true → ∃ h : j < t.length, t[j].path = p) → (b = false → ∀ h : j < t.length, t[j].path ≠ p) → findIs t p j b := fun b h1 h2 => by
      cases b with
      | true => exact .inl ⟨rfl, h1 rfl⟩
      | false =>
        refine .inr ⟨rfl, fun e he hp => ?_⟩
        obtain ⟨k, hk, rfl⟩ := List.getElem_of_mem he
        rcases Nat.lt_trichotomy k j with h | h | h
        · have := hlo k hk h; rw [hp, less_irr] at this; cases this
        · subst h; exact h2 rfl hk hp
        · have h3 := hhi j (by omega) (Nat.le_refl _)
          have h4 := hr j k h hk hk
          rw [hp, h3] at h4
          cases h4
    clear hlo hhi
    by_cases hjl : j < t.length
    · obtain ⟨rb, ro, es, rfl, hF, hrr, hes⟩ := hA.at_ hjl
      have hes : es = encEnt t[j] := hes
      subst hes
      have hrr : w0.rangeAt rb (ro + j * 3) (encEnt t[j]) := hrr
      have hce := cmp_eq t[j].path p
      have hfin : findIs t p j (decide (Lib.compareBytes t[j].path p = 0)) := hfi _ (fun h => ⟨hjl, hce.1 (of_decide_eq_true h)⟩) (fun h _ e => absurd (hce.2 e) (of_decide_eq_false h))
      have hc := fun w0 => tcmp_c t[j] p w0
      generalize Lib.compareBytes t[j].path p = c at *
      generalize t[j] = e at *
      clear hce hfi
      repeat' (first
        | (show WL _ _ _ _ _ _ _; first
          | refine WL.pure rfl rfl rfl rfl ?_
          | refine WL.nil ?_
          | (refine WL.load hS rfl rfl (LdOk.snap0 hF hrr (by repeat (first | exact List.Mem.head _ | apply List.Mem.tail)) rfl) rfl rfl rfl ?_)
          | (refine WL.callF rfl rfl rfl (hc _) rfl rfl rfl ?_; rintro v w ⟨hu, rfl⟩; replace hS := hS.upd0 hu; clear hu)
          | refine WL.index rfl rfl rfl rfl (by first | with_reducible assumption | omega) rfl rfl rfl rfl ?_
          | ((fail_if_success (refine WL.wanted rfl ?_)); refine WL.guard rfl rfl rfl (fun h => ?_) (fun h => ?_) <;> (try simp only [Classical.not_not, Bool.not_eq_true', Bool.not_eq_false', Bool.not_eq_eq_eq_not, Bool.not_true, Bool.not_false, beq_iff_eq, beq_eq_false_iff_ne, ne_eq, decide_eq_decide, decide_eq_true_eq, decide_eq_false_iff_not, Bool.and_eq_true, Bool.or_eq_true, Bool.and_eq_false_iff, Bool.or_eq_false_iff] at h) <;> (try (exfalso; first | omega | contradiction))))
        | (show WC _ _ _ _ _ _; first
          | refine WC.seq ?_
          | refine WC.region ?_
          | refine WC.exit ?_
          | refine WC.ret ?_
          | refine WC.condF rfl (decide_eq_false (by first | with_reducible assumption | omega)) ?_)
        | refine seqQ_n ?_
        | refine seqQ_x ?_
        | refine blkQ_hit rfl ?_
        | refine rndQ_x ?_)
      exact fin2r rfl rfl rfl ⟨hS.upd, j, _, rfl, hfin⟩
    · have hfin := hfi false (fun h => by cases h) (fun _ h => absurd h hjl)
      clear hfi
      repeat' (first
        | (show WL _ _ _ _ _ _ _; first
          | refine WL.pure rfl rfl rfl rfl ?_
          | refine WL.nil ?_
          | refine WL.skip rfl rfl rfl ?_
          | ((fail_if_success (refine WL.wanted rfl ?_)); refine WL.guard rfl rfl rfl (fun h => ?_) (fun h => ?_) <;> (try simp only [Classical.not_not, Bool.not_eq_true', Bool.not_eq_false', Bool.not_eq_eq_eq_not, Bool.not_true, Bool.not_false, beq_iff_eq, beq_eq_false_iff_ne, ne_eq, decide_eq_decide, decide_eq_true_eq, decide_eq_false_iff_not, Bool.and_eq_true, Bool.or_eq_true, Bool.and_eq_false_iff, Bool.or_eq_false_iff] at h) <;> (try (exfalso; first | omega | contradiction))))
        | (show WC _ _ _ _ _ _; first
          | refine WC.seq ?_
          | refine WC.region ?_
          | refine WC.exit ?_
          | refine WC.ret ?_
          | refine WC.condF rfl (decide_eq_false (by first | with_reducible assumption | omega)) ?_)
        | refine seqQ_n ?_
        | refine seqQ_x ?_
        | refine blkQ_hit rfl ?_
        | refine rndQ_x ?_)
      exact fin2r rfl rfl rfl ⟨hS.upd, j, false, rfl, hfin⟩
set_option maxHeartbeats 4000000 in
set_option maxRecDepth 100000 in
theorem tfind_c (t : List Ent) (p : List UInt8) {A : Option Addr} {cap : Nat} {w0 : World} (hA : SlAt cEnt (Old w0) w0 A t) (hr : Rise t t.length) (hl : t.length ≤ 1048576) :
    Cal Tryz.prog 151 [.slice A t.length cap, str p] w0 (fun v w' => Upd [] w0 w' ∧ ∃ (i : Nat) (b : Bool), v = .tuple #[.int .i64 (i : Int), .bool b] ∧ findIs t p i b) := by
  refine Cal.mk' (by kernel_rfl) Tryz.func151 rfl rfl fun hS => ?_
  repeat' (first
    | (show WL _ _ _ _ _ _ _; first
      | refine WL.pure rfl rfl rfl rfl ?_
      | refine WL.nil ?_
      | (refine WL.callG rfl rfl (bsearch_c t p hA hr hl) rfl rfl rfl ?_; rintro v w ⟨hu, i, fb, rfl, hf⟩; replace hS := hS.upd0 hu; clear hu))
    | (show WC _ _ _ _ _ _; first
      | refine WC.seq ?_
      | refine WC.region ?_
      | refine WC.ret ?_)
    | refine seqQ_n ?_)
  exact fin2r rfl rfl rfl ⟨hS.upd, i, fb, rfl, hf⟩
abbrev nodeV (e : Ent) : Value := .agg ⟨[.int .i64 e.kind, str e.data]⟩
set_option maxHeartbeats 4000000 in
set_option maxRecDepth 100000 in
theorem trget_c (t : List Ent) (p : List UInt8) {A : Option Addr} {cap n : Nat} {w0 : World} (hA : SlAt cEnt (Old w0) w0 A t) (hr : Rise t t.length) (hl : t.length ≤ 1048576) (hn : n = t.length) :
    Cal Tryz.prog 112 [.slice A n cap, str p] w0 (fun v w' => Upd [] w0 w' ∧ v = nodeV (getT t p)) := by
  subst hn
  refine Cal.mk' (by kernel_rfl) Tryz.func112 rfl rfl fun hS => ?_
  have hfc : ∀ w, (∃ S : St w0 [] w [] [⟨w0, Old w0⟩], True) → True := fun _ _ => trivial
  by_cases hx : ∃ i, ∃ h : i < t.length, t[i].path = p
  · obtain ⟨i0, hi0, he0⟩ := hx
    have hfi : ∀ i fb, findIs t p i fb → fb = true ∧ i = i0 := fun i fb h => by
      rcases h with ⟨h1, h2, h3⟩ | ⟨_, h2⟩
      · refine ⟨h1, ?_⟩
        rcases Nat.lt_trichotomy i i0 with h | h | h
        · have := hr i i0 h hi0 hi0; rw [h3, he0, less_irr] at this; cases this
        · exact h
        · have := hr i0 i h h2 h2; rw [h3, he0, less_irr] at this; cases this
      · exact absurd he0 (h2 _ (List.getElem_mem hi0))
    have hga := getT_at hr hi0
    rw [he0] at hga
    obtain ⟨rb, ro, es, rfl, hF, hrr, hes⟩ := hA.at_ hi0
    have hes : es = encEnt t[i0] := hes
    subst hes
    have hrr : w0.rangeAt rb (ro + i0 * 3) (encEnt t[i0]) := hrr
    rw [hga]
    generalize t[i0] = e at *
    obtain ⟨epath, ekind, edata⟩ := e
    clear hfc
    repeat' (first
      | (show WL _ _ _ _ _ _ _; first
        | refine WL.pure rfl rfl rfl rfl ?_
        | refine WL.nil ?_
        | (refine WL.callG rfl rfl (tfind_c t p (hS.slO (by repeat (first | exact List.Mem.head _ | apply List.Mem.tail)) hA) hr hl) rfl rfl rfl ?_; rintro v w ⟨hu, i, fb, rfl, hf⟩; replace hS := hS.upd0 hu; clear hu; obtain ⟨rfl, rfl⟩ := hfi _ _ hf)
        | (refine WL.load hS rfl rfl (LdOk.snap (off := 1) hF hrr (by repeat (first | exact List.Mem.head _ | apply List.Mem.tail)) rfl) rfl rfl rfl ?_)
        | (refine WL.store hS rfl rfl rfl (by repeat (first | exact StB.here rfl | apply StB.there)) rfl rfl rfl ?_; intro w hS)
        | (refine WL.alloc hS rfl rfl rfl rfl rfl rfl ?_; intro w b hS)
        | refine WL.index rfl rfl rfl rfl (by first | with_reducible assumption | omega) rfl rfl rfl rfl ?_)
      | (show WC _ _ _ _ _ _; first
        | refine WC.seq ?_
        | refine WC.region ?_
        | refine WC.ret ?_
        | refine WC.condT rfl (by with_reducible rfl) ?_)
      | refine seqQ_n ?_
      | refine seqQ_r ?_)
    exact finC1r hS rfl rfl (LdOk.box (List.Mem.head _) rfl) ⟨hS.upd, rfl⟩
  · have hno : ∀ e ∈ t, e.path ≠ p := fun e he hp => by
      obtain ⟨i, hi, rfl⟩ := List.getElem_of_mem he
      exact hx ⟨i, hi, hp⟩
    have hfi : ∀ i fb, findIs t p i fb → fb = false := fun i fb h => by
      rcases h with ⟨_, h2, h3⟩ | ⟨h1, _⟩
      · exact absurd ⟨i, h2, h3⟩ hx
      · exact h1
    rw [getT_no hno]
    clear hx hno hfc
    repeat' (first
      | (show WL _ _ _ _ _ _ _; first
        | refine WL.pure rfl rfl rfl rfl ?_
        | refine WL.nil ?_
        | (refine WL.callG rfl rfl (tfind_c t p (hS.slO (by repeat (first | exact List.Mem.head _ | apply List.Mem.tail)) hA) hr hl) rfl rfl rfl ?_; rintro v w ⟨hu, i, fb, rfl, hf⟩; replace hS := hS.upd0 hu; clear hu; obtain rfl := hfi _ _ hf)
        | (refine WL.store hS rfl rfl rfl (by repeat (first | exact StB.here rfl | apply StB.there)) rfl rfl rfl ?_; intro w hS)
        | (refine WL.alloc hS rfl rfl rfl rfl rfl rfl ?_; intro w b hS)
        | refine WL.build rfl rfl rfl rfl rfl ?_)
      | (show WC _ _ _ _ _ _; first
        | refine WC.seq ?_
        | refine WC.region ?_
        | refine WC.skip ?_
        | refine WC.ret ?_
        | refine WC.condF rfl (by with_reducible rfl) ?_)
      | refine seqQ_n ?_)
    exact finC1r hS rfl rfl (LdOk.box (List.Mem.head _) rfl) ⟨hS.upd, rfl⟩
set_option maxHeartbeats 4000000 in
set_option maxRecDepth 100000 in
theorem twhole_c (kind : Int) (data : List UInt8) (w0 : World) : Cal Tryz.prog 110 [.agg ⟨[.int .i64 kind, str data]⟩] w0 (fun v w' => Upd [] w0 w' ∧ v = .bool (wholeE kind data)) := by
  refine Cal.mk' (by kernel_rfl) Tryz.func110 rfl rfl fun hS => ?_
  by_cases h0 : kind = 0
  · have e : wholeE kind data = decide (data = []) := by unfold wholeE; rw [if_pos (.inl h0)]
    rw [e]
    subst h0
    repeat' (first
      | (show WL _ _ _ _ _ _ _; first
        | refine WL.pure rfl rfl rfl rfl ?_
        | refine WL.nil ?_
        | refine WL.load hS rfl rfl (LdOk.box (by repeat (first | exact List.Mem.head _ | apply List.Mem.tail)) rfl) rfl rfl rfl ?_
        | (refine WL.box hS rfl rfl rfl rfl rfl ?_; intro w b hS))
      | (show WC _ _ _ _ _ _; first
        | refine WC.seq ?_
        | refine WC.region ?_
        | refine WC.block ?_
        | refine WC.skip ?_
        | refine WC.ret ?_
        | refine WC.condT rfl (by decide) ?_)
      | refine seqQ_n ?_
      | refine seqQ_r ?_
      | refine blkQ_r ?_)
    exact fin1r rfl rfl ⟨hS.upd, rfl⟩
  by_cases h1 : kind = 1
  · have e : wholeE kind data = decide (data = []) := by unfold wholeE; rw [if_pos (.inr h1)]
    rw [e]
    subst h1
    repeat' (first
      | (show WL _ _ _ _ _ _ _; first
        | refine WL.pure rfl rfl rfl rfl ?_
        | refine WL.nil ?_
        | refine WL.load hS rfl rfl (LdOk.box (by repeat (first | exact List.Mem.head _ | apply List.Mem.tail)) rfl) rfl rfl rfl ?_
        | (refine WL.box hS rfl rfl rfl rfl rfl ?_; intro w b hS))
      | (show WC _ _ _ _ _ _; first
        | refine WC.seq ?_
        | refine WC.region ?_
        | refine WC.block ?_
        | refine WC.ret ?_
        | refine WC.condT rfl (by decide) ?_
        | refine WC.condF rfl (by decide) ?_)
      | refine seqQ_n ?_
      | refine seqQ_r ?_
      | refine blkQ_r ?_)
    exact fin1r rfl rfl ⟨hS.upd, rfl⟩
  by_cases h2 : kind = 2
  · have e : wholeE kind data = decide ((data.length : Int) ≤ 4096) := by
      unfold wholeE
      rw [if_neg (by omega), if_pos h2]
      by_cases hd : data.length ≤ 4096
      · rw [decide_eq_true hd, decide_eq_true (by omega)]
      · rw [decide_eq_false hd, decide_eq_false (by omega)]
    rw [e]
    subst h2
    repeat' (first
      | (show WL _ _ _ _ _ _ _; first
        | refine WL.pure rfl rfl rfl rfl ?_
        | refine WL.nil ?_
        | refine WL.load hS rfl rfl (LdOk.box (by repeat (first | exact List.Mem.head _ | apply List.Mem.tail)) rfl) rfl rfl rfl ?_
        | (refine WL.box hS rfl rfl rfl rfl rfl ?_; intro w b hS))
      | (show WC _ _ _ _ _ _; first
        | refine WC.seq ?_
        | refine WC.region ?_
        | refine WC.block ?_
        | refine WC.ret ?_
        | refine WC.condT rfl (by decide) ?_
        | refine WC.condF rfl (by decide) ?_)
      | refine seqQ_n ?_
      | refine seqQ_r ?_
      | refine blkQ_r ?_)
    exact fin1r rfl rfl ⟨hS.upd, rfl⟩
  · have e : wholeE kind data = false := by unfold wholeE; rw [if_neg (by omega), if_neg h2]
    rw [e]
    repeat' (first
      | (show WL _ _ _ _ _ _ _; first
        | refine WL.pure rfl rfl rfl rfl ?_
        | refine WL.nil ?_
        | refine WL.load hS rfl rfl (LdOk.box (by repeat (first | exact List.Mem.head _ | apply List.Mem.tail)) rfl) rfl rfl rfl ?_
        | (refine WL.box hS rfl rfl rfl rfl rfl ?_; intro w b hS))
      | (show WC _ _ _ _ _ _; first
        | refine WC.seq ?_
        | refine WC.region ?_
        | refine WC.block ?_
        | refine WC.skip ?_
        | refine WC.ret ?_
        | refine WC.condF rfl (decide_eq_false (by first | with_reducible assumption | omega)) ?_)
      | refine seqQ_n ?_
      | refine blkQ_n ?_)
    exact fin1r rfl rfl ⟨hS.upd, rfl⟩
theorem checkT_bad {t : List Ent} (h : t.length ≤ 200) {i : Nat} (hi : i < t.length) (hb : ¬ EntOk t i hi) : checkT t = 3 := by
  unfold checkT
  rw [if_neg (by omega), if_neg (fun hh => hb (hh i hi))]
theorem checkT_ok {t : List Ent} (h : t.length ≤ 200) (ho : TreeOk t) : checkT t = 0 := by
  unfold checkT
  rw [if_neg (by omega), if_pos ho]
set_option maxHeartbeats 16000000 in
set_option maxRecDepth 100000 in
theorem tcheck_c (t : List Ent) {A : Option Addr} {cap : Nat} {w0 : World} (hA : SlAt cEnt (Old w0) w0 A t) (hcap : t.length ≤ cap) (hl : t.length ≤ 1048576) (hz : ∀ e ∈ t, e.path.length ≤ 1048576) :
    Cal Tryz.prog 59 [.slice A t.length cap] w0 (fun v w' => Upd [] w0 w' ∧ v = .int .i64 (checkT t)) := by
  refine Cal.mk' (by kernel_rfl) Tryz.func59 rfl rfl fun hS => ?_
  by_cases h200 : t.length ≤ 200
  rotate_left
  · have e : checkT t = 4 := by unfold checkT; rw [if_pos (by omega)]
    rw [e]
    repeat' (first
      | (show WL _ _ _ _ _ _ _; first
        | refine WL.pure rfl rfl rfl rfl ?_
        | refine WL.nil ?_)
      | (show WC _ _ _ _ _ _; first
        | refine WC.seq ?_
        | refine WC.region ?_
        | refine WC.ret ?_
        | refine WC.condT rfl (decide_eq_true (by first | with_reducible assumption | omega)) ?_)
      | refine seqQ_n ?_
      | refine seqQ_r ?_)
    exact fin1r rfl rfl ⟨hS.upd, rfl⟩
  repeat' (first
    | (show WL _ _ _ _ _ _ _; first
      | refine WL.pure rfl rfl rfl rfl ?_
      | refine WL.nil ?_)
    | (show WC _ _ _ _ _ _; first
      | refine WC.seq ?_
      | refine WC.region ?_
      | refine WC.block ?_
      | refine WC.skip ?_
      | refine WC.condF rfl (decide_eq_false (by first | with_reducible assumption | omega)) ?_)
    | refine seqQ_n ?_)
  refine WC.loop (σ := Nat) [0, 9, 10] (fun i => [(11, .int .i64 (i : Int))]) (fun i w => (i ≤ t.length ∧ TreeTo t i) ∧ St w0 [] w [] [⟨w0, Old w0⟩]) (fun i => t.length - i) 0 ⟨⟨Nat.zero_le _, fun i _ h => absurd h (Nat.not_lt_zero _)⟩, hS⟩ ⟨rfl, trivial⟩ ?_
  clear hS
  rintro i g w ⟨⟨hi, hto⟩, hS⟩
  show WC _ _ _ (lf _ [(11, .int .i64 (i : Int))] _ _) _ _
  by_cases hlt : i < t.length
  rotate_left
  · have hie : i = t.length := by omega
    subst hie
    rw [checkT_ok h200 (fun j hj => hto j hj hj)]
    clear hto
    repeat' (first
      | (show WL _ _ _ _ _ _ _; first
        | refine WL.pure rfl rfl rfl rfl ?_
        | refine WL.nil ?_)
      | (show WC _ _ _ _ _ _; first
        | refine WC.seq ?_
        | refine WC.region ?_
        | refine WC.exit ?_
        | refine WC.ret ?_
        | refine WC.condF rfl (decide_eq_false (by first | with_reducible assumption | omega)) ?_)
      | refine seqQ_n ?_
      | refine seqQ_x ?_
      | refine blkQ_hit rfl ?_
      | refine rndQ_x ?_)
    exact fin1r rfl rfl ⟨hS.upd, rfl⟩
  obtain ⟨rb, ro, es, rfl, hF, hrr, hes⟩ := hA.at_ hlt
  have hes : es = encEnt t[i] := hes
  subst hes
  have hrr : w0.rangeAt rb (ro + i * 3) (encEnt t[i]) := hrr
  have hpl := hz t[i] (List.getElem_mem hlt)
  have hbad := fun (h : ¬ EntOk t i hlt) => checkT_bad h200 hlt h
  have hrise := hto.rise.take hi
  have hut := fun q => up_take (q := q) hto.rise hi
  have htl : i = (t.take i).length := by rw [List.length_take]; omega
  have hAt : SlAt cEnt (Old w0) w0 (some ⟨rb, ro, none⟩) (t.take i) := SlAt.pre (ys := t.drop i) (by rw [List.take_append_drop]; exact hA)
  have hprev : 0 < i → ∃ pb po, (some ⟨rb, ro, none⟩ : Option Addr) = some ⟨pb, po, none⟩ ∧ ∃ h : i - 1 < t.length, Old w0 pb ∧ w0.rangeAt pb (po + (i - 1) * 3) (encEnt t[i - 1]) := fun h0 => by
    have h1 : i - 1 < t.length := by omega
    obtain ⟨pb, po, es, hA2, hF2, hr2, hes2⟩ := hA.at_ h1
    have hes2 : es = encEnt t[i - 1] := hes2
    subst hes2
    exact ⟨pb, po, hA2, h1, hF2, hr2⟩
  have hnext : EntOk t i hlt → TreeTo t (i + 1) := fun h j hj hji => by
    by_cases e : j = i
    · subst e; exact h
    · exact hto j hj (by omega)
  have hfail : (checkE t[i].path 5 ≠ 0 ∨ wholeE t[i].kind t[i].data = false ∨ t[i].kind = 0 ∨ (∃ h0 : 0 < i, Op.bytesLess (t[i - 1]'(by omega)).path t[i].path = false) ∨ (parentE t[i].path ≠ [] ∧ (getT (t.take i) (parentE t[i].path)).kind ≠ 1)) → checkT t = 3 := fun h => hbad fun ho => by
    rcases h with h | h | h | ⟨h0, h⟩ | ⟨h1, h2⟩
    · exact h ho.path
    · have := ho.whole; rw [h] at this; cases this
    · exact ho.kind h
    · have := ho.ord (i - 1) (by omega); rw [h] at this; cases this
    · exact h2 ((hut _).2 (ho.up h1))
  have hgood : checkE t[i].path 5 = 0 → wholeE t[i].kind t[i].data = true → t[i].kind ≠ 0 → (∀ h0 : 0 < i, Op.bytesLess (t[i - 1]'(by omega)).path t[i].path = true) → (parentE t[i].path ≠ [] → (getT (t.take i) (parentE t[i].path)).kind = 1) → TreeTo t (i + 1) := fun h1 h2 h3 h4 h5 =>
    hnext ⟨h1, h2, h3, fun j hj => by subst hj; exact h4 (by omega), fun hne => (hut _).1 (h5 hne)⟩
  have hq : 0 < i → ∃ q, ∃ h1 : i - 1 < t.length, q = t[i - 1] := fun h0 => ⟨_, by omega, rfl⟩
  clear hbad hut hnext hto
  obtain ⟨c, hcp⟩ : ∃ c, checkE t[i].path 5 = c := ⟨_, rfl⟩
  obtain ⟨wb, hwb⟩ : ∃ wb, wholeE t[i].kind t[i].data = wb := ⟨_, rfl⟩
  obtain ⟨up, hup⟩ : ∃ up, parentE t[i].path = up := ⟨_, rfl⟩
  rw [hcp, hwb, hup] at hfail hgood
  obtain ⟨gt, hgt⟩ : ∃ gt, getT (t.take i) up = gt := ⟨_, rfl⟩
  rw [hgt] at hfail hgood
  obtain ⟨gpath, gkind, gdata⟩ := gt
  have hgt : getT (t.take i) up = ⟨gpath, gkind, gdata⟩ := hgt
  have hfail : (c ≠ 0 ∨ wb = false ∨ t[i].kind = 0 ∨ (∃ h0 : 0 < i, Op.bytesLess (t[i - 1]'(by omega)).path t[i].path = false) ∨ (up ≠ [] ∧ gkind ≠ 1)) → checkT t = 3 := hfail
  have hgood : c = 0 → wb = true → t[i].kind ≠ 0 → (∀ h0 : 0 < i, Op.bytesLess (t[i - 1]'(by omega)).path t[i].path = true) → (up ≠ [] → gkind = 1) → TreeTo t (i + 1) := hgood
  by_cases hc0 : c = 0
  rotate_left
  · rw [hfail (.inl hc0)]
    generalize t[i] = e at *
    obtain ⟨path, kind, data⟩ := e
    dsimp only at hcp hwb hup hpl
    clear hfail hgood hprev hq
    repeat' (first
      | (show WL _ _ _ _ _ _ _; first
        | refine WL.pure rfl rfl rfl rfl ?_
        | refine WL.nil ?_
        | (refine WL.load hS rfl rfl (LdOk.snap0 hF hrr (by repeat (first | exact List.Mem.head _ | apply List.Mem.tail)) rfl) rfl rfl rfl ?_)
        | (refine WL.store hS rfl rfl rfl (by repeat (first | exact StB.here rfl | apply StB.there)) rfl rfl rfl ?_; intro w hS)
        | (refine WL.alloc hS rfl rfl rfl rfl rfl rfl ?_; intro w b hS)
        | refine WL.index rfl rfl rfl rfl (by first | with_reducible assumption | omega) rfl rfl rfl rfl ?_)
      | (show WC _ _ _ _ _ _; first
        | refine WC.seq ?_
        | refine WC.region ?_
        | refine WC.block ?_
        | refine WC.skip ?_
        | refine WC.ret ?_
        | (show WC _ _ (Code.region _ (List.toArray [_, _, _, _, _, _, _, _, _, _, _, _, _, _, _, _, _, _, _, _, _, _, _, _, _, _, _, _, _, _, _]) true) _ _ _; refine WC.drawS hS [0,1,3,4,5,6,8,9,10,11,12,13,14,15,16,17,18,19,20,21,22,23,24,25,26,27,28,29,30] [0,1,2,3,4,5,6,7,8,9,10,11,12,13,14,15,16,17,18,19,20,21,22,23,24,25,26,27,28,29,30] (by kernel_rfl) (by kernel_rfl) ?_; clear hS; intro w hS hM)
        | refine WC.condT rfl (by with_reducible rfl) ?_
        | refine WC.condT rfl (decide_eq_true (by first | with_reducible assumption | omega)) ?_)
      | (show WD _ _ _ _ _ _ _ _ _; first
        | refine WD.pure rfl rfl rfl rfl rfl ?_
        | refine WD.nil ?_
        | refine WD.load rfl rfl (LdOk.box (by repeat (first | exact List.Mem.head _ | apply List.Mem.tail)) rfl) rfl rfl rfl rfl ?_
        | (refine WD.calls hS hM rfl rfl (pcheck_c path 5 _ (by omega)) rfl rfl rfl rfl rfl ?_; clear hS; rintro v w rfl hS; rw [hcp])
        | refine WD.pass rfl rfl rfl rfl ?_
        | refine WD.skip rfl rfl rfl rfl rfl (hM.ss hS) ?_
        | ((fail_if_success (refine WD.wanted rfl ?_)); refine WD.guard rfl rfl rfl (fun h => ?_) (fun h => ?_) <;> (try simp only [Classical.not_not, Bool.not_eq_true', Bool.not_eq_false', Bool.not_eq_eq_eq_not, Bool.not_true, Bool.not_false, beq_iff_eq, beq_eq_false_iff_ne, ne_eq, decide_eq_decide, decide_eq_true_eq, decide_eq_false_iff_not, Bool.and_eq_true, Bool.or_eq_true, Bool.and_eq_false_iff, Bool.or_eq_false_iff] at h) <;> (try (exfalso; first | omega | contradiction))))
      | refine seqQ_n ?_
      | refine seqQ_r ?_
      | refine blkQ_r ?_
      | refine rndQ_r ?_)
    exact fin1r rfl rfl ⟨hS.upd, rfl⟩
  subst hc0
  cases wb with
  | false =>
    rw [hfail (.inr (.inl rfl))]
    generalize t[i] = e at *
    obtain ⟨path, kind, data⟩ := e
    dsimp only at hcp hwb hup hpl
    clear hfail hgood hprev hq
    repeat' (first
      | (show WL _ _ _ _ _ _ _; first
        | refine WL.pure rfl rfl rfl rfl ?_
        | refine WL.nil ?_
        | (refine WL.load hS rfl rfl (LdOk.snap0 hF hrr (by repeat (first | exact List.Mem.head _ | apply List.Mem.tail)) rfl) rfl rfl rfl ?_)
        | (refine WL.store hS rfl rfl rfl (by repeat (first | exact StB.here rfl | apply StB.there)) rfl rfl rfl ?_; intro w hS)
        | (refine WL.alloc hS rfl rfl rfl rfl rfl rfl ?_; intro w b hS)
        | refine WL.index rfl rfl rfl rfl (by first | with_reducible assumption | omega) rfl rfl rfl rfl ?_)
      | (show WC _ _ _ _ _ _; first
        | refine WC.seq ?_
        | refine WC.region ?_
        | refine WC.block ?_
        | refine WC.skip ?_
        | refine WC.ret ?_
        | (show WC _ _ (Code.region _ (List.toArray [_, _, _, _, _, _, _, _, _, _, _, _, _, _, _, _, _, _, _, _, _, _, _, _, _, _, _, _, _, _, _]) true) _ _ _; refine WC.drawS hS [0,1,3,4,5,6,8,9,10,11,12,13,14,15,16,17,18,19,20,21,22,23,24,25,26,27,28,29,30] [0,1,2,3,4,5,6,7,8,9,10,11,12,13,14,15,16,17,18,19,20,21,22,23,24,25,26,27,28,29,30] (by kernel_rfl) (by kernel_rfl) ?_; clear hS; intro w hS hM)
        | refine WC.condT rfl (by with_reducible rfl) ?_
        | refine WC.condT rfl (decide_eq_true (by first | with_reducible assumption | omega)) ?_)
      | (show WD _ _ _ _ _ _ _ _ _; first
        | refine WD.pure rfl rfl rfl rfl rfl ?_
        | refine WD.nil ?_
        | refine WD.load rfl rfl (LdOk.box (by repeat (first | exact List.Mem.head _ | apply List.Mem.tail)) rfl) rfl rfl rfl rfl ?_
        | (refine WD.calls hS hM rfl rfl (pcheck_c path 5 _ (by omega)) rfl rfl rfl rfl rfl ?_; clear hS; rintro v w rfl hS; rw [hcp])
        | (refine WD.calls hS hM rfl rfl (twhole_c kind data _) rfl rfl rfl rfl rfl ?_; clear hS; rintro v w rfl hS; rw [hwb])
        | refine WD.pass rfl rfl rfl rfl ?_)
      | refine seqQ_n ?_
      | refine seqQ_r ?_
      | refine blkQ_r ?_
      | refine rndQ_r ?_)
    exact fin1r rfl rfl ⟨hS.upd, rfl⟩
  | true =>
    by_cases hk0 : t[i].kind = 0
    · rw [hfail (.inr (.inr (.inl hk0)))]
      generalize t[i] = e at *
      obtain ⟨path, kind, data⟩ := e
      dsimp only at hcp hwb hup hpl
      have hk0 : kind = 0 := hk0
      clear hfail hgood hprev hq
      repeat' (first
        | (show WL _ _ _ _ _ _ _; first
          | refine WL.pure rfl rfl rfl rfl ?_
          | refine WL.nil ?_
          | (refine WL.load hS rfl rfl (LdOk.snap0 hF hrr (by repeat (first | exact List.Mem.head _ | apply List.Mem.tail)) rfl) rfl rfl rfl ?_)
          | (refine WL.store hS rfl rfl rfl (by repeat (first | exact StB.here rfl | apply StB.there)) rfl rfl rfl ?_; intro w hS)
          | (refine WL.alloc hS rfl rfl rfl rfl rfl rfl ?_; intro w b hS)
          | refine WL.index rfl rfl rfl rfl (by first | with_reducible assumption | omega) rfl rfl rfl rfl ?_)
        | (show WC _ _ _ _ _ _; first
          | refine WC.seq ?_
          | refine WC.region ?_
          | refine WC.block ?_
          | refine WC.skip ?_
          | refine WC.ret ?_
          | (show WC _ _ (Code.region _ (List.toArray [_, _, _, _, _, _, _, _, _, _, _, _, _, _, _, _, _, _, _, _, _, _, _, _, _, _, _, _, _, _, _]) true) _ _ _; refine WC.drawS hS [0,1,3,4,5,6,8,9,10,11,12,13,14,15,16,17,18,19,20,21,22,23,24,25,26,27,28,29,30] [0,1,2,3,4,5,6,7,8,9,10,11,12,13,14,15,16,17,18,19,20,21,22,23,24,25,26,27,28,29,30] (by kernel_rfl) (by kernel_rfl) ?_; clear hS; intro w hS hM)
          | refine WC.condT rfl (by with_reducible rfl) ?_
          | refine WC.condT rfl (decide_eq_true (by first | with_reducible assumption | omega)) ?_)
        | (show WD _ _ _ _ _ _ _ _ _; first
          | refine WD.pure rfl rfl rfl rfl rfl ?_
          | refine WD.nil ?_
          | refine WD.load rfl rfl (LdOk.box (by repeat (first | exact List.Mem.head _ | apply List.Mem.tail)) rfl) rfl rfl rfl rfl ?_
          | (refine WD.calls hS hM rfl rfl (pcheck_c path 5 _ (by omega)) rfl rfl rfl rfl rfl ?_; clear hS; rintro v w rfl hS; rw [hcp])
          | (refine WD.calls hS hM rfl rfl (twhole_c kind data _) rfl rfl rfl rfl rfl ?_; clear hS; rintro v w rfl hS; rw [hwb])
          | refine WD.pass rfl rfl rfl rfl ?_
          | ((fail_if_success (refine WD.wanted rfl ?_)); refine WD.guard rfl rfl rfl (fun h => ?_) (fun h => ?_) <;> (try simp only [Classical.not_not, Bool.not_eq_true', Bool.not_eq_false', Bool.not_eq_eq_eq_not, Bool.not_true, Bool.not_false, beq_iff_eq, beq_eq_false_iff_ne, ne_eq, decide_eq_decide, decide_eq_true_eq, decide_eq_false_iff_not, Bool.and_eq_true, Bool.or_eq_true, Bool.and_eq_false_iff, Bool.or_eq_false_iff] at h) <;> (try (exfalso; first | omega | contradiction))))
        | refine seqQ_n ?_
        | refine seqQ_r ?_
        | refine blkQ_r ?_
        | refine rndQ_r ?_)
      exact fin1r rfl rfl ⟨hS.upd, rfl⟩
    by_cases h0 : 0 < i
    rotate_left
    · have hi0 : i = 0 := by omega
      have hg2 := hgood rfl rfl hk0 (fun h => absurd h h0)
      have hf2 := fun h => hfail (.inr (.inr (.inr (.inr h))))
      generalize t[i] = e at *
      obtain ⟨path, kind, data⟩ := e
      dsimp only at hcp hwb hup hpl
      have hk0 : ¬ kind = 0 := hk0
      clear hfail hgood hprev hq
      by_cases hu : up = []
      · have hg3 := hg2 (fun h => absurd hu h)
        subst hu
        clear hg2 hf2
        repeat' (first
          | (show WL _ _ _ _ _ _ _; first
            | refine WL.pure rfl rfl rfl rfl ?_
            | refine WL.nil ?_
            | refine WL.load hS rfl rfl (LdOk.box (by repeat (first | exact List.Mem.head _ | apply List.Mem.tail)) rfl) rfl rfl rfl ?_
            | refine WL.add rfl rfl rfl (by omega) rfl rfl rfl ?_
            | (refine WL.load hS rfl rfl (LdOk.snap0 hF hrr (by repeat (first | exact List.Mem.head _ | apply List.Mem.tail)) rfl) rfl rfl rfl ?_)
            | (refine WL.calls hS rfl rfl (pparent_c path _ (by omega)) rfl rfl rfl ?_; rintro v w rfl hS; rw [hup])
            | (refine WL.store hS rfl rfl rfl (by repeat (first | exact StB.here rfl | apply StB.there)) rfl rfl rfl ?_; intro w hS)
            | (refine WL.alloc hS rfl rfl rfl rfl rfl rfl ?_; intro w b hS)
            | refine WL.index rfl rfl rfl rfl (by first | with_reducible assumption | omega) rfl rfl rfl rfl ?_
            | refine WL.skip rfl rfl rfl ?_)
          | (show WC _ _ _ _ _ _; first
            | refine WC.seq ?_
            | refine WC.region ?_
            | refine WC.block ?_
            | refine WC.skip ?_
            | (show WC _ _ (Code.region _ (List.toArray [_, _, _, _, _, _, _, _, _, _, _, _, _, _, _, _, _, _, _, _, _, _, _, _, _, _, _, _, _, _, _]) true) _ _ _; refine WC.drawS hS [0,1,3,4,5,6,8,9,10,11,12,13,14,15,16,17,18,19,20,21,22,23,24,25,26,27,28,29,30] [0,1,2,3,4,5,6,7,8,9,10,11,12,13,14,15,16,17,18,19,20,21,22,23,24,25,26,27,28,29,30] (by kernel_rfl) (by kernel_rfl) ?_; clear hS; intro w hS hM)
            | refine WC.condF rfl (by with_reducible rfl) ?_
            | refine WC.condT rfl (decide_eq_true (by first | with_reducible assumption | omega)) ?_)
          | (show WD _ _ _ _ _ _ _ _ _; first
            | refine WD.pure rfl rfl rfl rfl rfl ?_
            | refine WD.nil ?_
            | refine WD.load rfl rfl (LdOk.box (by repeat (first | exact List.Mem.head _ | apply List.Mem.tail)) rfl) rfl rfl rfl rfl ?_
            | (refine WD.calls hS hM rfl rfl (pcheck_c path 5 _ (by omega)) rfl rfl rfl rfl rfl ?_; clear hS; rintro v w rfl hS; rw [hcp])
            | (refine WD.calls hS hM rfl rfl (twhole_c kind data _) rfl rfl rfl rfl rfl ?_; clear hS; rintro v w rfl hS; rw [hwb])
            | refine WD.pass rfl rfl rfl rfl ?_
            | ((fail_if_success (refine WD.wanted rfl ?_)); refine WD.guard rfl rfl rfl (fun h => ?_) (fun h => ?_) <;> (try simp only [Classical.not_not, Bool.not_eq_true', Bool.not_eq_false', Bool.not_eq_eq_eq_not, Bool.not_true, Bool.not_false, beq_iff_eq, beq_eq_false_iff_ne, ne_eq, decide_eq_decide, decide_eq_true_eq, decide_eq_false_iff_not, Bool.and_eq_true, Bool.or_eq_true, Bool.and_eq_false_iff, Bool.or_eq_false_iff] at h) <;> (try (exfalso; first | omega | contradiction))))
          | refine seqQ_n ?_
          | refine blkQ_n ?_)
        exact rndQ_n (i + 1) ⟨⟨by omega, hg3⟩, hS.droplast2 (by repeat (first | exact Pulls.nil | (apply Pulls.cons; focus (repeat (first | exact Pull.here | apply Pull.there)))))⟩ (by show t.length - (i + 1) < t.length - i; omega) ⟨vint (by omega), trivial⟩ ⟨rfl, rfl, rfl, trivial⟩
      · by_cases hgk : gkind = 1
        · have hg3 := hg2 (fun _ => hgk)
          subst hgk
          clear hg2 hf2
          repeat' (first
            | (show WL _ _ _ _ _ _ _; first
              | refine WL.pure rfl rfl rfl rfl ?_
              | refine WL.nil ?_
              | refine WL.load hS rfl rfl (LdOk.box (by repeat (first | exact List.Mem.head _ | apply List.Mem.tail)) rfl) rfl rfl rfl ?_
              | refine WL.add rfl rfl rfl (by omega) rfl rfl rfl ?_
              | (refine WL.load hS rfl rfl (LdOk.snap0 hF hrr (by repeat (first | exact List.Mem.head _ | apply List.Mem.tail)) rfl) rfl rfl rfl ?_)
              | (refine WL.calls hS rfl rfl (pparent_c path _ (by omega)) rfl rfl rfl ?_; rintro v w rfl hS; rw [hup])
              | (refine WL.highV rfl rfl rfl rfl (by omega) rfl rfl rfl ?_)
              | (refine WL.calls hS rfl rfl (trget_c (t.take i) up (hS.slO (by repeat (first | exact List.Mem.head _ | apply List.Mem.tail)) hAt) hrise (by rw [← htl]; omega) htl) rfl rfl rfl ?_; rintro v w rfl hS; rw [hgt])
              | (refine WL.store hS rfl rfl rfl (by repeat (first | exact StB.here rfl | apply StB.there)) rfl rfl rfl ?_; intro w hS)
              | (refine WL.alloc hS rfl rfl rfl rfl rfl rfl ?_; intro w b hS)
              | refine WL.index rfl rfl rfl rfl (by first | with_reducible assumption | omega) rfl rfl rfl rfl ?_
              | ((fail_if_success (refine WL.wanted rfl ?_)); refine WL.guard rfl rfl rfl (fun h => ?_) (fun h => ?_) <;> (try simp only [Classical.not_not, Bool.not_eq_true', Bool.not_eq_false', Bool.not_eq_eq_eq_not, Bool.not_true, Bool.not_false, beq_iff_eq, beq_eq_false_iff_ne, ne_eq, decide_eq_decide, decide_eq_true_eq, decide_eq_false_iff_not, Bool.and_eq_true, Bool.or_eq_true, Bool.and_eq_false_iff, Bool.or_eq_false_iff] at h) <;> (try (exfalso; first | omega | contradiction))))
            | (show WC _ _ _ _ _ _; first
              | refine WC.seq ?_
              | refine WC.region ?_
              | refine WC.block ?_
              | refine WC.skip ?_
              | (show WC _ _ (Code.region _ (List.toArray [_, _, _, _, _, _, _, _, _, _, _, _, _, _, _, _, _, _, _, _, _, _, _, _, _, _, _, _, _, _, _]) true) _ _ _; refine WC.drawS hS [0,1,3,4,5,6,8,9,10,11,12,13,14,15,16,17,18,19,20,21,22,23,24,25,26,27,28,29,30] [0,1,2,3,4,5,6,7,8,9,10,11,12,13,14,15,16,17,18,19,20,21,22,23,24,25,26,27,28,29,30] (by kernel_rfl) (by kernel_rfl) ?_; clear hS; intro w hS hM)
              | refine WC.condF rfl (by with_reducible rfl) ?_
              | refine WC.condT rfl (decide_eq_true (by first | with_reducible assumption | omega)) ?_
              | refine WC.condF rfl (by first | (simp; done) | (simp; omega)) ?_)
            | (show WD _ _ _ _ _ _ _ _ _; first
              | refine WD.pure rfl rfl rfl rfl rfl ?_
              | refine WD.nil ?_
              | refine WD.load rfl rfl (LdOk.box (by repeat (first | exact List.Mem.head _ | apply List.Mem.tail)) rfl) rfl rfl rfl rfl ?_
              | (refine WD.calls hS hM rfl rfl (pcheck_c path 5 _ (by omega)) rfl rfl rfl rfl rfl ?_; clear hS; rintro v w rfl hS; rw [hcp])
              | (refine WD.calls hS hM rfl rfl (twhole_c kind data _) rfl rfl rfl rfl rfl ?_; clear hS; rintro v w rfl hS; rw [hwb])
              | refine WD.pass rfl rfl rfl rfl ?_
              | ((fail_if_success (refine WD.wanted rfl ?_)); refine WD.guard rfl rfl rfl (fun h => ?_) (fun h => ?_) <;> (try simp only [Classical.not_not, Bool.not_eq_true', Bool.not_eq_false', Bool.not_eq_eq_eq_not, Bool.not_true, Bool.not_false, beq_iff_eq, beq_eq_false_iff_ne, ne_eq, decide_eq_decide, decide_eq_true_eq, decide_eq_false_iff_not, Bool.and_eq_true, Bool.or_eq_true, Bool.and_eq_false_iff, Bool.or_eq_false_iff] at h) <;> (try (exfalso; first | omega | contradiction))))
            | refine seqQ_n ?_
            | refine blkQ_n ?_)
          exact rndQ_n (i + 1) ⟨⟨by omega, hg3⟩, hS.droplast2 (by repeat (first | exact Pulls.nil | (apply Pulls.cons; focus (repeat (first | exact Pull.here | apply Pull.there)))))⟩ (by show t.length - (i + 1) < t.length - i; omega) ⟨vint (by omega), trivial⟩ ⟨rfl, rfl, rfl, trivial⟩
        · rw [hf2 ⟨hu, hgk⟩]
          clear hg2 hf2
          repeat' (first
            | (show WL _ _ _ _ _ _ _; first
              | refine WL.pure rfl rfl rfl rfl ?_
              | refine WL.nil ?_
              | refine WL.load hS rfl rfl (LdOk.box (by repeat (first | exact List.Mem.head _ | apply List.Mem.tail)) rfl) rfl rfl rfl ?_
              | (refine WL.load hS rfl rfl (LdOk.snap0 hF hrr (by repeat (first | exact List.Mem.head _ | apply List.Mem.tail)) rfl) rfl rfl rfl ?_)
              | (refine WL.calls hS rfl rfl (pparent_c path _ (by omega)) rfl rfl rfl ?_; rintro v w rfl hS; rw [hup])
              | (refine WL.highV rfl rfl rfl rfl (by omega) rfl rfl rfl ?_)
              | (refine WL.calls hS rfl rfl (trget_c (t.take i) up (hS.slO (by repeat (first | exact List.Mem.head _ | apply List.Mem.tail)) hAt) hrise (by rw [← htl]; omega) htl) rfl rfl rfl ?_; rintro v w rfl hS; rw [hgt])
              | (refine WL.store hS rfl rfl rfl (by repeat (first | exact StB.here rfl | apply StB.there)) rfl rfl rfl ?_; intro w hS)
              | (refine WL.alloc hS rfl rfl rfl rfl rfl rfl ?_; intro w b hS)
              | refine WL.index rfl rfl rfl rfl (by first | with_reducible assumption | omega) rfl rfl rfl rfl ?_
              | ((fail_if_success (refine WL.wanted rfl ?_)); refine WL.guard rfl rfl rfl (fun h => ?_) (fun h => ?_) <;> (try simp only [Classical.not_not, Bool.not_eq_true', Bool.not_eq_false', Bool.not_eq_eq_eq_not, Bool.not_true, Bool.not_false, beq_iff_eq, beq_eq_false_iff_ne, ne_eq, decide_eq_decide, decide_eq_true_eq, decide_eq_false_iff_not, Bool.and_eq_true, Bool.or_eq_true, Bool.and_eq_false_iff, Bool.or_eq_false_iff] at h) <;> (try (exfalso; first | omega | contradiction))))
            | (show WC _ _ _ _ _ _; first
              | refine WC.seq ?_
              | refine WC.region ?_
              | refine WC.block ?_
              | refine WC.skip ?_
              | refine WC.ret ?_
              | (show WC _ _ (Code.region _ (List.toArray [_, _, _, _, _, _, _, _, _, _, _, _, _, _, _, _, _, _, _, _, _, _, _, _, _, _, _, _, _, _, _]) true) _ _ _; refine WC.drawS hS [0,1,3,4,5,6,8,9,10,11,12,13,14,15,16,17,18,19,20,21,22,23,24,25,26,27,28,29,30] [0,1,2,3,4,5,6,7,8,9,10,11,12,13,14,15,16,17,18,19,20,21,22,23,24,25,26,27,28,29,30] (by kernel_rfl) (by kernel_rfl) ?_; clear hS; intro w hS hM)
              | refine WC.condF rfl (by with_reducible rfl) ?_
              | refine WC.condT rfl (decide_eq_true (by first | with_reducible assumption | omega)) ?_)
            | (show WD _ _ _ _ _ _ _ _ _; first
              | refine WD.pure rfl rfl rfl rfl rfl ?_
              | refine WD.nil ?_
              | refine WD.load rfl rfl (LdOk.box (by repeat (first | exact List.Mem.head _ | apply List.Mem.tail)) rfl) rfl rfl rfl rfl ?_
              | (refine WD.calls hS hM rfl rfl (pcheck_c path 5 _ (by omega)) rfl rfl rfl rfl rfl ?_; clear hS; rintro v w rfl hS; rw [hcp])
              | (refine WD.calls hS hM rfl rfl (twhole_c kind data _) rfl rfl rfl rfl rfl ?_; clear hS; rintro v w rfl hS; rw [hwb])
              | refine WD.pass rfl rfl rfl rfl ?_
              | ((fail_if_success (refine WD.wanted rfl ?_)); refine WD.guard rfl rfl rfl (fun h => ?_) (fun h => ?_) <;> (try simp only [Classical.not_not, Bool.not_eq_true', Bool.not_eq_false', Bool.not_eq_eq_eq_not, Bool.not_true, Bool.not_false, beq_iff_eq, beq_eq_false_iff_ne, ne_eq, decide_eq_decide, decide_eq_true_eq, decide_eq_false_iff_not, Bool.and_eq_true, Bool.or_eq_true, Bool.and_eq_false_iff, Bool.or_eq_false_iff] at h) <;> (try (exfalso; first | omega | contradiction))))
            | refine seqQ_n ?_
            | refine seqQ_r ?_
            | refine blkQ_r ?_
            | refine rndQ_r ?_)
          exact fin1r rfl rfl ⟨hS.upd, rfl⟩
    obtain ⟨pb, po, hpe, h1, hF2, hr2⟩ := hprev h0
    cases hpe
    cases hless : Op.bytesLess t[i - 1].path t[i].path with
    | false =>
      rw [hfail (.inr (.inr (.inr (.inl ⟨h0, hless⟩))))]
      generalize t[i] = e at *
      generalize t[i - 1] = q at *
      obtain ⟨path, kind, data⟩ := e
      dsimp only at hcp hwb hup hpl
      obtain ⟨qpath, qkind, qdata⟩ := q
      have hk0 : ¬ kind = 0 := hk0
      have hless : Op.bytesLess qpath path = false := hless
      clear hfail hgood hprev hq
      repeat' (first
        | (show WL _ _ _ _ _ _ _; first
          | refine WL.pure rfl rfl rfl rfl ?_
          | refine WL.nil ?_
          | (refine WL.load hS rfl rfl (LdOk.snap0 hF hrr (by repeat (first | exact List.Mem.head _ | apply List.Mem.tail)) rfl) rfl rfl rfl ?_)
          | (refine WL.store hS rfl rfl rfl (by repeat (first | exact StB.here rfl | apply StB.there)) rfl rfl rfl ?_; intro w hS)
          | (refine WL.alloc hS rfl rfl rfl rfl rfl rfl ?_; intro w b hS)
          | refine WL.index rfl rfl rfl rfl (by first | with_reducible assumption | omega) rfl rfl rfl rfl ?_)
        | (show WC _ _ _ _ _ _; first
          | refine WC.condT rfl (by first | (simp [hless]; done) | fail) ?_
          | refine WC.seq ?_
          | refine WC.region ?_
          | refine WC.block ?_
          | refine WC.skip ?_
          | refine WC.ret ?_
          | (show WC _ _ (Code.region _ (List.toArray [_, _, _, _, _, _, _, _, _, _, _, _, _, _, _, _, _, _, _, _, _, _, _, _, _, _, _, _, _, _, _]) true) _ _ _; refine WC.drawS hS [0,1,3,4,5,6,8,9,10,11,12,13,14,15,16,17,18,19,20,21,22,23,24,25,26,27,28,29,30] [0,1,2,3,4,5,6,7,8,9,10,11,12,13,14,15,16,17,18,19,20,21,22,23,24,25,26,27,28,29,30] (by kernel_rfl) (by kernel_rfl) ?_; clear hS; intro w hS hM)
          | refine WC.condT rfl (decide_eq_true (by first | with_reducible assumption | omega)) ?_)
        | (show WD _ _ _ _ _ _ _ _ _; first
          | refine WD.pure rfl rfl rfl rfl rfl ?_
          | refine WD.nil ?_
          | refine WD.load rfl rfl (LdOk.box (by repeat (first | exact List.Mem.head _ | apply List.Mem.tail)) rfl) rfl rfl rfl rfl ?_
          | refine WD.sub rfl rfl rfl (by omega) rfl rfl rfl rfl ?_
          | (refine WD.calls hS hM rfl rfl (pcheck_c path 5 _ (by omega)) rfl rfl rfl rfl rfl ?_; clear hS; rintro v w rfl hS; rw [hcp])
          | (refine WD.calls hS hM rfl rfl (twhole_c kind data _) rfl rfl rfl rfl rfl ?_; clear hS; rintro v w rfl hS; rw [hwb])
          | (refine WD.index (j := i - 1) rfl rfl rfl (vint (show ((i : Nat) : Int) - 1 = ((i - 1 : Nat) : Int) by omega)) (by omega) rfl rfl rfl rfl rfl ?_)
          | (refine WD.load rfl rfl (LdOk.snap (off := 0) hF2 hr2 (by repeat (first | exact List.Mem.head _ | apply List.Mem.tail)) rfl) rfl rfl rfl rfl ?_)
          | ((fail_if_success (refine WD.wanted rfl ?_)); refine WD.guard rfl rfl rfl (fun h => ?_) (fun h => ?_) <;> (try simp only [Classical.not_not, Bool.not_eq_true', Bool.not_eq_false', Bool.not_eq_eq_eq_not, Bool.not_true, Bool.not_false, beq_iff_eq, beq_eq_false_iff_ne, ne_eq, decide_eq_decide, decide_eq_true_eq, decide_eq_false_iff_not, Bool.and_eq_true, Bool.or_eq_true, Bool.and_eq_false_iff, Bool.or_eq_false_iff] at h) <;> (try (exfalso; first | omega | contradiction))))
        | refine seqQ_n ?_
        | refine seqQ_r ?_
        | refine blkQ_r ?_
        | refine rndQ_r ?_)
      exact fin1r rfl rfl ⟨hS.upd, rfl⟩
    | true =>
      have hg2 := hgood rfl rfl hk0 (fun _ => hless)
      have hf2 := fun h => hfail (.inr (.inr (.inr (.inr h))))
      generalize t[i] = e at *
      generalize t[i - 1] = q at *
      obtain ⟨path, kind, data⟩ := e
      dsimp only at hcp hwb hup hpl
      obtain ⟨qpath, qkind, qdata⟩ := q
      have hk0 : ¬ kind = 0 := hk0
      have hless : Op.bytesLess qpath path = true := hless
      clear hfail hgood hprev hq
      by_cases hu : up = []
      · have hg3 := hg2 (fun h => absurd hu h)
        subst hu
        clear hg2 hf2
        repeat' (first
          | (show WL _ _ _ _ _ _ _; first
            | refine WL.pure rfl rfl rfl rfl ?_
            | refine WL.nil ?_
            | refine WL.load hS rfl rfl (LdOk.box (by repeat (first | exact List.Mem.head _ | apply List.Mem.tail)) rfl) rfl rfl rfl ?_
            | refine WL.add rfl rfl rfl (by omega) rfl rfl rfl ?_
            | (refine WL.load hS rfl rfl (LdOk.snap0 hF hrr (by repeat (first | exact List.Mem.head _ | apply List.Mem.tail)) rfl) rfl rfl rfl ?_)
            | (refine WL.calls hS rfl rfl (pparent_c path _ (by omega)) rfl rfl rfl ?_; rintro v w rfl hS; rw [hup])
            | (refine WL.store hS rfl rfl rfl (by repeat (first | exact StB.here rfl | apply StB.there)) rfl rfl rfl ?_; intro w hS)
            | (refine WL.alloc hS rfl rfl rfl rfl rfl rfl ?_; intro w b hS)
            | refine WL.index rfl rfl rfl rfl (by first | with_reducible assumption | omega) rfl rfl rfl rfl ?_
            | refine WL.skip rfl rfl rfl ?_)
          | (show WC _ _ _ _ _ _; first
            | refine WC.condF rfl (by first | (simp [hless]; done) | fail) ?_
            | refine WC.seq ?_
            | refine WC.region ?_
            | refine WC.block ?_
            | refine WC.skip ?_
            | (show WC _ _ (Code.region _ (List.toArray [_, _, _, _, _, _, _, _, _, _, _, _, _, _, _, _, _, _, _, _, _, _, _, _, _, _, _, _, _, _, _]) true) _ _ _; refine WC.drawS hS [0,1,3,4,5,6,8,9,10,11,12,13,14,15,16,17,18,19,20,21,22,23,24,25,26,27,28,29,30] [0,1,2,3,4,5,6,7,8,9,10,11,12,13,14,15,16,17,18,19,20,21,22,23,24,25,26,27,28,29,30] (by kernel_rfl) (by kernel_rfl) ?_; clear hS; intro w hS hM)
            | refine WC.condT rfl (decide_eq_true (by first | with_reducible assumption | omega)) ?_)
          | (show WD _ _ _ _ _ _ _ _ _; first
            | refine WD.pure rfl rfl rfl rfl rfl ?_
            | refine WD.nil ?_
            | refine WD.load rfl rfl (LdOk.box (by repeat (first | exact List.Mem.head _ | apply List.Mem.tail)) rfl) rfl rfl rfl rfl ?_
            | refine WD.sub rfl rfl rfl (by omega) rfl rfl rfl rfl ?_
            | (refine WD.calls hS hM rfl rfl (pcheck_c path 5 _ (by omega)) rfl rfl rfl rfl rfl ?_; clear hS; rintro v w rfl hS; rw [hcp])
            | (refine WD.calls hS hM rfl rfl (twhole_c kind data _) rfl rfl rfl rfl rfl ?_; clear hS; rintro v w rfl hS; rw [hwb])
            | (refine WD.index (j := i - 1) rfl rfl rfl (vint (show ((i : Nat) : Int) - 1 = ((i - 1 : Nat) : Int) by omega)) (by omega) rfl rfl rfl rfl rfl ?_)
            | (refine WD.load rfl rfl (LdOk.snap (off := 0) hF2 hr2 (by repeat (first | exact List.Mem.head _ | apply List.Mem.tail)) rfl) rfl rfl rfl rfl ?_)
            | ((fail_if_success (refine WD.wanted rfl ?_)); refine WD.guard rfl rfl rfl (fun h => ?_) (fun h => ?_) <;> (try simp only [Classical.not_not, Bool.not_eq_true', Bool.not_eq_false', Bool.not_eq_eq_eq_not, Bool.not_true, Bool.not_false, beq_iff_eq, beq_eq_false_iff_ne, ne_eq, decide_eq_decide, decide_eq_true_eq, decide_eq_false_iff_not, Bool.and_eq_true, Bool.or_eq_true, Bool.and_eq_false_iff, Bool.or_eq_false_iff] at h) <;> (try (exfalso; first | omega | contradiction))))
          | refine seqQ_n ?_
          | refine blkQ_n ?_)
        exact rndQ_n (i + 1) ⟨⟨by omega, hg3⟩, hS.droplast2 (by repeat (first | exact Pulls.nil | (apply Pulls.cons; focus (repeat (first | exact Pull.here | apply Pull.there)))))⟩ (by show t.length - (i + 1) < t.length - i; omega) ⟨vint (by omega), trivial⟩ ⟨rfl, rfl, rfl, trivial⟩
      · by_cases hgk : gkind = 1
        · have hg3 := hg2 (fun _ => hgk)
          subst hgk
          clear hg2 hf2
          repeat' (first
            | (show WL _ _ _ _ _ _ _; first
              | refine WL.pure rfl rfl rfl rfl ?_
              | refine WL.nil ?_
              | refine WL.load hS rfl rfl (LdOk.box (by repeat (first | exact List.Mem.head _ | apply List.Mem.tail)) rfl) rfl rfl rfl ?_
              | refine WL.add rfl rfl rfl (by omega) rfl rfl rfl ?_
              | (refine WL.load hS rfl rfl (LdOk.snap0 hF hrr (by repeat (first | exact List.Mem.head _ | apply List.Mem.tail)) rfl) rfl rfl rfl ?_)
              | (refine WL.calls hS rfl rfl (pparent_c path _ (by omega)) rfl rfl rfl ?_; rintro v w rfl hS; rw [hup])
              | (refine WL.highV rfl rfl rfl rfl (by omega) rfl rfl rfl ?_)
              | (refine WL.calls hS rfl rfl (trget_c (t.take i) up (hS.slO (by repeat (first | exact List.Mem.head _ | apply List.Mem.tail)) hAt) hrise (by rw [← htl]; omega) htl) rfl rfl rfl ?_; rintro v w rfl hS; rw [hgt])
              | (refine WL.store hS rfl rfl rfl (by repeat (first | exact StB.here rfl | apply StB.there)) rfl rfl rfl ?_; intro w hS)
              | (refine WL.alloc hS rfl rfl rfl rfl rfl rfl ?_; intro w b hS)
              | refine WL.index rfl rfl rfl rfl (by first | with_reducible assumption | omega) rfl rfl rfl rfl ?_
              | ((fail_if_success (refine WL.wanted rfl ?_)); refine WL.guard rfl rfl rfl (fun h => ?_) (fun h => ?_) <;> (try simp only [Classical.not_not, Bool.not_eq_true', Bool.not_eq_false', Bool.not_eq_eq_eq_not, Bool.not_true, Bool.not_false, beq_iff_eq, beq_eq_false_iff_ne, ne_eq, decide_eq_decide, decide_eq_true_eq, decide_eq_false_iff_not, Bool.and_eq_true, Bool.or_eq_true, Bool.and_eq_false_iff, Bool.or_eq_false_iff] at h) <;> (try (exfalso; first | omega | contradiction))))
            | (show WC _ _ _ _ _ _; first
              | refine WC.condF rfl (by first | (simp [hless]; done) | fail) ?_
              | refine WC.seq ?_
              | refine WC.region ?_
              | refine WC.block ?_
              | refine WC.skip ?_
              | (show WC _ _ (Code.region _ (List.toArray [_, _, _, _, _, _, _, _, _, _, _, _, _, _, _, _, _, _, _, _, _, _, _, _, _, _, _, _, _, _, _]) true) _ _ _; refine WC.drawS hS [0,1,3,4,5,6,8,9,10,11,12,13,14,15,16,17,18,19,20,21,22,23,24,25,26,27,28,29,30] [0,1,2,3,4,5,6,7,8,9,10,11,12,13,14,15,16,17,18,19,20,21,22,23,24,25,26,27,28,29,30] (by kernel_rfl) (by kernel_rfl) ?_; clear hS; intro w hS hM)
              | refine WC.condT rfl (decide_eq_true (by first | with_reducible assumption | omega)) ?_)
            | (show WD _ _ _ _ _ _ _ _ _; first
              | refine WD.pure rfl rfl rfl rfl rfl ?_
              | refine WD.nil ?_
              | refine WD.load rfl rfl (LdOk.box (by repeat (first | exact List.Mem.head _ | apply List.Mem.tail)) rfl) rfl rfl rfl rfl ?_
              | refine WD.sub rfl rfl rfl (by omega) rfl rfl rfl rfl ?_
              | (refine WD.calls hS hM rfl rfl (pcheck_c path 5 _ (by omega)) rfl rfl rfl rfl rfl ?_; clear hS; rintro v w rfl hS; rw [hcp])
              | (refine WD.calls hS hM rfl rfl (twhole_c kind data _) rfl rfl rfl rfl rfl ?_; clear hS; rintro v w rfl hS; rw [hwb])
              | (refine WD.index (j := i - 1) rfl rfl rfl (vint (show ((i : Nat) : Int) - 1 = ((i - 1 : Nat) : Int) by omega)) (by omega) rfl rfl rfl rfl rfl ?_)
              | (refine WD.load rfl rfl (LdOk.snap (off := 0) hF2 hr2 (by repeat (first | exact List.Mem.head _ | apply List.Mem.tail)) rfl) rfl rfl rfl rfl ?_)
              | ((fail_if_success (refine WD.wanted rfl ?_)); refine WD.guard rfl rfl rfl (fun h => ?_) (fun h => ?_) <;> (try simp only [Classical.not_not, Bool.not_eq_true', Bool.not_eq_false', Bool.not_eq_eq_eq_not, Bool.not_true, Bool.not_false, beq_iff_eq, beq_eq_false_iff_ne, ne_eq, decide_eq_decide, decide_eq_true_eq, decide_eq_false_iff_not, Bool.and_eq_true, Bool.or_eq_true, Bool.and_eq_false_iff, Bool.or_eq_false_iff] at h) <;> (try (exfalso; first | omega | contradiction))))
            | refine seqQ_n ?_
            | refine blkQ_n ?_)
          exact rndQ_n (i + 1) ⟨⟨by omega, hg3⟩, hS.droplast2 (by repeat (first | exact Pulls.nil | (apply Pulls.cons; focus (repeat (first | exact Pull.here | apply Pull.there)))))⟩ (by show t.length - (i + 1) < t.length - i; omega) ⟨vint (by omega), trivial⟩ ⟨rfl, rfl, rfl, trivial⟩
        · rw [hf2 ⟨hu, hgk⟩]
          clear hg2 hf2
          repeat' (first
            | (show WL _ _ _ _ _ _ _; first
              | refine WL.pure rfl rfl rfl rfl ?_
              | refine WL.nil ?_
              | refine WL.load hS rfl rfl (LdOk.box (by repeat (first | exact List.Mem.head _ | apply List.Mem.tail)) rfl) rfl rfl rfl ?_
              | (refine WL.load hS rfl rfl (LdOk.snap0 hF hrr (by repeat (first | exact List.Mem.head _ | apply List.Mem.tail)) rfl) rfl rfl rfl ?_)
              | (refine WL.calls hS rfl rfl (pparent_c path _ (by omega)) rfl rfl rfl ?_; rintro v w rfl hS; rw [hup])
              | (refine WL.highV rfl rfl rfl rfl (by omega) rfl rfl rfl ?_)
              | (refine WL.calls hS rfl rfl (trget_c (t.take i) up (hS.slO (by repeat (first | exact List.Mem.head _ | apply List.Mem.tail)) hAt) hrise (by rw [← htl]; omega) htl) rfl rfl rfl ?_; rintro v w rfl hS; rw [hgt])
              | (refine WL.store hS rfl rfl rfl (by repeat (first | exact StB.here rfl | apply StB.there)) rfl rfl rfl ?_; intro w hS)
              | (refine WL.alloc hS rfl rfl rfl rfl rfl rfl ?_; intro w b hS)
              | refine WL.index rfl rfl rfl rfl (by first | with_reducible assumption | omega) rfl rfl rfl rfl ?_
              | ((fail_if_success (refine WL.wanted rfl ?_)); refine WL.guard rfl rfl rfl (fun h => ?_) (fun h => ?_) <;> (try simp only [Classical.not_not, Bool.not_eq_true', Bool.not_eq_false', Bool.not_eq_eq_eq_not, Bool.not_true, Bool.not_false, beq_iff_eq, beq_eq_false_iff_ne, ne_eq, decide_eq_decide, decide_eq_true_eq, decide_eq_false_iff_not, Bool.and_eq_true, Bool.or_eq_true, Bool.and_eq_false_iff, Bool.or_eq_false_iff] at h) <;> (try (exfalso; first | omega | contradiction))))
            | (show WC _ _ _ _ _ _; first
              | refine WC.condF rfl (by first | (simp [hless]; done) | fail) ?_
              | refine WC.seq ?_
              | refine WC.region ?_
              | refine WC.block ?_
              | refine WC.skip ?_
              | refine WC.ret ?_
              | (show WC _ _ (Code.region _ (List.toArray [_, _, _, _, _, _, _, _, _, _, _, _, _, _, _, _, _, _, _, _, _, _, _, _, _, _, _, _, _, _, _]) true) _ _ _; refine WC.drawS hS [0,1,3,4,5,6,8,9,10,11,12,13,14,15,16,17,18,19,20,21,22,23,24,25,26,27,28,29,30] [0,1,2,3,4,5,6,7,8,9,10,11,12,13,14,15,16,17,18,19,20,21,22,23,24,25,26,27,28,29,30] (by kernel_rfl) (by kernel_rfl) ?_; clear hS; intro w hS hM)
              | refine WC.condT rfl (decide_eq_true (by first | with_reducible assumption | omega)) ?_)
            | (show WD _ _ _ _ _ _ _ _ _; first
              | refine WD.pure rfl rfl rfl rfl rfl ?_
              | refine WD.nil ?_
              | refine WD.load rfl rfl (LdOk.box (by repeat (first | exact List.Mem.head _ | apply List.Mem.tail)) rfl) rfl rfl rfl rfl ?_
              | refine WD.sub rfl rfl rfl (by omega) rfl rfl rfl rfl ?_
              | (refine WD.calls hS hM rfl rfl (pcheck_c path 5 _ (by omega)) rfl rfl rfl rfl rfl ?_; clear hS; rintro v w rfl hS; rw [hcp])
              | (refine WD.calls hS hM rfl rfl (twhole_c kind data _) rfl rfl rfl rfl rfl ?_; clear hS; rintro v w rfl hS; rw [hwb])
              | (refine WD.index (j := i - 1) rfl rfl rfl (vint (show ((i : Nat) : Int) - 1 = ((i - 1 : Nat) : Int) by omega)) (by omega) rfl rfl rfl rfl rfl ?_)
              | (refine WD.load rfl rfl (LdOk.snap (off := 0) hF2 hr2 (by repeat (first | exact List.Mem.head _ | apply List.Mem.tail)) rfl) rfl rfl rfl rfl ?_)
              | ((fail_if_success (refine WD.wanted rfl ?_)); refine WD.guard rfl rfl rfl (fun h => ?_) (fun h => ?_) <;> (try simp only [Classical.not_not, Bool.not_eq_true', Bool.not_eq_false', Bool.not_eq_eq_eq_not, Bool.not_true, Bool.not_false, beq_iff_eq, beq_eq_false_iff_ne, ne_eq, decide_eq_decide, decide_eq_true_eq, decide_eq_false_iff_not, Bool.and_eq_true, Bool.or_eq_true, Bool.and_eq_false_iff, Bool.or_eq_false_iff] at h) <;> (try (exfalso; first | omega | contradiction))))
            | refine seqQ_n ?_
            | refine seqQ_r ?_
            | refine blkQ_r ?_
            | refine rndQ_r ?_)
          exact fin1r rfl rfl ⟨hS.upd, rfl⟩
end Go.Proofs.YtobfdeiimnnanaaGreatDoor

/- What is proved: what Get, Whole, Check and Same of reference 4 answer. Conditions: entries of bounded length. -/
set_option linter.unusedSimpArgs false
set_option linter.unusedVariables false
namespace Go.Proofs.YtobfdeiimnnanaaGreatDoor
open Go Go.J Go.RowKit

set_option maxHeartbeats 4000000 in
set_option maxRecDepth 100000 in
theorem rwhole_c (kind : Int) (data : List UInt8) (w0 : World) : Cal Tryz.prog 55 [.agg ⟨[.int .i64 kind, str data]⟩] w0 (fun v w' => Upd [] w0 w' ∧ v = .bool (wholeE kind data)) := by
  refine Cal.mk' (by kernel_rfl) Tryz.func55 rfl rfl fun hS => ?_
  by_cases h2 : kind = 2
  · have e : wholeE kind data = decide ((data.length : Int) ≤ 4096) := by
      unfold wholeE
      rw [if_neg (by omega), if_pos h2]
      by_cases hd : data.length ≤ 4096
      · rw [decide_eq_true hd, decide_eq_true (by omega)]
      · rw [decide_eq_false hd, decide_eq_false (by omega)]
    rw [e]
    subst h2
    repeat' (first
      | (show WL _ _ _ _ _ _ _; first
        | refine WL.pure rfl rfl rfl rfl ?_
        | refine WL.nil ?_
        | refine WL.load hS rfl rfl (LdOk.box (by repeat (first | exact List.Mem.head _ | apply List.Mem.tail)) rfl) rfl rfl rfl ?_
        | (refine WL.box hS rfl rfl rfl rfl rfl ?_; intro w b hS))
      | (show WC _ _ _ _ _ _; first
        | refine WC.seq ?_
        | refine WC.region ?_
        | refine WC.ret ?_
        | refine WC.condT rfl (by decide) ?_)
      | refine seqQ_n ?_
      | refine seqQ_r ?_)
    exact fin1r rfl rfl ⟨hS.upd, rfl⟩
  by_cases h01 : kind = 0 ∨ kind = 1
  · have e : wholeE kind data = decide ((data.length : Int) = 0) := by
      unfold wholeE
      rw [if_pos h01]
      by_cases hd : data = []
      · rw [decide_eq_true hd, decide_eq_true (by rw [hd]; rfl)]
      · have := List.length_pos_iff.2 hd
        rw [decide_eq_false hd, decide_eq_false (by omega)]
    rw [e]
    rcases h01 with h | h
    all_goals
      subst h
      repeat' (first
        | (show WL _ _ _ _ _ _ _; first
          | refine WL.pure rfl rfl rfl rfl ?_
          | refine WL.nil ?_
          | refine WL.load hS rfl rfl (LdOk.box (by repeat (first | exact List.Mem.head _ | apply List.Mem.tail)) rfl) rfl rfl rfl ?_
          | (refine WL.box hS rfl rfl rfl rfl rfl ?_; intro w b hS)
          | refine WL.skip rfl rfl rfl ?_)
        | (show WC _ _ _ _ _ _; first
          | refine WC.seq ?_
          | refine WC.region ?_
          | refine WC.skip ?_
          | refine WC.ret ?_
          | refine WC.condF rfl (by decide) ?_)
        | refine seqQ_n ?_)
      exact fin1r rfl rfl ⟨hS.upd, rfl⟩
  · have e : wholeE kind data = false := by unfold wholeE; rw [if_neg h01, if_neg h2]
    have h0 : ¬ kind = 0 := fun h => h01 (.inl h)
    have h1 : ¬ kind = 1 := fun h => h01 (.inr h)
    rw [e]
    clear h01
    repeat' (first
      | (show WL _ _ _ _ _ _ _; first
        | refine WL.pure rfl rfl rfl rfl ?_
        | refine WL.nil ?_
        | refine WL.load hS rfl rfl (LdOk.box (by repeat (first | exact List.Mem.head _ | apply List.Mem.tail)) rfl) rfl rfl rfl ?_
        | (refine WL.box hS rfl rfl rfl rfl rfl ?_; intro w b hS)
        | refine WL.skip rfl rfl rfl ?_
        | ((fail_if_success (refine WL.wanted rfl ?_)); refine WL.guard rfl rfl rfl (fun h => ?_) (fun h => ?_) <;> (try simp only [Classical.not_not, Bool.not_eq_true', Bool.not_eq_false', Bool.not_eq_eq_eq_not, Bool.not_true, Bool.not_false, beq_iff_eq, beq_eq_false_iff_ne, ne_eq, decide_eq_decide, decide_eq_true_eq, decide_eq_false_iff_not, Bool.and_eq_true, Bool.or_eq_true, Bool.and_eq_false_iff, Bool.or_eq_false_iff] at h) <;> (try (exfalso; first | omega | contradiction))))
      | (show WC _ _ _ _ _ _; first
        | refine WC.seq ?_
        | refine WC.region ?_
        | refine WC.skip ?_
        | refine WC.ret ?_
        | refine WC.condF rfl (decide_eq_false (by first | with_reducible assumption | omega)) ?_)
      | refine seqQ_n ?_)
    exact fin1r rfl rfl ⟨hS.upd, vbool (by simp [h0, h1])⟩
set_option maxHeartbeats 4000000 in
set_option maxRecDepth 100000 in
theorem rget_c (t : List Ent) (p : List UInt8) {A : Option Addr} {cap : Nat} {w0 : World} (hA : SlAt cEnt (Old w0) w0 A t) (hl : t.length ≤ 1048576) :
    Cal Tryz.prog 57 [.slice A t.length cap, str p] w0 (fun v w' => Upd [] w0 w' ∧ v = nodeV (getT t p)) := by
  refine Cal.mk' (by kernel_rfl) Tryz.func57 rfl rfl fun hS => ?_
  repeat' (first
    | (show WL _ _ _ _ _ _ _; first
      | refine WL.pure rfl rfl rfl rfl ?_
      | refine WL.nil ?_
      | (refine WL.alloc hS rfl rfl rfl rfl rfl rfl ?_; intro w b hS))
    | (show WC _ _ _ _ _ _; first
      | refine WC.seq ?_
      | refine WC.region ?_
      | refine WC.block ?_)
    | refine seqQ_n ?_)
  refine WC.loop (σ := Nat) [0, 1, 4] (fun k => [(5, .int .i64 (k : Int))]) (fun k w => (k ≤ t.length ∧ ∀ e ∈ t.take k, e.path ≠ p) ∧ St w0 [] w [.box _ 26 [.int .i64 0, str []]] [⟨w0, Old w0⟩]) (fun k => t.length - k) 0 ⟨⟨Nat.zero_le _, by simp⟩, hS⟩ ⟨rfl, trivial⟩ ?_
  clear hS
  rintro k g w ⟨⟨hk, hno⟩, hS⟩
  show WC _ _ _ (lf _ [(5, .int .i64 (k : Int))] _ _) _ _
  by_cases hlt : k < t.length
  · obtain ⟨rb, ro, es, rfl, hF, hrr, hes⟩ := hA.at_ hlt
    have hes : es = encEnt t[k] := hes
    subst hes
    have hrr : w0.rangeAt rb (ro + k * 3) (encEnt t[k]) := hrr
    by_cases he : t[k].path = p
    · have hg : getT t p = t[k] := by
        unfold getT
        rw [show (t.find? fun e => decide (e.path = p)) = some t[k] from by
          rw [List.find?_eq_some_iff_append]
          refine ⟨by simpa using he, t.take k, t.drop (k + 1), ?_, fun e hm => by simpa using hno e hm⟩
          rw [← List.drop_eq_getElem_cons hlt, List.take_append_drop]]
        rfl
      rw [hg]
      generalize t[k] = e at *
      obtain ⟨epath, ekind, edata⟩ := e
      have he : epath = p := he
      subst he
      clear hno hg
      repeat' (first
        | (show WL _ _ _ _ _ _ _; first
          | refine WL.pure rfl rfl rfl rfl ?_
          | refine WL.nil ?_
          | (refine WL.load hS rfl rfl (LdOk.snap (off := 0) hF hrr (by repeat (first | exact List.Mem.head _ | apply List.Mem.tail)) rfl) rfl rfl rfl ?_)
          | (refine WL.load hS rfl rfl (LdOk.snap (off := 1) hF hrr (by repeat (first | exact List.Mem.head _ | apply List.Mem.tail)) rfl) rfl rfl rfl ?_)
          | (refine WL.store hS rfl rfl rfl (by repeat (first | exact StB.here rfl | apply StB.there)) rfl rfl rfl ?_; intro w hS)
          | refine WL.index rfl rfl rfl rfl (by first | with_reducible assumption | omega) rfl rfl rfl rfl ?_)
        | (show WC _ _ _ _ _ _; first
          | refine WC.seq ?_
          | refine WC.region ?_
          | refine WC.block ?_
          | refine WC.skip ?_
          | refine WC.ret ?_
          | refine WC.condT rfl (decide_eq_true (by first | with_reducible assumption | omega)) ?_)
        | refine seqQ_n ?_
        | refine seqQ_r ?_
        | refine blkQ_r ?_
        | refine rndQ_r ?_)
      exact finC1r hS rfl rfl (LdOk.box (List.Mem.head _) rfl) ⟨hS.upd, rfl⟩
    · have hno2 : ∀ e ∈ t.take (k + 1), e.path ≠ p := fun e hm => by
        rw [List.take_succ_eq_append_getElem hlt, List.mem_append, List.mem_singleton] at hm
        rcases hm with hm | rfl
        · exact hno e hm
        · exact he
      obtain ⟨HN, rfl⟩ : ∃ h : (∀ e ∈ t.take (k + 1), e.path ≠ p), h = hno2 := ⟨_, rfl⟩
      generalize t[k] = e at *
      obtain ⟨epath, ekind, edata⟩ := e
      have he : ¬ epath = p := he
      clear hno
      repeat' (first
        | (show WL _ _ _ _ _ _ _; first
          | refine WL.pure rfl rfl rfl rfl ?_
          | refine WL.nil ?_
          | refine WL.add rfl rfl rfl (by omega) rfl rfl rfl ?_
          | (refine WL.load hS rfl rfl (LdOk.snap (off := 0) hF hrr (by repeat (first | exact List.Mem.head _ | apply List.Mem.tail)) rfl) rfl rfl rfl ?_)
          | refine WL.index rfl rfl rfl rfl (by first | with_reducible assumption | omega) rfl rfl rfl rfl ?_)
        | (show WC _ _ _ _ _ _; first
          | refine WC.seq ?_
          | refine WC.region ?_
          | refine WC.block ?_
          | refine WC.skip ?_
          | refine WC.condT rfl (decide_eq_true (by first | with_reducible assumption | omega)) ?_
          | refine WC.condF rfl (decide_eq_false (by first | with_reducible assumption | omega)) ?_)
        | refine seqQ_n ?_
        | refine blkQ_n ?_)
      exact rndQ_n (k + 1) ⟨⟨by omega, HN⟩, hS⟩ (by show t.length - (k + 1) < t.length - k; omega) ⟨vint (by omega), trivial⟩ ⟨rfl, rfl, rfl, trivial⟩
  · have hke : k = t.length := by omega
    subst hke
    rw [List.take_length] at hno
    rw [getT_no hno]
    clear hno
    repeat' (first
      | (show WL _ _ _ _ _ _ _; first
        | refine WL.pure rfl rfl rfl rfl ?_
        | refine WL.nil ?_
        | (refine WL.store hS rfl rfl rfl (by repeat (first | exact StB.here rfl | apply StB.there)) rfl rfl rfl ?_; intro w hS)
        | refine WL.build rfl rfl rfl rfl rfl ?_)
      | (show WC _ _ _ _ _ _; first
        | refine WC.seq ?_
        | refine WC.region ?_
        | refine WC.exit ?_
        | refine WC.ret ?_
        | refine WC.condF rfl (decide_eq_false (by first | with_reducible assumption | omega)) ?_)
      | refine seqQ_n ?_
      | refine seqQ_x ?_
      | refine blkQ_hit rfl ?_
      | refine rndQ_x ?_)
    exact finC1r hS rfl rfl (LdOk.box (List.Mem.head _) rfl) ⟨hS.upd, rfl⟩
set_option maxHeartbeats 4000000 in
set_option maxRecDepth 100000 in
theorem rsame_c (l : List Ent) {A B : Option Addr} {cap cap2 : Nat} {w0 : World} (hA : SlAt cEnt (Old w0) w0 A l) (hB : SlAt cEnt (Old w0) w0 B l) (hl : l.length ≤ 1099511627776) :
    Cal Tryz.prog 21 [.slice A l.length cap, .slice B l.length cap2] w0 (fun v w' => Upd [] w0 w' ∧ v = .bool true) := by
  refine Cal.mk' (by kernel_rfl) Tryz.func21 rfl rfl fun hS => ?_
  repeat' (first
    | (show WL _ _ _ _ _ _ _; first
      | refine WL.pure rfl rfl rfl rfl ?_
      | refine WL.nil ?_)
    | (show WC _ _ _ _ _ _; first
      | refine WC.seq ?_
      | refine WC.region ?_
      | refine WC.block ?_
      | refine WC.skip ?_
      | refine WC.condF rfl (decide_eq_false (by first | with_reducible assumption | omega)) ?_)
    | refine seqQ_n ?_)
  refine WC.loop (σ := Nat) [0, 1] (fun k => [(5, .int .i64 (k : Int))]) (fun k w => k ≤ l.length ∧ St w0 [] w [] [⟨w0, Old w0⟩]) (fun k => l.length - k) 0 ⟨Nat.zero_le _, hS⟩ ⟨rfl, trivial⟩ ?_
  clear hS
  rintro k g w ⟨hk, hS⟩
  show WC _ _ _ (lf _ [(5, .int .i64 (k : Int))] _ _) _ _
  by_cases hlt : k < l.length
  · obtain ⟨rb, ro, es, rfl, hF, hrr, hes⟩ := hA.at_ hlt
    obtain ⟨rb2, ro2, es2, rfl, hF2, hr2, hes2⟩ := hB.at_ hlt
    have hes : es = encEnt l[k] := hes
    have hes2 : es2 = encEnt l[k] := hes2
    subst hes hes2
    have hrr : w0.rangeAt rb (ro + k * 3) (encEnt l[k]) := hrr
    have hr2 : w0.rangeAt rb2 (ro2 + k * 3) (encEnt l[k]) := hr2
    generalize l[k] = o at *
    obtain ⟨opath, okind, odata⟩ := o
    repeat' (first
      | (show WL _ _ _ _ _ _ _; first
        | refine WL.pure rfl rfl rfl rfl ?_
        | refine WL.nil ?_
        | refine WL.add rfl rfl rfl (by omega) rfl rfl rfl ?_)
      | (show WC _ _ _ _ _ _; first
        | refine WC.seq ?_
        | refine WC.region ?_
        | refine WC.block ?_
        | refine WC.skip ?_
        | (show WC _ _ (Code.region _ (List.toArray [_, _, _, _, _, _, _, _, _]) true) _ _ _; refine WC.drawS hS [0, 1, 2, 3, 4, 5, 6, 7, 8] [0, 1, 2, 3, 4, 5, 6, 7, 8] (by kernel_rfl) (by kernel_rfl) ?_; clear hS; intro w hS hM)
        | refine WC.condT rfl (decide_eq_true (by first | with_reducible assumption | omega)) ?_
        | refine WC.condF rfl (by first | (simp; done) | (simp; omega)) ?_)
      | (show WD _ _ _ _ _ _ _ _ _; first
        | refine WD.pure rfl rfl rfl rfl rfl ?_
        | refine WD.nil ?_
        | (refine WD.load rfl rfl (LdOk.snap0 hF hrr (by repeat (first | exact List.Mem.head _ | apply List.Mem.tail)) rfl) rfl rfl rfl rfl ?_)
        | (refine WD.load rfl rfl (LdOk.snap0 hF2 hr2 (by repeat (first | exact List.Mem.head _ | apply List.Mem.tail)) rfl) rfl rfl rfl rfl ?_)
        | refine WD.index rfl rfl rfl rfl (by first | with_reducible assumption | omega) rfl rfl rfl rfl rfl ?_
        | refine WD.neS rfl rfl rfl rfl (by kernel_rfl) rfl rfl rfl rfl ?_)
      | refine seqQ_n ?_
      | refine blkQ_n ?_)
    exact rndQ_n (k + 1) ⟨by omega, hS⟩ (by show l.length - (k + 1) < l.length - k; omega) ⟨vint (by omega), trivial⟩ ⟨rfl, rfl, trivial⟩
  · have hke : k = l.length := by omega
    subst hke
    repeat' (first
      | (show WL _ _ _ _ _ _ _; first
        | refine WL.pure rfl rfl rfl rfl ?_
        | refine WL.nil ?_)
      | (show WC _ _ _ _ _ _; first
        | refine WC.seq ?_
        | refine WC.region ?_
        | refine WC.exit ?_
        | refine WC.ret ?_
        | refine WC.condF rfl (decide_eq_false (by first | with_reducible assumption | omega)) ?_)
      | refine seqQ_n ?_
      | refine seqQ_x ?_
      | refine blkQ_hit rfl ?_
      | refine rndQ_x ?_)
    exact fin1r rfl rfl ⟨hS.upd, rfl⟩
def RefTo (t : List Ent) (n : Nat) : Prop := ∀ i (h : i < t.length), i < n → RefOk t i h
theorem checkT_badR {t : List Ent} (h : t.length ≤ 200) {i : Nat} (hi : i < t.length) (hb : ¬ RefOk t i hi) : checkT t = 3 := by
  unfold checkT
  rw [if_neg (by omega), if_neg (fun hh => hb (tree_refOk hh i hi))]
set_option maxHeartbeats 16000000 in
set_option maxRecDepth 100000 in
theorem rtcheck_c (t : List Ent) {A : Option Addr} {cap : Nat} {w0 : World} (hA : SlAt cEnt (Old w0) w0 A t) (hcap : t.length ≤ cap) (hl : t.length ≤ 1048576) (hz : ∀ e ∈ t, e.path.length ≤ 1048576) :
    Cal Tryz.prog 16 [.slice A t.length cap] w0 (fun v w' => Upd [] w0 w' ∧ v = .int .i64 (checkT t)) := by
  refine Cal.mk' (by kernel_rfl) Tryz.func16 rfl rfl fun hS => ?_
  by_cases h200 : t.length ≤ 200
  rotate_left
  · have e : checkT t = 4 := by unfold checkT; rw [if_pos (by omega)]
    rw [e]
    repeat' (first
      | (show WL _ _ _ _ _ _ _; first
        | refine WL.pure rfl rfl rfl rfl ?_
        | refine WL.nil ?_)
      | (show WC _ _ _ _ _ _; first
        | refine WC.seq ?_
        | refine WC.region ?_
        | refine WC.ret ?_
        | refine WC.condT rfl (decide_eq_true (by first | with_reducible assumption | omega)) ?_)
      | refine seqQ_n ?_
      | refine seqQ_r ?_)
    exact fin1r rfl rfl ⟨hS.upd, rfl⟩
  repeat' (first
    | (show WL _ _ _ _ _ _ _; first
      | refine WL.pure rfl rfl rfl rfl ?_
      | refine WL.nil ?_)
    | (show WC _ _ _ _ _ _; first
      | refine WC.seq ?_
      | refine WC.region ?_
      | refine WC.block ?_
      | refine WC.skip ?_
      | refine WC.condF rfl (decide_eq_false (by first | with_reducible assumption | omega)) ?_)
    | refine seqQ_n ?_)
  refine WC.loop (σ := Nat) [0] (fun i => [(3, .int .i64 (i : Int))]) (fun i w => (i ≤ t.length ∧ RefTo t i) ∧ St w0 [] w [] [⟨w0, Old w0⟩]) (fun i => t.length - i) 0 ⟨⟨Nat.zero_le _, fun i _ h => absurd h (Nat.not_lt_zero _)⟩, hS⟩ ⟨rfl, trivial⟩ ?_
  clear hS
  rintro i g w ⟨⟨hi, hto⟩, hS⟩
  show WC _ _ _ (lf _ [(3, .int .i64 (i : Int))] _ _) _ _
  by_cases hlt : i < t.length
  rotate_left
  · have hie : i = t.length := by omega
    subst hie
    rw [checkT_ok h200 (refOk_tree fun j hj => hto j hj hj)]
    clear hto
    repeat' (first
      | (show WL _ _ _ _ _ _ _; first
        | refine WL.pure rfl rfl rfl rfl ?_
        | refine WL.nil ?_)
      | (show WC _ _ _ _ _ _; first
        | refine WC.seq ?_
        | refine WC.region ?_
        | refine WC.exit ?_
        | refine WC.ret ?_
        | refine WC.condF rfl (decide_eq_false (by first | with_reducible assumption | omega)) ?_)
      | refine seqQ_n ?_
      | refine seqQ_x ?_
      | refine blkQ_hit rfl ?_
      | refine rndQ_x ?_)
    exact fin1r rfl rfl ⟨hS.upd, rfl⟩
  obtain ⟨rb, ro, es, rfl, hF, hrr, hes⟩ := hA.at_ hlt
  have hes : es = encEnt t[i] := hes
  subst hes
  have hrr : w0.rangeAt rb (ro + i * 3) (encEnt t[i]) := hrr
  have hpl := hz t[i] (List.getElem_mem hlt)
  have hbad := fun (h : ¬ RefOk t i hlt) => checkT_badR h200 hlt h
  have hprev : 0 < i → ∃ pb po, (some ⟨rb, ro, none⟩ : Option Addr) = some ⟨pb, po, none⟩ ∧ ∃ h : i - 1 < t.length, Old w0 pb ∧ w0.rangeAt pb (po + (i - 1) * 3) (encEnt t[i - 1]) := fun h0 => by
    have h1 : i - 1 < t.length := by omega
    obtain ⟨pb, po, es, hA2, hF2, hr2, hes2⟩ := hA.at_ h1
    have hes2 : es = encEnt t[i - 1] := hes2
    subst hes2
    exact ⟨pb, po, hA2, h1, hF2, hr2⟩
  have hnext : RefOk t i hlt → RefTo t (i + 1) := fun h j hj hji => by
    by_cases e : j = i
    · subst e; exact h
    · exact hto j hj (by omega)
  have hfail : (checkE t[i].path 5 ≠ 0 ∨ wholeE t[i].kind t[i].data = false ∨ t[i].kind = 0 ∨ (∃ h0 : 0 < i, Op.bytesLess (t[i - 1]'(by omega)).path t[i].path = false) ∨ (parentE t[i].path ≠ [] ∧ (getT t (parentE t[i].path)).kind ≠ 1)) → checkT t = 3 := fun h => hbad fun ho => by
    rcases h with h | h | h | ⟨h0, h⟩ | ⟨h1, h2⟩
    · exact h ho.path
    · have := ho.whole; rw [h] at this; cases this
    · exact ho.kind h
    · have := ho.ord (i - 1) (by omega); rw [h] at this; cases this
    · exact h2 (ho.up h1)
  have hgood : checkE t[i].path 5 = 0 → wholeE t[i].kind t[i].data = true → t[i].kind ≠ 0 → (∀ h0 : 0 < i, Op.bytesLess (t[i - 1]'(by omega)).path t[i].path = true) → (parentE t[i].path ≠ [] → (getT t (parentE t[i].path)).kind = 1) → RefTo t (i + 1) := fun h1 h2 h3 h4 h5 =>
    hnext ⟨h1, h2, h3, fun j hj => by subst hj; exact h4 (by omega), h5⟩
  have hq : 0 < i → ∃ q, ∃ h1 : i - 1 < t.length, q = t[i - 1] := fun h0 => ⟨_, by omega, rfl⟩
  clear hbad hnext hto
  obtain ⟨c, hcp⟩ : ∃ c, checkE t[i].path 5 = c := ⟨_, rfl⟩
  obtain ⟨wb, hwb⟩ : ∃ wb, wholeE t[i].kind t[i].data = wb := ⟨_, rfl⟩
  obtain ⟨up, hup⟩ : ∃ up, parentE t[i].path = up := ⟨_, rfl⟩
  rw [hcp, hwb, hup] at hfail hgood
  obtain ⟨gt, hgt⟩ : ∃ gt, getT t up = gt := ⟨_, rfl⟩
  rw [hgt] at hfail hgood
  obtain ⟨gpath, gkind, gdata⟩ := gt
  have hgt : getT t up = ⟨gpath, gkind, gdata⟩ := hgt
  have hfail : (c ≠ 0 ∨ wb = false ∨ t[i].kind = 0 ∨ (∃ h0 : 0 < i, Op.bytesLess (t[i - 1]'(by omega)).path t[i].path = false) ∨ (up ≠ [] ∧ gkind ≠ 1)) → checkT t = 3 := hfail
  have hgood : c = 0 → wb = true → t[i].kind ≠ 0 → (∀ h0 : 0 < i, Op.bytesLess (t[i - 1]'(by omega)).path t[i].path = true) → (up ≠ [] → gkind = 1) → RefTo t (i + 1) := hgood
  by_cases hc0 : c = 0
  rotate_left
  · rw [hfail (.inl hc0)]
    generalize t[i] = e at *
    obtain ⟨path, kind, data⟩ := e
    dsimp only at hcp hwb hup hpl
    clear hfail hgood hprev hq
    repeat' (first
      | (show WL _ _ _ _ _ _ _; first
        | refine WL.pure rfl rfl rfl rfl ?_
        | refine WL.nil ?_
        | (refine WL.load hS rfl rfl (LdOk.snap (off := 0) hF hrr (by repeat (first | exact List.Mem.head _ | apply List.Mem.tail)) rfl) rfl rfl rfl ?_)
        | (refine WL.calls hS rfl rfl (rcheck_c path 5 _ (by omega)) rfl rfl rfl ?_; rintro v w rfl hS; rw [hcp])
        | refine WL.index rfl rfl rfl rfl (by first | with_reducible assumption | omega) rfl rfl rfl rfl ?_
        | refine WL.skip rfl rfl rfl ?_
        | ((fail_if_success (refine WL.wanted rfl ?_)); refine WL.guard rfl rfl rfl (fun h => ?_) (fun h => ?_) <;> (try simp only [Classical.not_not, Bool.not_eq_true', Bool.not_eq_false', Bool.not_eq_eq_eq_not, Bool.not_true, Bool.not_false, beq_iff_eq, beq_eq_false_iff_ne, ne_eq, decide_eq_decide, decide_eq_true_eq, decide_eq_false_iff_not, Bool.and_eq_true, Bool.or_eq_true, Bool.and_eq_false_iff, Bool.or_eq_false_iff] at h) <;> (try (exfalso; first | omega | contradiction))))
      | (show WC _ _ _ _ _ _; first
        | refine WC.seq ?_
        | refine WC.region ?_
        | refine WC.block ?_
        | refine WC.skip ?_
        | refine WC.ret ?_
        | refine WC.condT rfl (by with_reducible rfl) ?_
        | refine WC.condT rfl (decide_eq_true (by first | with_reducible assumption | omega)) ?_)
      | refine seqQ_n ?_
      | refine seqQ_r ?_
      | refine blkQ_r ?_
      | refine rndQ_r ?_)
    exact fin1r rfl rfl ⟨hS.upd, rfl⟩
  subst hc0
  cases wb with
  | false =>
    rw [hfail (.inr (.inl rfl))]
    generalize t[i] = e at *
    obtain ⟨path, kind, data⟩ := e
    dsimp only at hcp hwb hup hpl
    clear hfail hgood hprev hq
    repeat' (first
      | (show WL _ _ _ _ _ _ _; first
        | refine WL.pure rfl rfl rfl rfl ?_
        | refine WL.nil ?_
        | (refine WL.load hS rfl rfl (LdOk.snap (off := 0) hF hrr (by repeat (first | exact List.Mem.head _ | apply List.Mem.tail)) rfl) rfl rfl rfl ?_)
        | (refine WL.load hS rfl rfl (LdOk.snap (off := 1) hF hrr (by repeat (first | exact List.Mem.head _ | apply List.Mem.tail)) rfl) rfl rfl rfl ?_)
        | (refine WL.calls hS rfl rfl (rcheck_c path 5 _ (by omega)) rfl rfl rfl ?_; rintro v w rfl hS; rw [hcp])
        | (refine WL.calls hS rfl rfl (rwhole_c kind data _) rfl rfl rfl ?_; rintro v w rfl hS; rw [hwb])
        | refine WL.index rfl rfl rfl rfl (by first | with_reducible assumption | omega) rfl rfl rfl rfl ?_
        | refine WL.skip rfl rfl rfl ?_)
      | (show WC _ _ _ _ _ _; first
        | refine WC.seq ?_
        | refine WC.region ?_
        | refine WC.block ?_
        | refine WC.skip ?_
        | refine WC.ret ?_
        | refine WC.condT rfl (by with_reducible rfl) ?_
        | refine WC.condT rfl (decide_eq_true (by first | with_reducible assumption | omega)) ?_)
      | refine seqQ_n ?_
      | refine seqQ_r ?_
      | refine blkQ_r ?_
      | refine rndQ_r ?_)
    exact fin1r rfl rfl ⟨hS.upd, rfl⟩
  | true =>
    by_cases hk0 : t[i].kind = 0
    · rw [hfail (.inr (.inr (.inl hk0)))]
      generalize t[i] = e at *
      obtain ⟨path, kind, data⟩ := e
      dsimp only at hcp hwb hup hpl
      have hk0 : kind = 0 := hk0
      clear hfail hgood hprev hq
      repeat' (first
        | (show WL _ _ _ _ _ _ _; first
          | refine WL.pure rfl rfl rfl rfl ?_
          | refine WL.nil ?_
          | (refine WL.load hS rfl rfl (LdOk.snap (off := 0) hF hrr (by repeat (first | exact List.Mem.head _ | apply List.Mem.tail)) rfl) rfl rfl rfl ?_)
          | (refine WL.load hS rfl rfl (LdOk.snap (off := 1) hF hrr (by repeat (first | exact List.Mem.head _ | apply List.Mem.tail)) rfl) rfl rfl rfl ?_)
          | (refine WL.calls hS rfl rfl (rcheck_c path 5 _ (by omega)) rfl rfl rfl ?_; rintro v w rfl hS; rw [hcp])
          | (refine WL.calls hS rfl rfl (rwhole_c kind data _) rfl rfl rfl ?_; rintro v w rfl hS; rw [hwb])
          | refine WL.index rfl rfl rfl rfl (by first | with_reducible assumption | omega) rfl rfl rfl rfl ?_
          | refine WL.skip rfl rfl rfl ?_
          | ((fail_if_success (refine WL.wanted rfl ?_)); refine WL.guard rfl rfl rfl (fun h => ?_) (fun h => ?_) <;> (try simp only [Classical.not_not, Bool.not_eq_true', Bool.not_eq_false', Bool.not_eq_eq_eq_not, Bool.not_true, Bool.not_false, beq_iff_eq, beq_eq_false_iff_ne, ne_eq, decide_eq_decide, decide_eq_true_eq, decide_eq_false_iff_not, Bool.and_eq_true, Bool.or_eq_true, Bool.and_eq_false_iff, Bool.or_eq_false_iff] at h) <;> (try (exfalso; first | omega | contradiction))))
        | (show WC _ _ _ _ _ _; first
          | refine WC.seq ?_
          | refine WC.region ?_
          | refine WC.block ?_
          | refine WC.skip ?_
          | refine WC.ret ?_
          | refine WC.condT rfl (by with_reducible rfl) ?_
          | refine WC.condT rfl (decide_eq_true (by first | with_reducible assumption | omega)) ?_)
        | refine seqQ_n ?_
        | refine seqQ_r ?_
        | refine blkQ_r ?_
        | refine rndQ_r ?_)
      exact fin1r rfl rfl ⟨hS.upd, rfl⟩
    by_cases h0 : 0 < i
    rotate_left
    · have hi0 : i = 0 := by omega
      have hg2 := hgood rfl rfl hk0 (fun h => absurd h h0)
      have hf2 := fun h => hfail (.inr (.inr (.inr (.inr h))))
      generalize t[i] = e at *
      obtain ⟨path, kind, data⟩ := e
      dsimp only at hcp hwb hup hpl
      have hk0 : ¬ kind = 0 := hk0
      clear hfail hgood hprev hq
      by_cases hu : up = []
      · have hg3 := hg2 (fun h => absurd hu h)
        subst hu
        clear hg2 hf2
        repeat' (first
          | (show WL _ _ _ _ _ _ _; first
            | refine WL.pure rfl rfl rfl rfl ?_
            | refine WL.nil ?_
            | refine WL.add rfl rfl rfl (by omega) rfl rfl rfl ?_
            | (refine WL.load hS rfl rfl (LdOk.snap (off := 0) hF hrr (by repeat (first | exact List.Mem.head _ | apply List.Mem.tail)) rfl) rfl rfl rfl ?_)
            | (refine WL.load hS rfl rfl (LdOk.snap (off := 1) hF hrr (by repeat (first | exact List.Mem.head _ | apply List.Mem.tail)) rfl) rfl rfl rfl ?_)
            | (refine WL.calls hS rfl rfl (rcheck_c path 5 _ (by omega)) rfl rfl rfl ?_; rintro v w rfl hS; rw [hcp])
            | (refine WL.calls hS rfl rfl (rwhole_c kind data _) rfl rfl rfl ?_; rintro v w rfl hS; rw [hwb])
            | (refine WL.calls hS rfl rfl (rparent_c path _ (by omega)) rfl rfl rfl ?_; rintro v w rfl hS; rw [hup])
            | refine WL.index rfl rfl rfl rfl (by first | with_reducible assumption | omega) rfl rfl rfl rfl ?_
            | refine WL.skip rfl rfl rfl ?_
            | ((fail_if_success (refine WL.wanted rfl ?_)); refine WL.guard rfl rfl rfl (fun h => ?_) (fun h => ?_) <;> (try simp only [Classical.not_not, Bool.not_eq_true', Bool.not_eq_false', Bool.not_eq_eq_eq_not, Bool.not_true, Bool.not_false, beq_iff_eq, beq_eq_false_iff_ne, ne_eq, decide_eq_decide, decide_eq_true_eq, decide_eq_false_iff_not, Bool.and_eq_true, Bool.or_eq_true, Bool.and_eq_false_iff, Bool.or_eq_false_iff] at h) <;> (try (exfalso; first | omega | contradiction))))
          | (show WC _ _ _ _ _ _; first
            | refine WC.seq ?_
            | refine WC.region ?_
            | refine WC.block ?_
            | refine WC.skip ?_
            | refine WC.condF rfl (by with_reducible rfl) ?_
            | refine WC.condT rfl (decide_eq_true (by first | with_reducible assumption | omega)) ?_)
          | refine seqQ_n ?_
          | refine blkQ_n ?_)
        exact rndQ_n (i + 1) ⟨⟨by omega, hg3⟩, hS⟩ (by show t.length - (i + 1) < t.length - i; omega) ⟨vint (by omega), trivial⟩ ⟨rfl, trivial⟩
      · by_cases hgk : gkind = 1
        · have hg3 := hg2 (fun _ => hgk)
          subst hgk
          clear hg2 hf2
          repeat' (first
            | (show WL _ _ _ _ _ _ _; first
              | refine WL.pure rfl rfl rfl rfl ?_
              | refine WL.nil ?_
              | refine WL.add rfl rfl rfl (by omega) rfl rfl rfl ?_
              | (refine WL.load hS rfl rfl (LdOk.snap (off := 0) hF hrr (by repeat (first | exact List.Mem.head _ | apply List.Mem.tail)) rfl) rfl rfl rfl ?_)
              | (refine WL.load hS rfl rfl (LdOk.snap (off := 1) hF hrr (by repeat (first | exact List.Mem.head _ | apply List.Mem.tail)) rfl) rfl rfl rfl ?_)
              | (refine WL.calls hS rfl rfl (rcheck_c path 5 _ (by omega)) rfl rfl rfl ?_; rintro v w rfl hS; rw [hcp])
              | (refine WL.calls hS rfl rfl (rwhole_c kind data _) rfl rfl rfl ?_; rintro v w rfl hS; rw [hwb])
              | (refine WL.calls hS rfl rfl (rparent_c path _ (by omega)) rfl rfl rfl ?_; rintro v w rfl hS; rw [hup])
              | (refine WL.calls hS rfl rfl (rget_c t up (hS.slO (by repeat (first | exact List.Mem.head _ | apply List.Mem.tail)) hA) hl) rfl rfl rfl ?_; rintro v w rfl hS; rw [hgt])
              | refine WL.index rfl rfl rfl rfl (by first | with_reducible assumption | omega) rfl rfl rfl rfl ?_
              | refine WL.skip rfl rfl rfl ?_
              | ((fail_if_success (refine WL.wanted rfl ?_)); refine WL.guard rfl rfl rfl (fun h => ?_) (fun h => ?_) <;> (try simp only [Classical.not_not, Bool.not_eq_true', Bool.not_eq_false', Bool.not_eq_eq_eq_not, Bool.not_true, Bool.not_false, beq_iff_eq, beq_eq_false_iff_ne, ne_eq, decide_eq_decide, decide_eq_true_eq, decide_eq_false_iff_not, Bool.and_eq_true, Bool.or_eq_true, Bool.and_eq_false_iff, Bool.or_eq_false_iff] at h) <;> (try (exfalso; first | omega | contradiction))))
            | (show WC _ _ _ _ _ _; first
              | refine WC.seq ?_
              | refine WC.region ?_
              | refine WC.block ?_
              | refine WC.skip ?_
              | refine WC.condF rfl (by with_reducible rfl) ?_
              | refine WC.condT rfl (decide_eq_true (by first | with_reducible assumption | omega)) ?_
              | refine WC.condF rfl (by first | (simp; done) | (simp; omega)) ?_)
            | refine seqQ_n ?_
            | refine blkQ_n ?_)
          exact rndQ_n (i + 1) ⟨⟨by omega, hg3⟩, hS⟩ (by show t.length - (i + 1) < t.length - i; omega) ⟨vint (by omega), trivial⟩ ⟨rfl, trivial⟩
        · rw [hf2 ⟨hu, hgk⟩]
          clear hg2 hf2
          repeat' (first
            | (show WL _ _ _ _ _ _ _; first
              | refine WL.pure rfl rfl rfl rfl ?_
              | refine WL.nil ?_
              | (refine WL.load hS rfl rfl (LdOk.snap (off := 0) hF hrr (by repeat (first | exact List.Mem.head _ | apply List.Mem.tail)) rfl) rfl rfl rfl ?_)
              | (refine WL.load hS rfl rfl (LdOk.snap (off := 1) hF hrr (by repeat (first | exact List.Mem.head _ | apply List.Mem.tail)) rfl) rfl rfl rfl ?_)
              | (refine WL.calls hS rfl rfl (rcheck_c path 5 _ (by omega)) rfl rfl rfl ?_; rintro v w rfl hS; rw [hcp])
              | (refine WL.calls hS rfl rfl (rwhole_c kind data _) rfl rfl rfl ?_; rintro v w rfl hS; rw [hwb])
              | (refine WL.calls hS rfl rfl (rparent_c path _ (by omega)) rfl rfl rfl ?_; rintro v w rfl hS; rw [hup])
              | (refine WL.calls hS rfl rfl (rget_c t up (hS.slO (by repeat (first | exact List.Mem.head _ | apply List.Mem.tail)) hA) hl) rfl rfl rfl ?_; rintro v w rfl hS; rw [hgt])
              | refine WL.index rfl rfl rfl rfl (by first | with_reducible assumption | omega) rfl rfl rfl rfl ?_
              | refine WL.skip rfl rfl rfl ?_
              | ((fail_if_success (refine WL.wanted rfl ?_)); refine WL.guard rfl rfl rfl (fun h => ?_) (fun h => ?_) <;> (try simp only [Classical.not_not, Bool.not_eq_true', Bool.not_eq_false', Bool.not_eq_eq_eq_not, Bool.not_true, Bool.not_false, beq_iff_eq, beq_eq_false_iff_ne, ne_eq, decide_eq_decide, decide_eq_true_eq, decide_eq_false_iff_not, Bool.and_eq_true, Bool.or_eq_true, Bool.and_eq_false_iff, Bool.or_eq_false_iff] at h) <;> (try (exfalso; first | omega | contradiction))))
            | (show WC _ _ _ _ _ _; first
              | refine WC.seq ?_
              | refine WC.region ?_
              | refine WC.block ?_
              | refine WC.skip ?_
              | refine WC.ret ?_
              | refine WC.condF rfl (by with_reducible rfl) ?_
              | refine WC.condT rfl (decide_eq_true (by first | with_reducible assumption | omega)) ?_)
            | refine seqQ_n ?_
            | refine seqQ_r ?_
            | refine blkQ_r ?_
            | refine rndQ_r ?_)
          exact fin1r rfl rfl ⟨hS.upd, rfl⟩
    obtain ⟨pb, po, hpe, h1, hF2, hr2⟩ := hprev h0
    cases hpe
    cases hless : Op.bytesLess t[i - 1].path t[i].path with
    | false =>
      rw [hfail (.inr (.inr (.inr (.inl ⟨h0, hless⟩))))]
      generalize t[i] = e at *
      generalize t[i - 1] = q at *
      obtain ⟨path, kind, data⟩ := e
      dsimp only at hcp hwb hup hpl
      obtain ⟨qpath, qkind, qdata⟩ := q
      have hk0 : ¬ kind = 0 := hk0
      have hless : Op.bytesLess qpath path = false := hless
      clear hfail hgood hprev hq
      repeat' (first
        | (show WL _ _ _ _ _ _ _; first
          | refine WL.pure rfl rfl rfl rfl ?_
          | refine WL.nil ?_
          | refine WL.sub rfl rfl rfl (by omega) rfl rfl rfl ?_
          | (refine WL.load hS rfl rfl (LdOk.snap (off := 0) hF hrr (by repeat (first | exact List.Mem.head _ | apply List.Mem.tail)) rfl) rfl rfl rfl ?_)
          | (refine WL.load hS rfl rfl (LdOk.snap (off := 1) hF hrr (by repeat (first | exact List.Mem.head _ | apply List.Mem.tail)) rfl) rfl rfl rfl ?_)
          | (refine WL.calls hS rfl rfl (rcheck_c path 5 _ (by omega)) rfl rfl rfl ?_; rintro v w rfl hS; rw [hcp])
          | (refine WL.calls hS rfl rfl (rwhole_c kind data _) rfl rfl rfl ?_; rintro v w rfl hS; rw [hwb])
          | (refine WL.index (j := i - 1) rfl rfl rfl (vint (show ((i : Nat) : Int) - 1 = ((i - 1 : Nat) : Int) by omega)) (by omega) rfl rfl rfl rfl ?_)
          | (refine WL.load hS rfl rfl (LdOk.snap (off := 0) hF2 hr2 (by repeat (first | exact List.Mem.head _ | apply List.Mem.tail)) rfl) rfl rfl rfl ?_)
          | refine WL.index rfl rfl rfl rfl (by first | with_reducible assumption | omega) rfl rfl rfl rfl ?_
          | ((fail_if_success (refine WL.wanted rfl ?_)); refine WL.guard rfl rfl rfl (fun h => ?_) (fun h => ?_) <;> (try simp only [Classical.not_not, Bool.not_eq_true', Bool.not_eq_false', Bool.not_eq_eq_eq_not, Bool.not_true, Bool.not_false, beq_iff_eq, beq_eq_false_iff_ne, ne_eq, decide_eq_decide, decide_eq_true_eq, decide_eq_false_iff_not, Bool.and_eq_true, Bool.or_eq_true, Bool.and_eq_false_iff, Bool.or_eq_false_iff] at h) <;> (try (exfalso; first | omega | contradiction))))
        | (show WC _ _ _ _ _ _; first
          | refine WC.condT rfl (by first | (simp [hless]; done) | fail) ?_
          | refine WC.seq ?_
          | refine WC.region ?_
          | refine WC.block ?_
          | refine WC.skip ?_
          | refine WC.ret ?_
          | refine WC.condT rfl (decide_eq_true (by first | with_reducible assumption | omega)) ?_)
        | refine seqQ_n ?_
        | refine seqQ_r ?_
        | refine blkQ_r ?_
        | refine rndQ_r ?_)
      exact fin1r rfl rfl ⟨hS.upd, rfl⟩
    | true =>
      have hg2 := hgood rfl rfl hk0 (fun _ => hless)
      have hf2 := fun h => hfail (.inr (.inr (.inr (.inr h))))
      generalize t[i] = e at *
      generalize t[i - 1] = q at *
      obtain ⟨path, kind, data⟩ := e
      dsimp only at hcp hwb hup hpl
      obtain ⟨qpath, qkind, qdata⟩ := q
      have hk0 : ¬ kind = 0 := hk0
      have hless : Op.bytesLess qpath path = true := hless
      clear hfail hgood hprev hq
      by_cases hu : up = []
      · have hg3 := hg2 (fun h => absurd hu h)
        subst hu
        clear hg2 hf2
        repeat' (first
          | (show WL _ _ _ _ _ _ _; first
            | refine WL.pure rfl rfl rfl rfl ?_
            | refine WL.nil ?_
            | refine WL.add rfl rfl rfl (by omega) rfl rfl rfl ?_
            | refine WL.sub rfl rfl rfl (by omega) rfl rfl rfl ?_
            | (refine WL.load hS rfl rfl (LdOk.snap (off := 0) hF hrr (by repeat (first | exact List.Mem.head _ | apply List.Mem.tail)) rfl) rfl rfl rfl ?_)
            | (refine WL.load hS rfl rfl (LdOk.snap (off := 1) hF hrr (by repeat (first | exact List.Mem.head _ | apply List.Mem.tail)) rfl) rfl rfl rfl ?_)
            | (refine WL.calls hS rfl rfl (rcheck_c path 5 _ (by omega)) rfl rfl rfl ?_; rintro v w rfl hS; rw [hcp])
            | (refine WL.calls hS rfl rfl (rwhole_c kind data _) rfl rfl rfl ?_; rintro v w rfl hS; rw [hwb])
            | (refine WL.index (j := i - 1) rfl rfl rfl (vint (show ((i : Nat) : Int) - 1 = ((i - 1 : Nat) : Int) by omega)) (by omega) rfl rfl rfl rfl ?_)
            | (refine WL.load hS rfl rfl (LdOk.snap (off := 0) hF2 hr2 (by repeat (first | exact List.Mem.head _ | apply List.Mem.tail)) rfl) rfl rfl rfl ?_)
            | (refine WL.calls hS rfl rfl (rparent_c path _ (by omega)) rfl rfl rfl ?_; rintro v w rfl hS; rw [hup])
            | refine WL.index rfl rfl rfl rfl (by first | with_reducible assumption | omega) rfl rfl rfl rfl ?_
            | refine WL.skip rfl rfl rfl ?_
            | ((fail_if_success (refine WL.wanted rfl ?_)); refine WL.guard rfl rfl rfl (fun h => ?_) (fun h => ?_) <;> (try simp only [Classical.not_not, Bool.not_eq_true', Bool.not_eq_false', Bool.not_eq_eq_eq_not, Bool.not_true, Bool.not_false, beq_iff_eq, beq_eq_false_iff_ne, ne_eq, decide_eq_decide, decide_eq_true_eq, decide_eq_false_iff_not, Bool.and_eq_true, Bool.or_eq_true, Bool.and_eq_false_iff, Bool.or_eq_false_iff] at h) <;> (try (exfalso; first | omega | contradiction))))
          | (show WC _ _ _ _ _ _; first
            | refine WC.condF rfl (by first | (simp [hless]; done) | fail) ?_
            | refine WC.seq ?_
            | refine WC.region ?_
            | refine WC.block ?_
            | refine WC.skip ?_
            | refine WC.condT rfl (decide_eq_true (by first | with_reducible assumption | omega)) ?_)
          | refine seqQ_n ?_
          | refine blkQ_n ?_)
        exact rndQ_n (i + 1) ⟨⟨by omega, hg3⟩, hS⟩ (by show t.length - (i + 1) < t.length - i; omega) ⟨vint (by omega), trivial⟩ ⟨rfl, trivial⟩
      · by_cases hgk : gkind = 1
        · have hg3 := hg2 (fun _ => hgk)
          subst hgk
          clear hg2 hf2
          repeat' (first
            | (show WL _ _ _ _ _ _ _; first
              | refine WL.pure rfl rfl rfl rfl ?_
              | refine WL.nil ?_
              | refine WL.add rfl rfl rfl (by omega) rfl rfl rfl ?_
              | refine WL.sub rfl rfl rfl (by omega) rfl rfl rfl ?_
              | (refine WL.load hS rfl rfl (LdOk.snap (off := 0) hF hrr (by repeat (first | exact List.Mem.head _ | apply List.Mem.tail)) rfl) rfl rfl rfl ?_)
              | (refine WL.load hS rfl rfl (LdOk.snap (off := 1) hF hrr (by repeat (first | exact List.Mem.head _ | apply List.Mem.tail)) rfl) rfl rfl rfl ?_)
              | (refine WL.calls hS rfl rfl (rcheck_c path 5 _ (by omega)) rfl rfl rfl ?_; rintro v w rfl hS; rw [hcp])
              | (refine WL.calls hS rfl rfl (rwhole_c kind data _) rfl rfl rfl ?_; rintro v w rfl hS; rw [hwb])
              | (refine WL.index (j := i - 1) rfl rfl rfl (vint (show ((i : Nat) : Int) - 1 = ((i - 1 : Nat) : Int) by omega)) (by omega) rfl rfl rfl rfl ?_)
              | (refine WL.load hS rfl rfl (LdOk.snap (off := 0) hF2 hr2 (by repeat (first | exact List.Mem.head _ | apply List.Mem.tail)) rfl) rfl rfl rfl ?_)
              | (refine WL.calls hS rfl rfl (rparent_c path _ (by omega)) rfl rfl rfl ?_; rintro v w rfl hS; rw [hup])
              | (refine WL.calls hS rfl rfl (rget_c t up (hS.slO (by repeat (first | exact List.Mem.head _ | apply List.Mem.tail)) hA) hl) rfl rfl rfl ?_; rintro v w rfl hS; rw [hgt])
              | refine WL.index rfl rfl rfl rfl (by first | with_reducible assumption | omega) rfl rfl rfl rfl ?_
              | ((fail_if_success (refine WL.wanted rfl ?_)); refine WL.guard rfl rfl rfl (fun h => ?_) (fun h => ?_) <;> (try simp only [Classical.not_not, Bool.not_eq_true', Bool.not_eq_false', Bool.not_eq_eq_eq_not, Bool.not_true, Bool.not_false, beq_iff_eq, beq_eq_false_iff_ne, ne_eq, decide_eq_decide, decide_eq_true_eq, decide_eq_false_iff_not, Bool.and_eq_true, Bool.or_eq_true, Bool.and_eq_false_iff, Bool.or_eq_false_iff] at h) <;> (try (exfalso; first | omega | contradiction))))
            | (show WC _ _ _ _ _ _; first
              | refine WC.condF rfl (by first | (simp [hless]; done) | fail) ?_
              | refine WC.seq ?_
              | refine WC.region ?_
              | refine WC.block ?_
              | refine WC.skip ?_
              | refine WC.condT rfl (decide_eq_true (by first | with_reducible assumption | omega)) ?_)
            | refine seqQ_n ?_
            | refine blkQ_n ?_)
          exact rndQ_n (i + 1) ⟨⟨by omega, hg3⟩, hS⟩ (by show t.length - (i + 1) < t.length - i; omega) ⟨vint (by omega), trivial⟩ ⟨rfl, trivial⟩
        · rw [hf2 ⟨hu, hgk⟩]
          clear hg2 hf2
          repeat' (first
            | (show WL _ _ _ _ _ _ _; first
              | refine WL.pure rfl rfl rfl rfl ?_
              | refine WL.nil ?_
              | refine WL.sub rfl rfl rfl (by omega) rfl rfl rfl ?_
              | (refine WL.load hS rfl rfl (LdOk.snap (off := 0) hF hrr (by repeat (first | exact List.Mem.head _ | apply List.Mem.tail)) rfl) rfl rfl rfl ?_)
              | (refine WL.load hS rfl rfl (LdOk.snap (off := 1) hF hrr (by repeat (first | exact List.Mem.head _ | apply List.Mem.tail)) rfl) rfl rfl rfl ?_)
              | (refine WL.calls hS rfl rfl (rcheck_c path 5 _ (by omega)) rfl rfl rfl ?_; rintro v w rfl hS; rw [hcp])
              | (refine WL.calls hS rfl rfl (rwhole_c kind data _) rfl rfl rfl ?_; rintro v w rfl hS; rw [hwb])
              | (refine WL.index (j := i - 1) rfl rfl rfl (vint (show ((i : Nat) : Int) - 1 = ((i - 1 : Nat) : Int) by omega)) (by omega) rfl rfl rfl rfl ?_)
              | (refine WL.load hS rfl rfl (LdOk.snap (off := 0) hF2 hr2 (by repeat (first | exact List.Mem.head _ | apply List.Mem.tail)) rfl) rfl rfl rfl ?_)
              | (refine WL.calls hS rfl rfl (rparent_c path _ (by omega)) rfl rfl rfl ?_; rintro v w rfl hS; rw [hup])
              | (refine WL.calls hS rfl rfl (rget_c t up (hS.slO (by repeat (first | exact List.Mem.head _ | apply List.Mem.tail)) hA) hl) rfl rfl rfl ?_; rintro v w rfl hS; rw [hgt])
              | refine WL.index rfl rfl rfl rfl (by first | with_reducible assumption | omega) rfl rfl rfl rfl ?_
              | ((fail_if_success (refine WL.wanted rfl ?_)); refine WL.guard rfl rfl rfl (fun h => ?_) (fun h => ?_) <;> (try simp only [Classical.not_not, Bool.not_eq_true', Bool.not_eq_false', Bool.not_eq_eq_eq_not, Bool.not_true, Bool.not_false, beq_iff_eq, beq_eq_false_iff_ne, ne_eq, decide_eq_decide, decide_eq_true_eq, decide_eq_false_iff_not, Bool.and_eq_true, Bool.or_eq_true, Bool.and_eq_false_iff, Bool.or_eq_false_iff] at h) <;> (try (exfalso; first | omega | contradiction))))
            | (show WC _ _ _ _ _ _; first
              | refine WC.condF rfl (by first | (simp [hless]; done) | fail) ?_
              | refine WC.seq ?_
              | refine WC.region ?_
              | refine WC.block ?_
              | refine WC.skip ?_
              | refine WC.ret ?_
              | refine WC.condT rfl (decide_eq_true (by first | with_reducible assumption | omega)) ?_)
            | refine seqQ_n ?_
            | refine seqQ_r ?_
            | refine blkQ_r ?_
            | refine rndQ_r ?_)
          exact fin1r rfl rfl ⟨hS.upd, rfl⟩
end Go.Proofs.YtobfdeiimnnanaaGreatDoor

/- What is proved: what the package archive makes of the rows that it keeps. Conditions: texts and lists of bounded length; the library's table of powers laid. -/
set_option linter.unusedSimpArgs false
set_option linter.unusedVariables false
namespace Go.Proofs.YtobfdeiimnnanaaGreatDoor
open Go Go.J Go.RowKit

def encAe (a : Ae) : List Value := [str a.path, str a.key]
def aes (l : List Ae) : List Value := l.flatMap encAe
theorem aes_snoc (l : List Ae) (a : Ae) : aes l ++ [str a.path, str a.key] = aes (l ++ [a]) := by simp [aes, encAe]
set_option maxHeartbeats 4000000 in
set_option maxRecDepth 100000 in
theorem akey_c (n : Int) (h0 : -9223372036854775808 ≤ n) (h1 : n ≤ 9223372036854775807) (w0 : World) (ht : powT w0) : Cal Tryz.prog 66 [.int .i64 n] w0 (fun v w' => Upd [] w0 w' ∧ v = str (arcK n)) := by
  refine Cal.mk' (by kernel_rfl) Tryz.func66 rfl rfl fun hS => ?_
  have hl := Lib.itoa_length_le n h0 h1
  have e0 : ([97, 47] : List UInt8).length = 2 := rfl
  repeat' (first
    | (show WL _ _ _ _ _ _ _; first
      | refine WL.pure rfl rfl rfl rfl ?_
      | refine WL.nil ?_
      | (refine WL.calls hS rfl rfl (itoa_c n h0 h1 _ ht) rfl rfl rfl ?_; rintro v w rfl hS)
      | refine WL.cat rfl rfl rfl (by omega) rfl rfl rfl ?_)
    | (show WC _ _ _ _ _ _; first
      | refine WC.seq ?_
      | refine WC.region ?_
      | refine WC.ret ?_)
    | refine seqQ_n ?_)
  exact fin1r rfl rfl ⟨hS.upd, rfl⟩
set_option maxHeartbeats 4000000 in
set_option maxRecDepth 100000 in
theorem amay_c (n : Int) (w0 : World) : Cal Tryz.prog 58 [.int .i64 n] w0 (fun v w' => Upd [] w0 w' ∧ v = .bool (decide (1 ≤ n ∧ n ≤ 6))) := by
  refine Cal.mk' (by kernel_rfl) Tryz.func58 rfl rfl fun hS => ?_
  by_cases h1 : 1 ≤ n
  · repeat' (first
      | (show WL _ _ _ _ _ _ _; first
        | refine WL.pure rfl rfl rfl rfl ?_
        | refine WL.nil ?_
        | ((fail_if_success (refine WL.wanted rfl ?_)); refine WL.guard rfl rfl rfl (fun h => ?_) (fun h => ?_) <;> (try simp only [Classical.not_not, Bool.not_eq_true', Bool.not_eq_false', Bool.not_eq_eq_eq_not, Bool.not_true, Bool.not_false, beq_iff_eq, beq_eq_false_iff_ne, ne_eq, decide_eq_decide, decide_eq_true_eq, decide_eq_false_iff_not, Bool.and_eq_true, Bool.or_eq_true, Bool.and_eq_false_iff, Bool.or_eq_false_iff] at h) <;> (try (exfalso; first | omega | contradiction))))
      | (show WC _ _ _ _ _ _; first
        | refine WC.seq ?_
        | refine WC.region ?_
        | refine WC.ret ?_)
      | refine seqQ_n ?_)
    exact fin1r rfl rfl ⟨hS.upd, vbool (by simp [h1])⟩
  · repeat' (first
      | (show WL _ _ _ _ _ _ _; first
        | refine WL.pure rfl rfl rfl rfl ?_
        | refine WL.nil ?_
        | refine WL.skip rfl rfl rfl ?_
        | ((fail_if_success (refine WL.wanted rfl ?_)); refine WL.guard rfl rfl rfl (fun h => ?_) (fun h => ?_) <;> (try simp only [Classical.not_not, Bool.not_eq_true', Bool.not_eq_false', Bool.not_eq_eq_eq_not, Bool.not_true, Bool.not_false, beq_iff_eq, beq_eq_false_iff_ne, ne_eq, decide_eq_decide, decide_eq_true_eq, decide_eq_false_iff_not, Bool.and_eq_true, Bool.or_eq_true, Bool.and_eq_false_iff, Bool.or_eq_false_iff] at h) <;> (try (exfalso; first | omega | contradiction))))
      | (show WC _ _ _ _ _ _; first
        | refine WC.seq ?_
        | refine WC.region ?_
        | refine WC.ret ?_)
      | refine seqQ_n ?_)
    exact fin1r rfl rfl ⟨hS.upd, vbool (by simp [h1])⟩
/-- an archive's bytes, read from a place on -/
theorem arc_text {s : List UInt8} {p : Nat} {x : List UInt8} {t : List UInt8} (h : s.drop p = textE x ++ t) (hx : x.length < 9223372036854775808) : rtextE (s.drop p) = (x, (textE x).length, 0) ∧ s.drop (p + (textE x).length) = t ∧ p + (textE x).length ≤ s.length + 0 := by
  refine ⟨?_, ?_, ?_⟩
  · rw [h]
    unfold textE
    rw [List.append_assoc, rtextE_text x t hx, List.length_append, Nat.add_comm]
  · rw [← List.drop_drop, h, List.drop_left]
  · have := congrArg List.length h
    rw [List.length_drop, List.length_append] at this
    have h2 : 0 < (textE x).length := by unfold textE; rw [List.length_append]; have := List.length_pos_iff.2 (putN_ne x.length); omega
    omega
set_option maxHeartbeats 8000000 in
set_option maxRecDepth 100000 in
theorem arows_c (l : List Ae) (w0 : World) (hl : (packE (arcE l)).length ≤ 1099511627776) (hn : l.length ≤ 1048576) :
    Cal Tryz.prog 73 [str (packE (arcE l))] w0 (fun v w' => Upd [] w0 w' ∧ ∃ A cap, v = .tuple #[.slice A l.length cap, .int .i64 0] ∧ New w0 w' (.own (.slice A l.length cap) 142 2 l.length (aes l))) := by
  refine Cal.mk' (by kernel_rfl) Tryz.func73 rfl rfl fun hS => ?_
  have hpe : (arcE l).length ≤ (packE (arcE l)).length := by unfold packE textE; simp only [List.length_append]; omega
  have hrd : readE ((packE (arcE l)).drop 0) = (arcE l, (packE (arcE l)).length, 0) := by
    have := readE_pack (arcE l) [] (by omega)
    rwa [List.append_nil] at this
  have hfr : frV 0 (arcE l, (packE (arcE l)).length, 0) = .tuple #[str (arcE l), .int .i64 ((packE (arcE l)).length : Int), .int .i64 0] := by unfold frV; simp
  have hu0 : uintE ((arcE l).drop 0) = (l.length, (putN l.length).length, 0) := uintE_put l.length (by omega) _
  have hdr0 : (arcE l).drop (putN l.length).length = (l.drop 0).flatMap arcRow := by unfold arcE; rw [List.drop_left]; rfl
  have hpl : (putN l.length).length ≤ (arcE l).length := by unfold arcE; rw [List.length_append]; omega
  have hsz : ∀ a ∈ l, a.path.length ≤ 1099511627776 ∧ a.key.length ≤ 1099511627776 := fun a ha => by
    have h1 : (arcRow a).length ≤ (arcE l).length := by
      unfold arcE
      rw [List.length_append, List.length_flatMap]
      have : ∀ l : List Ae, a ∈ l → (arcRow a).length ≤ (l.map fun a => (arcRow a).length).sum := by
        intro l
        induction l with
        | nil => intro h; cases h
        | cons b l ih =>
          intro h
          rw [List.map_cons, List.sum_cons]
          rcases List.mem_cons.1 h with rfl | h
          · omega
          · have := ih h; omega
      have := this l ha
      omega
    unfold arcRow textE at h1
    simp only [List.length_append] at h1
    omega
  generalize hV : packE (arcE l) = V at *
  generalize hs : arcE l = s at *
  generalize (putN l.length).length = u0 at *
  repeat' (first
    | (show WL _ _ _ _ _ _ _; first
      | refine WL.pure rfl rfl rfl rfl ?_
      | refine WL.nil ?_
      | (refine WL.calls hS rfl rfl (fread_c V 0 _ (Nat.zero_le _) (by omega)) rfl rfl rfl ?_; rintro v w rfl hS; rw [hrd, hfr])
      | (refine WL.callG rfl rfl (wnew_c s _) rfl rfl rfl ?_; rintro v w ⟨hup, r, rfl, hnew⟩; have hS := hS.new hup hnew; clear hup hnew)
      | (refine WL.callG rfl rfl (uint_e hu0 (hS.holds _ (List.Mem.head _)) (hS.inB_of (List.Mem.head _)) (Nat.zero_le _) (by omega)) rfl rfl rfl ?_; rintro v w ⟨rfl, hmut⟩; have hS := hS.mut hmut .here; clear hmut)
      | (refine WL.slit (t := 139) hS rfl rfl rfl rfl rfl ?_; intro w ob hS; have hS := hS.boxRow (n := 0) (size := 2) .here rfl (Nat.zero_le _)))
    | (show WC _ _ _ _ _ _; first
      | refine WC.seq ?_
      | refine WC.region ?_
      | refine WC.block ?_
      | refine WC.skip ?_
      | refine WC.condF rfl (decide_eq_false (by first | with_reducible assumption | omega)) ?_)
    | refine seqQ_n ?_)
  clear hrd hfr hu0
  refine WC.loop (σ := Nat × Nat × Option Addr × Nat) [7, 8] (fun (k, _, A, cap) => [(6, .int .i64 0), (9, .slice A k cap), (10, .int .i64 (k : Int))])
    (fun (k, p, A, cap) w => (k ≤ l.length ∧ p ≤ s.length ∧ s.drop p = (l.drop k).flatMap arcRow) ∧ St w0 [] w [.own (.slice A k cap) 142 2 k (aes (l.take k)), rdC r s p] [⟨w0, Old w0⟩])
    (fun (k, _) => l.length - k) (0, 0 + u0, _, 0) ⟨⟨Nat.zero_le _, by omega, by rw [Nat.zero_add]; exact hdr0⟩, hS⟩ ⟨rfl, rfl, rfl, trivial⟩ ?_
  clear hS hdr0
  rintro ⟨k, p, A, cap⟩ g w ⟨⟨hk, hp, hat⟩, hS⟩
  show WC _ _ _ (lf _ [(6, .int .i64 0), (9, .slice A k cap), (10, .int .i64 (k : Int))] _ _) _ _
  have hcap := (hS.own_len (List.Mem.head _)).2.2
  by_cases hlt : k < l.length
  · rw [List.drop_eq_getElem_cons hlt, List.flatMap_cons] at hat
    obtain ⟨z1, z2⟩ := hsz l[k] (List.getElem_mem hlt)
    have htk : aes (l.take k) ++ [str l[k].path, str l[k].key] = aes (l.take (k + 1)) := by rw [aes_snoc, List.take_succ_eq_append_getElem hlt]
    have hat : s.drop p = textE l[k].path ++ (textE l[k].key ++ (l.drop (k + 1)).flatMap arcRow) := by rw [hat]; unfold arcRow; rw [List.append_assoc]
    obtain ⟨r1, d1, b1⟩ := arc_text hat (by omega)
    obtain ⟨r2, d2, b2⟩ := arc_text d1 (by omega)
    generalize l[k].path = pa at *
    generalize l[k].key = ke at *
    generalize (textE pa).length = u1 at *
    generalize (textE ke).length = u2 at *
    clear hsz hat d1
    repeat' (first
      | (show WL _ _ _ _ _ _ _; first
        | refine WL.pure rfl rfl rfl rfl ?_
        | refine WL.nil ?_
        | (refine WL.store hS rfl rfl rfl (by repeat (first | exact StB.here rfl | apply StB.there)) rfl rfl rfl ?_; intro w hS)
        | (refine WL.alloc hS rfl rfl rfl rfl rfl rfl ?_; intro w b hS)
        | refine WL.build rfl rfl rfl rfl rfl ?_
        | ((fail_if_success (refine WL.wanted rfl ?_)); refine WL.guard rfl rfl rfl (fun h => ?_) (fun h => ?_) <;> (try simp only [Classical.not_not, Bool.not_eq_true', Bool.not_eq_false', Bool.not_eq_eq_eq_not, Bool.not_true, Bool.not_false, beq_iff_eq, beq_eq_false_iff_ne, ne_eq, decide_eq_decide, decide_eq_true_eq, decide_eq_false_iff_not, Bool.and_eq_true, Bool.or_eq_true, Bool.and_eq_false_iff, Bool.or_eq_false_iff] at h) <;> (try (exfalso; first | omega | contradiction))))
      | (show WC _ _ _ _ _ _; first
        | refine WC.seq ?_
        | refine WC.region ?_
        | refine WC.block ?_
        | refine WC.skip ?_
        | refine WC.condT rfl (by decide) ?_)
      | refine seqQ_n ?_)
    obtain ⟨xb, hxb⟩ : ∃ xb, xb = b := ⟨_, rfl⟩
    subst hxb
    refine WC.loop (σ := Nat × Nat × List Value) [7, 8, 9, 10, 11] (fun (j, _) => [(6, .int .i64 0), (12, .int .i64 (j : Int))])
      (fun (j, p', cs) w => ((j = 0 ∧ p' = p ∧ cs = [str [], str []]) ∨ (j = 1 ∧ p' = p + u1 ∧ cs = [str pa, str []]) ∨ (j = 2 ∧ p' = p + u1 + u2 ∧ cs = [str pa, str ke])) ∧ St w0 [] w [.box xb 142 cs, .own (.slice A k cap) 142 2 k (aes (l.take k)), rdC r s p'] [⟨w0, Old w0⟩])
      (fun (j, _) => 2 - j) (0, p, [str [], str []]) ⟨.inl ⟨rfl, rfl, rfl⟩, hS⟩ ⟨rfl, rfl, trivial⟩ ?_
    clear hS
    rintro ⟨j, p', cs⟩ g2 w ⟨hj, hS⟩
    show WC _ _ _ (lf _ [(6, .int .i64 0), (12, .int .i64 (j : Int))] _ _) _ _
    rcases hj with ⟨rfl, rfl, rfl⟩ | ⟨rfl, rfl, rfl⟩ | ⟨rfl, rfl, rfl⟩
    · repeat' (first
        | (show WL _ _ _ _ _ _ _; first
          | refine WL.pure rfl rfl rfl rfl ?_
          | refine WL.nil ?_
          | refine WL.add rfl rfl rfl (by omega) rfl rfl rfl ?_
          | (refine WL.callG rfl rfl (rtext_e r1 (hS.holds _ (List.Mem.tail _ (List.Mem.tail _ (List.Mem.head _)))) (hS.inB_of (List.Mem.tail _ (List.Mem.tail _ (List.Mem.head _)))) (by omega) (by omega)) rfl rfl rfl ?_; rintro v w ⟨rfl, hmut⟩; have hS := hS.mut hmut (.there (.there .here)); clear hmut)
          | (refine WL.store hS rfl rfl rfl (by repeat (first | exact StB.here rfl | apply StB.there)) rfl rfl rfl ?_; intro w hS)
          | refine WL.indexArr rfl rfl rfl rfl (by decide) rfl rfl rfl ?_)
        | (show WC _ _ _ _ _ _; first
          | refine WC.seq ?_
          | refine WC.region ?_
          | refine WC.block ?_
          | refine WC.skip ?_
          | refine WC.condT rfl (by decide) ?_)
        | refine seqQ_n ?_
        | refine blkQ_n ?_)
      exact rndQ_n (1, _, _) ⟨.inr (.inl ⟨rfl, rfl, rfl⟩), hS⟩ (by show 2 - 1 < 2 - 0; decide) ⟨rfl, rfl, trivial⟩ ⟨rfl, rfl, rfl, rfl, rfl, trivial⟩
    · repeat' (first
        | (show WL _ _ _ _ _ _ _; first
          | refine WL.pure rfl rfl rfl rfl ?_
          | refine WL.nil ?_
          | refine WL.add rfl rfl rfl (by omega) rfl rfl rfl ?_
          | (refine WL.callG rfl rfl (rtext_e r2 (hS.holds _ (List.Mem.tail _ (List.Mem.tail _ (List.Mem.head _)))) (hS.inB_of (List.Mem.tail _ (List.Mem.tail _ (List.Mem.head _)))) (by omega) (by omega)) rfl rfl rfl ?_; rintro v w ⟨rfl, hmut⟩; have hS := hS.mut hmut (.there (.there .here)); clear hmut)
          | (refine WL.store hS rfl rfl rfl (by repeat (first | exact StB.here rfl | apply StB.there)) rfl rfl rfl ?_; intro w hS)
          | refine WL.indexArr rfl rfl rfl rfl (by decide) rfl rfl rfl ?_)
        | (show WC _ _ _ _ _ _; first
          | refine WC.seq ?_
          | refine WC.region ?_
          | refine WC.block ?_
          | refine WC.skip ?_
          | refine WC.condT rfl (by decide) ?_)
        | refine seqQ_n ?_
        | refine blkQ_n ?_)
      exact rndQ_n (2, _, _) ⟨.inr (.inr ⟨rfl, rfl, rfl⟩), hS⟩ (by show 2 - 2 < 2 - 1; decide) ⟨rfl, rfl, trivial⟩ ⟨rfl, rfl, rfl, rfl, rfl, trivial⟩
    · repeat' (first
        | (show WL _ _ _ _ _ _ _; first
          | refine WL.pure rfl rfl rfl rfl ?_
          | refine WL.nil ?_
          | refine WL.load hS rfl rfl (LdOk.box (by repeat (first | exact List.Mem.head _ | apply List.Mem.tail)) rfl) rfl rfl rfl ?_
          | refine WL.add rfl rfl rfl (by omega) rfl rfl rfl ?_
          | (refine WL.app hS rfl rfl rfl rfl (RdOk.box (by repeat (first | exact List.Mem.head _ | apply List.Mem.tail))) rfl rfl (fun A cap => by repeat (first | exact Repl.here | apply Repl.there)) (by omega) rfl rfl rfl ?_; intro A3 cap3 w hS)
          | refine WL.skip rfl rfl rfl ?_
          | (refine WL.slit hS rfl rfl rfl rfl rfl ?_; intro w b hS))
        | (show WC _ _ _ _ _ _; first
          | refine WC.seq ?_
          | refine WC.region ?_
          | refine WC.exit ?_
          | refine WC.condF rfl (by with_reducible rfl) ?_)
        | refine seqQ_n ?_
        | refine blkQ_n ?_
        | refine seqQ_x ?_
        | refine blkQ_hit rfl ?_
        | refine rndQ_x ?_)
      refine rndQ_n (k + 1, p + u1 + u2, A3, cap3) ⟨⟨by omega, by omega, d2⟩, ?_⟩ (by show l.length - (k + 1) < l.length - k; omega) ⟨rfl, rfl, vint (by omega), trivial⟩ ⟨rfl, rfl, trivial⟩
      rw [← htk]
      exact hS.droplast2 (D := [.own (.slice A3 (k + 1) cap3) 142 2 (k + 1) (aes (l.take k) ++ [str pa, str ke]), rdC r s (p + u1 + u2)]) (by repeat (first | exact Pulls.nil | (apply Pulls.cons; focus (repeat (first | exact Pull.here | apply Pull.there)))))
  · have hke : k = l.length := by omega
    subst hke
    rw [List.drop_length] at hat
    have hpe2 : p = s.length := by
      have := congrArg List.length hat
      rw [List.length_drop] at this
      have : s.length - p = 0 := this
      omega
    subst hpe2
    rw [List.take_length] at hS
    clear hsz
    repeat' (first
      | (show WL _ _ _ _ _ _ _; first
        | refine WL.pure rfl rfl rfl rfl ?_
        | refine WL.nil ?_
        | (refine WL.calls hS rfl rfl (rdone_c r s s.length _ (hS.holds _ (List.Mem.tail _ (List.Mem.head _)))) rfl rfl rfl ?_; rintro v w rfl hS; rw [if_neg (Nat.lt_irrefl _)])
        | refine WL.skip rfl rfl rfl ?_
        | ((fail_if_success (refine WL.wanted rfl ?_)); refine WL.guard rfl rfl rfl (fun h => ?_) (fun h => ?_) <;> (try simp only [Classical.not_not, Bool.not_eq_true', Bool.not_eq_false', Bool.not_eq_eq_eq_not, Bool.not_true, Bool.not_false, beq_iff_eq, beq_eq_false_iff_ne, ne_eq, decide_eq_decide, decide_eq_true_eq, decide_eq_false_iff_not, Bool.and_eq_true, Bool.or_eq_true, Bool.and_eq_false_iff, Bool.or_eq_false_iff] at h) <;> (try (exfalso; first | omega | contradiction))))
      | (show WC _ _ _ _ _ _; first
        | refine WC.seq ?_
        | refine WC.region ?_
        | refine WC.skip ?_
        | refine WC.exit ?_
        | refine WC.ret ?_
        | refine WC.condF rfl (by with_reducible rfl) ?_
        | refine WC.condF rfl (by decide) ?_)
      | refine seqQ_n ?_
      | refine seqQ_x ?_
      | refine blkQ_hit rfl ?_
      | refine rndQ_x ?_)
    exact fin2r rfl rfl rfl ⟨hS.upd, _, _, rfl, hS.newOf (List.Mem.head _)⟩
set_option maxHeartbeats 4000000 in
set_option maxRecDepth 100000 in
theorem arowsBad_c (v : List UInt8) (w0 : World) (hl : v.length ≤ 1099511627776) (hb : (readE v).2.2 ≠ 0 ∨ (readE v).2.1 ≠ v.length) :
    Cal Tryz.prog 73 [str v] w0 (fun r w' => Upd [] w0 w' ∧ r = .tuple #[.slice none 0 0, .int .i64 6]) := by
  refine Cal.mk' (by kernel_rfl) Tryz.func73 rfl rfl fun hS => ?_
  rcases hr : readE v with ⟨x, u, e⟩
  rw [hr] at hb
  have hrd : readE (v.drop 0) = (x, u, e) := hr
  by_cases he : e = 0
  · subst he
    have hu : u ≠ v.length := by rcases hb with h | h; exact absurd rfl h; exact h
    have hfr : frV 0 (x, u, 0) = .tuple #[str x, .int .i64 (u : Int), .int .i64 0] := by unfold frV; simp
    clear hb
    repeat' (first
      | (show WL _ _ _ _ _ _ _; first
        | refine WL.pure rfl rfl rfl rfl ?_
        | refine WL.nil ?_
        | (refine WL.calls hS rfl rfl (fread_c v 0 _ (Nat.zero_le _) (by omega)) rfl rfl rfl ?_; rintro v w rfl hS; rw [hrd, hfr]))
      | (show WC _ _ _ _ _ _; first
        | refine WC.seq ?_
        | refine WC.region ?_
        | refine WC.ret ?_
        | refine WC.condT rfl (decide_eq_true (by first | with_reducible assumption | omega)) ?_)
      | refine seqQ_n ?_
      | refine seqQ_r ?_)
    exact fin2r rfl rfl rfl ⟨hS.upd, rfl⟩
  · have hfr : frV 0 (x, u, e) = .tuple #[str [], .int .i64 0, .int .i64 e] := by unfold frV; rw [if_neg he]
    clear hb
    repeat' (first
      | (show WL _ _ _ _ _ _ _; first
        | refine WL.pure rfl rfl rfl rfl ?_
        | refine WL.nil ?_
        | (refine WL.calls hS rfl rfl (fread_c v 0 _ (Nat.zero_le _) (by omega)) rfl rfl rfl ?_; rintro v w rfl hS; rw [hrd, hfr])
        | refine WL.skip rfl rfl rfl ?_
        | ((fail_if_success (refine WL.wanted rfl ?_)); refine WL.guard rfl rfl rfl (fun h => ?_) (fun h => ?_) <;> (try simp only [Classical.not_not, Bool.not_eq_true', Bool.not_eq_false', Bool.not_eq_eq_eq_not, Bool.not_true, Bool.not_false, beq_iff_eq, beq_eq_false_iff_ne, ne_eq, decide_eq_decide, decide_eq_true_eq, decide_eq_false_iff_not, Bool.and_eq_true, Bool.or_eq_true, Bool.and_eq_false_iff, Bool.or_eq_false_iff] at h) <;> (try (exfalso; first | omega | contradiction))))
      | (show WC _ _ _ _ _ _; first
        | refine WC.seq ?_
        | refine WC.region ?_
        | refine WC.ret ?_
        | refine WC.condT rfl (by with_reducible rfl) ?_)
      | refine seqQ_n ?_
      | refine seqQ_r ?_)
    exact fin2r rfl rfl rfl ⟨hS.upd, rfl⟩
end Go.Proofs.YtobfdeiimnnanaaGreatDoor

/- What is proved: what keys, Load and Turn of the package archive answer and make of a batch. Conditions: texts and lists of bounded length; the library's table of powers laid. -/
set_option linter.unusedSimpArgs false
set_option linter.unusedVariables false
namespace Go.Proofs.YtobfdeiimnnanaaGreatDoor
open Go Go.J Go.RowKit

def ents (t : List Ent) : List Value := t.flatMap encEnt
theorem ents_snoc (t : List Ent) (e : Ent) : ents t ++ [str e.path, .int .i64 e.kind, str e.data] = ents (t ++ [e]) := by simp [ents, encEnt]
theorem keysA_snoc (l : List Ae) (a : Ae) : keysA (l ++ [a]) = keysA l ++ if a.key = [] then [] else [a.key] := by
  unfold keysA
  rw [List.map_append, List.filter_append]
  by_cases h : a.key = []
  · rw [if_pos h]; simp [h]
  · rw [if_neg h]; simp [h]
section
variable {B Tp q : Nat} {T : Tb} {m : Bch} {fb fp : List Nat} {w0 : World}
set_option maxHeartbeats 8000000 in
set_option maxRecDepth 100000 in
theorem akeysNo_c (n : Int) (h0 : -9223372036854775808 ≤ n) (h1 : n ≤ 9223372036854775807) (hi : InL w0 [bchC B (some ⟨Tp, 0, none⟩) m fb, tabC Tp q T fp]) (hp : PowI w0 (fps [bchC B (some ⟨Tp, 0, none⟩) m fb, tabC Tp q T fp])) (hg2 : (bgetE T.rows m (arcK n)).2 = false) :
    Cal Tryz.prog 60 [.pointer (some ⟨B, 0, none⟩), .int .i64 n] w0 (fun v w' => ∃ A cap, v = .tuple #[.slice A 0 cap, .int .i64 11] ∧ MutL w0 w' [bchC B (some ⟨Tp, 0, none⟩) m fb, tabC Tp q T fp] [bchC B (some ⟨Tp, 0, none⟩) m fb, tabC Tp q T fp, .own (.slice A 0 cap) 9 1 0 (strs [])]) := by
  refine Cal.mkL hi (by kernel_rfl) Tryz.func60 rfl rfl fun hS => ?_
  obtain ⟨s, hg⟩ : ∃ s, bgetE T.rows m (arcK n) = (s, false) := ⟨_, Prod.ext rfl hg2⟩
  repeat' (first
    | (show WL _ _ _ _ _ _ _; first
      | refine WL.pure rfl rfl rfl rfl ?_
      | refine WL.nil ?_
      | (refine WL.calls hS rfl rfl (akey_c n (by omega) (by omega) _ (hp.at hS)) rfl rfl rfl ?_; rintro v w rfl hS)
      | (refine WL.callL (D := [bchC B (some ⟨Tp, 0, none⟩) m fb, tabC Tp q T fp]) hS (by repeat (first | exact Pulls.nil | (apply Pulls.cons; focus (repeat (first | exact Pull.here | apply Pull.there))))) rfl rfl (fun hI => bget_c (arcK n) hI) rfl rfl rfl ?_; rintro v w ⟨rfl, hmu⟩ hS; rw [hg]; replace hS := hS _ hmu; clear hmu))
    | (show WC _ _ _ _ _ _; first
      | refine WC.seq ?_
      | refine WC.region ?_
      | refine WC.ret ?_
      | refine WC.condT rfl (by first | (simp; done) | (simp; omega)) ?_)
    | refine seqQ_n ?_
    | refine seqQ_r ?_)
  exact fin2r rfl rfl rfl ⟨none, 0, rfl, (hS.nilRow 9 1).mutLp (by repeat (first | exact Pulls.nil | (apply Pulls.cons; focus (repeat (first | exact Pull.here | apply Pull.there)))))⟩
set_option maxHeartbeats 8000000 in
set_option maxRecDepth 100000 in
theorem akeysBad_c (n : Int) (h0 : -9223372036854775808 ≤ n) (h1 : n ≤ 9223372036854775807) (hi : InL w0 [bchC B (some ⟨Tp, 0, none⟩) m fb, tabC Tp q T fp]) (hp : PowI w0 (fps [bchC B (some ⟨Tp, 0, none⟩) m fb, tabC Tp q T fp])) {s : List UInt8} (hg : bgetE T.rows m (arcK n) = (s, true)) (hs : s.length ≤ 1099511627776) (hb : (readE s).2.2 ≠ 0 ∨ (readE s).2.1 ≠ s.length) :
    Cal Tryz.prog 60 [.pointer (some ⟨B, 0, none⟩), .int .i64 n] w0 (fun v w' => ∃ A cap, v = .tuple #[.slice A 0 cap, .int .i64 6] ∧ MutL w0 w' [bchC B (some ⟨Tp, 0, none⟩) m fb, tabC Tp q T fp] [bchC B (some ⟨Tp, 0, none⟩) m fb, tabC Tp q T fp, .own (.slice A 0 cap) 9 1 0 (strs [])]) := by
  refine Cal.mkL hi (by kernel_rfl) Tryz.func60 rfl rfl fun hS => ?_
  have hrb := fun w0 => arowsBad_c s w0 hs hb
  clear hb
  repeat' (first
    | (show WL _ _ _ _ _ _ _; first
      | refine WL.pure rfl rfl rfl rfl ?_
      | refine WL.nil ?_
      | (refine WL.calls hS rfl rfl (akey_c n (by omega) (by omega) _ (hp.at hS)) rfl rfl rfl ?_; rintro v w rfl hS)
      | (refine WL.callL (D := [bchC B (some ⟨Tp, 0, none⟩) m fb, tabC Tp q T fp]) hS (by repeat (first | exact Pulls.nil | (apply Pulls.cons; focus (repeat (first | exact Pull.here | apply Pull.there))))) rfl rfl (fun hI => bget_c (arcK n) hI) rfl rfl rfl ?_; rintro v w ⟨rfl, hmu⟩ hS; rw [hg]; replace hS := hS _ hmu; clear hmu)
      | (refine WL.calls hS rfl rfl (hrb _) rfl rfl rfl ?_; rintro v w rfl hS))
    | (show WC _ _ _ _ _ _; first
      | refine WC.seq ?_
      | refine WC.region ?_
      | refine WC.skip ?_
      | refine WC.ret ?_
      | refine WC.condT rfl (by decide) ?_
      | refine WC.condF rfl (by first | (simp; done) | (simp; omega)) ?_)
    | refine seqQ_n ?_
    | refine seqQ_r ?_)
  exact fin2r rfl rfl rfl ⟨none, 0, rfl, (hS.nilRow 9 1).mutLp (by repeat (first | exact Pulls.nil | (apply Pulls.cons; focus (repeat (first | exact Pull.here | apply Pull.there)))))⟩
set_option maxHeartbeats 8000000 in
set_option maxRecDepth 100000 in
theorem akeys_c (n : Int) (h0 : -9223372036854775808 ≤ n) (h1 : n ≤ 9223372036854775807) (hi : InL w0 [bchC B (some ⟨Tp, 0, none⟩) m fb, tabC Tp q T fp]) (hp : PowI w0 (fps [bchC B (some ⟨Tp, 0, none⟩) m fb, tabC Tp q T fp])) (l : List Ae) (hg : bgetE T.rows m (arcK n) = (packE (arcE l), true)) (hs : (packE (arcE l)).length ≤ 1099511627776) (hl : l.length ≤ 1048576) :
    Cal Tryz.prog 60 [.pointer (some ⟨B, 0, none⟩), .int .i64 n] w0 (fun v w' => ∃ A cap, v = .tuple #[.slice A (keysA l).length cap, .int .i64 0] ∧ MutL w0 w' [bchC B (some ⟨Tp, 0, none⟩) m fb, tabC Tp q T fp] [bchC B (some ⟨Tp, 0, none⟩) m fb, tabC Tp q T fp, .own (.slice A (keysA l).length cap) 9 1 (keysA l).length (strs (keysA l))]) := by
  refine Cal.mkL hi (by kernel_rfl) Tryz.func60 rfl rfl fun hS => ?_
  have hrc := fun w0 => arows_c l w0 hs hl
  repeat' (first
    | (show WL _ _ _ _ _ _ _; first
      | refine WL.pure rfl rfl rfl rfl ?_
      | refine WL.nil ?_
      | (refine WL.calls hS rfl rfl (akey_c n (by omega) (by omega) _ (hp.at hS)) rfl rfl rfl ?_; rintro v w rfl hS)
      | (refine WL.callL (D := [bchC B (some ⟨Tp, 0, none⟩) m fb, tabC Tp q T fp]) hS (by repeat (first | exact Pulls.nil | (apply Pulls.cons; focus (repeat (first | exact Pull.here | apply Pull.there))))) rfl rfl (fun hI => bget_c (arcK n) hI) rfl rfl rfl ?_; rintro v w ⟨rfl, hmu⟩ hS; rw [hg]; replace hS := hS _ hmu; clear hmu)
      | (refine WL.callG rfl rfl (hrc _) rfl rfl rfl ?_; rintro v w ⟨hup, AR, cr, rfl, hnew⟩; have hS := hS.new hup hnew; clear hup hnew)
      | (refine WL.slit (t := 44) hS rfl rfl rfl rfl rfl ?_; intro w ob hS; have hS := hS.boxRow (n := 0) (size := 1) .here rfl (Nat.zero_le _)))
    | (show WC _ _ _ _ _ _; first
      | refine WC.seq ?_
      | refine WC.region ?_
      | refine WC.block ?_
      | refine WC.skip ?_
      | refine WC.condF rfl (by decide) ?_
      | refine WC.condF rfl (by first | (simp; done) | (simp; omega)) ?_)
    | refine seqQ_n ?_)
  clear hrc
  refine WC.loop (σ := Nat × Option Addr × Nat) [31, 32] (fun (k, OA, oc) => [(10, .slice OA (keysA (l.take k)).length oc), (33, .int .i64 (k : Int))])
    (fun (k, OA, oc) w => k ≤ l.length ∧ St w0 (fps [bchC B (some ⟨Tp, 0, none⟩) m fb, tabC Tp q T fp]) w [.own (.slice OA (keysA (l.take k)).length oc) 9 1 (keysA (l.take k)).length (strs (keysA (l.take k))), .own (.slice AR l.length cr) 142 2 l.length (aes l), bchC B (some ⟨Tp, 0, none⟩) m fb, tabC Tp q T fp] (ZL w0 [bchC B (some ⟨Tp, 0, none⟩) m fb, tabC Tp q T fp]))
    (fun (k, _) => l.length - k) (0, _, 0) ⟨Nat.zero_le _, hS.droplast2 (by repeat (first | exact Pulls.nil | (apply Pulls.cons; focus (repeat (first | exact Pull.here | apply Pull.there)))))⟩ ⟨rfl, rfl, trivial⟩ ?_
  clear hS
  rintro ⟨k, OA, oc⟩ g w ⟨hk, hS⟩
  show WC _ _ _ (lf _ [(10, .slice OA (keysA (l.take k)).length oc), (33, .int .i64 (k : Int))] _ _) _ _
  have hcap := (hS.own_len (List.Mem.head _)).2.2
  have hkl : (keysA (l.take k)).length ≤ k := by
    unfold keysA
    refine Nat.le_trans (List.length_filter_le _ _) ?_
    rw [List.length_map, List.length_take]; omega
  by_cases hlt : k < l.length
  · obtain ⟨kg, ko, rfl⟩ := hS.own_addr (A := AR) (n := l.length) (by repeat (first | exact List.Mem.head _ | apply List.Mem.tail)) (by omega)
    have hat : ((aes l).drop (k * 2)).take 2 = encAe l[k] := flat_at (enc := encAe) (sz := 2) (fun _ => rfl) l hlt
    have hka := keysA_snoc (l.take k) l[k]
    rw [← List.take_succ_eq_append_getElem hlt] at hka
    have hlk : l[k]? = some l[k] := List.getElem?_eq_getElem hlt
    generalize keysA (l.take k) = K1 at *
    generalize l[k] = a at *
    obtain ⟨pa, ke⟩ := a
    by_cases hke : ke = []
    · have hka : keysA (l.take (k + 1)) = K1 := by rw [hka, if_pos hke, List.append_nil]
      clear hat
      repeat' (first
        | (show WL _ _ _ _ _ _ _; first
          | refine WL.pure rfl rfl rfl rfl ?_
          | refine WL.nil ?_
          | refine WL.load hS rfl rfl (LdOk.box (by repeat (first | exact List.Mem.head _ | apply List.Mem.tail)) rfl) rfl rfl rfl ?_
          | refine WL.add rfl rfl rfl (by omega) rfl rfl rfl ?_
          | (refine WL.load hS rfl rfl (LdOk.ownElemE (enc := encAe) (l := l) (fun _ => rfl) (by repeat (first | exact List.Mem.head _ | apply List.Mem.tail)) hlk rfl rfl) rfl rfl rfl ?_)
          | (refine WL.store hS rfl rfl rfl (by repeat (first | exact StB.here rfl | apply StB.there)) rfl rfl rfl ?_; intro w hS)
          | (refine WL.alloc hS rfl rfl rfl rfl rfl rfl ?_; intro w b hS)
          | refine WL.index rfl rfl rfl rfl (by first | with_reducible assumption | omega) rfl rfl rfl rfl ?_
          | refine WL.indexArr rfl rfl rfl rfl (by decide) rfl rfl rfl ?_)
        | (show WC _ _ _ _ _ _; first
          | refine WC.seq ?_
          | refine WC.region ?_
          | refine WC.block ?_
          | refine WC.skip ?_
          | refine WC.condT rfl (decide_eq_true (by first | with_reducible assumption | omega)) ?_
          | refine WC.condF rfl (by first | (simp; done) | (simp; omega)) ?_)
        | refine seqQ_n ?_
        | refine blkQ_n ?_)
      refine rndQ_n (k + 1, OA, oc) ⟨by omega, ?_⟩ (by show l.length - (k + 1) < l.length - k; omega) ⟨?_, vint (by omega), trivial⟩ ⟨rfl, rfl, trivial⟩
      · rw [hka]
        exact hS.droplast2 (by repeat (first | exact Pulls.nil | (apply Pulls.cons; focus (repeat (first | exact Pull.here | apply Pull.there)))))
      · rw [hka]; rfl
    · have hka : keysA (l.take (k + 1)) = K1 ++ [ke] := by rw [hka, if_neg hke]
      clear hat
      repeat' (first
        | (show WL _ _ _ _ _ _ _; first
          | refine WL.pure rfl rfl rfl rfl ?_
          | refine WL.nil ?_
          | refine WL.load hS rfl rfl (LdOk.box (by repeat (first | exact List.Mem.head _ | apply List.Mem.tail)) rfl) rfl rfl rfl ?_
          | refine WL.add rfl rfl rfl (by omega) rfl rfl rfl ?_
          | (refine WL.load hS rfl rfl (LdOk.ownElemE (enc := encAe) (l := l) (fun _ => rfl) (by repeat (first | exact List.Mem.head _ | apply List.Mem.tail)) hlk rfl rfl) rfl rfl rfl ?_)
          | (refine WL.app hS rfl rfl rfl rfl (RdOk.box (by repeat (first | exact List.Mem.head _ | apply List.Mem.tail))) rfl rfl (fun A cap => by repeat (first | exact Repl.here | apply Repl.there)) (by omega) rfl rfl rfl ?_; intro A3 cap3 w hS)
          | (refine WL.store hS rfl rfl rfl (by repeat (first | exact StB.here rfl | apply StB.there)) rfl rfl rfl ?_; intro w hS)
          | (refine WL.alloc hS rfl rfl rfl rfl rfl rfl ?_; intro w b hS)
          | refine WL.index rfl rfl rfl rfl (by first | with_reducible assumption | omega) rfl rfl rfl rfl ?_
          | refine WL.indexArr rfl rfl rfl rfl (by decide) rfl rfl rfl ?_
          | (refine WL.slit hS rfl rfl rfl rfl rfl ?_; intro w b hS))
        | (show WC _ _ _ _ _ _; first
          | refine WC.seq ?_
          | refine WC.region ?_
          | refine WC.block ?_
          | refine WC.skip ?_
          | refine WC.condT rfl (decide_eq_true (by first | with_reducible assumption | omega)) ?_)
        | refine seqQ_n ?_
        | refine blkQ_n ?_)
      refine rndQ_n (k + 1, A3, cap3) ⟨by omega, ?_⟩ (by show l.length - (k + 1) < l.length - k; omega) ⟨?_, vint (by omega), trivial⟩ ⟨rfl, rfl, trivial⟩
      · rw [hka, List.length_append, ← strs_snoc]
        exact hS.droplast2 (by repeat (first | exact Pulls.nil | (apply Pulls.cons; focus (repeat (first | exact Pull.here | apply Pull.there)))))
      · rw [hka, List.length_append]; rfl
  · have hke : k = l.length := by omega
    subst hke
    rw [List.take_length] at *
    repeat' (first
      | (show WL _ _ _ _ _ _ _; first
        | refine WL.pure rfl rfl rfl rfl ?_
        | refine WL.nil ?_)
      | (show WC _ _ _ _ _ _; first
        | refine WC.seq ?_
        | refine WC.region ?_
        | refine WC.exit ?_
        | refine WC.ret ?_
        | refine WC.condF rfl (decide_eq_false (by first | with_reducible assumption | omega)) ?_)
      | refine seqQ_n ?_
      | refine seqQ_x ?_
      | refine blkQ_hit rfl ?_
      | refine rndQ_x ?_)
    exact fin2r rfl rfl rfl ⟨_, _, rfl, hS.mutLp (by repeat (first | exact Pulls.nil | (apply Pulls.cons; focus (repeat (first | exact Pull.here | apply Pull.there)))))⟩
set_option maxHeartbeats 8000000 in
set_option maxRecDepth 100000 in
theorem aturn_c (n : Int) (bit : Int) (hn : 1 ≤ n ∧ n ≤ 6) (hi : InL w0 [bchC B (some ⟨Tp, 0, none⟩) m fb, tabC Tp q T fp]) (hp : PowI w0 (fps [bchC B (some ⟨Tp, 0, none⟩) m fb, tabC Tp q T fp])) {s : List UInt8} (hg : bgetE T.rows m (arcK n) = (s, true)) (hs : s.length ≤ 1099511627776) (hm : m.length ≤ 1048576) :
    Cal Tryz.prog 22 [.pointer (some ⟨B, 0, none⟩), .int .i64 n, .int .i64 bit] w0 (fun v w' => v = .int .i64 0 ∧ ∃ fb', MutL w0 w' [bchC B (some ⟨Tp, 0, none⟩) m fb, tabC Tp q T fp] [bchC B (some ⟨Tp, 0, none⟩) (noteE m ⟨arcK n, turnE s bit, false⟩) fb', tabC Tp q T fp]) := by
  refine Cal.mkL hi (by kernel_rfl) Tryz.func22 rfl rfl fun hS => ?_
  obtain ⟨hn1, hn2⟩ := hn
  repeat' (first
    | (show WL _ _ _ _ _ _ _; first
      | refine WL.pure rfl rfl rfl rfl ?_
      | refine WL.nil ?_
      | (refine WL.calls hS rfl rfl (amay_c n _) rfl rfl rfl ?_; rintro v w rfl hS)
      | (refine WL.calls hS rfl rfl (akey_c n (by omega) (by omega) _ (hp.at hS)) rfl rfl rfl ?_; rintro v w rfl hS)
      | (refine WL.callL (D := [bchC B (some ⟨Tp, 0, none⟩) m fb, tabC Tp q T fp]) hS (by repeat (first | exact Pulls.nil | (apply Pulls.cons; focus (repeat (first | exact Pull.here | apply Pull.there))))) rfl rfl (fun hI => bget_c (arcK n) hI) rfl rfl rfl ?_; rintro v w ⟨rfl, hmu⟩ hS; rw [hg]; replace hS := hS _ hmu; clear hmu)
      | (refine WL.calls hS rfl rfl (turn_c s bit _ hs) rfl rfl rfl ?_; rintro v w rfl hS)
      | (refine WL.callL (D := [bchC B (some ⟨Tp, 0, none⟩) m fb]) hS (by repeat (first | exact Pulls.nil | (apply Pulls.cons; focus (repeat (first | exact Pull.here | apply Pull.there))))) rfl rfl (fun hI => bput_c (arcK n) (turnE s bit) hI.head hI.headB (by omega)) rfl rfl rfl ?_; rintro v w ⟨rfl, fb2, hmu⟩ hS; replace hS := hS _ (.of1 hmu); clear hmu))
    | (show WC _ _ _ _ _ _; first
      | refine WC.seq ?_
      | refine WC.region ?_
      | refine WC.skip ?_
      | refine WC.ret ?_
      | refine WC.condF rfl (by first | (simp; done) | (simp; omega)) ?_)
    | refine seqQ_n ?_)
  exact fin1r rfl rfl ⟨rfl, _, hS.mutLp (by repeat (first | exact Pulls.nil | (apply Pulls.cons; focus (repeat (first | exact Pull.here | apply Pull.there)))))⟩
set_option maxHeartbeats 8000000 in
set_option maxRecDepth 100000 in
theorem aloadBad_c (n : Int) (hn : 1 ≤ n ∧ n ≤ 6) (hi : InL w0 [bchC B (some ⟨Tp, 0, none⟩) m fb, tabC Tp q T fp]) (hp : PowI w0 (fps [bchC B (some ⟨Tp, 0, none⟩) m fb, tabC Tp q T fp])) {s : List UInt8} (hg : bgetE T.rows m (arcK n) = (s, true)) (hs : s.length ≤ 1099511627776) (hb : (readE s).2.2 ≠ 0 ∨ (readE s).2.1 ≠ s.length) :
    Cal Tryz.prog 20 [.pointer (some ⟨B, 0, none⟩), .int .i64 n] w0 (fun v w' => v = .tuple #[.slice none 0 0, .int .i64 6] ∧ MutL w0 w' [bchC B (some ⟨Tp, 0, none⟩) m fb, tabC Tp q T fp] [bchC B (some ⟨Tp, 0, none⟩) m fb, tabC Tp q T fp]) := by
  refine Cal.mkL hi (by kernel_rfl) Tryz.func20 rfl rfl fun hS => ?_
  obtain ⟨hn1, hn2⟩ := hn
  have hrb := fun w0 => arowsBad_c s w0 hs hb
  clear hb
  repeat' (first
    | (show WL _ _ _ _ _ _ _; first
      | refine WL.pure rfl rfl rfl rfl ?_
      | refine WL.nil ?_
      | (refine WL.calls hS rfl rfl (amay_c n _) rfl rfl rfl ?_; rintro v w rfl hS)
      | (refine WL.calls hS rfl rfl (akey_c n (by omega) (by omega) _ (hp.at hS)) rfl rfl rfl ?_; rintro v w rfl hS)
      | (refine WL.callL (D := [bchC B (some ⟨Tp, 0, none⟩) m fb, tabC Tp q T fp]) hS (by repeat (first | exact Pulls.nil | (apply Pulls.cons; focus (repeat (first | exact Pull.here | apply Pull.there))))) rfl rfl (fun hI => bget_c (arcK n) hI) rfl rfl rfl ?_; rintro v w ⟨rfl, hmu⟩ hS; rw [hg]; replace hS := hS _ hmu; clear hmu)
      | (refine WL.calls hS rfl rfl (hrb _) rfl rfl rfl ?_; rintro v w rfl hS))
    | (show WC _ _ _ _ _ _; first
      | refine WC.seq ?_
      | refine WC.region ?_
      | refine WC.skip ?_
      | refine WC.ret ?_
      | refine WC.condT rfl (by decide) ?_
      | refine WC.condF rfl (by first | (simp; done) | (simp; omega)) ?_)
    | refine seqQ_n ?_
    | refine seqQ_r ?_)
  exact fin2r rfl rfl rfl ⟨rfl, hS.mutLp (by repeat (first | exact Pulls.nil | (apply Pulls.cons; focus (repeat (first | exact Pull.here | apply Pull.there)))))⟩
set_option maxHeartbeats 16000000 in
set_option maxRecDepth 100000 in
theorem aload_c {L : List One} {K : Nat} (n : Int) (hn : 1 ≤ n ∧ n ≤ 6) (hi : InL w0 [bchC B (some ⟨Tp, 0, none⟩) m fb, tabC Tp q T fp]) (hp : PowI w0 (fps [bchC B (some ⟨Tp, 0, none⟩) m fb, tabC Tp q T fp])) (t : List Ent) (l : List Ae) (hg : bgetE T.rows m (arcK n) = (packE (arcE l), true)) (hs : (packE (arcE l)).length ≤ 1099511627776)
    (hb : BlobIs T.rows m L K) (hK : K ≤ 1099511627776) (hll : l.length = t.length) (ht : TreeOk t) (hl : t.length ≤ 200) (hz : ∀ e ∈ t, e.path.length ≤ 1048576) (hro : ∀ i (h : i < t.length), RowOk t[i] (l[i]'(by omega)))
    (hhv : ∀ i (h : i < t.length), t[i].kind = 2 → ∃ x ∈ L, x.key = (l[i]'(by omega)).key ∧ x.data = t[i].data) :
    Cal Tryz.prog 20 [.pointer (some ⟨B, 0, none⟩), .int .i64 n] w0 (fun v w' => ∃ A cap, v = .tuple #[.slice A t.length cap, .int .i64 0] ∧ MutL w0 w' [bchC B (some ⟨Tp, 0, none⟩) m fb, tabC Tp q T fp] [bchC B (some ⟨Tp, 0, none⟩) m fb, tabC Tp q T fp, .own (.slice A t.length cap) 115 3 t.length (ents t)]) := by
  refine Cal.mkL hi (by kernel_rfl) Tryz.func20 rfl rfl fun hS => ?_
  obtain ⟨hn1, hn2⟩ := hn
  have hrc := fun w0 => arows_c l w0 hs (by omega)
  rw [hll] at hrc
  repeat' (first
    | (show WL _ _ _ _ _ _ _; first
      | refine WL.pure rfl rfl rfl rfl ?_
      | refine WL.nil ?_
      | (refine WL.calls hS rfl rfl (amay_c n _) rfl rfl rfl ?_; rintro v w rfl hS)
      | (refine WL.calls hS rfl rfl (akey_c n (by omega) (by omega) _ (hp.at hS)) rfl rfl rfl ?_; rintro v w rfl hS)
      | (refine WL.callL (D := [bchC B (some ⟨Tp, 0, none⟩) m fb, tabC Tp q T fp]) hS (by repeat (first | exact Pulls.nil | (apply Pulls.cons; focus (repeat (first | exact Pull.here | apply Pull.there))))) rfl rfl (fun hI => bget_c (arcK n) hI) rfl rfl rfl ?_; rintro v w ⟨rfl, hmu⟩ hS; rw [hg]; replace hS := hS _ hmu; clear hmu)
      | (refine WL.callG rfl rfl (hrc _) rfl rfl rfl ?_; rintro v w ⟨hup, AR, cr, rfl, hnew⟩; have hS := hS.new hup hnew; clear hup hnew)
      | (refine WL.slit (t := 34) hS rfl rfl rfl rfl rfl ?_; intro w ob hS; have hS := hS.boxRow (n := 0) (size := 3) .here rfl (Nat.zero_le _)))
    | (show WC _ _ _ _ _ _; first
      | refine WC.seq ?_
      | refine WC.region ?_
      | refine WC.block ?_
      | refine WC.skip ?_
      | refine WC.condF rfl (by decide) ?_
      | refine WC.condF rfl (by first | (simp; done) | (simp; omega)) ?_)
    | refine seqQ_n ?_)
  clear hrc
  refine WC.loop (σ := Nat × Option Addr × Nat) [0, 37, 38] (fun (k, OA, oc) => [(10, .slice OA k oc), (39, .int .i64 (k : Int))])
    (fun (k, OA, oc) w => k ≤ t.length ∧ St w0 (fps [bchC B (some ⟨Tp, 0, none⟩) m fb, tabC Tp q T fp]) w [.own (.slice OA k oc) 115 3 k (ents (t.take k)), .own (.slice AR t.length cr) 142 2 t.length (aes l), bchC B (some ⟨Tp, 0, none⟩) m fb, tabC Tp q T fp] (ZL w0 [bchC B (some ⟨Tp, 0, none⟩) m fb, tabC Tp q T fp]))
    (fun (k, _) => t.length - k) (0, _, 0) ⟨Nat.zero_le _, hS.droplast2 (by repeat (first | exact Pulls.nil | (apply Pulls.cons; focus (repeat (first | exact Pull.here | apply Pull.there)))))⟩ ⟨rfl, rfl, trivial⟩ ?_
  clear hS
  rintro ⟨k, OA, oc⟩ g w ⟨hk, hS⟩
  show WC _ _ _ (lf _ [(10, .slice OA k oc), (39, .int .i64 (k : Int))] _ _) _ _
  have hcap := (hS.own_len (List.Mem.head _)).2.2
  by_cases hlt : k < t.length
  · obtain ⟨kg, ko, rfl⟩ := hS.own_addr (A := AR) (n := t.length) (by repeat (first | exact List.Mem.head _ | apply List.Mem.tail)) (by omega)
    have hlk : l[k]? = some (l[k]'(by omega)) := List.getElem?_eq_getElem (by omega)
    have hsn := ents_snoc (t.take k) t[k]
    rw [← List.take_succ_eq_append_getElem hlt] at hsn
    have hr := hro k hlt
    have hv := hhv k hlt
    have hkey := hr.keyl
    generalize hle : l[k]'(by omega) = a at *
    generalize t[k] = e at *
    obtain ⟨pa, ke⟩ := a
    obtain ⟨epath, ekind, edata⟩ := e
    have hpa : pa = epath := hr.path
    subst hpa
    by_cases hk2 : ekind = 2
    · have hkne : ke ≠ [] := hr.file hk2
      obtain ⟨x, hx, hxk, hxd⟩ := hv hk2
      have hxk : x.key = ke := hxk
      have hxd : x.data = edata := hxd
      have hgv : blgetV L ke = .tuple #[str edata, .int .i64 0] := by
        unfold blgetV
        rw [← hxk, find_of hb.knd hx]
        dsimp only
        rw [hxd]
      subst hk2
      clear hr hv hro hhv hxk hxd
      repeat' (first
        | (show WL _ _ _ _ _ _ _; first
          | refine WL.pure rfl rfl rfl rfl ?_
          | refine WL.nil ?_
          | refine WL.load hS rfl rfl (LdOk.box (by repeat (first | exact List.Mem.head _ | apply List.Mem.tail)) rfl) rfl rfl rfl ?_
          | refine WL.add rfl rfl rfl (by omega) rfl rfl rfl ?_
          | (refine WL.load hS rfl rfl (LdOk.ownElemE (enc := encAe) (l := l) (fun _ => rfl) (by repeat (first | exact List.Mem.head _ | apply List.Mem.tail)) hlk rfl rfl) rfl rfl rfl ?_)
          | (refine WL.callL (D := [bchC B (some ⟨Tp, 0, none⟩) m fb, tabC Tp q T fp]) hS (by repeat (first | exact Pulls.nil | (apply Pulls.cons; focus (repeat (first | exact Pull.here | apply Pull.there))))) rfl rfl (fun hI => blget_c ke hI hb hK) rfl rfl rfl ?_; rintro v w ⟨rfl, hmu⟩ hS; rw [hgv]; replace hS := hS _ hmu; clear hmu)
          | (refine WL.app hS rfl rfl rfl rfl (RdOk.box (by repeat (first | exact List.Mem.head _ | apply List.Mem.tail))) rfl rfl (fun A cap => by repeat (first | exact Repl.here | apply Repl.there)) (by omega) rfl rfl rfl ?_; intro A3 cap3 w hS)
          | (refine WL.store hS rfl rfl rfl (by repeat (first | exact StB.here rfl | apply StB.there)) rfl rfl rfl ?_; intro w hS)
          | (refine WL.alloc hS rfl rfl rfl rfl rfl rfl ?_; intro w b hS)
          | refine WL.index rfl rfl rfl rfl (by first | with_reducible assumption | omega) rfl rfl rfl rfl ?_
          | refine WL.indexArr rfl rfl rfl rfl (by decide) rfl rfl rfl ?_
          | refine WL.build rfl rfl rfl rfl rfl ?_
          | (refine WL.slit hS rfl rfl rfl rfl rfl ?_; intro w b hS))
        | (show WC _ _ _ _ _ _; first
          | refine WC.seq ?_
          | refine WC.region ?_
          | refine WC.block ?_
          | refine WC.skip ?_
          | refine WC.condF rfl (by decide) ?_
          | refine WC.condT rfl (decide_eq_true (by first | with_reducible assumption | omega)) ?_)
        | refine seqQ_n ?_
        | refine blkQ_n ?_)
      refine rndQ_n (k + 1, A3, cap3) ⟨by omega, ?_⟩ (by show t.length - (k + 1) < t.length - k; omega) ⟨rfl, vint (by omega), trivial⟩ ⟨rfl, rfl, rfl, trivial⟩
      rw [← hsn]
      exact hS.droplast2 (by repeat (first | exact Pulls.nil | (apply Pulls.cons; focus (repeat (first | exact Pull.here | apply Pull.there)))))
    · obtain ⟨hk0, hk1, hdt⟩ := hr.dir hk2
      have hk0 : ke = [] := hk0
      have hk1 : ekind = 1 := hk1
      have hdt : edata = [] := hdt
      subst hk0 hk1 hdt
      clear hr hv hro hhv
      repeat' (first
        | (show WL _ _ _ _ _ _ _; first
          | refine WL.pure rfl rfl rfl rfl ?_
          | refine WL.nil ?_
          | refine WL.load hS rfl rfl (LdOk.box (by repeat (first | exact List.Mem.head _ | apply List.Mem.tail)) rfl) rfl rfl rfl ?_
          | refine WL.add rfl rfl rfl (by omega) rfl rfl rfl ?_
          | (refine WL.load hS rfl rfl (LdOk.ownElemE (enc := encAe) (l := l) (fun _ => rfl) (by repeat (first | exact List.Mem.head _ | apply List.Mem.tail)) hlk rfl rfl) rfl rfl rfl ?_)
          | (refine WL.app hS rfl rfl rfl rfl (RdOk.box (by repeat (first | exact List.Mem.head _ | apply List.Mem.tail))) rfl rfl (fun A cap => by repeat (first | exact Repl.here | apply Repl.there)) (by omega) rfl rfl rfl ?_; intro A3 cap3 w hS)
          | (refine WL.store hS rfl rfl rfl (by repeat (first | exact StB.here rfl | apply StB.there)) rfl rfl rfl ?_; intro w hS)
          | (refine WL.alloc hS rfl rfl rfl rfl rfl rfl ?_; intro w b hS)
          | refine WL.index rfl rfl rfl rfl (by first | with_reducible assumption | omega) rfl rfl rfl rfl ?_
          | refine WL.indexArr rfl rfl rfl rfl (by decide) rfl rfl rfl ?_
          | refine WL.build rfl rfl rfl rfl rfl ?_
          | (refine WL.slit hS rfl rfl rfl rfl rfl ?_; intro w b hS))
        | (show WC _ _ _ _ _ _; first
          | refine WC.seq ?_
          | refine WC.region ?_
          | refine WC.block ?_
          | refine WC.skip ?_
          | refine WC.condT rfl (decide_eq_true (by first | with_reducible assumption | omega)) ?_
          | refine WC.condF rfl (by first | (simp; done) | (simp; omega)) ?_)
        | refine seqQ_n ?_
        | refine blkQ_n ?_)
      refine rndQ_n (k + 1, A3, cap3) ⟨by omega, ?_⟩ (by show t.length - (k + 1) < t.length - k; omega) ⟨rfl, vint (by omega), trivial⟩ ⟨rfl, rfl, rfl, trivial⟩
      rw [← hsn]
      exact hS.droplast2 (by repeat (first | exact Pulls.nil | (apply Pulls.cons; focus (repeat (first | exact Pull.here | apply Pull.there)))))
  · have hke : k = t.length := by omega
    subst hke
    rw [List.take_length] at hS
    have hck := checkT_ok hl ht
    clear hro hhv
    repeat' (first
      | (show WL _ _ _ _ _ _ _; first
        | refine WL.pure rfl rfl rfl rfl ?_
        | refine WL.nil ?_
        | (refine WL.calls hS rfl rfl (tcheck_c t (St.ownSl (enc := encEnt) (hsz := fun _ => rfl) (l := t) (by decide) hS (by repeat (first | exact List.Mem.head _ | apply List.Mem.tail))) hcap (by omega) hz) rfl rfl rfl ?_; rintro v w rfl hS; rw [hck]))
      | (show WC _ _ _ _ _ _; first
        | refine WC.seq ?_
        | refine WC.region ?_
        | refine WC.skip ?_
        | refine WC.exit ?_
        | refine WC.ret ?_
        | refine WC.condF rfl (by decide) ?_
        | refine WC.condF rfl (decide_eq_false (by first | with_reducible assumption | omega)) ?_)
      | refine seqQ_n ?_
      | refine seqQ_x ?_
      | refine blkQ_hit rfl ?_
      | refine rndQ_x ?_)
    exact fin2r rfl rfl rfl ⟨_, _, rfl, hS.mutLp (by repeat (first | exact Pulls.nil | (apply Pulls.cons; focus (repeat (first | exact Pull.here | apply Pull.there)))))⟩
end
end Go.Proofs.YtobfdeiimnnanaaGreatDoor

/- What is proved: what Save of the package archive makes of a batch. Conditions: texts and lists of bounded length; the library's table of powers laid. -/
set_option linter.unusedSimpArgs false
set_option linter.unusedVariables false
namespace Go.Proofs.YtobfdeiimnnanaaGreatDoor
open Go Go.J Go.RowKit

section
variable {rows : Rws} {m m' : Bch} {L L' : List One} {K K' : Nat} {P : Nat → Option Arc} {ex : Prop}
theorem BlobIs.other (h : BlobIs rows m L K) {o : Chg} (ho : o.key.take 2 ≠ [98, 47]) : BlobIs rows (noteE m o) L K := by
  have hne : ∀ k, begB [98, 47] k = true → k ≠ o.key := fun k hk e => ho (by rw [← e]; exact of_decide_eq_true hk)
  refine ⟨h.rnd, note_nd h.mnd _, fun x hx => ?_, fun k hk hb => ?_, h.low, h.refs, h.nums, h.len, h.size, h.knd, h.dnd⟩
  · rw [bgetE_noted, if_neg (hne _ rfl)]; exact h.has x hx
  · rw [bgetE_noted, if_neg (hne _ hb)] at hk
    exact h.only k hk hb
theorem BlobIs.upK (h : BlobIs rows m L K) {K' : Nat} (hK : K ≤ K') : BlobIs rows m L K' :=
  ⟨h.rnd, h.mnd, h.has, h.only, h.low, fun x hx => by have := h.refs x hx; omega, fun x hx => by have := h.nums x hx; omega, by have := h.len; omega, h.size, h.knd, h.dnd⟩
theorem key_frame {o : Chg} (ho : o.key.take 2 = [98, 47]) {k : List UInt8} (hk : k.take 2 ≠ [98, 47]) : bgetE rows (noteE m o) k = bgetE rows m k := by
  rw [bgetE_noted, if_neg]
  intro e
  exact hk (by rw [e]; exact ho)
theorem put_key (hd : (L.map One.data).Nodup) (data : List UInt8) : (putB L data).2.take 2 = [98, 47] ∧ (putB L data).2 ≠ [] := by
  obtain ⟨y, _, _, e⟩ := put_has hd data
  rw [← e]
  exact ⟨rfl, fun h => by cases h⟩
theorem put_len (hd : (L.map One.data).Nodup) (data : List UInt8) (h : BlobIs rows m (putB L data).1 K) (hK : K ≤ 1048576) : (putB L data).2.length ≤ 100 := by
  obtain ⟨y, hy, e1, e2⟩ := put_has hd data
  rw [← e2]
  have h1 := h.nums y hy
  have h2 := dec_len (n := y.n) (k := 12) (by omega)
  show (preB y.low ++ Lib.decDigits y.n).length ≤ 100
  rw [List.length_append, show (preB y.low).length = 5 from rfl]
  omega
theorem relM_frame (k : List UInt8) {kk : List UInt8} (hk : kk.take 2 ≠ [98, 47]) : bgetE rows (relM m L k) kk = bgetE rows m kk := by
  unfold relM
  cases hf : findB L k with
  | none => rfl
  | some x =>
    refine key_frame ?_ hk
    have hxk : (relO x).key = x.key := by unfold relO; split <;> rfl
    rw [hxk]
    rfl
theorem relM_len (k : List UInt8) : (relM m L k).length ≤ m.length + 1 := by
  unfold relM
  cases findB L k with
  | none => exact Nat.le_succ _
  | some x => exact note_len _ _
theorem ArcIs.save (h : ArcIs ex rows m L K P) (hb : BlobIs rows m' L' K') (hfr : ∀ k, k.take 2 ≠ [98, 47] → bgetE rows m' k = bgetE rows m k) {n : Nat} (h1 : 1 ≤ n) (h6 : n ≤ 6) {t : List Ent} {l : List Ae} (hh : Held ex L' (pairsE t l ++ heldA (updA P n none))) (ha : ArcOk ⟨t, l, none⟩) :
    ArcIs ex rows (noteE m' ⟨arcK (n : Int), packE (arcE l), false⟩) L' K' (updA P n (some ⟨t, l, none⟩)) := by
  have hu : ∀ k, updA P n (some ⟨t, l, none⟩) k = if k = n then some ⟨t, l, none⟩ else P k := fun _ => rfl
  have hne : ∀ k : Nat, 1 ≤ k → k ≠ n → arcK (k : Int) ≠ arcK (n : Int) := fun k _ hkn e => hkn (arcK_inj h1 e)
  refine ⟨hb.other (arcK_take _), hh.perm (held_split P h6 (some ⟨t, l, none⟩)).symm, fun k a hk1 hk6 hP => ?_, fun k hk1 hk6 hP => ?_, fun k a hP => ?_, fun k hk hbg => ?_, ?_⟩
  · rw [hu] at hP
    rw [bgetE_noted]
    split at hP
    · rename_i e; subst e; cases hP; rw [if_pos rfl]; rfl
    · rename_i e; rw [if_neg (hne k hk1 e), hfr _ (arcK_take _)]; exact h.has k a hk1 hk6 hP
  · rw [hu] at hP
    split at hP
    · cases hP
    · rename_i e; rw [bgetE_noted, if_neg (hne k hk1 e), hfr _ (arcK_take _)]; exact h.no k hk1 hk6 hP
  · rw [hu] at hP
    split at hP
    · cases hP; exact ha
    · exact h.ok k a hP
  · rw [bgetE_noted] at hk
    split at hk
    · rename_i e; exact ⟨n, h1, h6, e⟩
    · have h2 : k.take 2 ≠ [98, 47] := fun e => by
        have h3 : k.take 2 = [97, 47] := of_decide_eq_true hbg
        rw [h3] at e
        cases e
      rw [hfr k h2] at hk
      exact h.only k hk hbg
  · rw [hu, if_neg (by omega)]; exact h.zero
/-- another batch that says the same -/
theorem ArcIs.same (h : ArcIs ex rows m L K P) (hn : (m'.map Prod.fst).Nodup) (hg : ∀ k, bgetE rows m' k = bgetE rows m k) : ArcIs ex rows m' L K P :=
  ⟨⟨h.blob.rnd, hn, fun x hx => by rw [hg]; exact h.blob.has x hx, fun k hk => by rw [hg] at hk; exact h.blob.only k hk, h.blob.low, h.blob.refs, h.blob.nums, h.blob.len, h.blob.size, h.blob.knd, h.blob.dnd⟩,
    h.held, fun n a h1 h6 hP => by rw [hg]; exact h.has n a h1 h6 hP, fun n h1 h6 hP => by rw [hg]; exact h.no n h1 h6 hP, h.ok, fun k hk => by rw [hg] at hk; exact h.only k hk, h.zero⟩
end
/-- where Save stands in its entries -/
structure SaveIs (ex : Prop) (rows : Rws) (m0 : Bch) (L0 : List One) (K : Nat) (Hd : List (List UInt8 × List UInt8)) (t : List Ent) (k : Nat) (m : Bch) (L : List One) (l : List Ae) : Prop where
  le : k ≤ t.length
  len : l.length = k
  blob : BlobIs rows m L (K + k)
  held : Held ex L (pairsE (t.take k) l ++ Hd)
  row : ∀ i (h : i < k), RowOk (t[i]'(by omega)) (l[i]'(by omega))
  frame : ∀ kk, kk.take 2 ≠ [98, 47] → bgetE rows m kk = bgetE rows m0 kk
  few : m.length ≤ m0.length + k
  book : Grows k m0 L0 m L
section
variable {rows : Rws} {m m0 : Bch} {L L0 : List One} {K k : Nat} {ex : Prop} {Hd : List (List UInt8 × List UInt8)} {t : List Ent} {l : List Ae}
theorem SaveIs.row_snoc (h : SaveIs ex rows m0 L0 K Hd t k m L l) (hk : k < t.length) {a : Ae} (ha : RowOk t[k] a) : ∀ i (h2 : i < k + 1), RowOk (t[i]'(by omega)) ((l ++ [a])[i]'(by rw [List.length_append, List.length_singleton]; have := h.len; omega)) := fun i hi => by
  have hl := h.len
  by_cases e : i < k
  · rw [List.getElem_append_left (by omega)]; exact h.row i e
  · obtain rfl : i = k := by omega
    rw [List.getElem_append_right (by omega)]
    simp only [hl, Nat.sub_self, List.getElem_cons_zero]
    exact ha
theorem SaveIs.dir (h : SaveIs ex rows m0 L0 K Hd t k m L l) (hk : k < t.length) (hkd : t[k].kind = 1) (hdt : t[k].data = []) : SaveIs ex rows m0 L0 K Hd t (k + 1) m L (l ++ [⟨t[k].path, []⟩]) := by
  have hro : RowOk t[k] ⟨t[k].path, []⟩ := ⟨rfl, fun h => by omega, fun _ => ⟨rfl, hkd, hdt⟩, Nat.zero_le _⟩
  refine ⟨hk, by rw [List.length_append, List.length_singleton, h.len], h.blob.upK (by omega), ?_, h.row_snoc hk hro, h.frame, by have := h.few; omega, h.book.up (by omega)⟩
  rw [List.take_succ_eq_append_getElem hk, pairs_snoc (by rw [h.len, List.length_take]; omega)]
  have e1 : pairO t[k] ⟨t[k].path, []⟩ = none := if_neg (by omega)
  rw [e1]
  simpa using h.held
theorem SaveIs.file (h : SaveIs ex rows m0 L0 K Hd t k m L l) (hk : k < t.length) (hk2 : t[k].kind = 2) {r : Nat} (hr : r ≤ 2000000) (hd4 : t[k].data.length ≤ 4096) (hK : K + k ≤ 1000000)
    (hb : BlobIs rows (noteE m ⟨(putB L t[k].data).2, valB r t[k].data, false⟩) (putB L t[k].data).1 (K + k + 1)) :
    SaveIs ex rows m0 L0 K Hd t (k + 1) (noteE m ⟨(putB L t[k].data).2, valB r t[k].data, false⟩) (putB L t[k].data).1 (l ++ [⟨t[k].path, (putB L t[k].data).2⟩]) := by
  obtain ⟨p1, p2⟩ := put_key h.blob.dnd t[k].data
  have hro : RowOk t[k] ⟨t[k].path, (putB L t[k].data).2⟩ := ⟨rfl, fun _ => p2, fun h => absurd hk2 h, put_len h.blob.dnd _ hb (by omega)⟩
  refine ⟨hk, by rw [List.length_append, List.length_singleton, h.len], hb, ?_, h.row_snoc hk hro, fun kk hkk => (key_frame p1 hkk).trans (h.frame kk hkk), ?_, h.book.put (by omega) (by have := put_len h.blob.dnd _ hb (by omega); omega) (by omega)⟩
  · rw [List.take_succ_eq_append_getElem hk, pairs_snoc (by rw [h.len, List.length_take]; omega)]
    have e1 : pairO t[k] ⟨t[k].path, (putB L t[k].data).2⟩ = some ((putB L t[k].data).2, t[k].data) := if_pos hk2
    rw [e1]
    refine (h.held.put h.blob.knd h.blob.dnd t[k].data).perm ?_
    show ((putB L t[k].data).2, t[k].data) :: (pairsE (t.take k) l ++ Hd) |>.Perm (pairsE (t.take k) l ++ [((putB L t[k].data).2, t[k].data)] ++ Hd)
    rw [List.append_assoc]
    exact List.perm_middle.symm
  · have := note_len m ⟨(putB L t[k].data).2, valB r t[k].data, false⟩
    have := h.few
    omega
end
/-- where Save stands in the keys that it lets go -/
structure LetIs (ex : Prop) (rows : Rws) (m0 : Bch) (L0 : List One) (c : Nat) (K : Nat) (Pt Hd : List (List UInt8 × List UInt8)) (old : List (List UInt8 × List UInt8)) (j : Nat) (m : Bch) (L : List One) : Prop where
  le : j ≤ old.length
  blob : BlobIs rows m L K
  held : Held ex L (old.drop j ++ (Pt ++ Hd))
  frame : ∀ kk, kk.take 2 ≠ [98, 47] → bgetE rows m kk = bgetE rows m0 kk
  book : Grows c m0 L0 m L
section
variable {rows : Rws} {m m0 : Bch} {L L0 : List One} {K j c : Nat} {ex : Prop} {Pt Hd old : List (List UInt8 × List UInt8)}
theorem LetIs.rel (h : LetIs ex rows m0 L0 c K Pt Hd old j m L) (hj : j < old.length) (hK : K ≤ 1000000) : LetIs ex rows m0 L0 c K Pt Hd old (j + 1) (relM m L old[j].1) (relB L old[j].1) := by
  have hh := h.held
  rw [List.drop_eq_getElem_cons hj] at hh
  obtain ⟨⟨x, hx⟩, h2⟩ := Held.rel (k := old[j].1) (d := old[j].2) hh h.blob.knd h.blob.dnd
  exact ⟨hj, h.blob.relM _, h2, fun kk hkk => (relM_frame _ hkk).trans (h.frame kk hkk), h.book.rel _ fun x hx => by have := h.blob.refs x hx; omega⟩
end
section
variable {B Tp q : Nat} {T : Tb} {m : Bch} {fb fp : List Nat} {w0 : World} {ex : Prop} {L : List One} {K : Nat} {P : Nat → Option Arc}
theorem arc_len {a : Arc} (h : ArcOk a) : (packE (arcE a.l)).length ≤ 1099511627776 ∧ a.l.length ≤ 1048576 := by
  have hl := h.few
  have hll := h.len
  have h1 : ∀ r ∈ a.l, (arcRow r).length ≤ 1048800 := fun r hr => by
    obtain ⟨i, hi, rfl⟩ := List.getElem_of_mem hr
    have h2 := h.row i (by omega)
    have h3 := h.size _ (List.getElem_mem (show i < a.tree.length by omega))
    have h4 := h2.keyl
    rw [← h2.path] at h3
    have h5 := putN_len10 (n := a.l[i].path.length) (by omega)
    have h6 := putN_len10 (n := a.l[i].key.length) (by omega)
    simp only [arcRow, textE, List.length_append]
    omega
  have h2 : ∀ l : List Ae, (∀ r ∈ l, (arcRow r).length ≤ 1048800) → (l.flatMap arcRow).length ≤ l.length * 1048800 := by
    intro l
    induction l with
    | nil => intro _; simp
    | cons b l ih =>
      intro hh
      rw [List.flatMap_cons, List.length_append, List.length_cons, Nat.add_mul, Nat.one_mul]
      have := ih fun r hr => hh r (List.mem_cons_of_mem _ hr)
      have := hh b (List.mem_cons_self ..)
      omega
  have h3 := h2 a.l h1
  have h4 : a.l.length * 1048800 ≤ 200 * 1048800 := Nat.mul_le_mul_right _ (by omega)
  have h5 := putN_len10 (n := a.l.length) (by omega)
  have h6 : (arcE a.l).length ≤ 300000000 := by unfold arcE; rw [List.length_append]; omega
  have h7 := putN_len10 (n := (arcE a.l).length) (by omega)
  have l4 : ∀ n, (le4 n).length = 4 := fun n => rfl
  refine ⟨?_, by omega⟩
  unfold packE textE
  simp only [List.length_append, l4]
  omega
theorem arc_read {a : Arc} {bit : Int} (h : ArcOk a) : (turnE a.raw bit).length ≤ 1099511627776 ∧ ((readE (turnE a.raw bit)).2.2 ≠ 0 ∨ (readE (turnE a.raw bit)).2.1 ≠ (turnE a.raw bit).length) := by
  obtain ⟨z1, _⟩ := arc_len h
  have h2 : (arcE a.l).length ≤ (packE (arcE a.l)).length := by unfold packE textE; simp only [List.length_append]; omega
  refine ⟨by rw [turnE_len]; exact z1, turned_bad (arcE a.l) bit (by omega)⟩
theorem splitA_sum : ∀ (s one : List UInt8), ((splitA one s).map List.length).sum + s.count 47 = one.length + s.length
  | [], one => by simp [splitA]
  | c :: s, one => by
    by_cases h : c = 47
    · subst h
      have := splitA_sum s []
      simp [splitA] at this ⊢
      omega
    · have := splitA_sum s (one ++ [c])
      simp [splitA, h, List.count_cons] at this ⊢
      omega
theorem path_small {p : List UInt8} (h : checkE p 5 = 0) : p.length ≤ 64 := by
  obtain ⟨h1, h2⟩ := (checkE_iff p 5).1 h
  have h3 := splitA_sum p []
  have h4 := splitA_len p []
  have h5 : ((splitL p).map List.length).sum ≤ (splitL p).length * 12 := bk_sum fun x hx => by
    have := List.all_eq_true.1 h2 x hx
    unfold nameB at this
    simp at this
    omega
  unfold splitL at h1 h5
  simp at h3
  omega
theorem arc_small {a : Arc} (h : ArcOk a) : (packE (arcE a.l)).length ≤ 40000 := by
  have hl := h.few
  have hll := h.len
  have h1 : ∀ r ∈ a.l, (arcRow r).length ≤ 190 := fun r hr => by
    obtain ⟨i, hi, rfl⟩ := List.getElem_of_mem hr
    have h2 := h.row i (by omega)
    have h3 := path_small (h.tree i (by omega)).path
    have h4 := h2.keyl
    rw [← h2.path] at h3
    have h5 := putN_len10 (n := a.l[i].path.length) (by omega)
    have h6 := putN_len10 (n := a.l[i].key.length) (by omega)
    simp only [arcRow, textE, List.length_append]
    omega
  have h3 : (a.l.flatMap arcRow).length ≤ a.l.length * 190 := by
    rw [List.length_flatMap]
    exact bk_sum h1
  have h4 : a.l.length * 190 ≤ 200 * 190 := Nat.mul_le_mul_right _ (by omega)
  have h5 := putN_len10 (n := a.l.length) (by omega)
  have h6 : (arcE a.l).length ≤ 38010 := by unfold arcE; rw [List.length_append]; omega
  have h7 := putN_len10 (n := (arcE a.l).length) (by omega)
  have l4 : ∀ n, (le4 n).length = 4 := fun n => rfl
  unfold packE textE
  simp only [List.length_append, l4]
  omega
theorem akeysX_c (n : Nat) (hn : 1 ≤ n ∧ n ≤ 6) (hi : InL w0 [bchC B (some ⟨Tp, 0, none⟩) m fb, tabC Tp q T fp]) (hp : PowI w0 (fps [bchC B (some ⟨Tp, 0, none⟩) m fb, tabC Tp q T fp])) (hs : ArcIs ex T.rows m L K P) :
    Cal Tryz.prog 60 [.pointer (some ⟨B, 0, none⟩), .int .i64 (n : Int)] w0 (fun v w' => ∃ A cap e, v = .tuple #[.slice A ((partA (P n)).map Prod.fst).length cap, .int .i64 e] ∧ MutL w0 w' [bchC B (some ⟨Tp, 0, none⟩) m fb, tabC Tp q T fp] [bchC B (some ⟨Tp, 0, none⟩) m fb, tabC Tp q T fp, .own (.slice A ((partA (P n)).map Prod.fst).length cap) 9 1 ((partA (P n)).map Prod.fst).length (strs ((partA (P n)).map Prod.fst))]) := by
  cases hP : P n with
  | none =>
    exact (akeysNo_c (n : Int) (by omega) (by omega) hi hp (hs.no n hn.1 hn.2 hP)).mono fun v w' ⟨A, cap, h1, h2⟩ => ⟨A, cap, 11, h1, h2⟩
  | some a =>
    have hok := hs.ok n a hP
    have hg := hs.has n a hn.1 hn.2 hP
    cases hb : a.bit with
    | some bit =>
      have hv : a.val = turnE a.raw bit := by unfold Arc.val; rw [hb]
      rw [hv] at hg
      obtain ⟨z1, z2⟩ := arc_read (bit := bit) hok
      have he : (partA (some a)).map Prod.fst = [] := by
        unfold partA
        dsimp only
        rw [if_neg (by rw [hb]; exact fun h => by cases h)]
        rfl
      rw [he]
      exact (akeysBad_c (n : Int) (by omega) (by omega) hi hp hg z1 z2).mono fun v w' ⟨A, cap, h1, h2⟩ => ⟨A, cap, 6, h1, h2⟩
    | none =>
      have hv : a.val = packE (arcE a.l) := by unfold Arc.val Arc.raw; rw [hb]
      rw [hv] at hg
      obtain ⟨z1, z2⟩ := arc_len hok
      have he : (partA (some a)).map Prod.fst = keysA a.l := by
        unfold partA
        dsimp only
        rw [if_pos hb, pairs_keys hok.len hok.row]
      rw [he]
      exact (akeys_c (n : Int) (by omega) (by omega) hi hp a.l hg z1 z2).mono fun v w' ⟨A, cap, h1, h2⟩ => ⟨A, cap, 0, h1, h2⟩
set_option maxHeartbeats 32000000 in
set_option maxRecDepth 100000 in
theorem asave_c (n : Nat) (t : List Ent) {A : Option Addr} {cap : Nat} (hn : 1 ≤ n ∧ n ≤ 6) (hi : InL w0 [bchC B (some ⟨Tp, 0, none⟩) m fb, tabC Tp q T fp]) (hp : PowI w0 (fps [bchC B (some ⟨Tp, 0, none⟩) m fb, tabC Tp q T fp])) (hA : SlAt cEnt (fun b => b < w0.heap.size ∧ b ∉ fps [bchC B (some ⟨Tp, 0, none⟩) m fb, tabC Tp q T fp]) w0 A t) (hcap : t.length ≤ cap) (hs : ArcIs ex T.rows m L K P)
    (ht : TreeOk t) (hl : t.length ≤ 200) (hz : ∀ e ∈ t, e.path.length ≤ 1048576) (hK : K ≤ 500000) (hm : m.length ≤ 1000000) (hr : T.rows.length ≤ 1000000) :
    Cal Tryz.prog 18 [.pointer (some ⟨B, 0, none⟩), .int .i64 (n : Int), .slice A t.length cap] w0 (fun v w' => v = .int .i64 0 ∧ ∃ m' fb' L' l', ArcIs ex T.rows m' L' (K + t.length) (updA P n (some ⟨t, l', none⟩)) ∧ m'.length ≤ m.length + 401 ∧ Grows 201 m L m' L' ∧
      MutL w0 w' [bchC B (some ⟨Tp, 0, none⟩) m fb, tabC Tp q T fp] [bchC B (some ⟨Tp, 0, none⟩) m' fb', tabC Tp q T fp]) := by
  refine Cal.mkL hi (by kernel_rfl) Tryz.func18 rfl rfl fun hS => ?_
  obtain ⟨hn1, hn2⟩ := hn
  have hck := checkT_ok hl ht
  have hma := fun w0 => amay_c (n : Int) w0
  rw [decide_eq_true (show (1 : Int) ≤ (n : Int) ∧ (n : Int) ≤ 6 by omega)] at hma
  have hspl := held_at P hn2
  have hpu := putN_len10 (n := t.length) (by omega)
  obtain ⟨oldp, hop⟩ : ∃ oldp, oldp = partA (P n) := ⟨_, rfl⟩
  have hkx := fun (w0 : World) (hi : InL w0 [bchC B (some ⟨Tp, 0, none⟩) m fb, tabC Tp q T fp]) (hp : PowI w0 (fps [bchC B (some ⟨Tp, 0, none⟩) m fb, tabC Tp q T fp])) => akeysX_c n ⟨hn1, hn2⟩ hi hp hs
  rw [← hop] at hkx hspl
  have hh0 := hs.held.perm hspl
  have hb0 := hs.blob
  have hsa := fun {m' : Bch} {L' : List One} {l : List Ae} (hb : BlobIs T.rows m' L' (K + t.length)) (hfr : ∀ k, k.take 2 ≠ [98, 47] → bgetE T.rows m' k = bgetE T.rows m k) (hh : Held ex L' (pairsE t l ++ heldA (updA P n none))) (ha : ArcOk ⟨t, l, none⟩) => hs.save hb hfr hn1 hn2 hh ha
  have hol : oldp.length ≤ 200 := by
    rw [hop]
    unfold partA
    cases hP : P n with
    | none => exact Nat.zero_le _
    | some a =>
      dsimp only
      split
      · have hok := hs.ok n a hP
        unfold pairsE
        refine Nat.le_trans (List.length_filterMap_le _ _) ?_
        rw [List.length_zipWith]
        have := hok.few
        omega
      · exact Nat.zero_le _
  have hdat : ∀ e ∈ t, e.data.length ≤ 4096 := fun e he => by
    obtain ⟨i, hi, rfl⟩ := List.getElem_of_mem he
    have hw := (ht i hi).whole
    unfold wholeE at hw
    split at hw
    · rw [of_decide_eq_true hw]; exact Nat.zero_le _
    · split at hw
      · exact of_decide_eq_true hw
      · cases hw
  have hkind : ∀ i (h : i < t.length), t[i].kind = 2 ∨ (t[i].kind = 1 ∧ t[i].data = []) := fun i hi => by
    have hw := (ht i hi).whole
    have hk := (ht i hi).kind
    unfold wholeE at hw
    split at hw
    · rename_i h
      rcases h with h | h
      · exact absurd h hk
      · exact .inr ⟨h, of_decide_eq_true hw⟩
    · split at hw
      · rename_i h; exact .inl h
      · cases hw
  clear hs hop
  repeat' (first
    | (show WL _ _ _ _ _ _ _; first
      | refine WL.pure rfl rfl rfl rfl ?_
      | refine WL.nil ?_
      | (refine WL.calls hS rfl rfl (hma _) rfl rfl rfl ?_; rintro v w rfl hS)
      | (refine WL.calls hS rfl rfl (tcheck_c t ((hS.slO (by repeat (first | exact List.Mem.head _ | apply List.Mem.tail)) hA)) hcap (by omega) hz) rfl rfl rfl ?_; rintro v w rfl hS; rw [hck])
      | (refine WL.callL (D := [bchC B (some ⟨Tp, 0, none⟩) m fb, tabC Tp q T fp]) hS (by repeat (first | exact Pulls.nil | (apply Pulls.cons; focus (repeat (first | exact Pull.here | apply Pull.there))))) rfl rfl (fun hI => hkx _ hI (hp.pull hS (by repeat (first | exact Pulls.nil | (apply Pulls.cons; focus (repeat (first | exact Pull.here | apply Pull.there))))))) rfl rfl rfl ?_; rintro v w ⟨AO, co, ke, rfl, hmu⟩ hS; replace hS := hS _ hmu; clear hmu)
      | (refine WL.calls hS rfl rfl (wuint_c t.length _ (by omega)) rfl rfl rfl ?_; rintro v w rfl hS))
    | (show WC _ _ _ _ _ _; first
      | refine WC.seq ?_
      | refine WC.region ?_
      | refine WC.block ?_
      | refine WC.skip ?_
      | refine WC.condF rfl (by decide) ?_)
    | refine seqQ_n ?_)
  clear hkx hma
  obtain ⟨old, hold⟩ : ∃ old, old = oldp.map Prod.fst := ⟨_, rfl⟩
  rw [← hold] at hS ⊢
  have hoo : old.length = oldp.length := by rw [hold, List.length_map]
  refine WC.loop (σ := Nat × Bch × List Nat × List One × List Ae) [0, 1, 8, 39, 40] (fun (k, _, _, _, l) => [(12, str (putN t.length ++ l.flatMap arcRow)), (41, .int .i64 (k : Int))])
    (fun (k, m1, fb1, L1, l) w => (SaveIs ex T.rows m L K (oldp ++ heldA (updA P n none)) t k m1 L1 l ∧ (l.flatMap arcRow).length ≤ k * 1048800) ∧ St w0 (fps [bchC B (some ⟨Tp, 0, none⟩) m fb, tabC Tp q T fp]) w [bchC B (some ⟨Tp, 0, none⟩) m1 fb1, tabC Tp q T fp, .own (.slice AO old.length co) 9 1 old.length (strs old)] (ZL w0 [bchC B (some ⟨Tp, 0, none⟩) m fb, tabC Tp q T fp]))
    (fun (k, _) => t.length - k) (0, m, fb, L, []) ⟨⟨⟨Nat.zero_le _, rfl, hb0, hh0, fun i hi => absurd hi (Nat.not_lt_zero _), fun _ _ => rfl, Nat.le_refl _, .refl _ _⟩, Nat.le_refl _⟩, hS.droplast2 (by repeat (first | exact Pulls.nil | (apply Pulls.cons; focus (repeat (first | exact Pull.here | apply Pull.there)))))⟩ ⟨by rw [List.flatMap_nil, List.append_nil]; rfl, rfl, trivial⟩ ?_
  clear hS
  rintro ⟨k, m1, fb1, L1, l⟩ g w ⟨⟨hsi, hfl⟩, hS⟩
  show WC _ _ _ (lf _ [(12, str (putN t.length ++ l.flatMap arcRow)), (41, .int .i64 (k : Int))] _ _) _ _
  have hk := hsi.le
  have hml := hsi.few
  have hsb := hsi.blob
  by_cases hlt : k < t.length
  · obtain ⟨rb, ro, es, rfl, hF, hrr, hes⟩ := hA.at_ hlt
    have hes : es = encEnt t[k] := hes
    subst hes
    have hrr : w0.rangeAt rb (ro + k * 3) (encEnt t[k]) := hrr
    have hpz := hz t[k] (List.getElem_mem hlt)
    have hdz := hdat t[k] (List.getElem_mem hlt)
    have hfm : ∀ a : Ae, putN t.length ++ l.flatMap arcRow ++ (textE a.path ++ textE a.key) = putN t.length ++ (l ++ [a]).flatMap arcRow := fun a => by rw [List.append_assoc]; simp [arcRow]
    have hfz : ∀ a : Ae, a.path.length ≤ 1048576 → a.key.length ≤ 100 → ((l ++ [a]).flatMap arcRow).length ≤ (k + 1) * 1048800 := fun a h1 h2 => by
      rw [List.flatMap_append, List.length_append]
      have h3 := putN_len10 (n := a.path.length) (by omega)
      have h4 := putN_len10 (n := a.key.length) (by omega)
      simp only [List.flatMap_cons, List.flatMap_nil, List.append_nil, arcRow, textE, List.length_append]
      omega
    have hacc : (putN t.length ++ l.flatMap arcRow).length ≤ 10 + 200 * 1048800 := by
      rw [List.length_append]
      have : k * 1048800 ≤ 200 * 1048800 := Nat.mul_le_mul_right _ (by omega)
      omega
    rcases hkind k hlt with hk2 | ⟨hk1, hdt⟩
    · have hfile := fun {r : Nat} (hr : r ≤ 2000000) => hsi.file (r := r) hlt hk2 hr hdz (by omega)
      have hkl := fun {m2 : Bch} => put_len (m := m2) (K := K + k + 1) (rows := T.rows) hsb.dnd t[k].data
      clear hsi hh0 hb0 hsa hspl hkind
      generalize t[k] = e at *
      obtain ⟨path, kind, data⟩ := e
      have hk2 : kind = 2 := hk2
      subst hk2
      dsimp only at hfile hkl hpz hdz
      have htp := textE_len path
      have hp10 := putN_len10 (n := path.length) (by omega)
      repeat' (first
        | (show WL _ _ _ _ _ _ _; first
          | refine WL.pure rfl rfl rfl rfl ?_
          | refine WL.nil ?_
          | refine WL.load hS rfl rfl (LdOk.box (by repeat (first | exact List.Mem.head _ | apply List.Mem.tail)) rfl) rfl rfl rfl ?_
          | refine WL.add rfl rfl rfl (by omega) rfl rfl rfl ?_
          | (refine WL.load hS rfl rfl (LdOk.snap0 hF hrr (by repeat (first | exact List.Mem.head _ | apply List.Mem.tail)) rfl) rfl rfl rfl ?_)
          | (refine WL.callL (D := [bchC B (some ⟨Tp, 0, none⟩) m1 fb1, tabC Tp q T fp]) hS (by repeat (first | exact Pulls.nil | (apply Pulls.cons; focus (repeat (first | exact Pull.here | apply Pull.there))))) rfl rfl (fun hI => blput_c (l := L1) (K := K + k) data hI (hp.pull hS (by repeat (first | exact Pulls.nil | (apply Pulls.cons; focus (repeat (first | exact Pull.here | apply Pull.there)))))) hsb (by omega) (by omega) (by omega) (by omega)) rfl rfl rfl ?_; rintro v w ⟨rfl, r, fb2, hr1, hr2, hb2, hmu⟩ hS; replace hS := hS _ hmu; clear hmu; have hkl2 := hkl hb2 (by omega); have htk := textE_len (putB L1 data).2; have hk10 := putN_len10 (n := (putB L1 data).2.length) (by omega); have hcl : (textE path ++ textE (putB L1 data).2).length = (textE path).length + (textE (putB L1 data).2).length := List.length_append)
          | (refine WL.calls hS rfl rfl (wtext_c path _ (by omega)) rfl rfl rfl ?_; rintro v w rfl hS)
          | (refine WL.calls hS rfl rfl (wtext_c (putB L1 data).2 _ (by omega)) rfl rfl rfl ?_; rintro v w rfl hS)
          | refine WL.cat rfl rfl rfl (by omega) rfl rfl rfl ?_
          | (refine WL.store hS rfl rfl rfl (by repeat (first | exact StB.here rfl | apply StB.there)) rfl rfl rfl ?_; intro w hS)
          | (refine WL.alloc hS rfl rfl rfl rfl rfl rfl ?_; intro w b hS)
          | refine WL.index rfl rfl rfl rfl (by first | with_reducible assumption | omega) rfl rfl rfl rfl ?_)
        | (show WC _ _ _ _ _ _; first
          | refine WC.seq ?_
          | refine WC.region ?_
          | refine WC.block ?_
          | refine WC.skip ?_
          | refine WC.condT rfl (decide_eq_true (by first | with_reducible assumption | omega)) ?_)
        | refine seqQ_n ?_
        | refine blkQ_n ?_)
      exact rndQ_n (k + 1, _, fb2, _, l ++ [⟨path, (putB L1 data).2⟩]) ⟨⟨hfile (by omega) hb2, hfz _ hpz hkl2⟩, hS.droplast2 (by repeat (first | exact Pulls.nil | (apply Pulls.cons; focus (repeat (first | exact Pull.here | apply Pull.there)))))⟩ (by show t.length - (k + 1) < t.length - k; omega) ⟨by rw [← hfm ⟨path, (putB L1 data).2⟩]; rfl, vint (by omega), trivial⟩ ⟨rfl, rfl, rfl, rfl, rfl, trivial⟩
    · have hdir := hsi.dir hlt hk1 hdt
      clear hsi hh0 hb0 hsa hspl hkind
      generalize t[k] = e at *
      obtain ⟨path, kind, data⟩ := e
      have hk1 : kind = 1 := hk1
      subst hk1
      dsimp only at hdir hpz hdz
      have htp := textE_len path
      have hp10 := putN_len10 (n := path.length) (by omega)
      have ht0 : textE [] = [0] := by
        unfold textE
        rw [List.append_nil]
        exact putN_small (by decide)
      have ht1 : (textE []).length = 1 := by rw [ht0]; rfl
      have hcl : (textE path ++ textE []).length = (textE path).length + (textE []).length := List.length_append
      repeat' (first
        | (show WL _ _ _ _ _ _ _; first
          | refine WL.pure rfl rfl rfl rfl ?_
          | refine WL.nil ?_
          | refine WL.load hS rfl rfl (LdOk.box (by repeat (first | exact List.Mem.head _ | apply List.Mem.tail)) rfl) rfl rfl rfl ?_
          | refine WL.add rfl rfl rfl (by omega) rfl rfl rfl ?_
          | (refine WL.load hS rfl rfl (LdOk.snap0 hF hrr (by repeat (first | exact List.Mem.head _ | apply List.Mem.tail)) rfl) rfl rfl rfl ?_)
          | (refine WL.calls hS rfl rfl (wtext_c path _ (by omega)) rfl rfl rfl ?_; rintro v w rfl hS)
          | (refine WL.calls hS rfl rfl (wtext_c [] _ (by decide)) rfl rfl rfl ?_; rintro v w rfl hS)
          | refine WL.cat rfl rfl rfl (by omega) rfl rfl rfl ?_
          | (refine WL.store hS rfl rfl rfl (by repeat (first | exact StB.here rfl | apply StB.there)) rfl rfl rfl ?_; intro w hS)
          | (refine WL.alloc hS rfl rfl rfl rfl rfl rfl ?_; intro w b hS)
          | refine WL.index rfl rfl rfl rfl (by first | with_reducible assumption | omega) rfl rfl rfl rfl ?_)
        | (show WC _ _ _ _ _ _; first
          | refine WC.seq ?_
          | refine WC.region ?_
          | refine WC.block ?_
          | refine WC.skip ?_
          | refine WC.condT rfl (decide_eq_true (by first | with_reducible assumption | omega)) ?_
          | refine WC.condF rfl (decide_eq_false (by first | with_reducible assumption | omega)) ?_)
        | refine seqQ_n ?_
        | refine blkQ_n ?_)
      exact rndQ_n (k + 1, m1, fb1, L1, l ++ [⟨path, []⟩]) ⟨⟨hdir, hfz _ hpz (Nat.zero_le _)⟩, hS.droplast2 (by repeat (first | exact Pulls.nil | (apply Pulls.cons; focus (repeat (first | exact Pull.here | apply Pull.there)))))⟩ (by show t.length - (k + 1) < t.length - k; omega) ⟨by rw [← hfm ⟨path, []⟩]; rfl, vint (by omega), trivial⟩ ⟨rfl, rfl, rfl, rfl, rfl, trivial⟩
  · have hke : k = t.length := by omega
    subst hke
    have hsh := hsi.held
    rw [List.take_length] at hsh
    have hll := hsi.len
    have hrow := hsi.row
    have hsf := hsi.frame
    have hsg := hsi.book
    have hac : ArcOk ⟨t, l, none⟩ := ⟨ht, hl, hll, fun i hi => hrow i hi, hz⟩
    obtain ⟨z1, _⟩ := arc_len hac
    have hae : putN t.length ++ l.flatMap arcRow = arcE l := by unfold arcE; rw [hll]
    rw [hae]
    have hael : (arcE l).length ≤ 1099511627776 := by
      have : (arcE l).length ≤ (packE (arcE l)).length := by unfold packE textE; simp only [List.length_append]; omega
      have z1 : (packE (arcE l)).length ≤ 1099511627776 := z1
      omega
    have hle0 : LetIs ex T.rows m L t.length (K + t.length) (pairsE t l) (heldA (updA P n none)) oldp 0 m1 L1 := ⟨Nat.zero_le _, hsb, hsh.perm (by
      rw [List.drop_zero, ← List.append_assoc, ← List.append_assoc]
      exact List.perm_append_comm.append_right _), hsf, hsg⟩
    have hasm := arc_small hac
    clear hsi hsh hrow hsf hsg hh0 hb0 hkind hdat hA hck hspl
    repeat' (first
      | (show WL _ _ _ _ _ _ _; first
        | refine WL.pure rfl rfl rfl rfl ?_
        | refine WL.nil ?_)
      | (show WC _ _ _ _ _ _; first
        | refine WC.seq ?_
        | refine WC.region ?_
        | refine WC.block ?_
        | refine WC.exit ?_
        | refine WC.condF rfl (decide_eq_false (by first | with_reducible assumption | omega)) ?_)
      | refine seqQ_n ?_
      | refine seqQ_x ?_
      | refine blkQ_hit rfl ?_
      | refine rndQ_x ?_)
    refine WC.loop (σ := Nat × Bch × List Nat × List One) [0, 1, 12, 63, 64] (fun (j, _) => [(65, .int .i64 (j : Int))])
      (fun (j, m1, fb1, L1) w => (LetIs ex T.rows m L t.length (K + t.length) (pairsE t l) (heldA (updA P n none)) oldp j m1 L1 ∧ m1.length ≤ m.length + t.length + j) ∧ St w0 (fps [bchC B (some ⟨Tp, 0, none⟩) m fb, tabC Tp q T fp]) w [bchC B (some ⟨Tp, 0, none⟩) m1 fb1, tabC Tp q T fp, .own (.slice AO old.length co) 9 1 old.length (strs old)] (ZL w0 [bchC B (some ⟨Tp, 0, none⟩) m fb, tabC Tp q T fp]))
      (fun (j, _) => oldp.length - j) (0, m1, fb1, L1) ⟨⟨hle0, by omega⟩, hS⟩ ⟨rfl, trivial⟩ ?_
    clear hS hle0 hml hsb
    rintro ⟨j, m1, fb1, L1⟩ g2 w ⟨⟨hle, hml⟩, hS⟩
    show WC _ _ _ (lf _ [(65, .int .i64 (j : Int))] _ _) _ _
    have hj := hle.le
    have hlb := hle.blob
    by_cases hlt : j < oldp.length
    · obtain ⟨kg, ko, rfl⟩ := hS.own_addr (A := AO) (n := old.length) (by repeat (first | exact List.Mem.head _ | apply List.Mem.tail)) (by omega)
      have hjo : j < old.length := by omega
      have hkx : (strs old)[j * 1]? = some (str oldp[j].1) := by
        rw [Nat.mul_one, strs_at hjo]
        subst hold
        rw [List.getElem_map]
      have hrel := hle.rel hlt (by omega)
      have hrl := relM_len (m := m1) (L := L1) oldp[j].1
      generalize oldp[j].1 = ke at *
      clear hle hold
      repeat' (first
        | (show WL _ _ _ _ _ _ _; first
          | refine WL.pure rfl rfl rfl rfl ?_
          | refine WL.nil ?_
          | refine WL.add rfl rfl rfl (by omega) rfl rfl rfl ?_
          | (refine WL.load hS rfl rfl (LdOk.ownAt (by repeat (first | exact List.Mem.head _ | apply List.Mem.tail)) rfl ⟨_, rfl⟩ hkx rfl) rfl rfl rfl ?_)
          | (refine WL.callL (D := [bchC B (some ⟨Tp, 0, none⟩) m1 fb1, tabC Tp q T fp]) hS (by repeat (first | exact Pulls.nil | (apply Pulls.cons; focus (repeat (first | exact Pull.here | apply Pull.there))))) rfl rfl (fun hI => blrel_c (l := L1) (K := K + t.length) ke hI hlb (by omega) (by omega)) rfl rfl rfl ?_; rintro v w ⟨rfl, fb2, hmu⟩ hS; replace hS := hS _ hmu; clear hmu)
          | refine WL.index rfl rfl rfl rfl (by first | with_reducible assumption | omega) rfl rfl rfl rfl ?_)
        | (show WC _ _ _ _ _ _; first
          | refine WC.seq ?_
          | refine WC.region ?_
          | refine WC.block ?_
          | refine WC.skip ?_
          | refine WC.condT rfl (decide_eq_true (by first | with_reducible assumption | omega)) ?_)
        | refine seqQ_n ?_
        | refine blkQ_n ?_)
      exact rndQ_n (j + 1, relM m1 L1 ke, fb2, relB L1 ke) ⟨⟨hrel, by omega⟩, hS.droplast2 (by repeat (first | exact Pulls.nil | (apply Pulls.cons; focus (repeat (first | exact Pull.here | apply Pull.there)))))⟩ (by show oldp.length - (j + 1) < oldp.length - j; omega) ⟨vint (by omega), trivial⟩ ⟨rfl, rfl, rfl, rfl, rfl, trivial⟩
    · have hje : j = oldp.length := by omega
      subst hje
      have hlh := hle.held
      rw [List.drop_length, List.nil_append] at hlh
      have hlf := hle.frame
      have hkz : (arcK (n : Int)).length ≤ 100 := by
        unfold arcK
        rw [itoa_nat, List.length_append]
        have := dec_len (n := n) (k := 12) (by omega)
        show 2 + _ ≤ 100
        omega
      have hgr := (hle.book.note (o := ⟨arcK (n : Int), packE (arcE l), false⟩) (by have hasm : (packE (arcE l)).length ≤ 40000 := hasm; unfold szO; dsimp only; omega) (fun e => by cases e)).up (show t.length + 1 ≤ 201 by omega)
      have hfin := hsa hlb hlf hlh hac
      have hnl := note_len m1 ⟨arcK (n : Int), packE (arcE l), false⟩
      clear hle hlh hlf hsa
      repeat' (first
        | (show WL _ _ _ _ _ _ _; first
          | refine WL.pure rfl rfl rfl rfl ?_
          | refine WL.nil ?_
          | (refine WL.calls hS rfl rfl (akey_c (n : Int) (by omega) (by omega) _ (hp.at hS)) rfl rfl rfl ?_; rintro v w rfl hS)
          | (refine WL.calls hS rfl rfl (pack_c (arcE l) _ hael) rfl rfl rfl ?_; rintro v w rfl hS)
          | (refine WL.callL (D := [bchC B (some ⟨Tp, 0, none⟩) m1 fb1]) hS (by repeat (first | exact Pulls.nil | (apply Pulls.cons; focus (repeat (first | exact Pull.here | apply Pull.there))))) rfl rfl (fun hI => bput_c (arcK (n : Int)) (packE (arcE l)) hI.head hI.headB (by omega)) rfl rfl rfl ?_; rintro v w ⟨rfl, fb2, hmu⟩ hS; replace hS := hS _ (.of1 hmu); clear hmu))
        | (show WC _ _ _ _ _ _; first
          | refine WC.seq ?_
          | refine WC.region ?_
          | refine WC.exit ?_
          | refine WC.ret ?_
          | refine WC.condF rfl (decide_eq_false (by first | with_reducible assumption | omega)) ?_)
        | refine seqQ_n ?_
        | refine seqQ_x ?_
        | refine blkQ_hit rfl ?_
        | refine rndQ_x ?_)
      exact fin1r rfl rfl ⟨rfl, _, _, L1, l, hfin, by omega, hgr, hS.mutLp (by repeat (first | exact Pulls.nil | (apply Pulls.cons; focus (repeat (first | exact Pull.here | apply Pull.there)))))⟩
end
end Go.Proofs.YtobfdeiimnnanaaGreatDoor

/- What is proved: the laws on archives are awake; what they need of states. Conditions: the library's table of powers laid. -/
set_option linter.unusedSimpArgs false
set_option linter.unusedVariables false
namespace Go.Proofs.YtobfdeiimnnanaaGreatDoor
open Go Go.J Go.RowKit

section
variable {w0 w : World} {M : List Nat} {D H : List Chunk} {Z : List Snap} {z : Snap}
/-- a row of the call's own, as a callee reads it that changes other chunks -/
theorem St.ownSlA {α : Type} {enc : α → List Value} {sz : Nat} {hsz : ∀ x, (enc x).length = sz} {e : TypeId} {A : Option Addr} {n cap n' : Nat} {l : List α} (h0 : 0 < sz) (hS : St w0 M w (D ++ H) Z) (hm : Chunk.own (.slice A n cap) e sz n' (l.flatMap enc) ∈ H) :
    SlAt (Cod.flat enc sz hsz) (fun b => b < w.heap.size ∧ b ∉ fps D) w A l :=
  SlAt.ofOwn h0 (hS.holds _ (List.mem_append_right _ hm)) fun g hg => by
    refine ⟨(hS.inb _ (List.mem_append_right _ hm) g (by simp [Chunk.fp, hg])).1, fun hf => ?_⟩
    obtain ⟨c, hc, hb⟩ := mem_fps.1 hf
    exact (List.pairwise_append.1 hS.disj).2.2 c hc _ hm g hb (by simp [Chunk.fp, hg])
theorem St.slXD {α : Type} {c : Cod α} (hS : St w0 M w (D ++ H) Z) (hz : z ∈ Z) {A : Option Addr} {xs : List α} (h : SlAt c z.F z.w A xs) : SlAt c (fun b => b < w.heap.size ∧ b ∉ fps D) w A xs :=
  (hS.sl hz h).mono fun b hb => ⟨(hS.snap z hz b hb).1, fun hf => by
    obtain ⟨k, hk, hb2⟩ := mem_fps.1 hf
    exact (hS.snap z hz b hb).2.2 k (List.mem_append_left _ hk) hb2⟩
end
/-- no bit is turned -/
def AllNone (P : Nat → Option Arc) : Prop := ∀ n a, P n = some a → a.bit = none
theorem AllNone.start : AllNone fun _ => none := fun n a h => by cases h
theorem AllNone.upd {P : Nat → Option Arc} (h : AllNone P) (n : Nat) (t : List Ent) (l : List Ae) : AllNone (updA P n (some ⟨t, l, none⟩)) := fun k a hk => by
  have hk : (if k = n then some ⟨t, l, none⟩ else P k) = some a := hk
  split at hk
  · cases hk; rfl
  · exact h k a hk
theorem mem_heldA {P : Nat → Option Arc} {p : List UInt8 × List UInt8} : p ∈ heldA P ↔ ∃ n, n ≤ 6 ∧ p ∈ partA (P n) := by
  unfold heldA
  rw [List.mem_flatMap]
  exact ⟨fun ⟨n, h1, h2⟩ => ⟨n, by have := List.mem_range.1 h1; omega, h2⟩, fun ⟨n, h1, h2⟩ => ⟨n, List.mem_range.2 (by omega), h2⟩⟩
def filE (t : List Ent) : List (List UInt8) := (t.filter fun e => decide (e.kind = 2)).map Ent.data
theorem pairs_data : ∀ {t : List Ent} {l : List Ae}, l.length = t.length → (pairsE t l).map Prod.snd = filE t
  | [], [], _ => rfl
  | [], _ :: _, h => by cases h
  | _ :: _, [], h => by cases h
  | e :: t, r :: l, h => by
    have ih := pairs_data (t := t) (l := l) (by simpa using h)
    unfold pairsE filE at *
    rw [List.zipWith_cons_cons, List.filterMap_cons, List.filter_cons]
    by_cases hk : e.kind = 2
    · have e1 : pairO e r = some (r.key, e.data) := if_pos hk
      rw [e1, if_pos (decide_eq_true hk)]
      show e.data :: _ = e.data :: _
      rw [ih]
    · have e1 : pairO e r = none := if_neg hk
      rw [e1, if_neg (by simpa using hk)]
      exact ih
/-- all archives are of one tree -/
structure OnlyT (P : Nat → Option Arc) (t : List Ent) : Prop where
  all : ∀ n a, P n = some a → a.tree = t
  some_ : ∃ n, n ≤ 6 ∧ ∃ a, P n = some a
section
variable {rows : Rws} {m m' : Bch} {L L' : List One} {K K' : Nat} {P P' : Nat → Option Arc} {t : List Ent}
theorem ArcIs.data (h : ArcIs True rows m L K P) (hn : AllNone P) (ho : OnlyT P t) (d : List UInt8) : d ∈ L.map One.data ↔ d ∈ filE t := by
  rw [h.held.same h.blob]
  constructor
  · intro hd
    obtain ⟨p, hp, rfl⟩ := List.mem_map.1 hd
    obtain ⟨n, _, hpn⟩ := mem_heldA.1 hp
    cases hP : P n with
    | none => rw [hP] at hpn; cases hpn
    | some a =>
      rw [hP] at hpn
      unfold partA at hpn
      dsimp only at hpn
      rw [if_pos (hn n a hP)] at hpn
      rw [← ho.all n a hP, ← pairs_data (h.ok n a hP).len]
      exact List.mem_map.2 ⟨p, hpn, rfl⟩
  · intro hd
    obtain ⟨n, h6, a, hP⟩ := ho.some_
    rw [← ho.all n a hP, ← pairs_data (h.ok n a hP).len] at hd
    obtain ⟨p, hp, rfl⟩ := List.mem_map.1 hd
    refine List.mem_map.2 ⟨p, mem_heldA.2 ⟨n, h6, ?_⟩, rfl⟩
    rw [hP]
    unfold partA
    dsimp only
    rw [if_pos (hn n a hP)]
    exact hp
theorem OnlyT.first (l : List Ae) {n : Nat} (h : n ≤ 6) : OnlyT (updA (fun _ => none) n (some ⟨t, l, none⟩)) t := by
  refine ⟨fun k a hk => ?_, n, h, _, if_pos rfl⟩
  have hk : (if k = n then some ⟨t, l, none⟩ else none) = some a := hk
  split at hk
  · cases hk; rfl
  · cases hk
theorem OnlyT.upd (h : OnlyT P t) (l : List Ae) {n : Nat} (h6 : n ≤ 6) : OnlyT (updA P n (some ⟨t, l, none⟩)) t := by
  refine ⟨fun k a hk => ?_, n, h6, _, if_pos rfl⟩
  have hk : (if k = n then some ⟨t, l, none⟩ else P k) = some a := hk
  split at hk
  · cases hk; rfl
  · exact h.all k a hk
end
section
variable {B Tp q : Nat} {T : Tb} {m : Bch} {fb fp : List Nat} {w0 : World} {ex : Prop} {L : List One} {K : Nat} {P : Nat → Option Arc}
theorem aloadA_c (n : Nat) (a : Arc) (hn : 1 ≤ n ∧ n ≤ 6) (hi : InL w0 [bchC B (some ⟨Tp, 0, none⟩) m fb, tabC Tp q T fp]) (hp : PowI w0 (fps [bchC B (some ⟨Tp, 0, none⟩) m fb, tabC Tp q T fp])) (hs : ArcIs ex T.rows m L K P) (hP : P n = some a) (hb : a.bit = none) (hK : K ≤ 500000) :
    Cal Tryz.prog 20 [.pointer (some ⟨B, 0, none⟩), .int .i64 (n : Int)] w0 (fun v w' => ∃ A cap, v = .tuple #[.slice A a.tree.length cap, .int .i64 0] ∧ MutL w0 w' [bchC B (some ⟨Tp, 0, none⟩) m fb, tabC Tp q T fp] [bchC B (some ⟨Tp, 0, none⟩) m fb, tabC Tp q T fp, .own (.slice A a.tree.length cap) 115 3 a.tree.length (ents a.tree)]) := by
  have hok := hs.ok n a hP
  have hg := hs.has n a hn.1 hn.2 hP
  have hv : a.val = packE (arcE a.l) := by unfold Arc.val Arc.raw; rw [hb]
  rw [hv] at hg
  obtain ⟨z1, z2⟩ := arc_len hok
  refine aload_c (n : Int) ⟨by omega, by omega⟩ hi hp a.tree a.l hg z1 hs.blob (by omega) hok.len hok.tree hok.few hok.size hok.row fun i h hk => ?_
  have hm := pairs_mem h (by rw [hok.len]; exact h) hk
  have hm2 : (a.l[i]'(by rw [hok.len]; exact h)).key = (a.l[i]'(by rw [hok.len]; exact h)).key ∧ ((a.l[i]'(by rw [hok.len]; exact h)).key, a.tree[i].data) ∈ heldA P := ⟨rfl, mem_heldA.2 ⟨n, hn.2, by
    rw [hP]
    unfold partA
    dsimp only
    rw [if_pos hb]
    exact hm⟩⟩
  exact hs.held.have_ _ hm2.2
end
def oneT : List Ent := [⟨[97], 2, [104, 105]⟩]
theorem oneOk : TreeOk oneT := fun i hi => by
  obtain rfl : i = 0 := by simp [oneT] at hi; omega
  refine ⟨by kernel_rfl, by kernel_rfl, by show (2 : Int) ≠ 0; decide, fun j hj => by omega, fun h => absurd (show parentE [97] = [] by kernel_rfl) h⟩
theorem oneZ : ∀ e ∈ oneT, e.path.length ≤ 1048576 := fun e he => by rw [List.mem_singleton.1 he]; decide
theorem checkT_zero {t : List Ent} (h : checkT t = 0) : TreeOk t ∧ t.length ≤ 200 := by
  unfold checkT at h
  split at h
  · cases h
  · split at h
    · rename_i h1 h2; exact ⟨h2, by omega⟩
    · cases h
set_option maxHeartbeats 8000000 in
set_option maxRecDepth 100000 in
theorem aawake_c (w0 : World) (ht : powT w0) : Cal Tryz.prog 15 [] w0 (fun v w' => Upd [] w0 w' ∧ v = .bool true) := by
  refine Cal.mk' (by kernel_rfl) Tryz.func15 rfl rfl fun hS => ?_
  have hp := PowI.of ht
  repeat' (first
    | (show WL _ _ _ _ _ _ _; first
      | refine WL.pure rfl rfl rfl rfl ?_
      | refine WL.nil ?_
      | (refine WL.callG rfl rfl (dnew_c _) rfl rfl rfl ?_; rintro v w ⟨hu, q, mb, lb, rfl, hn⟩; replace hS := hS.new hu hn; clear hu hn)
      | (refine WL.callL (D := [dkC q mb lb Dk0]) hS (by repeat (first | exact Pulls.nil | (apply Pulls.cons; focus (repeat (first | exact Pull.here | apply Pull.there))))) rfl rfl (fun hI => topenFirst_c hI) rfl rfl rfl ?_; rintro v w ⟨Tp, fp, rfl, hmu⟩ hS; replace hS := hS _ hmu; clear hmu)
      | (refine WL.callG rfl rfl (begin_c _) rfl rfl rfl ?_; rintro v w ⟨hu, B, fb, rfl, hn⟩; replace hS := hS.new hu hn; clear hu hn)
      | (refine WL.slit (t := 34) hS rfl rfl rfl rfl rfl ?_; intro w ob hS; have hS := hS.boxRow (n := 1) (size := 3) .here rfl (by decide); replace hS := hS.droplast2 (D := [.own (.slice (some ⟨ob, 0, none⟩) 1 1) 115 3 1 (oneT.flatMap encEnt), bchC B (some ⟨Tp, 0, none⟩) [] fb, tabC Tp q ⟨sysP, [], ⟨sysL, [], false⟩⟩ fp]) (by repeat (first | exact Pulls.nil | (apply Pulls.cons; focus (repeat (first | exact Pull.here | apply Pull.there))))))
      | (refine WL.callL (D := [bchC B (some ⟨Tp, 0, none⟩) [] fb, tabC Tp q ⟨sysP, [], ⟨sysL, [], false⟩⟩ fp]) hS (by repeat (first | exact Pulls.nil | (apply Pulls.cons; focus (repeat (first | exact Pull.here | apply Pull.there))))) rfl rfl (fun hI => asave_c (ex := True) (L := []) (K := 0) (P := fun _ => none) 1 oneT (by decide) hI (hp.pull hS (by repeat (first | exact Pulls.nil | (apply Pulls.cons; focus (repeat (first | exact Pull.here | apply Pull.there)))))) (St.ownSlA (enc := encEnt) (hsz := fun _ => rfl) (l := oneT) (by decide) (hS.pulls (by repeat (first | exact Pulls.nil | (apply Pulls.cons; focus (repeat (first | exact Pull.here | apply Pull.there)))))) (by repeat (first | exact List.Mem.head _ | apply List.Mem.tail))) (by decide) (ArcIs.nil True) oneOk (by decide) oneZ (by decide) (by decide) (by decide)) rfl rfl rfl ?_; rintro v w ⟨rfl, m1, fb1, L1, l1, hs1, hm1, -, hmu⟩ hS; replace hS := hS _ hmu; clear hmu)
      | (refine WL.callL (D := [bchC B (some ⟨Tp, 0, none⟩) m1 fb1, tabC Tp q ⟨sysP, [], ⟨sysL, [], false⟩⟩ fp]) hS (by repeat (first | exact Pulls.nil | (apply Pulls.cons; focus (repeat (first | exact Pull.here | apply Pull.there))))) rfl rfl (fun hI => aloadA_c 1 ⟨oneT, l1, none⟩ (by decide) hI (hp.pull hS (by repeat (first | exact Pulls.nil | (apply Pulls.cons; focus (repeat (first | exact Pull.here | apply Pull.there)))))) hs1 (if_pos rfl) rfl (by decide)) rfl rfl rfl ?_; rintro v w ⟨AR, cr, rfl, hmu⟩ hS; replace hS := hS _ hmu; clear hmu)
      | (refine WL.calls hS rfl rfl (rsame_c oneT (St.ownSl (enc := encEnt) (hsz := fun _ => rfl) (l := oneT) (by decide) hS (by repeat (first | exact List.Mem.head _ | apply List.Mem.tail))) (St.ownSl (enc := encEnt) (hsz := fun _ => rfl) (l := oneT) (by decide) hS (by repeat (first | exact List.Mem.head _ | apply List.Mem.tail))) (by decide)) rfl rfl rfl ?_; rintro v w rfl hS)
      | refine WL.build rfl rfl rfl rfl rfl ?_)
    | (show WC _ _ _ _ _ _; first
      | refine WC.seq ?_
      | refine WC.region ?_
      | refine WC.skip ?_
      | refine WC.ret ?_
      | refine WC.condF rfl (by decide) ?_)
    | refine seqQ_n ?_)
  exact fin1r rfl rfl ⟨hS.upd, rfl⟩
end Go.Proofs.YtobfdeiimnnanaaGreatDoor

/- What is proved: a batch of which an archive is turned, and turned back. Conditions: texts and lists of bounded length; the library's table of powers laid. -/
set_option linter.unusedSimpArgs false
set_option linter.unusedVariables false
namespace Go.Proofs.YtobfdeiimnnanaaGreatDoor
open Go Go.J Go.RowKit

section
variable {rows : Rws} {m m' : Bch} {L L' : List One} {K K' : Nat} {P : Nat → Option Arc} {ex : Prop}
theorem ArcIs.turn (h : ArcIs ex rows m L K P) {n : Nat} (h1 : 1 ≤ n) (h6 : n ≤ 6) {a : Arc} (hP : P n = some a) (bit : Int) :
    ArcIs False rows (noteE m ⟨arcK (n : Int), turnE a.raw bit, false⟩) L K (updA P n (some ⟨a.tree, a.l, some bit⟩)) := by
  have hu : ∀ k, updA P n (some ⟨a.tree, a.l, some bit⟩) k = if k = n then some ⟨a.tree, a.l, some bit⟩ else P k := fun _ => rfl
  have hne : ∀ k : Nat, 1 ≤ k → k ≠ n → arcK (k : Int) ≠ arcK (n : Int) := fun k _ hkn e => hkn (arcK_inj h1 e)
  refine ⟨h.blob.other (arcK_take _), (h.held.perm (held_at P h6)).less.perm ((held_split P h6 (some ⟨a.tree, a.l, some bit⟩)).symm), fun k a' hk1 hk6 hP' => ?_, fun k hk1 hk6 hP' => ?_, fun k a' hP' => ?_, fun k hk hbg => ?_, ?_⟩
  · rw [hu] at hP'
    rw [bgetE_noted]
    split at hP'
    · rename_i e; subst e; cases hP'; rw [if_pos rfl]; rfl
    · rename_i e; rw [if_neg (hne k hk1 e)]; exact h.has k a' hk1 hk6 hP'
  · rw [hu] at hP'
    split at hP'
    · cases hP'
    · rename_i e; rw [bgetE_noted, if_neg (hne k hk1 e)]; exact h.no k hk1 hk6 hP'
  · rw [hu] at hP'
    split at hP'
    · cases hP'
      have hok := h.ok n a hP
      exact ⟨hok.tree, hok.few, hok.len, hok.row, hok.size⟩
    · exact h.ok k a' hP'
  · rw [bgetE_noted] at hk
    split at hk
    · rename_i e; exact ⟨n, h1, h6, e⟩
    · exact h.only k hk hbg
  · rw [hu, if_neg (by omega)]; exact h.zero
/-- turned twice it says what it said -/
theorem ArcIs.back (h : ArcIs ex rows m L K P) {n : Nat} (h1 : 1 ≤ n) (h6 : n ≤ 6) {a : Arc} (hP : P n = some a) (hb : a.bit = none) (bit : Int) :
    ArcIs ex rows (noteE (noteE m ⟨arcK (n : Int), turnE a.raw bit, false⟩) ⟨arcK (n : Int), turnE (turnE a.raw bit) bit, false⟩) L K P := by
  refine h.same (note_nd (note_nd h.blob.mnd _) _) fun k => ?_
  rw [bgetE_noted, bgetE_noted, turnE_twice]
  split
  · rename_i e
    dsimp only at e
    subst e
    rw [h.has n a h1 h6 hP]
    unfold Arc.val
    rw [hb]
    rfl
  · rfl
end
section
variable {B Tp q : Nat} {T : Tb} {m : Bch} {fb fp : List Nat} {w0 : World} {ex : Prop} {L : List One} {K : Nat} {P : Nat → Option Arc}
theorem aloadT_c (n : Nat) (a : Arc) {bit : Int} (hn : 1 ≤ n ∧ n ≤ 6) (hi : InL w0 [bchC B (some ⟨Tp, 0, none⟩) m fb, tabC Tp q T fp]) (hp : PowI w0 (fps [bchC B (some ⟨Tp, 0, none⟩) m fb, tabC Tp q T fp])) (hs : ArcIs ex T.rows m L K P) (hP : P n = some a) (hb : a.bit = some bit) :
    Cal Tryz.prog 20 [.pointer (some ⟨B, 0, none⟩), .int .i64 (n : Int)] w0 (fun v w' => v = .tuple #[.slice none 0 0, .int .i64 6] ∧ MutL w0 w' [bchC B (some ⟨Tp, 0, none⟩) m fb, tabC Tp q T fp] [bchC B (some ⟨Tp, 0, none⟩) m fb, tabC Tp q T fp]) := by
  have hg := hs.has n a hn.1 hn.2 hP
  have hv : a.val = turnE a.raw bit := by unfold Arc.val; rw [hb]
  rw [hv] at hg
  obtain ⟨z1, z2⟩ := arc_read (bit := bit) (hs.ok n a hP)
  exact aloadBad_c (n : Int) ⟨by omega, by omega⟩ hi hp hg z1 z2
theorem aturnA_c (n : Nat) (a : Arc) (bit : Int) (hn : 1 ≤ n ∧ n ≤ 6) (hi : InL w0 [bchC B (some ⟨Tp, 0, none⟩) m fb, tabC Tp q T fp]) (hp : PowI w0 (fps [bchC B (some ⟨Tp, 0, none⟩) m fb, tabC Tp q T fp])) (hs : ArcIs ex T.rows m L K P) (hP : P n = some a) (hm : m.length ≤ 1048576) :
    Cal Tryz.prog 22 [.pointer (some ⟨B, 0, none⟩), .int .i64 (n : Int), .int .i64 bit] w0 (fun v w' => v = .int .i64 0 ∧ ∃ fb', MutL w0 w' [bchC B (some ⟨Tp, 0, none⟩) m fb, tabC Tp q T fp] [bchC B (some ⟨Tp, 0, none⟩) (noteE m ⟨arcK (n : Int), turnE a.val bit, false⟩) fb', tabC Tp q T fp]) := by
  have hg := hs.has n a hn.1 hn.2 hP
  refine aturn_c (n : Int) bit ⟨by omega, by omega⟩ hi hp hg ?_ hm
  unfold Arc.val
  cases hb : a.bit with
  | none => exact (arc_len (hs.ok n a hP)).1
  | some b => exact (arc_read (hs.ok n a hP)).1
end
end Go.Proofs.YtobfdeiimnnanaaGreatDoor

/- What is proved: what Forget of the package archive makes of a batch; Load, Turn, Save and Forget of no archive. Conditions: texts and lists of bounded length; the library's table of powers laid. -/
set_option linter.unusedSimpArgs false
set_option linter.unusedVariables false
namespace Go.Proofs.YtobfdeiimnnanaaGreatDoor
open Go Go.J Go.RowKit

/-- the keys of the first spokes -/
def fhk (P : Nat → Option Arc) (k : Nat) : List (List UInt8) := (List.range k).flatMap fun i => (partA (P (i + 1))).map Prod.fst
theorem fhk_snoc (P : Nat → Option Arc) (k : Nat) : fhk P (k + 1) = fhk P k ++ (partA (P (k + 1))).map Prod.fst := by
  unfold fhk
  rw [List.range_succ, List.flatMap_append]
  simp
theorem fhk_all {P : Nat → Option Arc} (h0 : P 0 = none) : fhk P 6 = (heldA P).map Prod.fst := by
  have : heldA P = partA (P 1) ++ partA (P 2) ++ partA (P 3) ++ partA (P 4) ++ partA (P 5) ++ partA (P 6) := by
    unfold heldA
    rw [show List.range 7 = [0, 1, 2, 3, 4, 5, 6] from rfl]
    simp only [List.flatMap_cons, List.flatMap_nil, h0, List.append_nil, List.append_assoc]
    rfl
  rw [this]
  unfold fhk
  rw [show List.range 6 = [0, 1, 2, 3, 4, 5] from rfl]
  simp only [List.flatMap_cons, List.flatMap_nil, List.append_nil, List.append_assoc, List.map_append]
section
variable {rows : Rws} {m m' : Bch} {L L' : List One} {K K' : Nat} {P : Nat → Option Arc} {ex : Prop} {Hd : List (List UInt8 × List UInt8)}
theorem part_len {o : Option Arc} (h : ∀ a, o = some a → ArcOk a) : (partA o).length ≤ 200 := by
  unfold partA
  cases o with
  | none => exact Nat.zero_le _
  | some a =>
    dsimp only
    split
    · have hok := h a rfl
      unfold pairsE
      refine Nat.le_trans (List.length_filterMap_le _ _) ?_
      rw [List.length_zipWith]
      have := hok.few
      omega
    · exact Nat.zero_le _
theorem fhk_len (h : ∀ n a, P n = some a → ArcOk a) : ∀ k, (fhk P k).length ≤ k * 200
  | 0 => Nat.le_refl _
  | k + 1 => by
    rw [fhk_snoc, List.length_append, List.length_map]
    have := fhk_len h k
    have := part_len (h (k + 1))
    omega
theorem Held.sweep (h : Held ex L Hd) (hk : (L.map One.key).Nodup) (hd : (L.map One.data).Nodup) : Held True (sweepB L (Hd.map Prod.fst)) Hd := by
  refine ⟨fun p hp => ?_, fun y hy => ?_⟩
  · obtain ⟨x, hx, e1, e2⟩ := h.have_ p hp
    have hc : (Hd.map Prod.fst).count x.key ≠ 0 := by
      rw [e1]
      exact fun h0 => (List.count_eq_zero.1 h0) (List.mem_map_of_mem hp)
    exact ⟨{ x with refs := (Hd.map Prod.fst).count x.key }, List.mem_filterMap.2 ⟨x, hx, if_neg hc⟩, e1, e2⟩
  · obtain ⟨x, hx, e⟩ := List.mem_filterMap.1 hy
    unfold sweepOne at e
    split at e
    · cases e
    · injection e with e
      subst e
      have he : (Hd.map Prod.fst).count x.key = (Hd.map Prod.snd).count x.data := by
        rw [List.count_eq_countP, List.count_eq_countP, List.countP_map, List.countP_map]
        refine List.countP_congr fun p hp => ?_
        obtain ⟨z, hz, e1, e2⟩ := h.have_ p hp
        simp only [Function.comp, beq_iff_eq]
        rw [← e1, ← e2]
        constructor
        · intro hk2; rw [nd_key hk hz hx hk2]
        · intro hd2; rw [nd_data hd hz hx hd2]
      exact ⟨Nat.le_of_eq he.symm, fun _ => he⟩
theorem BlobIs.swept2 (h : BlobIs rows m L K) {held : List (List UInt8)} (h' : BlobIs rows m' (sweepB L held) K') (hh : held.length ≤ K) : BlobIs rows m' (sweepB L held) K := by
  have hx : ∀ y ∈ sweepB L held, ∃ x ∈ L, y.n = x.n ∧ y.refs = held.count x.key := fun y hy => by
    obtain ⟨x, hx, e⟩ := List.mem_filterMap.1 hy
    unfold sweepOne at e
    split at e
    · cases e
    · injection e with e
      subst e
      exact ⟨x, hx, rfl, rfl⟩
  refine ⟨h'.rnd, h'.mnd, h'.has, h'.only, h'.low, fun y hy => ⟨(h'.refs y hy).1, ?_⟩, fun y hy => ?_, ?_, h'.size, h'.knd, h'.dnd⟩
  · obtain ⟨x, _, _, e⟩ := hx y hy
    rw [e]
    exact Nat.le_trans List.count_le_length hh
  · obtain ⟨x, hxl, e, _⟩ := hx y hy
    rw [e]
    exact h.nums x hxl
  · exact Nat.le_trans (List.length_filterMap_le _ _) h.len
theorem ArcIs.drop (h : ArcIs ex rows m L K P) {n : Nat} (h1 : 1 ≤ n) (h6 : n ≤ 6) : ArcIs False rows (noteE m ⟨arcK (n : Int), [], true⟩) L K (updA P n none) := by
  have hu : ∀ k, updA P n none k = if k = n then none else P k := fun _ => rfl
  have hne : ∀ k : Nat, 1 ≤ k → k ≠ n → arcK (k : Int) ≠ arcK (n : Int) := fun k _ hkn e => hkn (arcK_inj h1 e)
  refine ⟨h.blob.other (arcK_take _), (h.held.perm (held_at P h6)).less, fun k a' hk1 hk6 hP' => ?_, fun k hk1 hk6 hP' => ?_, fun k a' hP' => ?_, fun k hk hbg => ?_, ?_⟩
  · rw [hu] at hP'
    rw [bgetE_noted]
    split at hP'
    · cases hP'
    · rename_i e; rw [if_neg (hne k hk1 e)]; exact h.has k a' hk1 hk6 hP'
  · rw [hu] at hP'
    rw [bgetE_noted]
    split at hP'
    · rename_i e; subst e; rw [if_pos rfl]; rfl
    · rename_i e; rw [if_neg (hne k hk1 e)]; exact h.no k hk1 hk6 hP'
  · rw [hu] at hP'
    split at hP'
    · cases hP'
    · exact h.ok k a' hP'
  · rw [bgetE_noted] at hk
    split at hk
    · rename_i e; cases hk
    · exact h.only k hk hbg
  · rw [hu]; split
    · rfl
    · exact h.zero
theorem ArcIs.swept (h : ArcIs ex rows m L K P) (hK : 1200 ≤ K) (hb : BlobIs rows m' (sweepB L (fhk P 6)) K') (hfr : ∀ k, k.take 2 ≠ [98, 47] → bgetE rows m' k = bgetE rows m k) : ArcIs True rows m' (sweepB L (fhk P 6)) K P := by
  have hl := fhk_len h.ok 6
  refine ⟨h.blob.swept2 hb (by omega), ?_, fun n a h1 h6 hP => by rw [hfr _ (arcK_take _)]; exact h.has n a h1 h6 hP, fun n h1 h6 hP => by rw [hfr _ (arcK_take _)]; exact h.no n h1 h6 hP, h.ok, fun k hk hbg => ?_, h.zero⟩
  · rw [fhk_all h.zero]
    exact h.held.sweep h.blob.knd h.blob.dnd
  · have h2 : k.take 2 ≠ [98, 47] := fun e => by
      have h3 : k.take 2 = [97, 47] := of_decide_eq_true hbg
      rw [h3] at e
      cases e
    rw [hfr k h2] at hk
    exact h.only k hk hbg
theorem Grows.del (m : Bch) (L : List One) (n : Nat) (h6 : n ≤ 6) : Grows 1 m L (noteE m ⟨arcK (n : Int), [], true⟩) L := by
  have := (Grows.refl m L).note (o := ⟨arcK (n : Int), [], true⟩) (by
    unfold szO arcK
    rw [itoa_nat]
    have := dec_len (n := n) (k := 12) (by omega)
    dsimp only
    rw [List.length_append]
    show 2 + _ + 0 + 32 ≤ 50000
    omega) fun _ => rfl
  exact this
theorem Grows.sweep {c : Nat} {m0 : Bch} {L0 : List One} {held : List (List UInt8)} (h : Grows c m0 L0 m L) (hs : ∀ KS S, BookL KS S L → BookM KS S m → BookM KS S m') : Grows c m0 L0 m' (sweepB L held) := fun KS S hS h1 h2 => by
  obtain ⟨KS', e, hks, hm, hl⟩ := h KS S hS h1 h2
  refine ⟨KS', e, hks, hs _ _ hl hm, fun y hy => ?_⟩
  obtain ⟨x, hx, e⟩ := List.mem_filterMap.1 hy
  unfold sweepOne at e
  split at e
  · cases e
  · injection e with e
    subst e
    exact hl x hx
end
section
variable {B Tp q : Nat} {T : Tb} {m : Bch} {fb fp : List Nat} {w0 : World} {ex : Prop} {L : List One} {K : Nat} {P : Nat → Option Arc}
set_option maxHeartbeats 16000000 in
set_option maxRecDepth 100000 in
theorem aforget_c (n : Nat) (hn : 1 ≤ n ∧ n ≤ 6) (hi : InL w0 [bchC B (some ⟨Tp, 0, none⟩) m fb, tabC Tp q T fp]) (hp : PowI w0 (fps [bchC B (some ⟨Tp, 0, none⟩) m fb, tabC Tp q T fp])) (hs : ArcIs ex T.rows m L K P) (hK0 : 1200 ≤ K) (hK : K ≤ 500000) (hm : m.length ≤ 500000) (hr : T.rows.length ≤ 1000000) :
    Cal Tryz.prog 27 [.pointer (some ⟨B, 0, none⟩), .int .i64 (n : Int)] w0 (fun v w' => v = .int .i64 0 ∧ ∃ m' fb' L', ArcIs True T.rows m' L' K (updA P n none) ∧ Grows 1 m L m' L' ∧ MutL w0 w' [bchC B (some ⟨Tp, 0, none⟩) m fb, tabC Tp q T fp] [bchC B (some ⟨Tp, 0, none⟩) m' fb', tabC Tp q T fp]) := by
  refine Cal.mkL hi (by kernel_rfl) Tryz.func27 rfl rfl fun hS => ?_
  obtain ⟨hn1, hn2⟩ := hn
  have hma := fun w0 => amay_c (n : Int) w0
  rw [decide_eq_true (show (1 : Int) ≤ (n : Int) ∧ (n : Int) ≤ 6 by omega)] at hma
  have hdr := hs.drop hn1 hn2
  have hg := Grows.del m L n hn2
  have hnl := note_len m ⟨arcK (n : Int), [], true⟩
  clear hs
  repeat' (first
    | (show WL _ _ _ _ _ _ _; first
      | refine WL.pure rfl rfl rfl rfl ?_
      | refine WL.nil ?_
      | (refine WL.calls hS rfl rfl (hma _) rfl rfl rfl ?_; rintro v w rfl hS)
      | (refine WL.calls hS rfl rfl (akey_c (n : Int) (by omega) (by omega) _ (hp.at hS)) rfl rfl rfl ?_; rintro v w rfl hS)
      | (refine WL.callL (D := [bchC B (some ⟨Tp, 0, none⟩) m fb]) hS (by repeat (first | exact Pulls.nil | (apply Pulls.cons; focus (repeat (first | exact Pull.here | apply Pull.there))))) rfl rfl (fun hI => bdrop_c (arcK (n : Int)) hI.head hI.headB (by omega)) rfl rfl rfl ?_; rintro v w ⟨rfl, fb1, hmu⟩ hS; replace hS := hS _ (.of1 hmu); clear hmu)
      | (refine WL.slit (t := 44) hS rfl rfl rfl rfl rfl ?_; intro w ob hS; have hS := hS.boxRow (n := 0) (size := 1) .here rfl (Nat.zero_le _)))
    | (show WC _ _ _ _ _ _; first
      | refine WC.seq ?_
      | refine WC.region ?_
      | refine WC.block ?_
      | refine WC.skip ?_
      | refine WC.condF rfl (by decide) ?_)
    | refine seqQ_n ?_)
  clear hma
  generalize updA P n none = P at *
  generalize noteE m ⟨arcK (n : Int), [], true⟩ = m1 at *
  refine WC.loop (σ := Nat × Option Addr × Nat) [0] (fun (k, HA, hc) => [(5, .slice HA (fhk P k).length hc), (6, .int .i64 ((k + 1 : Nat) : Int))])
    (fun (k, HA, hc) w => k ≤ 6 ∧ St w0 (fps [bchC B (some ⟨Tp, 0, none⟩) m fb, tabC Tp q T fp]) w [.own (.slice HA (fhk P k).length hc) 9 1 (fhk P k).length (strs (fhk P k)), bchC B (some ⟨Tp, 0, none⟩) m1 fb1, tabC Tp q T fp] (ZL w0 [bchC B (some ⟨Tp, 0, none⟩) m fb, tabC Tp q T fp]))
    (fun (k, _) => 6 - k) (0, _, 0) ⟨Nat.zero_le _, hS.droplast2 (by repeat (first | exact Pulls.nil | (apply Pulls.cons; focus (repeat (first | exact Pull.here | apply Pull.there)))))⟩ ⟨rfl, rfl, trivial⟩ ?_
  clear hS
  rintro ⟨k, HA, hc⟩ g w ⟨hk, hS⟩
  show WC _ _ _ (lf _ [(5, .slice HA (fhk P k).length hc), (6, .int .i64 ((k + 1 : Nat) : Int))] _ _) _ _
  have hlk := fhk_len hdr.ok k
  by_cases hlt : k < 6
  · have hsn := fhk_snoc P k
    have hpl := part_len (hdr.ok (k + 1))
    have hkx := fun (w0 : World) (hi : InL w0 [bchC B (some ⟨Tp, 0, none⟩) m1 fb1, tabC Tp q T fp]) (hp : PowI w0 (fps [bchC B (some ⟨Tp, 0, none⟩) m1 fb1, tabC Tp q T fp])) => akeysX_c (k + 1) ⟨by omega, by omega⟩ hi hp hdr
    obtain ⟨ks, hks⟩ : ∃ ks, ks = (partA (P (k + 1))).map Prod.fst := ⟨_, rfl⟩
    have hksl : ks.length ≤ 200 := by rw [hks, List.length_map]; exact hpl
    rw [← hks] at hkx hsn
    clear hdr hg
    repeat' (first
      | (show WL _ _ _ _ _ _ _; first
        | refine WL.pure rfl rfl rfl rfl ?_
        | refine WL.nil ?_
        | refine WL.add rfl rfl rfl (by omega) rfl rfl rfl ?_
        | (refine WL.callL (D := [bchC B (some ⟨Tp, 0, none⟩) m1 fb1, tabC Tp q T fp]) hS (by repeat (first | exact Pulls.nil | (apply Pulls.cons; focus (repeat (first | exact Pull.here | apply Pull.there))))) rfl rfl (fun hI => hkx _ hI (hp.pull hS (by repeat (first | exact Pulls.nil | (apply Pulls.cons; focus (repeat (first | exact Pull.here | apply Pull.there))))))) rfl rfl rfl ?_; rintro v w ⟨AO, co, ke, rfl, hmu⟩ hS; replace hS := hS _ hmu; clear hmu)
        | (refine WL.appS (news := strs ks) hS rfl rfl rfl rfl (RdSl.own hS (by repeat (first | exact List.Mem.head _ | apply List.Mem.tail))) (by rw [strs_len, Nat.mul_one]) (strs_one _) (fun A' cap' => (by repeat (first | exact Repl.here | apply Repl.there))) (by omega) rfl rfl rfl ?_; intro A' cap' w hS))
      | (show WC _ _ _ _ _ _; first
        | refine WC.seq ?_
        | refine WC.region ?_
        | refine WC.block ?_
        | refine WC.skip ?_
        | refine WC.condT rfl (decide_eq_true (by first | with_reducible assumption | omega)) ?_)
      | refine seqQ_n ?_
      | refine blkQ_n ?_)
    refine rndQ_n (k + 1, A', cap') ⟨by omega, ?_⟩ (by show 6 - (k + 1) < 6 - k; omega) ⟨?_, vint (by omega), trivial⟩ ⟨rfl, trivial⟩
    · rw [hsn, List.length_append]
      have hse : strs (fhk P k ++ ks) = strs (fhk P k) ++ strs ks := by unfold strs; rw [List.flatMap_append]
      rw [hse]
      exact hS.droplast2 (by repeat (first | exact Pulls.nil | (apply Pulls.cons; focus (repeat (first | exact Pull.here | apply Pull.there)))))
    · show Value.slice A' ((fhk P k).length + ks.length) cap' = Value.slice A' (fhk P (k + 1)).length cap'
      rw [hsn, List.length_append]
  · obtain rfl : k = 6 := by omega
    have hL := hdr.blob.len
    have hsw := fun {m2 : Bch} {K2 : Nat} (h1 : BlobIs T.rows m2 (sweepB L (fhk P 6)) K2) h2 => hdr.swept hK0 h1 h2
    have hgs := fun {m2 : Bch} h => hg.sweep (m' := m2) (held := fhk P 6) h
    have hb := hdr.blob
    clear hdr hg
    repeat' (first
      | (show WL _ _ _ _ _ _ _; first
        | refine WL.pure rfl rfl rfl rfl ?_
        | refine WL.nil ?_
        | (refine WL.callL (D := [bchC B (some ⟨Tp, 0, none⟩) m1 fb1, tabC Tp q T fp]) hS (by repeat (first | exact Pulls.nil | (apply Pulls.cons; focus (repeat (first | exact Pull.here | apply Pull.there))))) rfl rfl (fun hI => blsweepK_c (l := L) (K := K) (fhk P 6) hI (St.ownSlA (l := fhk P 6) (enc := fun s => [str s]) (hsz := fun _ => rfl) (by decide) (hS.pulls (by repeat (first | exact Pulls.nil | (apply Pulls.cons; focus (repeat (first | exact Pull.here | apply Pull.there)))))) (by repeat (first | exact List.Mem.head _ | apply List.Mem.tail))) hb (by omega) (by omega) (by omega) (by omega)) rfl rfl rfl ?_; rintro v w ⟨rfl, m2, fb2, hb2, hml2, hfr2, hbk2, hmu⟩ hS; replace hS := hS _ hmu; clear hmu))
      | (show WC _ _ _ _ _ _; first
        | refine WC.seq ?_
        | refine WC.region ?_
        | refine WC.exit ?_
        | refine WC.ret ?_
        | refine WC.condF rfl (by decide) ?_)
      | refine seqQ_n ?_
      | refine seqQ_x ?_
      | refine blkQ_hit rfl ?_
      | refine rndQ_x ?_)
    exact fin1r rfl rfl ⟨rfl, m2, fb2, _, hsw hb2 hfr2, hgs hbk2, hS.mutLp (by repeat (first | exact Pulls.nil | (apply Pulls.cons; focus (repeat (first | exact Pull.here | apply Pull.there)))))⟩
set_option maxHeartbeats 4000000 in
set_option maxRecDepth 100000 in
theorem aloadNo_c (n : Nat) (hn : 1 ≤ n ∧ n ≤ 6) (hi : InL w0 [bchC B (some ⟨Tp, 0, none⟩) m fb, tabC Tp q T fp]) (hp : PowI w0 (fps [bchC B (some ⟨Tp, 0, none⟩) m fb, tabC Tp q T fp])) (hs : ArcIs ex T.rows m L K P) (hP : P n = none) :
    Cal Tryz.prog 20 [.pointer (some ⟨B, 0, none⟩), .int .i64 (n : Int)] w0 (fun v w' => v = .tuple #[.slice none 0 0, .int .i64 11] ∧ MutL w0 w' [bchC B (some ⟨Tp, 0, none⟩) m fb, tabC Tp q T fp] [bchC B (some ⟨Tp, 0, none⟩) m fb, tabC Tp q T fp]) := by
  refine Cal.mkL hi (by kernel_rfl) Tryz.func20 rfl rfl fun hS => ?_
  obtain ⟨s, hg⟩ : ∃ s, bgetE T.rows m (arcK (n : Int)) = (s, false) := ⟨_, Prod.ext rfl (hs.no n hn.1 hn.2 hP)⟩
  obtain ⟨hn1, hn2⟩ := hn
  have hma := fun w0 => amay_c (n : Int) w0
  rw [decide_eq_true (show (1 : Int) ≤ (n : Int) ∧ (n : Int) ≤ 6 by omega)] at hma
  clear hs
  repeat' (first
    | (show WL _ _ _ _ _ _ _; first
      | refine WL.pure rfl rfl rfl rfl ?_
      | refine WL.nil ?_
      | (refine WL.calls hS rfl rfl (hma _) rfl rfl rfl ?_; rintro v w rfl hS)
      | (refine WL.calls hS rfl rfl (akey_c (n : Int) (by omega) (by omega) _ (hp.at hS)) rfl rfl rfl ?_; rintro v w rfl hS)
      | (refine WL.callL (D := [bchC B (some ⟨Tp, 0, none⟩) m fb, tabC Tp q T fp]) hS (by repeat (first | exact Pulls.nil | (apply Pulls.cons; focus (repeat (first | exact Pull.here | apply Pull.there))))) rfl rfl (fun hI => bget_c (arcK (n : Int)) hI) rfl rfl rfl ?_; rintro v w ⟨rfl, hmu⟩ hS; rw [hg]; replace hS := hS _ hmu; clear hmu))
    | (show WC _ _ _ _ _ _; first
      | refine WC.seq ?_
      | refine WC.region ?_
      | refine WC.skip ?_
      | refine WC.ret ?_
      | refine WC.condF rfl (by decide) ?_
      | refine WC.condT rfl (by first | (simp; done) | (simp; omega)) ?_)
    | refine seqQ_n ?_
    | refine seqQ_r ?_)
  exact fin2r rfl rfl rfl ⟨rfl, hS.mutLp (by repeat (first | exact Pulls.nil | (apply Pulls.cons; focus (repeat (first | exact Pull.here | apply Pull.there)))))⟩
set_option maxHeartbeats 4000000 in
set_option maxRecDepth 100000 in
theorem aturnNo_c (n : Nat) (bit : Int) (hn : 1 ≤ n ∧ n ≤ 6) (hi : InL w0 [bchC B (some ⟨Tp, 0, none⟩) m fb, tabC Tp q T fp]) (hp : PowI w0 (fps [bchC B (some ⟨Tp, 0, none⟩) m fb, tabC Tp q T fp])) (hs : ArcIs ex T.rows m L K P) (hP : P n = none) :
    Cal Tryz.prog 22 [.pointer (some ⟨B, 0, none⟩), .int .i64 (n : Int), .int .i64 bit] w0 (fun v w' => v = .int .i64 11 ∧ MutL w0 w' [bchC B (some ⟨Tp, 0, none⟩) m fb, tabC Tp q T fp] [bchC B (some ⟨Tp, 0, none⟩) m fb, tabC Tp q T fp]) := by
  refine Cal.mkL hi (by kernel_rfl) Tryz.func22 rfl rfl fun hS => ?_
  obtain ⟨s, hg⟩ : ∃ s, bgetE T.rows m (arcK (n : Int)) = (s, false) := ⟨_, Prod.ext rfl (hs.no n hn.1 hn.2 hP)⟩
  obtain ⟨hn1, hn2⟩ := hn
  have hma := fun w0 => amay_c (n : Int) w0
  rw [decide_eq_true (show (1 : Int) ≤ (n : Int) ∧ (n : Int) ≤ 6 by omega)] at hma
  clear hs
  repeat' (first
    | (show WL _ _ _ _ _ _ _; first
      | refine WL.pure rfl rfl rfl rfl ?_
      | refine WL.nil ?_
      | (refine WL.calls hS rfl rfl (hma _) rfl rfl rfl ?_; rintro v w rfl hS)
      | (refine WL.calls hS rfl rfl (akey_c (n : Int) (by omega) (by omega) _ (hp.at hS)) rfl rfl rfl ?_; rintro v w rfl hS)
      | (refine WL.callL (D := [bchC B (some ⟨Tp, 0, none⟩) m fb, tabC Tp q T fp]) hS (by repeat (first | exact Pulls.nil | (apply Pulls.cons; focus (repeat (first | exact Pull.here | apply Pull.there))))) rfl rfl (fun hI => bget_c (arcK (n : Int)) hI) rfl rfl rfl ?_; rintro v w ⟨rfl, hmu⟩ hS; rw [hg]; replace hS := hS _ hmu; clear hmu))
    | (show WC _ _ _ _ _ _; first
      | refine WC.seq ?_
      | refine WC.region ?_
      | refine WC.skip ?_
      | refine WC.ret ?_
      | refine WC.condF rfl (by decide) ?_
      | refine WC.condT rfl (by first | (simp; done) | (simp; omega)) ?_)
    | refine seqQ_n ?_
    | refine seqQ_r ?_)
  exact fin1r rfl rfl ⟨rfl, hS.mutLp (by repeat (first | exact Pulls.nil | (apply Pulls.cons; focus (repeat (first | exact Pull.here | apply Pull.there)))))⟩
set_option maxHeartbeats 4000000 in
set_option maxRecDepth 100000 in
theorem aloadOut_c (n : Int) (b : Value) (hn : ¬ (1 ≤ n ∧ n ≤ 6)) : Cal Tryz.prog 20 [b, .int .i64 n] w0 (fun v w' => Upd [] w0 w' ∧ v = .tuple #[.slice none 0 0, .int .i64 1]) := by
  refine Cal.mk' (by kernel_rfl) Tryz.func20 rfl rfl fun hS => ?_
  have hma := fun w0 => amay_c n w0
  rw [decide_eq_false hn] at hma
  clear hn
  repeat' (first
    | (show WL _ _ _ _ _ _ _; first
      | refine WL.pure rfl rfl rfl rfl ?_
      | refine WL.nil ?_
      | (refine WL.calls hS rfl rfl (hma _) rfl rfl rfl ?_; rintro v w rfl hS))
    | (show WC _ _ _ _ _ _; first
      | refine WC.seq ?_
      | refine WC.region ?_
      | refine WC.ret ?_
      | refine WC.condT rfl (by decide) ?_)
    | refine seqQ_n ?_
    | refine seqQ_r ?_)
  exact fin2r rfl rfl rfl ⟨hS.upd, rfl⟩
set_option maxHeartbeats 4000000 in
set_option maxRecDepth 100000 in
theorem aturnOut_c (n bit : Int) (b : Value) (hn : ¬ (1 ≤ n ∧ n ≤ 6)) : Cal Tryz.prog 22 [b, .int .i64 n, .int .i64 bit] w0 (fun v w' => Upd [] w0 w' ∧ v = .int .i64 1) := by
  refine Cal.mk' (by kernel_rfl) Tryz.func22 rfl rfl fun hS => ?_
  have hma := fun w0 => amay_c n w0
  rw [decide_eq_false hn] at hma
  clear hn
  repeat' (first
    | (show WL _ _ _ _ _ _ _; first
      | refine WL.pure rfl rfl rfl rfl ?_
      | refine WL.nil ?_
      | (refine WL.calls hS rfl rfl (hma _) rfl rfl rfl ?_; rintro v w rfl hS))
    | (show WC _ _ _ _ _ _; first
      | refine WC.seq ?_
      | refine WC.region ?_
      | refine WC.ret ?_
      | refine WC.condT rfl (by decide) ?_)
    | refine seqQ_n ?_
    | refine seqQ_r ?_)
  exact fin1r rfl rfl ⟨hS.upd, rfl⟩
set_option maxHeartbeats 4000000 in
set_option maxRecDepth 100000 in
theorem aforgetOut_c (n : Int) (b : Value) (hn : ¬ (1 ≤ n ∧ n ≤ 6)) : Cal Tryz.prog 27 [b, .int .i64 n] w0 (fun v w' => Upd [] w0 w' ∧ v = .int .i64 1) := by
  refine Cal.mk' (by kernel_rfl) Tryz.func27 rfl rfl fun hS => ?_
  have hma := fun w0 => amay_c n w0
  rw [decide_eq_false hn] at hma
  clear hn
  repeat' (first
    | (show WL _ _ _ _ _ _ _; first
      | refine WL.pure rfl rfl rfl rfl ?_
      | refine WL.nil ?_
      | (refine WL.calls hS rfl rfl (hma _) rfl rfl rfl ?_; rintro v w rfl hS))
    | (show WC _ _ _ _ _ _; first
      | refine WC.seq ?_
      | refine WC.region ?_
      | refine WC.ret ?_
      | refine WC.condT rfl (by decide) ?_)
    | refine seqQ_n ?_
    | refine seqQ_r ?_)
  exact fin1r rfl rfl ⟨hS.upd, rfl⟩
set_option maxHeartbeats 4000000 in
set_option maxRecDepth 100000 in
theorem asaveOut_c (n : Int) (b x : Value) (hn : ¬ (1 ≤ n ∧ n ≤ 6)) : Cal Tryz.prog 18 [b, .int .i64 n, x] w0 (fun v w' => Upd [] w0 w' ∧ v = .int .i64 1) := by
  refine Cal.mk' (by kernel_rfl) Tryz.func18 rfl rfl fun hS => ?_
  have hma := fun w0 => amay_c n w0
  rw [decide_eq_false hn] at hma
  clear hn
  repeat' (first
    | (show WL _ _ _ _ _ _ _; first
      | refine WL.pure rfl rfl rfl rfl ?_
      | refine WL.nil ?_
      | (refine WL.calls hS rfl rfl (hma _) rfl rfl rfl ?_; rintro v w rfl hS))
    | (show WC _ _ _ _ _ _; first
      | refine WC.seq ?_
      | refine WC.region ?_
      | refine WC.ret ?_
      | refine WC.condT rfl (by decide) ?_)
    | refine seqQ_n ?_
    | refine seqQ_r ?_)
  exact fin1r rfl rfl ⟨hS.upd, rfl⟩
set_option maxHeartbeats 4000000 in
set_option maxRecDepth 100000 in
theorem asaveBad_c (n : Int) (b : Value) (t : List Ent) {A : Option Addr} {cap : Nat} (hn : 1 ≤ n ∧ n ≤ 6) (hA : SlAt cEnt (Old w0) w0 A t) (hcap : t.length ≤ cap) (hl : t.length ≤ 1048576) (hz : ∀ e ∈ t, e.path.length ≤ 1048576) {c : Int} (hc : checkT t = c) (hc0 : c ≠ 0) :
    Cal Tryz.prog 18 [b, .int .i64 n, .slice A t.length cap] w0 (fun v w' => Upd [] w0 w' ∧ v = .int .i64 c) := by
  refine Cal.mk' (by kernel_rfl) Tryz.func18 rfl rfl fun hS => ?_
  have hma := fun w0 => amay_c n w0
  rw [decide_eq_true hn] at hma
  clear hn
  repeat' (first
    | (show WL _ _ _ _ _ _ _; first
      | refine WL.pure rfl rfl rfl rfl ?_
      | refine WL.nil ?_
      | (refine WL.calls hS rfl rfl (hma _) rfl rfl rfl ?_; rintro v w rfl hS)
      | (refine WL.calls hS rfl rfl (tcheck_c t (hS.slO (by repeat (first | exact List.Mem.head _ | apply List.Mem.tail)) hA) hcap (by omega) hz) rfl rfl rfl ?_; rintro v w rfl hS; rw [hc]))
    | (show WC _ _ _ _ _ _; first
      | refine WC.seq ?_
      | refine WC.region ?_
      | refine WC.skip ?_
      | refine WC.ret ?_
      | refine WC.condF rfl (by decide) ?_
      | refine WC.condT rfl (decide_eq_true (by first | with_reducible assumption | omega)) ?_)
    | refine seqQ_n ?_
    | refine seqQ_r ?_)
  exact fin1r rfl rfl ⟨hS.upd, rfl⟩
end
end Go.Proofs.YtobfdeiimnnanaaGreatDoor
