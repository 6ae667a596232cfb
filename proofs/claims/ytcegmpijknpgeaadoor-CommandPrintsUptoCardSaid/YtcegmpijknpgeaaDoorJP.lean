/- What is proved: a function that reckons what an operation leaves where it does not look at memory, and that it is right of the machine's own. Conditions: none. -/
import Derived.Test.YtcegmpijknpgeaaDoorJ
import Derived.Deep.MidRow
import Derived.Lib.Strings
set_option linter.unusedSimpArgs false
set_option linter.unusedVariables false
namespace Go.J
open Go Go.RowKit

/-- a string by its letters -/
abbrev str (l : List UInt8) : Value := .string ⟨⟨l⟩⟩

def tyDesc (P : Program) (t : TypeId) : Option TypeDesc := P.underlying t
def tySize (P : Program) (t : TypeId) : Option Nat := match P.info? t with
  | some ⟨_, _, size, _, _, _, _, _, _, _⟩ => some size
  | none => none
def tyBytes (P : Program) (t : TypeId) : Option Nat := match P.info? t with
  | some ⟨_, _, _, bytes, _, _, _, _, _, _⟩ => some bytes
  | none => none
/-- is it a struct or an array? -/
def tyAgg (P : Program) (t : TypeId) : Option Bool := match P.underlying t with
  | some (.struct _) => some true
  | some (.array _ _) => some true
  | some _ => some false
  | none => none
/-- where a field lies -/
def fieldOff (P : Program) (t : TypeId) (i : Nat) : Option (Nat × TypeId) := match P.underlying t with
  | some (.struct ⟨fs⟩) => match fs[i]? with
    | some ⟨_, ty, off, _, _, _, _⟩ => match tySize P ty with
      | some 0 => none
      | some (_ + 1) => some (off, ty)
      | none => none
    | none => none
  | _ => none
def elemOf (P : Program) (t : TypeId) : Option (TypeId × Nat) := match P.underlying t with
  | some (.slice e) => match tySize P e with
    | some n => some (e, n)
    | none => none
  | _ => none
/-- a part of some cells -/
def partOf (P : Program) (ty : TypeId) (cs : List Value) (off : Nat) : Option Value := match tyAgg P ty, tySize P ty with
  | some true, some n => some (.agg ⟨(cs.drop off).take n⟩)
  | some false, _ => match cs[off]? with
    | some v => some v
    | none => none
  | _, _ => none

theorem beq_dec {α : Type} [DecidableEq α] [BEq α] [LawfulBEq α] (a b : α) : (a == b) = decide (a = b) := by
  by_cases h : a = b
  · simp [h]
  · simp [h]
def binV (op : BinOp) : Value → Value → Option Value
  | .int k a, .int k' b => match decide (k = k') with
    | false => none
    | true => match op with
      | .add => match k with
        | .i64 => none
        | k => some (.int k (k.wrap (a + b)))
      | .sub => match k with
        | .i64 => none
        | k => some (.int k (k.wrap (a - b)))
      | .mul => match k with
        | .i64 => none
        | k => some (.int k (k.wrap (a * b)))
      | .and => some (.int k (bits .and k a b))
      | .or => some (.int k (bits .or k a b))
      | .xor => some (.int k (bits .xor k a b))
      | .andNot => some (.int k (bits .andNot k a b))
      | .eql => some (.bool (decide (a = b)))
      | .neq => some (.bool (decide (a ≠ b)))
      | .lss => some (.bool (decide (a < b)))
      | .leq => some (.bool (decide (a ≤ b)))
      | .gtr => some (.bool (decide (a > b)))
      | .geq => some (.bool (decide (a ≥ b)))
      | _ => none
  | .string ⟨⟨a⟩⟩, .string ⟨⟨b⟩⟩ => match op with
    | .eql => some (.bool (decide (a = b)))
    | .neq => some (.bool (decide (a ≠ b)))
    | .lss => some (.bool (Op.bytesLess a b))
    | .leq => some (.bool (Op.bytesLess a b || a == b))
    | .gtr => some (.bool (!(Op.bytesLess a b || a == b)))
    | .geq => some (.bool (!Op.bytesLess a b))
    | _ => none
  | _, _ => none

/-- '==' and '!=' where one side is nil -/
def nilEq (P : Program) (t : TypeId) : Value → Value → Option Bool
  | .pointer a, .pointer none => match P.underlying t with
    | some (.pointer _) => match a with
      | none => some true
      | some _ => some false
    | _ => none
  | .slice a _ _, .slice none _ _ => match P.underlying t with
    | some (.slice _) => match a with
      | none => some true
      | some _ => some false
    | _ => none
  | .map a, .map none => match P.underlying t with
    | some (.map _ _) => match a with
      | none => some true
      | some _ => some false
    | _ => none
  | .nilFunc, .nilFunc => match P.underlying t with
    | some (.func _ _ _) => some true
    | _ => none
  | .func _ _ _, .nilFunc => match P.underlying t with
    | some (.func _ _ _) => some false
    | _ => none
  | .bool a, .bool b => match P.underlying t with
    | some .bool => some (a == b)
    | _ => none
  | _, _ => none
def nilV (P : Program) (op : BinOp) (t : TypeId) (a b : Value) : Option Value := match op with
  | .eql => match nilEq P t a b with
    | some r => some (.bool r)
    | none => none
  | .neq => match nilEq P t a b with
    | some r => some (.bool (!r))
    | none => none
  | _ => none
/-- a value whose form is known -/
def nfv : Value → Option Value
  | .bool b => some (.bool b)
  | .int k n => some (.int k n)
  | .float k b => some (.float k b)
  | .complex k a b => some (.complex k a b)
  | .string s => some (.string s)
  | .pointer a => some (.pointer a)
  | .slice a n c => some (.slice a n c)
  | .map r => some (.map r)
  | .chan r => some (.chan r)
  | .func a b c => some (.func a b c)
  | .nilFunc => some .nilFunc
  | .iface t v => some (.iface t v)
  | .nilIface => some .nilIface
  | .agg cs => some (.agg cs)
  | .tuple vs => some (.tuple vs)
theorem nfv_eq {v u : Value} (h : nfv v = some u) : u = v := by cases v <;> simp [nfv] at h <;> exact h.symm
def nfo : Option Value → Option Value
  | some v => nfv v
  | none => none
theorem nfo_eq {o : Option Value} {u : Value} (h : nfo o = some u) : o = some u := by
  cases o with
  | none => cases h
  | some v => rw [nfv_eq h]

def pureOp (P : Program) (ρ : Operand → Value) : Op → Option Value
  | .move x => some (ρ x)
  | .assign x => some (ρ x)
  | .pick c a b => match ρ c with
    | .bool true => some (ρ a)
    | .bool false => some (ρ b)
    | _ => none
  | .binOp op t x y _ => match binV op (ρ x) (ρ y) with
    | some v => some v
    | none => nilV P op t (ρ x) (ρ y)
  | .unOp .not _ x => match ρ x with
    | .bool b => some (.bool (!b))
    | _ => none
  | .unOp .neg _ x => match ρ x with
    | .int k n => some (.int k (k.wrap (0 - n)))
    | _ => none
  | .fieldAddr t x i => match fieldOff P t i with
    | some (off, _) => match ρ x with
      | .pointer (some ⟨b, o, none⟩) => some (.pointer (some ⟨b, o + off, none⟩))
      | _ => none
    | none => none
  | .field t x i => match fieldOff P t i with
    | some (off, ty) => match ρ x with
      | .agg ⟨cs⟩ => partOf P ty cs off
      | _ => none
    | none => none
  | .extract t i => match ρ t with
    | .tuple ⟨vs⟩ => match vs[i]? with
      | some v => some v
      | none => none
    | _ => none
  | .nilCheck x => match ρ x with
    | .pointer (some a) => some (.pointer (some a))
    | _ => none
  | .convert s d x => match P.underlying s with
    | some (.int _) => match P.underlying d with
      | some (.int .i64) => none
      | some (.int k) => match ρ x with
        | .int _ n => some (.int k (k.wrap n))
        | _ => none
      | _ => none
    | some .string => match P.underlying d with
      | some .string => match ρ x with
        | .string s => some (.string s)
        | _ => none
      | _ => none
    | _ => none
  | .call ⟨.builtin .len, ⟨[x]⟩, ⟨[t]⟩⟩ => match P.underlying t with
    | some .string => match ρ x with
      | .string ⟨⟨s⟩⟩ => some (.int .i64 (s.length : Int))
      | _ => none
    | some (.slice _) => match ρ x with
      | .slice _ n _ => some (.int .i64 (n : Int))
      | _ => none
    | some (.array n _) => some (.int .i64 (n : Int))
    | _ => none
  | .makeFunc fn ⟨first⟩ ⟨cap⟩ => some (.func fn ⟨first.map ρ⟩ ⟨cap.map ρ⟩)
  | _ => none

theorem toList_mk (l : List UInt8) : (ByteArray.mk ⟨l⟩).toList = l := Lib.toList_data _
theorem size_mk (l : List UInt8) : (ByteArray.mk ⟨l⟩).size = l.length := rfl

theorem run_under {P : Program} {t : TypeId} {d : TypeDesc} (h : P.underlying t = some d) (w : World) : (underlying t).run P w = .ok d w := run_underlying h w
theorem run_sizeOf {P : Program} {t : TypeId} {n : Nat} (h : tySize P t = some n) (w : World) : (sizeOf t).run P w = .ok n w := by
  unfold tySize at h
  cases hi : P.info? t with
  | none => simp [hi] at h
  | some i => simp only [hi, Option.some.injEq] at h; simp [sizeOf, typeInfo, hi, h]
theorem run_isAgg {P : Program} {t : TypeId} {b : Bool} (h : tyAgg P t = some b) (w : World) : (isAgg t).run P w = .ok b w := by
  unfold tyAgg at h
  cases hu : P.underlying t with
  | none => simp [hu] at h
  | some d =>
    unfold isAgg
    rw [Sem.run_bind, run_underlying hu w]
    cases d <;> simp_all
theorem run_part {P : Program} {ty : TypeId} {cs : List Value} {off : Nat} {v : Value} (h : partOf P ty cs off = some v) (w : World) : (part ty ⟨cs⟩ off).run P w = .ok v w := by
  unfold partOf at h
  split at h
  · rename_i n hb hn
    simp only [Option.some.injEq] at h
    subst h
    simp [part, Sem.run_bind, run_isAgg hb, run_sizeOf hn]
  · rename_i hb
    split at h
    · rename_i u hu
      simp only [Option.some.injEq] at h
      subst h
      simp [part, Sem.run_bind, run_isAgg hb, hu]
    · cases h
  · cases h

theorem run_binV {P : Program} {op : BinOp} {t : TypeId} {a b v : Value} (h : binV op a b = some v) (w : World) : (binOp op t a b).run P w = .ok v w := by
  unfold binV at h
  split at h
  · rename_i k a k' b
    split at h
    · cases h
    · rename_i hk
      have hk : k = k' := by simpa using hk
      subst hk
      cases op <;> (try simp only [Option.some.injEq, reduceCtorEq] at h) <;> (try (split at h <;> (try simp only [Option.some.injEq, reduceCtorEq] at h))) <;> subst h <;> simp [binOp, Op.intArith, Op.intBits, Op.intCmp, bits, bne, beq_dec]
  · rename_i a b
    cases op <;> simp only [Option.some.injEq, reduceCtorEq] at h <;> subst h <;> simp [binOp, Op.stringOp, toList_mk, beq_dec]
  · cases h

theorem run_arith {P : Program} {t : TypeId} {x y : Operand} {k : IntKind} {a b : Int} (w : World) :
    (eqGuard .add t x y (.int k a) (.int k b)).run P w = .ok () w ∧ (binOp .add t (.int k a) (.int k b)).run P w = .ok (.int k (k.wrap (a + b))) w ∧
    (eqGuard .sub t x y (.int k a) (.int k b)).run P w = .ok () w ∧ (binOp .sub t (.int k a) (.int k b)).run P w = .ok (.int k (k.wrap (a - b))) w ∧
    (eqGuard .mul t x y (.int k a) (.int k b)).run P w = .ok () w ∧ (binOp .mul t (.int k a) (.int k b)).run P w = .ok (.int k (k.wrap (a * b))) w := by
  simp [eqGuard, binOp, Op.intArith]
theorem run_eqGuard {P : Program} {op : BinOp} {t : TypeId} {x y : Operand} {a b v : Value} (h : binV op a b = some v) (w : World) : (eqGuard op t x y a b).run P w = .ok () w := by
  unfold binV at h
  split at h
  · unfold eqGuard; cases op <;> simp
  · unfold eqGuard; cases op <;> simp
  · cases h

theorem run_nilEq {P : Program} {t : TypeId} {a b : Value} {r : Bool} (h : nilEq P t a b = some r) (w : World) (d : Nat) : (Op.equalIn (d + 1) t a b).run P w = .ok r w := by
  unfold nilEq at h
  split at h
  · rename_i a
    split at h
    · rename_i hu
      cases a <;> simp only [Option.some.injEq] at h <;> subst h <;> (unfold Op.equalIn; simp only [Sem.run_bind, run_underlying hu, Result.andThen_ok]; rfl)
    · cases h
  · rename_i a _ _ _ _
    split at h
    · rename_i hu
      cases a <;> simp only [Option.some.injEq] at h <;> subst h <;> (unfold Op.equalIn; simp only [Sem.run_bind, run_underlying hu, Result.andThen_ok]; rfl)
    · cases h
  · rename_i a
    split at h
    · rename_i hu
      cases a <;> simp only [Option.some.injEq] at h <;> subst h <;> (unfold Op.equalIn; simp only [Sem.run_bind, run_underlying hu, Result.andThen_ok]; rfl)
    · cases h
  · split at h
    · rename_i hu
      simp only [Option.some.injEq] at h; subst h
      unfold Op.equalIn; simp only [Sem.run_bind, run_underlying hu, Result.andThen_ok]; rfl
    · cases h
  · split at h
    · rename_i hu
      simp only [Option.some.injEq] at h; subst h
      unfold Op.equalIn; simp only [Sem.run_bind, run_underlying hu, Result.andThen_ok]; rfl
    · cases h
  · split at h
    · rename_i hu
      simp only [Option.some.injEq] at h; subst h
      unfold Op.equalIn; simp only [Sem.run_bind, run_underlying hu, Result.andThen_ok]; rfl
    · cases h
  · cases h
theorem nilEq_form {P : Program} {t : TypeId} {a b : Value} {r : Bool} (h : nilEq P t a b = some r) :
    (∃ x, a = .pointer x ∧ b = .pointer none) ∨ (∃ x n c n' c', a = .slice x n c ∧ b = .slice none n' c') ∨ (∃ x, a = .map x ∧ b = .map none) ∨ (a = .nilFunc ∧ b = .nilFunc) ∨ (∃ x y z, a = .func x y z ∧ b = .nilFunc) ∨ (∃ x y, a = .bool x ∧ b = .bool y) := by
  unfold nilEq at h
  split at h
  · exact .inl ⟨_, rfl, rfl⟩
  · exact .inr (.inl ⟨_, _, _, _, _, rfl, rfl⟩)
  · exact .inr (.inr (.inl ⟨_, rfl, rfl⟩))
  · exact .inr (.inr (.inr (.inl ⟨rfl, rfl⟩)))
  · exact .inr (.inr (.inr (.inr (.inl ⟨_, _, _, rfl, rfl⟩))))
  · exact .inr (.inr (.inr (.inr (.inr ⟨_, _, rfl, rfl⟩))))
  · cases h
theorem run_eql_of {P : Program} {t : TypeId} {a b : Value} {r : Bool} {w : World} (h : (Op.equal t a b).run P w = .ok r w) (hf : (binOp .eql t a b) = (do pure (.bool (← Op.equal t a b))) ∧ (binOp .neq t a b) = (do pure (.bool (!(← Op.equal t a b))))) :
    (binOp .eql t a b).run P w = .ok (.bool r) w ∧ (binOp .neq t a b).run P w = .ok (.bool (!r)) w := by
  rw [hf.1, hf.2]
  simp only [Sem.run_bind, h, Result.andThen_ok]
  exact ⟨rfl, rfl⟩
theorem run_nilGuard {P : Program} {op : BinOp} {t : TypeId} {x y : Operand} {a b v : Value} (h : nilV P op t a b = some v) (w : World) : (eqGuard op t x y a b).run P w = .ok () w := by
  unfold nilV at h
  split at h <;> (try split at h) <;> (try simp only [Option.some.injEq, reduceCtorEq] at h)
  all_goals
    rename_i r hr
    unfold eqGuard
    rcases nilEq_form hr with ⟨x, rfl, rfl⟩ | ⟨x, n, c, n', c', rfl, rfl⟩ | ⟨x, rfl, rfl⟩ | ⟨rfl, rfl⟩ | ⟨x, y, z, rfl, rfl⟩ | ⟨x, y, rfl, rfl⟩ <;> rfl
theorem run_nilV {P : Program} {op : BinOp} {t : TypeId} {a b v : Value} (h : nilV P op t a b = some v) (w : World) : (binOp op t a b).run P w = .ok v w := by
  have key : ∀ r, nilEq P t a b = some r → (binOp .eql t a b).run P w = .ok (.bool r) w ∧ (binOp .neq t a b).run P w = .ok (.bool (!r)) w := fun r hr => by
    refine run_eql_of (run_nilEq hr w 9999) ?_
    rcases nilEq_form hr with ⟨x, rfl, rfl⟩ | ⟨x, n, c, n', c', rfl, rfl⟩ | ⟨x, rfl, rfl⟩ | ⟨rfl, rfl⟩ | ⟨x, y, z, rfl, rfl⟩ | ⟨x, y, rfl, rfl⟩ <;> exact ⟨rfl, rfl⟩
  unfold nilV at h
  split at h <;> (try split at h) <;> (try simp only [Option.some.injEq, reduceCtorEq] at h)
  · rename_i r hr; subst h; exact (key r hr).1
  · rename_i r hr; subst h; exact (key r hr).2
theorem run_fieldAt {P : Program} {t : TypeId} {i off b o : Nat} {ty : TypeId} (h : fieldOff P t i = some (off, ty)) (w : World) :
    (Instr.fieldAt t (.pointer (some ⟨b, o, none⟩)) i).run P w = .ok (.pointer (some ⟨b, o + off, none⟩)) w := by
  unfold fieldOff at h
  split at h
  · rename_i fs hu
    split at h
    · rename_i nm ty' off' em tg pk bo hf
      split at h
      · cases h
      · rename_i n hn
        simp only [Option.some.injEq, Prod.mk.injEq] at h
        obtain ⟨rfl, rfl⟩ := h
        have hs := fun w => run_sizeOf (P := P) hn w
        simp [Instr.fieldAt, Sem.run_bind, run_underlying hu, hf, Instr.sureAddr, fieldPlace, hs, Addr.add_mid]
      · cases h
    · cases h
  · cases h
theorem run_field {P : Program} {t : TypeId} {i off : Nat} {ty : TypeId} {cs : List Value} {v : Value} (h : fieldOff P t i = some (off, ty)) (hp : partOf P ty cs off = some v) (w : World) :
    (Instr.field t (.agg ⟨cs⟩) i).run P w = .ok v w := by
  unfold fieldOff at h
  split at h
  · rename_i fs hu
    split at h
    · rename_i nm ty' off' em tg pk bo hf
      split at h
      · cases h
      · rename_i n hn
        simp only [Option.some.injEq, Prod.mk.injEq] at h
        obtain ⟨rfl, rfl⟩ := h
        simp [Instr.field, Sem.run_bind, run_underlying hu, hf, asAgg, run_part hp]
      · cases h
    · cases h
  · cases h

theorem pure_sound {P : Program} {ρ : Operand → Value} {o : Oper} {v : Value} (h : pureOp P ρ o.op = some v) (w : World) : (execOp ρ o).run P w = .ok (.value v) w := by
  obtain ⟨dst, op, type, pos, after, guard⟩ := o
  simp only at h
  unfold pureOp at h
  split at h
  · simp only [Option.some.injEq] at h; subst h; simp [execOp]
  · simp only [Option.some.injEq] at h; subst h; simp [execOp]
  · split at h
    · rename_i hc; simp only [Option.some.injEq] at h; subst h; simp [execOp, hc, asBool]
    · rename_i hc; simp only [Option.some.injEq] at h; subst h; simp [execOp, hc, asBool]
    · cases h
  · split at h
    · rename_i h'
      simp only [Option.some.injEq] at h; subst h
      simp [execOp, Sem.run_bind, run_eqGuard h', run_binV h']
    · have hr := run_nilV h w
      have hgd : ∀ x y, (eqGuard _ _ x y _ _).run P w = .ok () w := fun x y => run_nilGuard (x := x) (y := y) h w
      simp [execOp, Sem.run_bind, hgd, hr]
  · split at h
    · rename_i hc; simp only [Option.some.injEq] at h; subst h; simp [execOp, hc, Op.unary]
    · cases h
  · split at h
    · rename_i hc; simp only [Option.some.injEq] at h; subst h; simp [execOp, hc, Op.unary, Op.intArith]
    · cases h
  · split at h
    · rename_i hf
      split at h
      · rename_i hx; simp only [Option.some.injEq] at h; subst h; simp [execOp, hx, run_fieldAt hf]
      · cases h
    · cases h
  · split at h
    · rename_i hf
      split at h
      · rename_i hx; simp [execOp, hx, run_field hf h]
      · cases h
    · cases h
  · split at h
    · rename_i hx
      split at h
      · rename_i hv; simp only [Option.some.injEq] at h; subst h; simp [execOp, hx, Instr.extract, hv]
      · cases h
    · cases h
  · split at h
    · rename_i hx; simp only [Option.some.injEq] at h; subst h; simp [execOp, hx]
    · cases h
  · split at h
    · rename_i hs
      split at h
      · cases h
      · rename_i hd
        split at h
        · rename_i hx; simp only [Option.some.injEq] at h; subst h; simp [execOp, hx, convert, run_underlying hs, run_underlying hd, Conv.intToInt]
        · cases h
      · cases h
    · rename_i hs
      split at h
      · rename_i hd
        split at h
        · rename_i hx; simp only [Option.some.injEq] at h; subst h; simp [execOp, hx, convert, run_underlying hs, run_underlying hd]
        · cases h
      · cases h
    · cases h
  · split at h
    · rename_i ht
      split at h
      · rename_i hx; simp only [Option.some.injEq] at h; subst h; simp [execOp, resolve, invoke, builtin, Builtin.len_, hx, run_underlying ht, goInt, size_mk]
      · cases h
    · rename_i ht
      split at h
      · rename_i hx; simp only [Option.some.injEq] at h; subst h; simp [execOp, resolve, invoke, builtin, Builtin.len_, hx, run_underlying ht, goInt]
      · cases h
    · rename_i ht; simp only [Option.some.injEq] at h; subst h; simp [execOp, resolve, invoke, builtin, Builtin.len_, run_underlying ht, goInt]
    · cases h
  · simp only [Option.some.injEq] at h; subst h; simp [execOp, Instr.makeFunc]
  · cases h

/-- .. its form known -/
def pureV (P : Program) (ρ : Operand → Value) (op : Op) : Option Value := nfo (pureOp P ρ op)
theorem pureV_sound {P : Program} {ρ : Operand → Value} {o : Oper} {v : Value} (h : pureV P ρ o.op = some v) (w : World) : (execOp ρ o).run P w = .ok (.value v) w :=
  pure_sound (nfo_eq h) w
end Go.J
