/- What is proved: contracts and plain facts that the law leans on (texts put together). Conditions: as each names them. -/
import Derived.WalkKit
import Derived.OrdersHeld
import Derived.Deep.LoopGhost
import Derived.LoopN
import Derived.OrdersIn
import Derived.LoopNIn
import Derived.Deep.MidRow
import Derived.Lib.Strings
import Derived.Maps.AppendAt
import Derived.Lib.Bytealg
import Derived.OwnWalk
import Derived.Laws.BitsAllLaws
import Derived.Laws.IdiomStrings
import Derived.Lib.ConvBytes
import Derived.Lib.Builder
import Derived.Lib.UnsafeStr
import Derived.Laws.IdiomCopy
set_option linter.unusedSimpArgs false
set_option linter.unusedVariables false
set_option linter.unusedSectionVars false
/- What is proved: rules by which code is walked over a frame that is a function of slots: structure, single operations, regions that draw their order, loops. Conditions: none beyond those in each rule. -/
set_option linter.unusedSimpArgs false
set_option linter.unusedVariables false
namespace Go.J
open Go Go.RowKit

/-! ## Frames -/
abbrev Fr := Nat → Value
def up (f : Fr) (d : Nat) (v : Value) : Fr := fun i => match Nat.beq i d with
  | true => v
  | false => f i
def upo (f : Fr) : Option Nat → Value → Fr
  | some d, v => up f d v
  | none, _ => f
abbrev ev (f : Fr) : Operand → Value
  | .tmp t => f t
  | .const v => v
  | .global g => .pointer (some ⟨g, 0, none⟩)
  | .func i => .func (.func i) #[] #[]

/-- what stays as it is during a walk: how many slots there are, the deferred calls, the round of a range over a function that it is in, the first slots that nobody writes any more and what they hold -/
structure Fz where
  n : Nat
  ds : List Deferred
  rd : Option Nat
  lo : Nat
  pin : Nat → Value
@[reducible] instance : Coe Nat Fz := ⟨fun n => ⟨n, [], none, 0, fun _ => undef⟩⟩
def Fz.ok (N : Fz) (d : Nat) : Bool := match Nat.blt d N.n with
  | true => Nat.ble N.lo d
  | false => false
theorem Fz.ok_lt {N : Fz} {d : Nat} (h : N.ok d = true) : d < N.n ∧ N.lo ≤ d := by
  unfold Fz.ok at h
  split at h
  · rename_i e; exact ⟨Nat.le_of_ble_eq_true e, Nat.le_of_ble_eq_true h⟩
  · cases h
/-- all may be called, however deep -/
abbrev Fz.F (N : Fz) : Fence := ⟨fun _ => True, none, false, N.rd⟩
structure Is (a : Act) (N : Fz) (f : Fr) : Prop where
  defers : a.defers = N.ds
  size : a.tmps.size = N.n
  pin : ∀ i, i < N.lo → f i = N.pin i
  get : ∀ i, a.tmps.getD i undef = f i

theorem Is.pins {a : Act} {N : Fz} {f : Fr} (h : Is a N f) : ∀ i, i < N.lo → a.tmps.getD i undef = N.pin i := fun i hi => (h.get i).trans (h.pin i hi)
theorem Is.eval {a : Act} {N : Fz} {f : Fr} (h : Is a N f) : a.eval = ev f := by
  funext x
  cases x with
  | tmp t => exact h.get t
  | _ => rfl

def dOk (N : Fz) : Option Nat → Bool
  | some d => N.ok d
  | none => true

theorem Is.put {a : Act} {N : Fz} {f : Fr} (h : Is a N f) {o : Option Nat} (hd : dOk N o = true) (v : Value) : Is (a.put o v) N (upo f o v) := by
  cases o with
  | none => exact h
  | some d =>
    obtain ⟨hlt, hlo⟩ := Fz.ok_lt hd
    refine ⟨h.defers, by simp [Act.put, h.size], fun i hi => ?_, fun i => ?_⟩
    · show (match Nat.beq i d with | true => v | false => f i) = _
      have : Nat.beq i d = false := by
        cases hb : Nat.beq i d with
        | false => rfl
        | true => exact absurd (Nat.eq_of_beq_eq_true hb) (by omega)
      rw [this]
      exact h.pin i hi
    show (a.tmps.setIfInBounds d v).getD i undef = (match Nat.beq i d with | true => v | false => f i)
    by_cases e : i = d
    · subst e
      have : Nat.beq i i = true := by simp
      rw [this]
      have hs : i < a.tmps.size := by rw [h.size]; exact hlt
      simp [hs]
    · have : Nat.beq i d = false := by
        cases hb : Nat.beq i d with
        | false => rfl
        | true => exact absurd (Nat.eq_of_beq_eq_true hb) e
      rw [this]
      have := h.get i
      simp only [Array.getD_eq_getD_getElem?] at this ⊢
      rw [Array.getElem?_setIfInBounds_ne (by omega)]
      exact this

theorem Is.put1 {a : Act} {N : Fz} {f : Fr} (h : Is a N f) {o : Option Nat} {d : Nat} (hd : o = some d) (hn : N.ok d = true) (v : Value) : Is (a.put o v) N (up f d v) := by
  subst hd
  exact h.put (o := some d) hn v

/-! ## Posts -/
abbrev Post := Exit → Fr → World → Prop
/-- a post of the frame as a post of the machine's own temporaries; at a panic the frame is not looked at -/
def lift (N : Fz) (Q : Post) : Exit → Act → World → Prop
  | .panic c, a, w => a.defers = N.ds ∧ (∀ i, i < N.lo → a.tmps.getD i undef = N.pin i) ∧ Q (.panic c) (fun _ => undef) w
  | .outgrown, _, _ => False
  | e, a, w => ∃ f, Is a N f ∧ Q e f w
theorem lift_lets {N : Fz} {Q : Post} : ¬ LetsOut (lift N Q) := fun ⟨_, _, h⟩ => h

/-! ## Inside a round of a range over a function -/
def noDefer (o : Oper) : Bool := match o.op with
  | .defer _ => false
  | _ => true
/-- in a round no call may be deferred -/
def okR (N : Fz) (ops : List Oper) : Bool := match N.rd with
  | none => true
  | some _ => ops.all noDefer
theorem okR_sem {N : Fz} {ops : List Oper} (h : okR N ops = true) {o : Oper} (ho : o ∈ ops) (ρ : Operand → Value) : o.semAt N.rd ρ = execOp ρ o := by
  unfold okR at h
  split at h
  · rename_i e; rw [e]; rfl
  · refine Oper.semAt_eq _ _ _ fun c hc => ?_
    have := List.all_eq_true.1 h o ho
    unfold noDefer at this
    rw [hc] at this
    cases this
section
variable {P : Program} {N : Fz}
theorem callsF {f : FuncId} {args : Array Value} {w : World} {R : Ending → World → Prop} {n : Nat} (h : Calls P f args w R) : CallsIn N.F n P f args w R :=
  (callsIn_wide (n := n)).2 h
theorem rowsF {row : String} {args : Array Value} {w : World} {R : Value → World → Prop} {n : Nat} (h : Rows P row args w R) : RowsIn N.F n P row args w R :=
  fun c cs _ => let ⟨v, w', r, s⟩ := h c cs; ⟨v, w', r, stepsIn_wide.2 s⟩
theorem operF {o : Oper} {a : Act} {w : World} {K : Act → World → Prop} {Q : Exit → Act → World → Prop} (hs : o.semAt N.rd a.eval = execOp a.eval o) (hQ : ¬ LetsOut Q) (h : o.wp P a w K Q ∨ (o.asks P a w ∧ LetsOut Q)) : o.wpIn N.F 0 P a w K Q := by
  rcases h with h | h
  · refine ⟨fun _ _ => trivial, ?_⟩
    show o.uponIn N.F 0 P a K Q ((o.semAt N.rd a.eval).run P w)
    rw [hs]
    unfold Oper.wp at h
    generalize (execOp a.eval o).run P w = r at *
    cases r with
    | ok x w' =>
      cases x <;> simp only [Oper.upon, Oper.uponIn] at h ⊢ <;>
        first
          | exact h
          | exact ⟨fun e => by simp at e, callsF h⟩
          | exact ⟨fun e => by simp at e, rowsF h⟩
    | halt x w' => cases x <;> simp only [Oper.upon, Oper.uponIn] at h ⊢ <;> exact h
  · exact absurd h.2 hQ
theorem listF {ops : List Oper} {Q : Exit → Act → World → Prop} (hp : okR N ops = true) (hQ : ¬ LetsOut Q) : ∀ (l : List Nat) (a : Act) (w : World), wpOps P ops.toArray Q l a w → wpOpsIn N.F 0 P ops.toArray Q l a w
  | [], _, _, h => h
  | i :: rest, a, w, h => by
    have ih := listF hp hQ rest
    unfold wpOps at h
    unfold wpOpsIn
    cases ho : ops.toArray[i]? with
    | none => simp only [ho] at h ⊢; exact ih _ _ h
    | some o =>
      simp only [ho] at h ⊢
      have hm : o ∈ ops := by
        rw [List.getElem?_toArray] at ho
        exact List.mem_of_getElem? ho
      split
      · rename_i hw
        simp only [hw, if_true] at h
        refine operF (okR_sem hp hm _) hQ ?_
        rcases h with h | h
        · exact .inl (Oper.wp_mono (fun a w => ih a w) h)
        · exact .inr h
      · rename_i hw
        simp only [hw, if_false, Bool.false_eq_true] at h
        exact ⟨fun _ _ => trivial, ih _ _ h⟩
theorem anyF {ops : List Oper} {Q : Exit → Act → World → Prop} (hp : okR N ops = true) (hQ : ¬ LetsOut Q) : ∀ (n : Nat) (L : Array Bool) (a : Act) (w : World), wpAny P .any ops.toArray Q n L a w → wpAnyIn N.F 0 P .any ops.toArray Q n L a w
  | 0, _, _, _, h => h
  | n + 1, L, a, w, h => by
    refine ⟨h.1, fun i hi => ?_⟩
    have hi2 := wpOp_mono (fun a w => anyF hp hQ n (L.setIfInBounds i true) a w) (h.2 i hi)
    unfold wpOp at hi2
    unfold wpOpIn
    cases ho : ops.toArray[i]? with
    | none => simp only [ho] at hi2 ⊢; exact hi2
    | some o =>
      simp only [ho] at hi2 ⊢
      have hm : o ∈ ops := by
        rw [List.getElem?_toArray] at ho
        exact List.mem_of_getElem? ho
      split
      · rename_i hw
        simp only [hw, if_true] at hi2
        exact operF (okR_sem hp hm _) hQ hi2
      · rename_i hw
        simp only [hw, if_false, Bool.false_eq_true] at hi2
        exact ⟨fun _ _ => trivial, hi2⟩
end

theorem lift_hQ {N : Fz} {Q : Post} {d : Option Tmp} {v : Value} (hd : dOk N d = true) : ∀ c a w, lift N Q (.panic c) (a.put d v) w → lift N Q (.panic c) a w := by
  intro c a w h
  refine ⟨?_, fun i hi => ?_, h.2.2⟩
  · have := h.1
    cases d <;> exact this
  · have := h.2.1 i hi
    cases d with
    | none => exact this
    | some d =>
      have hlo := (Fz.ok_lt hd).2
      rw [← this]
      show _ = (a.tmps.setIfInBounds d v).getD i undef
      simp only [Array.getD_eq_getD_getElem?]
      rw [Array.getElem?_setIfInBounds_ne (by omega)]

structure WC (P : Program) (N : Fz) (c : Code) (f : Fr) (w : World) (Q : Post) : Prop where
  out : ∀ a, Is a N f → c.wpIn N.F 0 P (lift N Q) a w

def seqQ (P : Program) (N : Fz) (y : Code) (Q : Post) : Post
  | .normal, f, w => WC P N y f w Q
  | e, f, w => Q e f w
def blkQ (id : Nat) (Q : Post) : Post
  | .exit i, f, w => match Nat.beq i id with
    | true => Q .normal f w
    | false => Q (.exit i) f w
  | e, f, w => Q e f w

section
variable {P : Program} {N : Fz} {f : Fr} {w : World} {Q : Post} {x y : Code}

theorem WC.seq (h : WC P N x f w (seqQ P N y Q)) : WC P N (.seq x y) f w Q := by
  refine ⟨fun a ha => wpIn_seq (wpIn_mono (h.out a ha) fun e a' w' hq => ?_)⟩
  cases e with
  | normal => obtain ⟨f', hf', hw⟩ := hq; exact hw.out a' hf'
  | panic c => exact hq
  | exit i => exact hq
  | goto l => exact hq
  | ret => exact hq
  | outgrown => exact hq
theorem WC.block {id : Nat} (h : WC P N x f w (blkQ id Q)) : WC P N (.block id x) f w Q := by
  refine ⟨fun a ha => wpIn_block (wpIn_mono (h.out a ha) fun e a' w' hq => ?_)⟩
  cases e with
  | exit i =>
    obtain ⟨f', hf', hw⟩ := hq
    simp only [Exit.inBlock]
    by_cases hi : i = id
    · subst hi
      rw [if_pos rfl]
      have hb : Nat.beq i i = true := by simp
      simp only [blkQ, hb] at hw
      exact ⟨f', hf', hw⟩
    · rw [if_neg hi]
      have hb : Nat.beq i id = false := by
        cases hb : Nat.beq i id with
        | false => rfl
        | true => exact absurd (Nat.eq_of_beq_eq_true hb) hi
      simp only [blkQ, hb] at hw
      exact ⟨f', hf', hw⟩
  | normal => exact hq
  | panic c => exact hq
  | goto l => exact hq
  | ret => exact hq
  | outgrown => exact hq
theorem WC.ret (h : Q .ret f w) : WC P N .ret f w Q := ⟨fun _ ha => wpIn_ret ⟨f, ha, h⟩⟩
theorem WC.skip (h : Q .normal f w) : WC P N .skip f w Q := ⟨fun _ ha => wpIn_skip ⟨f, ha, h⟩⟩
theorem WC.exit {i : Nat} (h : Q (.exit i) f w) : WC P N (.exit i) f w Q := ⟨fun _ ha => wpIn_exit ⟨f, ha, h⟩⟩
theorem WC.cond {c : Operand} {t : Bool} (hc : ev f c = .bool t) (h1 : t = true → WC P N x f w Q) (h2 : t = false → WC P N y f w Q) : WC P N (.cond c x y) f w Q := by
  refine ⟨fun a ha => ?_⟩
  have he : a.eval c = .bool t := by rw [ha.eval]; exact hc
  exact wpIn_cond_split he (fun ht => (h1 ht).out a ha) (fun ht => (h2 ht).out a ha)
theorem WC.condT {c : Operand} {t : Bool} (hc : ev f c = .bool t) (ht : t = true) (h1 : WC P N x f w Q) : WC P N (.cond c x y) f w Q :=
  .cond hc (fun _ => h1) (fun h => by rw [ht] at h; cases h)
theorem WC.condF {c : Operand} {t : Bool} (hc : ev f c = .bool t) (ht : t = false) (h1 : WC P N y f w Q) : WC P N (.cond c x y) f w Q :=
  .cond hc (fun h => by rw [ht] at h; cases h) (fun _ => h1)
theorem WC.mono {Q' : Post} (h : WC P N x f w Q) (hq : ∀ e f w, Q e f w → Q' e f w) : WC P N x f w Q' := by
  refine ⟨fun a ha => wpIn_mono (h.out a ha) fun e a' w' h' => ?_⟩
  cases e with
  | panic c => exact ⟨h'.1, h'.2.1, hq _ _ _ h'.2.2⟩
  | normal => obtain ⟨f', h1, h2⟩ := h'; exact ⟨f', h1, hq _ _ _ h2⟩
  | exit i => obtain ⟨f', h1, h2⟩ := h'; exact ⟨f', h1, hq _ _ _ h2⟩
  | goto l => obtain ⟨f', h1, h2⟩ := h'; exact ⟨f', h1, hq _ _ _ h2⟩
  | ret => obtain ⟨f', h1, h2⟩ := h'; exact ⟨f', h1, hq _ _ _ h2⟩
  | outgrown => exact h'

-- posts, step by step
theorem seqQ_n (h : WC P N y f w Q) : seqQ P N y Q .normal f w := h
theorem seqQ_r (h : Q .ret f w) : seqQ P N y Q .ret f w := h
theorem seqQ_x {i : Nat} (h : Q (.exit i) f w) : seqQ P N y Q (.exit i) f w := h
theorem blkQ_n {id : Nat} (h : Q .normal f w) : blkQ id Q .normal f w := h
theorem blkQ_r {id : Nat} (h : Q .ret f w) : blkQ id Q .ret f w := h
theorem blkQ_hit {i id : Nat} (e : Nat.beq i id = true) (h : Q .normal f w) : blkQ id Q (.exit i) f w := by
  show (match Nat.beq i id with | true => Q .normal f w | false => Q (.exit i) f w)
  rw [e]; exact h
theorem blkQ_miss {i id : Nat} (e : Nat.beq i id = false) (h : Q (.exit i) f w) : blkQ id Q (.exit i) f w := by
  show (match Nat.beq i id with | true => Q .normal f w | false => Q (.exit i) f w)
  rw [e]; exact h
end

/-! ## A region in the text's order -/
structure WL (P : Program) (N : Fz) (ops l : List Oper) (f : Fr) (w : World) (Q : Post) : Prop where
  out : ∀ a, Is a N f → wpList P ops.toArray (lift N Q) l a w

section
variable {P : Program} {N : Fz} {f : Fr} {w : World} {Q : Post} {ops l : List Oper} {o : Oper}

theorem WC.region {id : Nat} (h : WL P N ops ops f w Q) (hp : okR N ops = true := by rfl) : WC P N (.region id ops.toArray false) f w Q :=
  ⟨fun a ha => wpIn_region (by
    have h1 := h.out a ha
    rw [← wpOps_eq_wpList (ops := ops.toArray) ops 0 (fun j => by rw [List.getElem?_toArray, Nat.zero_add])] at h1
    have h2 := listF hp lift_lets _ _ _ h1
    rw [← List.range_eq_range'] at h2
    simpa using h2)⟩
theorem WL.nil (h : Q .normal f w) : WL P N ops [] f w Q := ⟨fun _ ha => wpList_nil ⟨f, ha, h⟩⟩

/-- what the guard of an operation reads -/
def guardVal (ops : List Oper) (f : Fr) (j : Nat) : Option Bool :=
  match ops[j]? with
  | some o => match o.dst with
    | some d => match f d with
      | .bool b => some b
      | _ => none
    | none => none
  | none => none
theorem yielded_eq {a : Act} (ha : Is a N f) (j : Nat) : yielded ops.toArray a.tmps j = guardVal ops f j := by
  unfold yielded guardVal
  rw [List.getElem?_toArray]
  cases ho : ops[j]? with
  | none => rfl
  | some o =>
    cases hd : o.dst with
    | none => simp [hd]
    | some d =>
      have hg := ha.get d
      simp only [Array.getD_eq_getD_getElem?] at hg
      simp only [Option.bind_some, hd]
      rw [← hg]
      cases he : a.tmps[d]? with
      | none => simp [he, undef]
      | some v => cases v <;> simp [he]
def wants (ops : List Oper) (f : Fr) (o : Oper) : Bool :=
  match o.guard with
  | none => true
  | some (j, b) => guardVal ops f j == some b
theorem wanted_eq {a : Act} (ha : Is a N f) (o : Oper) : Region.wanted o (yielded ops.toArray a.tmps) = wants ops f o := by
  unfold Region.wanted wants
  cases o.guard with
  | none => rfl
  | some g => obtain ⟨j, b⟩ := g; simp only [yielded_eq ha]

/-- an operation that leaves a value -/
theorem WL.val (hg : wants ops f o = true) {d : Nat} (hd : o.dst = some d) (hn : N.ok d = true) {v : Value} {w' : World} (hr : (execOp (ev f) o).run P w = .ok (.value v) w')
    (h : WL P N ops l (up f d v) w' Q) : WL P N ops (o :: l) f w Q := by
  refine ⟨fun a ha => wpList_step fun K hK => ?_⟩
  rw [if_pos ((wanted_eq ha o).trans hg)]
  simp only [Oper.wp, ha.eval, hr, Oper.upon]
  exact hK _ _ (h.out _ (ha.put1 hd hn v))
theorem WL.unit0 (hg : wants ops f o = true) (hd : o.dst = none) {w' : World} (hr : (execOp (ev f) o).run P w = .ok .skip w')
    (h : WL P N ops l f w' Q) : WL P N ops (o :: l) f w Q := by
  refine ⟨fun a ha => wpList_step fun K hK => ?_⟩
  rw [if_pos ((wanted_eq ha o).trans hg)]
  simp only [Oper.wp, ha.eval, hr, Oper.upon]
  exact hK _ _ (h.out _ (by rw [hd]; exact ha))
theorem WL.enter (hg : wants ops f o = true) {d : Nat} (hd : o.dst = some d) (hn : N.ok d = true) {fid : FuncId} {args : Array Value} {w' : World} (hr : (execOp (ev f) o).run P w = .ok (.enter fid args) w')
    {R : Value → World → Prop} (hc : Calls P fid args w' fun e w'' => ∃ v, e = .returned v ∧ R v w'')
    (h : ∀ v w'', R v w'' → WL P N ops l (up f d v) w'' Q) : WL P N ops (o :: l) f w Q := by
  refine ⟨fun a ha => wpList_step fun K hK => ?_⟩
  rw [if_pos ((wanted_eq ha o).trans hg)]
  simp only [Oper.wp, ha.eval, hr, Oper.upon]
  refine hc.mono fun e w'' he => ?_
  obtain ⟨v, rfl, hR⟩ := he
  exact hK _ _ ((h v w'' hR).out _ (ha.put1 hd hn v))
theorem WL.skip (hg : wants ops f o = false) {d : Nat} (hd : o.dst = some d) (hn : N.ok d = true) (h : WL P N ops l (up f d undef) w Q) : WL P N ops (o :: l) f w Q := by
  refine ⟨fun a ha => wpList_step fun K hK => ?_⟩
  rw [if_neg (by rw [wanted_eq ha o, hg]; exact Bool.false_ne_true)]
  exact hK _ _ (h.out _ (ha.put1 hd hn undef))
/-- a slot that holds a Bool is written out -/
theorem up_same {f : Fr} {t : Nat} {v : Value} (h : f t = v) : up f t v = f := by
  funext i
  unfold up
  split
  · rename_i e; rw [Nat.eq_of_beq_eq_true e]; exact h.symm
  · rfl
theorem WL.split (t : Nat) {b : Bool} (ht : f t = .bool b) (h1 : b = true → WL P N ops l (up f t (.bool true)) w Q) (h2 : b = false → WL P N ops l (up f t (.bool false)) w Q) : WL P N ops l f w Q := by
  cases b with
  | true => have := h1 rfl; rwa [up_same ht] at this
  | false => have := h2 rfl; rwa [up_same ht] at this
/-- the slot that a guard reads -/
def gslot (ops : List Oper) (j : Nat) : Option Nat := match ops[j]? with
  | some o => o.dst
  | none => none
/-- (to see whether a guard is decided) -/
theorem WL.wanted (_ : wants ops f o = true) (h : WL P N ops (o :: l) f w Q) : WL P N ops (o :: l) f w Q := h
/-- a guard that isn't decided: both ways -/
theorem WL.guard {j t : Nat} {want b : Bool} (hg : o.guard = some (j, want)) (hj : gslot ops j = some t) (ht : f t = .bool b)
    (h1 : b = true → WL P N ops (o :: l) (up f t (.bool true)) w Q) (h2 : b = false → WL P N ops (o :: l) (up f t (.bool false)) w Q) : WL P N ops (o :: l) f w Q := .split t ht h1 h2
end

/-! ## A region that draws its order -/
def ix (ops : List Oper) (i : Nat) : Oper := match ops[i]? with | some o => o | none => default

/-- a bound that holds till the operation 'k' has come up -/
def upTo : Option Nat → Array Bool → Prop → Prop
  | none, _, p => p
  | some k, L, p => L.getD k true = false → p
/-- 'k' comes behind i -/
def behind (ops : Array Oper) (L : Array Bool) (i : Nat) : Option Nat → Bool
  | none => true
  | some k => !L.getD k true && !Nat.beq k i && match ops[k]? with
    | some o => o.after.any fun e => Region.binds .any e && Nat.beq e.on i
    | none => false
/-- every order from here on, S being so behind each operation ahead of 'k' -/
def AnyT (P : Program) (ops : Array Oper) (Q : Exit → Act → World → Prop) (S : World → Prop) (k : Option Nat) : Nat → Array Bool → Act → World → Prop
  | 0, L, a, w => Region.ready .any ops L = [] ∧ Q .normal a w
  | n + 1, L, a, w => (Region.ready .any ops L = [] → Q .normal a w) ∧ ∀ i ∈ Region.ready .any ops L, wpOp P ops Q i (fun a' w' => upTo k (L.setIfInBounds i true) (S w') ∧ AnyT P ops Q S k n (L.setIfInBounds i true) a' w') a w
theorem AnyT.any {P : Program} {ops : Array Oper} {Q : Exit → Act → World → Prop} {S : World → Prop} {k : Option Nat} : ∀ (n : Nat) (L : Array Bool) (a : Act) (w : World), AnyT P ops Q S k n L a w → wpAny P .any ops Q n L a w
  | 0, _, _, _, h => h
  | n + 1, _, _, _, h => ⟨h.1, fun i hi => wpOp_mono (fun _ _ h' => AnyT.any n _ _ _ h'.2) (h.2 i hi)⟩
theorem unset {L : Array Bool} {i k : Nat} (h : (L.setIfInBounds i true).getD k true = false) : L.getD k true = false := by
  by_cases e : i = k
  · subst e
    rcases Nat.lt_or_ge i L.size with h1 | h1
    · simp [h1] at h
    · simp [h1] at h
  · rwa [getD_set_ne true e] at h
/-- behind 'k' nothing is asked of S -/
theorem AnyT.free {P : Program} {ops : Array Oper} {Q : Exit → Act → World → Prop} {S S2 : World → Prop} {k : Nat} : ∀ (n : Nat) (L : Array Bool) (a : Act) (w : World), L.getD k true = true → AnyT P ops Q S2 none n L a w → AnyT P ops Q S (some k) n L a w
  | 0, _, _, _, _, h => h
  | n + 1, L, _, _, hk, h => ⟨h.1, fun i hi => wpOp_mono (fun _ _ h' => by
      have hk' : (L.setIfInBounds i true).getD k true = true := by
        cases hh : (L.setIfInBounds i true).getD k true with
        | true => rfl
        | false => rw [unset hh] at hk; cases hk
      exact ⟨fun h0 => (by rw [hk'] at h0; cases h0), AnyT.free n _ _ _ hk' h'.2⟩) (h.2 i hi)⟩
theorem AnyT.done {P : Program} {ops : Array Oper} {Q : Exit → Act → World → Prop} {S : World → Prop} {k : Option Nat} {L : Array Bool} {a : Act} {w : World} (hr : Region.ready .any ops L = []) (h : Q .normal a w) : ∀ n, AnyT P ops Q S k n L a w
  | 0 => ⟨hr, h⟩
  | _ + 1 => ⟨fun _ => h, by rw [hr]; simp⟩
theorem AnyT.all {P : Program} {ops : Array Oper} {Q : Exit → Act → World → Prop} {S : World → Prop} {k : Option Nat} {rs : List Nat} {n : Nat} {L : Array Bool} {a : Act} {w : World} (hr : Region.ready .any ops L = rs) (hne : rs ≠ [])
    (h : ∀ i ∈ rs, wpOp P ops Q i (fun a' w' => upTo k (L.setIfInBounds i true) (S w') ∧ AnyT P ops Q S k n (L.setIfInBounds i true) a' w') a w) : AnyT P ops Q S k (n + 1) L a w :=
  ⟨fun h0 => absurd (hr ▸ h0) hne, hr ▸ h⟩
/-- what another operation needs, i does not keep from it, and the other way about -/
def Lone (ops : Array Oper) (oi : Oper) (i : Nat) (L : Array Bool) : Prop :=
  ∀ j oj, ops[j]? = some oj → j ≠ i → L.getD j true = false → (∀ e ∈ oj.after, Region.binds .any e = true → e.on ≠ i) → oi.apart ops oj = true
theorem Lone.set {ops : Array Oper} {oi : Oper} {i j : Nat} {L : Array Bool} (h : Lone ops oi i L) : Lone ops oi i (L.setIfInBounds j true) :=
  fun m om hm hne hun hno => h m om hm hne (unset hun) hno
theorem upTo_of {k : Option Nat} {L : Array Bool} {p : Prop} (h : p) : upTo k L p := by
  cases k with
  | none => exact h
  | some k => exact fun _ => h
/-- 'k' can't come ahead of i, so that no other one that may come up now is it -/
theorem behind_ne {ops : Array Oper} {L : Array Bool} {i j k : Nat} (h : behind ops L i (some k) = true) (hi : i ∈ Region.ready .any ops L) (hj : j ∈ Region.ready .any ops L) : L.getD k true = false ∧ k ≠ i ∧ k ≠ j := by
  unfold behind at h
  simp only [Bool.and_eq_true, Bool.not_eq_true'] at h
  obtain ⟨⟨h1, h2⟩, h3⟩ := h
  refine ⟨h1, fun e => (by subst e; simp at h2), fun e => ?_⟩
  subst e
  obtain ⟨_, oj, hoj, hall⟩ := mem_ready.1 hj
  rw [hoj] at h3
  simp only [Array.any_eq_true, Bool.and_eq_true] at h3
  obtain ⟨m, hm, hb, he⟩ := h3
  have h4 := hall _ (Array.getElem_mem hm) hb
  rw [Nat.eq_of_beq_eq_true he] at h4
  have h5 := (mem_ready.1 hi).1
  rcases Nat.lt_or_ge i L.size with h' | h'
  · simp [h'] at h4 h5; rw [h5] at h4; cases h4
  · simp [h'] at h4
theorem behind_set {ops : Array Oper} {L : Array Bool} {i j : Nat} {k : Option Nat} (h : behind ops L i k = true) (hi : i ∈ Region.ready .any ops L) (hj : j ∈ Region.ready .any ops L) : behind ops (L.setIfInBounds j true) i k = true := by
  cases k with
  | none => rfl
  | some k =>
    obtain ⟨h1, h2, h3⟩ := behind_ne h hi hj
    have : (L.setIfInBounds j true).getD k true = L.getD k true := getD_set_ne true (Ne.symm h3)
    simp only [behind] at h ⊢
    rw [this]; exact h
theorem upTo_get {ops : Array Oper} {L : Array Bool} {i j : Nat} {k : Option Nat} {p : Prop} (h : behind ops L i k = true) (hi : i ∈ Region.ready .any ops L) (hj : j ∈ Region.ready .any ops L) (hp : upTo k ((L.setIfInBounds i true).setIfInBounds j true) p) : p := by
  cases k with
  | none => exact hp
  | some k =>
    obtain ⟨h1, h2, h3⟩ := behind_ne h hi hj
    exact hp (by rw [getD_set_ne true (Ne.symm h3), getD_set_ne true (Ne.symm h2)]; exact h1)
/-- one that yields its value wherever S holds comes first -/
theorem AnyT.one {P : Program} {ops : Array Oper} {Q : Exit → Act → World → Prop} {S : World → Prop} {k : Option Nat} {i : Nat} {oi : Oper} {v : Value} (hi : ops[i]? = some oi) (hs : ∀ (j : Nat) (o : Oper) cs b, ops[j]? = some o → o.op ≠ .select cs b)
    (hQ : ∀ c a w, Q (.panic c) (a.put oi.dst v) w → Q (.panic c) a w) : ∀ (n : Nat) (L : Array Bool) (a : Act) (w : World), Lone ops oi i L → behind ops L i k = true → i ∈ Region.ready .any ops L → YieldsIf P ops S oi v a → S w →
      AnyT P ops Q S k n (L.setIfInBounds i true) (a.put oi.dst v) w → AnyT P ops Q S k (n + 1) L a w
  | 0, L, a, w, hl, hb, hr, hy, hS, H => by
    refine .all rfl (fun h => by rw [h] at hr; cases hr) fun j hj => ?_
    by_cases e : j = i
    · subst e; exact hy.wpOp hi hS ⟨upTo_of hS, H⟩
    · have := ready_mono hj e
      rw [H.1] at this; cases this
  | n + 1, L, a, w, hl, hb, hr, hy, hS, H => by
    refine .all rfl (fun h => by rw [h] at hr; cases hr) fun j hj => ?_
    by_cases e : j = i
    · subst e; exact hy.wpOp hi hS ⟨upTo_of hS, H⟩
    · obtain ⟨hjL, oj, hoj, hall⟩ := mem_ready.1 hj
      have hno : ∀ e ∈ oj.after, Region.binds .any e = true → e.on ≠ i := fun e he hbe heq => by
        have h4 := hall e he hbe
        have h5 := (mem_ready.1 hr).1
        rw [heq] at h4
        rcases Nat.lt_or_ge i L.size with h' | h'
        · simp [h'] at h4 h5; rw [h5] at h4; cases h4
        · simp [h'] at h4
      have h2 := wpOp_putIf hoj (hl j oj hoj e hjL hno) (fun cs b => hs i oi cs b hi) (fun cs b => hs j oj cs b hoj) hQ hy (H.2 j (ready_mono hj e))
      refine wpOp_mono (fun a' w' h3 => ?_) h2
      have hSw := upTo_get hb hr hj h3.2.1
      refine ⟨upTo_of hSw, AnyT.one hi hs hQ n _ a' w' hl.set (behind_set hb hr hj) (ready_mono hr (Ne.symm e)) h3.1 hSw ?_⟩
      rw [Array.setIfInBounds_comm _ _ e]
      exact h3.2.2

theorem upTo_swap {L : Array Bool} {i j : Nat} {k : Option Nat} {p : Prop} (h : k ≠ some i) (hp : upTo k ((L.setIfInBounds i true).setIfInBounds j true) p) : upTo k (L.setIfInBounds j true) p := by
  cases k with
  | none => exact hp
  | some k =>
    intro h0
    refine hp ?_
    by_cases e : i = j
    · subst e
      have hki : i ≠ k := fun e => h (by rw [e])
      rw [getD_set_ne true hki] at h0 ⊢
      rw [getD_set_ne true hki]; exact h0
    · rw [Array.setIfInBounds_comm _ _ e, getD_set_ne true (fun e => h (by rw [e]))]
      exact h0
/-- one that yields its value in whatever world -/
theorem AnyT.one0 {P : Program} {ops : Array Oper} {Q : Exit → Act → World → Prop} {S : World → Prop} {k : Option Nat} {i : Nat} {oi : Oper} {v : Value} (hi : ops[i]? = some oi) (hs : ∀ (j : Nat) (o : Oper) cs b, ops[j]? = some o → o.op ≠ .select cs b)
    (hQ : ∀ c a w, Q (.panic c) (a.put oi.dst v) w → Q (.panic c) a w) (hk : k ≠ some i) : ∀ (n : Nat) (L : Array Bool) (a : Act) (w : World), Lone ops oi i L → i ∈ Region.ready .any ops L → YieldsIf P ops (fun _ => True) oi v a → upTo k (L.setIfInBounds i true) (S w) →
      AnyT P ops Q S k n (L.setIfInBounds i true) (a.put oi.dst v) w → AnyT P ops Q S k (n + 1) L a w
  | 0, L, a, w, hl, hr, hy, hS, H => by
    refine .all rfl (fun h => by rw [h] at hr; cases hr) fun j hj => ?_
    by_cases e : j = i
    · subst e; exact hy.wpOp hi trivial ⟨hS, H⟩
    · have := ready_mono hj e
      rw [H.1] at this; cases this
  | n + 1, L, a, w, hl, hr, hy, hS, H => by
    refine .all rfl (fun h => by rw [h] at hr; cases hr) fun j hj => ?_
    by_cases e : j = i
    · subst e; exact hy.wpOp hi trivial ⟨hS, H⟩
    · obtain ⟨hjL, oj, hoj, hall⟩ := mem_ready.1 hj
      have hno : ∀ e ∈ oj.after, Region.binds .any e = true → e.on ≠ i := fun e he hbe heq => by
        have h4 := hall e he hbe
        have h5 := (mem_ready.1 hr).1
        rw [heq] at h4
        rcases Nat.lt_or_ge i L.size with h' | h'
        · simp [h'] at h4 h5; rw [h5] at h4; cases h4
        · simp [h'] at h4
      have h2 := wpOp_putIf hoj (hl j oj hoj e hjL hno) (fun cs b => hs i oi cs b hi) (fun cs b => hs j oj cs b hoj) hQ hy (H.2 j (ready_mono hj e))
      refine wpOp_mono (fun a' w' h3 => ?_) h2
      have hc : (L.setIfInBounds i true).setIfInBounds j true = (L.setIfInBounds j true).setIfInBounds i true := Array.setIfInBounds_comm _ _ (Ne.symm e)
      refine ⟨upTo_swap hk h3.2.1, AnyT.one0 hi hs hQ hk n _ a' w' hl.set (ready_mono hr (Ne.symm e)) h3.1 (hc ▸ h3.2.1) (hc ▸ h3.2.2)⟩
/-- operations that look at no memory -/
def blind (o : Oper) : Bool := match o.op with
  | .load .. => false
  | .lookup .. => false
  | .call .. => false
  | .next .. => false
  | .entry .. => false
  | _ => true

/-- the order 'l' may be taken, what is behind it being as 'fin' says: what 'q' does not name comes up alone -/
def ordL (ops : Array Oper) (q : List Nat) (k : Option Nat) (fin : Array Bool → Bool) : Array Bool → List Nat → Bool
  | L, [] => fin L
  | L, i :: l => (i < ops.size) && (if q.contains i then Region.free .any ops L i && (Region.ready .any ops L).contains i && !(k == some i) && (match ops[i]? with | some o => blind o | none => false) || Region.free .any ops L i && (Region.ready .any ops L).contains i && behind ops L i k else Region.ready .any ops L == [i]) && ordL ops q k fin (L.setIfInBounds i true) l
/-- a plan: nothing is left, or two effects, of which either may be first, or one behind which nothing is known any more -/
inductive Pl where
  | nil
  | two (i : Nat) (l1 : List Nat) (t1 : Pl) (j : Nat) (l2 : List Nat) (t2 : Pl)
  | piv (i : Nat) (l1 : List Nat)
  | three (i : Nat) (l1 : List Nat) (t1 : Pl) (j : Nat) (l2 : List Nat) (t2 : Pl) (k : Nat) (l3 : List Nat) (t3 : Pl)
def Pl.len : Pl → Nat
  | .nil => 0
  | .two _ l1 t1 _ _ _ => l1.length + t1.len + 1
  | .piv _ l1 => l1.length + 1
  | .three _ l1 t1 _ _ _ _ _ _ => l1.length + t1.len + 1
def Pl.pv : Pl → Option Nat
  | .nil => none
  | .two _ _ t1 _ _ _ => t1.pv
  | .piv i _ => some i
  | .three _ _ t1 _ _ _ _ _ _ => t1.pv
def plOk (ops : Array Oper) (q : List Nat) : Pl → Array Bool → Bool
  | .nil, L => (Region.ready .any ops L).isEmpty
  | .two i l1 t1 j l2 t2, L => Region.ready .any ops L == [i, j] && Nat.beq (l1.length + t1.len) (l2.length + t2.len) && t1.pv == t2.pv && ordL ops q t1.pv (plOk ops q t1) (L.setIfInBounds i true) l1 && ordL ops q t2.pv (plOk ops q t2) (L.setIfInBounds j true) l2
  | .piv i l1, L => (i < L.size) && Region.ready .any ops L == [i] && ordL ops q none (fun L => (Region.ready .any ops L).isEmpty) (L.setIfInBounds i true) l1
  | .three i l1 t1 j l2 t2 k l3 t3, L => Region.ready .any ops L == [i, j, k] && (Nat.beq (l1.length + t1.len) (l2.length + t2.len) && Nat.beq (l1.length + t1.len) (l3.length + t3.len)) && (t1.pv == t2.pv && t1.pv == t3.pv) && ordL ops q t1.pv (plOk ops q t1) (L.setIfInBounds i true) l1 && ordL ops q t2.pv (plOk ops q t2) (L.setIfInBounds j true) l2 && ordL ops q t3.pv (plOk ops q t3) (L.setIfInBounds k true) l3
/-- which only look, and the plan behind the order -/
structure Qs where
  q : List Nat
  t : Pl
def Qs.contains (x : Qs) (i : Nat) : Bool := x.q.contains i
def ordOk (ops : Array Oper) (x : Qs) (L : Array Bool) (l : List Nat) : Bool := ordL ops x.q x.t.pv (plOk ops x.q x.t) L l

structure WD (P : Program) (N : Fz) (S : World → Prop) (ops : List Oper) (q : Qs) (l : List Nat) (f : Fr) (w : World) (Q : Post) : Prop where
  out : ∀ a, Is a N f → ∀ L, ordOk ops.toArray q L l = true → Region.noSelect ops.toArray = true → S w → AnyT P ops.toArray (lift N Q) S q.t.pv (l.length + q.t.len) L a w
/-- one effect, chosen -/
structure WDo (P : Program) (N : Fz) (S : World → Prop) (ops : List Oper) (q : Qs) (i : Nat) (l : List Nat) (f : Fr) (w : World) (Q : Post) : Prop where
  out : ∀ a, Is a N f → ∀ K : Act → World → Prop, (∀ f' w' a', Is a' N f' → S w' → WD P N S ops q l f' w' Q → K a' w') → wpOp P ops.toArray (lift N Q) i K a w

section
variable {P : Program} {N : Fz} {f : Fr} {w : World} {Q : Post} {ops : List Oper} {S : World → Prop} {q : Qs} {l : List Nat} {i : Nat}

theorem WC.draw {id : Nat} (S : World → Prop) (q : Qs) (l : List Nat) (hm : P.follows .mixedOrders = true) (hs : Region.noSelect ops.toArray = true)
    (hl : ordOk ops.toArray q (Array.replicate ops.toArray.size false) l = true) (hn : Nat.beq (l.length + q.t.len) ops.length = true) (hS : S w.drew)
    (h : WD P N S ops q l f w.drew Q) (hp : okR N ops = true := by rfl) : WC P N (.region id ops.toArray true) f w Q := by
  refine ⟨fun a ha => wpIn_region_any hm (anyF hp lift_lets _ _ _ _ (AnyT.any _ _ _ _ (S := S) (k := q.t.pv) ?_))⟩
  have e := Nat.eq_of_beq_eq_true hn
  have := h.out a ha _ hl hs hS
  rw [e] at this
  simpa using this
theorem WD.nil {q : List Nat} (h : Q .normal f w) : WD P N S ops ⟨q, .nil⟩ [] f w Q := by
  refine ⟨fun a ha L hL _ _ => ?_⟩
  have hr : Region.ready .any ops.toArray L = [] := by
    have : (Region.ready .any ops.toArray L).isEmpty = true := hL
    exact List.isEmpty_iff.1 this
  exact AnyT.done hr ⟨f, ha, h⟩ _
/-- either of two effects may be first -/
theorem WD.fork {q : List Nat} {i j : Nat} {l1 l2 : List Nat} {t1 t2 : Pl} (h1 : WDo P N S ops ⟨q, t1⟩ i l1 f w Q) (h2 : WDo P N S ops ⟨q, t2⟩ j l2 f w Q) : WD P N S ops ⟨q, .two i l1 t1 j l2 t2⟩ [] f w Q := by
  refine ⟨fun a ha L hL hs hS => ?_⟩
  have hL : plOk ops.toArray q (.two i l1 t1 j l2 t2) L = true := hL
  unfold plOk at hL
  simp only [Bool.and_eq_true] at hL
  obtain ⟨⟨⟨⟨hr, hlen⟩, hpv⟩, ho1⟩, ho2⟩ := hL
  have hpv : t1.pv = t2.pv := by simpa using hpv
  have hr : Region.ready .any ops.toArray L = [i, j] := by simpa using hr
  have hlen := Nat.eq_of_beq_eq_true hlen
  have hsz : ([] : List Nat).length + (⟨q, .two i l1 t1 j l2 t2⟩ : Qs).t.len = l1.length + t1.len + 1 := by simp [Pl.len]
  rw [hsz]
  show AnyT P ops.toArray (lift N Q) S t1.pv _ L a w
  refine AnyT.all hr (by simp) fun k hk => ?_
  rcases List.mem_cons.1 hk with rfl | hk
  · exact h1.out a ha _ fun f' w' a' ha' hS' hw' => ⟨upTo_of hS', hw'.out a' ha' _ ho1 hs hS'⟩
  · obtain rfl : k = j := by simpa using hk
    rw [hlen, hpv]
    exact h2.out a ha _ fun f' w' a' ha' hS' hw' => ⟨upTo_of hS', hw'.out a' ha' _ ho2 hs hS'⟩
/-- an effect behind which what was known holds no more -/
theorem WD.piv {q : List Nat} {i : Nat} {l1 : List Nat} {S2 : World → Prop} (h : WDo P N S2 ops ⟨q, .nil⟩ i l1 f w Q) : WD P N S ops ⟨q, .piv i l1⟩ [] f w Q := by
  refine ⟨fun a ha L hL hs hS => ?_⟩
  have hL : plOk ops.toArray q (.piv i l1) L = true := hL
  unfold plOk at hL
  simp only [Bool.and_eq_true, decide_eq_true_eq] at hL
  obtain ⟨⟨hlt, hr⟩, ho⟩ := hL
  have hr : Region.ready .any ops.toArray L = [i] := by simpa using hr
  have hsz : ([] : List Nat).length + (⟨q, .piv i l1⟩ : Qs).t.len = l1.length + 1 := by simp [Pl.len]
  rw [hsz]
  show AnyT P ops.toArray (lift N Q) S (some i) _ L a w
  refine AnyT.all hr (by simp) fun k hk => ?_
  obtain rfl : k = i := by simpa using hk
  have hk' : (L.setIfInBounds k true).getD k true = true := by simp [hlt]
  refine h.out a ha _ fun f' w' a' ha' hS' hw' => ⟨fun h0 => (by rw [hk'] at h0; cases h0), AnyT.free (S2 := S2) _ _ _ _ hk' ?_⟩
  have := hw'.out a' ha' (L.setIfInBounds k true) ho hs hS'
  exact this

theorem ix_some {i : Nat} (h : i < ops.toArray.size) : ops.toArray[i]? = some (ix ops i) := by
  have h' : i < ops.length := by simpa using h
  unfold ix
  rw [List.getElem?_toArray, List.getElem?_eq_getElem h']

/-- one that only looks -/
theorem WD.take (hq : q.contains i = true) {d : Nat} (hd : (ix ops i).dst = some d) (hn : N.ok d = true) {v : Value}
    (hy : (wants ops f (ix ops i) = true ∧ ∀ w', True → (execOp (ev f) (ix ops i)).run P w' = .ok (.value v) w') ∨ (wants ops f (ix ops i) = false ∧ v = undef))
    (h : WD P N S ops q l (up f d v) w Q) : WD P N S ops q (i :: l) f w Q := by
  refine ⟨fun a ha L hL hs hS => ?_⟩
  unfold ordOk ordL at hL
  simp only [Bool.and_eq_true, decide_eq_true_eq] at hL
  obtain ⟨⟨hlt, hc⟩, hrest⟩ := hL
  have hq : q.q.contains i = true := hq
  rw [if_pos hq] at hc
  simp only [Bool.or_eq_true, Bool.and_eq_true] at hc
  rw [List.length_cons, Nat.add_right_comm]
  have hyy : ∀ S' : World → Prop, YieldsIf P ops.toArray S' (ix ops i) v a := fun S' => by
    rcases hy with ⟨h1, h2⟩ | ⟨h1, h2⟩
    · refine .inl ⟨(wanted_eq ha _).trans h1, fun w' hw' => ?_⟩
      rw [ha.eval]; exact h2 w' trivial
    · exact .inr ⟨(wanted_eq ha _).trans h1, h2⟩
  rcases hc with ⟨⟨⟨hf, hr⟩, hk⟩, _⟩ | ⟨⟨hf, hr⟩, hb⟩
  · have hk : q.t.pv ≠ some i := by simpa using hk
    exact AnyT.one0 (ix_some hlt) (Region.noSelect_spec hs) (lift_hQ (by rw [hd]; exact hn)) hk _ L a w (Region.free_spec (ix_some hlt) hf) (by simpa using hr) (hyy _) (upTo_of hS) (h.out _ (ha.put1 hd hn v) _ hrest hs hS)
  · exact AnyT.one (ix_some hlt) (Region.noSelect_spec hs) (lift_hQ (by rw [hd]; exact hn)) _ L a w (Region.free_spec (ix_some hlt) hf) hb (by simpa using hr) (hyy _) hS (h.out _ (ha.put1 hd hn v) _ hrest hs hS)
/-- one that looks at memory -/
theorem WD.takeS (hq : q.contains i = true) (hbl : blind (ix ops i) = false) {d : Nat} (hd : (ix ops i).dst = some d) (hn : N.ok d = true) {v : Value} (hg : wants ops f (ix ops i) = true)
    (hy : ∀ w', S w' → (execOp (ev f) (ix ops i)).run P w' = .ok (.value v) w') (h : WD P N S ops q l (up f d v) w Q) : WD P N S ops q (i :: l) f w Q := by
  refine ⟨fun a ha L hL hs hS => ?_⟩
  unfold ordOk ordL at hL
  simp only [Bool.and_eq_true, decide_eq_true_eq] at hL
  obtain ⟨⟨hlt, hc⟩, hrest⟩ := hL
  have hq : q.q.contains i = true := hq
  rw [if_pos hq, ix_some hlt] at hc
  simp only [hbl, Bool.or_eq_true, Bool.and_eq_true, Bool.false_eq_true, and_false, false_or] at hc
  obtain ⟨⟨hf, hr⟩, hb⟩ := hc
  rw [List.length_cons, Nat.add_right_comm]
  refine AnyT.one (ix_some hlt) (Region.noSelect_spec hs) (lift_hQ (by rw [hd]; exact hn)) _ L a w (Region.free_spec (ix_some hlt) hf) hb (by simpa using hr) (.inl ⟨(wanted_eq ha _).trans hg, fun w' hw' => ?_⟩) hS (h.out _ (ha.put1 hd hn v) _ hrest hs hS)
  rw [ha.eval]; exact hy w' hw'

theorem WD.eff (hq : q.contains i = false) (h : ∀ a, Is a N f → ∀ K : Act → World → Prop, (∀ f' w' a', Is a' N f' → S w' → WD P N S ops q l f' w' Q → K a' w') → wpOp P ops.toArray (lift N Q) i K a w) :
    WD P N S ops q (i :: l) f w Q := by
  refine ⟨fun a ha L hL hs hS => ?_⟩
  unfold ordOk ordL at hL
  simp only [Bool.and_eq_true, decide_eq_true_eq] at hL
  obtain ⟨⟨hlt, hc⟩, hrest⟩ := hL
  have hq : q.q.contains i = false := hq
  rw [if_neg (by rw [hq]; exact Bool.false_ne_true)] at hc
  rw [List.length_cons, Nat.add_right_comm]
  have hr : Region.ready .any ops.toArray L = [i] := by simpa using hc
  refine AnyT.all hr (by simp) fun j hj => ?_
  obtain rfl : j = i := by simpa using hj
  exact h a ha _ fun f' w' a' ha' hS' hw' => ⟨upTo_of hS', hw'.out a' ha' _ hrest hs hS'⟩

theorem WDo.val (hi : Nat.blt i ops.length = true) (hg : wants ops f (ix ops i) = true) {d : Nat} (hd : (ix ops i).dst = some d) (hn : N.ok d = true) {v : Value} {w' : World}
    (hr : (execOp (ev f) (ix ops i)).run P w = .ok (.value v) w') (hS : S w') (h : WD P N S ops q l (up f d v) w' Q) : WDo P N S ops q i l f w Q := by
  refine ⟨fun a ha K hK => ?_⟩
  unfold Go.wpOp
  rw [ix_some (by simp only [List.size_toArray]; exact Nat.le_of_ble_eq_true hi)]
  simp only
  rw [if_pos ((wanted_eq ha _).trans hg)]
  refine .inl ?_
  simp only [Oper.wp, ha.eval, hr, Oper.upon]
  exact hK _ _ _ (ha.put1 hd hn v) hS h
theorem WDo.enter (hi : Nat.blt i ops.length = true) (hg : wants ops f (ix ops i) = true) {d : Nat} (hd : (ix ops i).dst = some d) (hn : N.ok d = true) {fid : FuncId} {args : Array Value} {w' : World}
    (hr : (execOp (ev f) (ix ops i)).run P w = .ok (.enter fid args) w') {R : Value → World → Prop} (hc : Calls P fid args w' fun e w'' => ∃ v, e = .returned v ∧ R v w'')
    (h : ∀ v w'', R v w'' → S w'' ∧ WD P N S ops q l (up f d v) w'' Q) : WDo P N S ops q i l f w Q := by
  refine ⟨fun a ha K hK => ?_⟩
  unfold Go.wpOp
  rw [ix_some (by simp only [List.size_toArray]; exact Nat.le_of_ble_eq_true hi)]
  simp only
  rw [if_pos ((wanted_eq ha _).trans hg)]
  refine .inl ?_
  simp only [Oper.wp, ha.eval, hr, Oper.upon]
  refine hc.mono fun e w'' he => ?_
  obtain ⟨v, rfl, hR⟩ := he
  obtain ⟨h1, h2⟩ := h v w'' hR
  exact hK _ _ _ (ha.put1 hd hn v) h1 h2
theorem WDo.unit0 (hi : Nat.blt i ops.length = true) (hg : wants ops f (ix ops i) = true) (hd : (ix ops i).dst = none) {w' : World}
    (hr : (execOp (ev f) (ix ops i)).run P w = .ok .skip w') (hS : S w') (h : WD P N S ops q l f w' Q) : WDo P N S ops q i l f w Q := by
  refine ⟨fun a ha K hK => ?_⟩
  unfold Go.wpOp
  rw [ix_some (by simp only [List.size_toArray]; exact Nat.le_of_ble_eq_true hi)]
  simp only
  rw [if_pos ((wanted_eq ha _).trans hg)]
  refine .inl ?_
  simp only [Oper.wp, ha.eval, hr, Oper.upon]
  exact hK _ _ _ (by rw [hd]; exact ha) hS h
theorem WD.val (hq : q.contains i = false) (hi : Nat.blt i ops.length = true) (hg : wants ops f (ix ops i) = true) {d : Nat} (hd : (ix ops i).dst = some d) (hn : N.ok d = true) {v : Value} {w' : World}
    (hr : (execOp (ev f) (ix ops i)).run P w = .ok (.value v) w') (hS : S w') (h : WD P N S ops q l (up f d v) w' Q) : WD P N S ops q (i :: l) f w Q := by
  refine .eff hq fun a ha K hK => ?_
  unfold Go.wpOp
  rw [ix_some (by simp only [List.size_toArray]; exact Nat.le_of_ble_eq_true hi)]
  simp only
  rw [if_pos ((wanted_eq ha _).trans hg)]
  refine .inl ?_
  simp only [Oper.wp, ha.eval, hr, Oper.upon]
  exact hK _ _ _ (ha.put1 hd hn v) hS h
theorem WD.unit0 (hq : q.contains i = false) (hi : Nat.blt i ops.length = true) (hg : wants ops f (ix ops i) = true) (hd : (ix ops i).dst = none) {w' : World}
    (hr : (execOp (ev f) (ix ops i)).run P w = .ok .skip w') (hS : S w') (h : WD P N S ops q l f w' Q) : WD P N S ops q (i :: l) f w Q := by
  refine .eff hq fun a ha K hK => ?_
  unfold Go.wpOp
  rw [ix_some (by simp only [List.size_toArray]; exact Nat.le_of_ble_eq_true hi)]
  simp only
  rw [if_pos ((wanted_eq ha _).trans hg)]
  refine .inl ?_
  simp only [Oper.wp, ha.eval, hr, Oper.upon]
  exact hK _ _ _ (by rw [hd]; exact ha) hS h
theorem WD.enter (hq : q.contains i = false) (hi : Nat.blt i ops.length = true) (hg : wants ops f (ix ops i) = true) {d : Nat} (hd : (ix ops i).dst = some d) (hn : N.ok d = true) {fid : FuncId} {args : Array Value} {w' : World}
    (hr : (execOp (ev f) (ix ops i)).run P w = .ok (.enter fid args) w') {R : Value → World → Prop} (hc : Calls P fid args w' fun e w'' => ∃ v, e = .returned v ∧ R v w'')
    (h : ∀ v w'', R v w'' → S w'' ∧ WD P N S ops q l (up f d v) w'' Q) : WD P N S ops q (i :: l) f w Q := by
  refine .eff hq fun a ha K hK => ?_
  unfold Go.wpOp
  rw [ix_some (by simp only [List.size_toArray]; exact Nat.le_of_ble_eq_true hi)]
  simp only
  rw [if_pos ((wanted_eq ha _).trans hg)]
  refine .inl ?_
  simp only [Oper.wp, ha.eval, hr, Oper.upon]
  refine hc.mono fun e w'' he => ?_
  obtain ⟨v, rfl, hR⟩ := he
  obtain ⟨h1, h2⟩ := h v w'' hR
  exact hK _ _ _ (ha.put1 hd hn v) h1 h2
/-- an effect whose guard says no -/
theorem WD.skip (hq : q.contains i = false) (hi : Nat.blt i ops.length = true) (hg : wants ops f (ix ops i) = false) {d : Nat} (hd : (ix ops i).dst = some d) (hn : N.ok d = true) (hS : S w)
    (h : WD P N S ops q l (up f d undef) w Q) : WD P N S ops q (i :: l) f w Q := by
  refine .eff hq fun a ha K hK => ?_
  unfold Go.wpOp
  rw [ix_some (by simp only [List.size_toArray]; exact Nat.le_of_ble_eq_true hi)]
  simp only
  rw [if_neg (by rw [wanted_eq ha _, hg]; exact Bool.false_ne_true)]
  exact hK _ _ _ (ha.put1 hd hn undef) hS h
theorem WD.split (t : Nat) {b : Bool} (ht : f t = .bool b) (h1 : b = true → WD P N S ops q l (up f t (.bool true)) w Q) (h2 : b = false → WD P N S ops q l (up f t (.bool false)) w Q) : WD P N S ops q l f w Q := by
  cases b with
  | true => have := h1 rfl; rwa [up_same ht] at this
  | false => have := h2 rfl; rwa [up_same ht] at this
theorem WD.wanted (_ : wants ops f (ix ops i) = true) (h : WD P N S ops q (i :: l) f w Q) : WD P N S ops q (i :: l) f w Q := h
theorem WD.guard {j t : Nat} {want b : Bool} (hg : (ix ops i).guard = some (j, want)) (hj : gslot ops j = some t) (ht : f t = .bool b)
    (h1 : b = true → WD P N S ops q (i :: l) (up f t (.bool true)) w Q) (h2 : b = false → WD P N S ops q (i :: l) (up f t (.bool false)) w Q) : WD P N S ops q (i :: l) f w Q := .split t ht h1 h2
end

/-! ## Functions -/
def funQ (P : Program) (rs : Array ResultVar) (fn : Func) (R : Ending → World → Prop) : Post
  | .normal, f, w => ∃ v, R (.returned v) w ∧ ∀ a, Is a fn.ntmps f → (results fn a.tmps).run P w = .ok v w
  | .ret, f, w => ∃ v, R (.returned v) w ∧ ∀ a, Is a fn.ntmps f → (results fn a.tmps).run P w = .ok v w
  | .panic c, _, w => R (.panicked c) w
  | _, _, _ => False

def fr0 (args : List Value) : Fr := fun i => match args[i]? with | some v => v | none => undef

theorem calls {P : Program} {fid : FuncId} {fn : Func} {c : Code} {args : List Value} {w : World} {R : Ending → World → Prop}
    (hf : P.funcs[fid]? = some fn) (hb : fn.body = some c) (hn : Nat.ble args.length fn.ntmps = true)
    (h : WC P fn.ntmps c (fr0 args) w (funQ P fn.results fn R)) : Calls P fid args.toArray w R := by
  refine calls_of_wp hf hb (wp_mono ((wpIn_wide (n := 0)).1 (h.out _ ⟨rfl, ?_, fun i hi => absurd hi (Nat.not_lt_zero _), ?_⟩)) fun e a w' hq => ?_)
  · have : args.length ≤ fn.ntmps := Nat.le_of_ble_eq_true hn
    simp; omega
  · intro i
    simp only [fr0, Array.getD_eq_getD_getElem?]
    rw [Array.getElem?_append]
    simp only [List.size_toArray, List.getElem?_toArray]
    by_cases hi : i < args.length
    · rw [if_pos hi]; simp [hi]
    · rw [if_neg hi]
      have : args[i]? = none := List.getElem?_eq_none (by omega)
      rw [this]
      simp only [Array.getElem?_replicate]
      split <;> rfl
  · cases e with
    | normal => obtain ⟨f, hf', v, hR, hv⟩ := hq; exact ⟨hf'.defers, v, hv a hf', hR⟩
    | ret => obtain ⟨f, hf', v, hR, hv⟩ := hq; exact ⟨hf'.defers, v, hv a hf', hR⟩
    | panic c => exact ⟨hq.1, hq.2.2⟩
    | exit i => obtain ⟨_, _, h⟩ := hq; exact h.elim
    | goto l => obtain ⟨_, _, h⟩ := hq; exact h.elim
    | outgrown => exact hq.elim

/-! ## Loops -/
def lk : List (Nat × Value) → Nat → Option Value
  | [], _ => none
  | (j, v) :: r, i => match Nat.beq i j with
    | true => some v
    | false => lk r i
def kp : List Nat → Nat → Bool
  | [], _ => false
  | j :: r, i => match Nat.beq i j with
    | true => true
    | false => kp r i
/-- the frame at a loop's head: the named slots, those that are kept, and whatever in the others -/
def lf (keep : List Nat) (lv : List (Nat × Value)) (f g : Fr) : Fr := fun i => match lk lv i with
  | some v => v
  | none => match kp keep i with
    | true => f i
    | false => g i
def agree (f' : Fr) : List (Nat × Value) → Prop
  | [] => True
  | (j, v) :: r => f' j = v ∧ agree f' r
def agreeK (f' f : Fr) : List Nat → Prop
  | [] => True
  | j :: r => f' j = f j ∧ agreeK f' f r
theorem agreeK_refl (f : Fr) : ∀ k, agreeK f f k
  | [] => trivial
  | _ :: r => ⟨rfl, agreeK_refl f r⟩
theorem agree_lk {f' : Fr} : ∀ {lv : List (Nat × Value)}, agree f' lv → ∀ i v, lk lv i = some v → f' i = v
  | (j, u) :: r, h, i, v, e => by
    unfold lk at e
    split at e
    · rename_i hb; rw [Nat.eq_of_beq_eq_true hb]; simp only [Option.some.injEq] at e; rw [h.1, e]
    · exact agree_lk h.2 i v e
theorem agreeK_kp {f' f : Fr} : ∀ {k : List Nat}, agreeK f' f k → ∀ i, kp k i = true → f' i = f i
  | j :: r, h, i, e => by
    unfold kp at e
    split at e
    · rename_i hb; rw [Nat.eq_of_beq_eq_true hb]; exact h.1
    · exact agreeK_kp h.2 i e
theorem lf_eq {keep : List Nat} {lv : List (Nat × Value)} {f f' : Fr} (h1 : agree f' lv) (h2 : agreeK f' f keep) : f' = lf keep lv f f' := by
  funext i
  unfold lf
  split
  · rename_i v e; exact agree_lk h1 i v e
  · split
    · rename_i e; exact agreeK_kp h2 i e
    · rfl

def rndQ {σ : Type} (keep : List Nat) (lv : σ → List (Nat × Value)) (I : σ → World → Prop) (μ : σ → Nat) (f : Fr) (s : σ) (Q : Post) : Post
  | .normal, f', w' => ∃ s', I s' w' ∧ μ s' < μ s ∧ agree f' (lv s') ∧ agreeK f' f keep
  | e, f', w' => Q e f' w'
section
variable {σ : Type} {keep : List Nat} {lv : σ → List (Nat × Value)} {I : σ → World → Prop} {μ : σ → Nat} {f f' : Fr} {s : σ} {Q : Post} {w : World}
theorem rndQ_x {i : Nat} (h : Q (.exit i) f' w) : rndQ keep lv I μ f s Q (.exit i) f' w := h
theorem rndQ_r (h : Q .ret f' w) : rndQ keep lv I μ f s Q .ret f' w := h
theorem rndQ_n (s' : σ) (h1 : I s' w) (h2 : μ s' < μ s) (h3 : agree f' (lv s')) (h4 : agreeK f' f keep) : rndQ keep lv I μ f s Q .normal f' w := ⟨s', h1, h2, h3, h4⟩
end

theorem wpIn_loop_ghost {F : Fence} {m : Nat} {P : Program} {Q : Exit → Act → World → Prop} {a : Act} {w : World} {c : Code} (I : Nat → Act → World → Prop) (n₀ : Nat) (h₀ : I n₀ a w)
    (round : ∀ n a w, I n a w → c.wpIn F m P (Exit.then (fun a' w' => ∃ n', n' < n ∧ I n' a' w') Q) a w) : (Code.loop c).wpIn F m P Q a w := by
  refine wpIn_loop (fun a w => ∃ n, I n a w) (fun a w => leastOf (fun n => I n a w)) ⟨n₀, h₀⟩ ?_
  intro a w hI
  refine wpIn_mono (round _ a w (leastOf_spec hI).1) ?_
  intro e a' w' hq
  cases e with
  | normal =>
    obtain ⟨n', hlt, hI'⟩ := hq
    exact show (∃ n, I n a' w') ∧ leastOf (fun n => I n a' w') < leastOf (fun n => I n a w) from ⟨⟨n', hI'⟩, Nat.lt_of_le_of_lt ((leastOf_spec ⟨n', hI'⟩).2 n' hI') hlt⟩
  | exit id => exact hq
  | goto l => exact hq
  | ret => exact hq
  | panic ch => exact hq
  | outgrown => exact hq
theorem WC.loop {P : Program} {N : Fz} {f : Fr} {w : World} {Q : Post} {c : Code} {σ : Type} (keep : List Nat) (lv : σ → List (Nat × Value)) (I : σ → World → Prop) (μ : σ → Nat) (s0 : σ)
    (h0 : I s0 w) (ha : agree f (lv s0))
    (hb : ∀ s g w, I s w → WC P N c (lf keep (lv s) f g) w (rndQ keep lv I μ f s Q)) : WC P N (.loop c) f w Q := by
  refine ⟨fun a hia => wpIn_loop_ghost (fun n a w => ∃ s g, I s w ∧ Is a N (lf keep (lv s) f g) ∧ μ s = n) (μ s0) ⟨s0, f, h0, ?_, rfl⟩ ?_⟩
  · have : f = lf keep (lv s0) f f := lf_eq ha (agreeK_refl f keep)
    rwa [← this]
  · rintro n a w ⟨s, g, hI, his, rfl⟩
    refine wpIn_mono ((hb s g w hI).out a his) fun e a' w' hq => ?_
    cases e with
    | normal =>
      obtain ⟨f', hf', s', h1, h2, h3, h4⟩ := hq
      refine ⟨μ s', h2, s', f', h1, ?_, rfl⟩
      rwa [← lf_eq h3 h4]
    | panic c => exact hq
    | exit i => exact hq
    | goto l => exact hq
    | ret => exact hq
    | outgrown => exact hq
/-- a loop of a known number of rounds -/
def rdQ (P : Program) (N : Fz) (c : Code) (Q : Post) : Nat → Post
  | 0, .normal, _, _ => False
  | n + 1, .normal, f, w => WC P N c f w (rdQ P N c Q n)
  | _, e, f, w => Q e f w
section
variable {P : Program} {N : Fz} {f : Fr} {w : World} {Q : Post} {c : Code} {n : Nat}
theorem WC.rounds (n : Nat) (h : WC P N c f w (rdQ P N c Q n)) : WC P N (.loop c) f w Q := by
  have key : ∀ n f w a, Is a N f → WC P N c f w (rdQ P N c Q n) → Code.roundsIn N.F 0 P c (lift N Q) (n + 1) a w := by
    intro n
    induction n with
    | zero =>
      intro f w a ha h
      refine wpIn_mono (h.out a ha) fun e a' w' hq => ?_
      cases e with
      | normal => obtain ⟨_, _, h⟩ := hq; exact h.elim
      | panic c => exact hq
      | exit i => exact hq
      | goto l => exact hq
      | ret => exact hq
      | outgrown => exact hq
    | succ n ih =>
      intro f w a ha h
      refine wpIn_mono (h.out a ha) fun e a' w' hq => ?_
      cases e with
      | normal => obtain ⟨f', h1, h2⟩ := hq; exact ih f' w' a' h1 h2
      | panic c => exact hq
      | exit i => exact hq
      | goto l => exact hq
      | ret => exact hq
      | outgrown => exact hq
  exact ⟨fun a ha => wpIn_loop_rounds (n + 1) (key n f w a ha h)⟩
theorem rdQ_n (h : WC P N c f w (rdQ P N c Q n)) : rdQ P N c Q (n + 1) .normal f w := h
theorem rdQ_x {i : Nat} (h : Q (.exit i) f w) : rdQ P N c Q n (.exit i) f w := by cases n <;> exact h
theorem rdQ_r (h : Q .ret f w) : rdQ P N c Q n .ret f w := by cases n <;> exact h
end
attribute [irreducible] seqQ blkQ rndQ funQ rdQ
end Go.J

/- What is proved: a function that reckons what an operation leaves where it does not look at memory, and that it is right of the machine's own. Conditions: none. -/
set_option linter.unusedSimpArgs false
set_option linter.unusedVariables false
namespace Go.J
open Go Go.RowKit

/-- a string by its letters -/
abbrev str (l : List UInt8) : Value := .string ⟨⟨l⟩⟩

def tyDesc (P : Program) (t : TypeId) : Option TypeDesc := P.underlying t
def tySize (P : Program) (t : TypeId) : Option Nat := match P.info? t with
  | some ⟨_, _, size, _, _, _, _, _, _, _⟩ => some size
  | none => none
def tyBytes (P : Program) (t : TypeId) : Option Nat := match P.info? t with
  | some ⟨_, _, _, bytes, _, _, _, _, _, _⟩ => some bytes
  | none => none
/-- is it a struct or an array? -/
def tyAgg (P : Program) (t : TypeId) : Option Bool := match P.underlying t with
  | some (.struct _) => some true
  | some (.array _ _) => some true
  | some _ => some false
  | none => none
/-- where a field lies -/
def fieldOff (P : Program) (t : TypeId) (i : Nat) : Option (Nat × TypeId) := match P.underlying t with
  | some (.struct ⟨fs⟩) => match fs[i]? with
    | some ⟨_, ty, off, _, _, _, _⟩ => match tySize P ty with
      | some 0 => none
      | some (_ + 1) => some (off, ty)
      | none => none
    | none => none
  | _ => none
def elemOf (P : Program) (t : TypeId) : Option (TypeId × Nat) := match P.underlying t with
  | some (.slice e) => match tySize P e with
    | some n => some (e, n)
    | none => none
  | _ => none
/-- a part of some cells -/
def partOf (P : Program) (ty : TypeId) (cs : List Value) (off : Nat) : Option Value := match tyAgg P ty, tySize P ty with
  | some true, some n => some (.agg ⟨(cs.drop off).take n⟩)
  | some false, _ => match cs[off]? with
    | some v => some v
    | none => none
  | _, _ => none

theorem beq_dec {α : Type} [DecidableEq α] [BEq α] [LawfulBEq α] (a b : α) : (a == b) = decide (a = b) := by
  by_cases h : a = b
  · simp [h]
  · simp [h]
def binV (op : BinOp) : Value → Value → Option Value
  | .int k a, .int k' b => match decide (k = k') with
    | false => none
    | true => match op with
      | .add => match k with
        | .i64 => none
        | k => some (.int k (k.wrap (a + b)))
      | .sub => match k with
        | .i64 => none
        | k => some (.int k (k.wrap (a - b)))
      | .mul => match k with
        | .i64 => none
        | k => some (.int k (k.wrap (a * b)))
      | .and => some (.int k (bits .and k a b))
      | .or => some (.int k (bits .or k a b))
      | .xor => some (.int k (bits .xor k a b))
      | .andNot => some (.int k (bits .andNot k a b))
      | .eql => some (.bool (decide (a = b)))
      | .neq => some (.bool (decide (a ≠ b)))
      | .lss => some (.bool (decide (a < b)))
      | .leq => some (.bool (decide (a ≤ b)))
      | .gtr => some (.bool (decide (a > b)))
      | .geq => some (.bool (decide (a ≥ b)))
      | _ => none
  | .string ⟨⟨a⟩⟩, .string ⟨⟨b⟩⟩ => match op with
    | .eql => some (.bool (decide (a = b)))
    | .neq => some (.bool (decide (a ≠ b)))
    | .lss => some (.bool (Op.bytesLess a b))
    | .leq => some (.bool (Op.bytesLess a b || a == b))
    | .gtr => some (.bool (!(Op.bytesLess a b || a == b)))
    | .geq => some (.bool (!Op.bytesLess a b))
    | _ => none
  | _, _ => none

/-- '==' and '!=' where one side is nil -/
def nilEq (P : Program) (t : TypeId) : Value → Value → Option Bool
  | .pointer a, .pointer none => match P.underlying t with
    | some (.pointer _) => match a with
      | none => some true
      | some _ => some false
    | _ => none
  | .slice a _ _, .slice none _ _ => match P.underlying t with
    | some (.slice _) => match a with
      | none => some true
      | some _ => some false
    | _ => none
  | .map a, .map none => match P.underlying t with
    | some (.map _ _) => match a with
      | none => some true
      | some _ => some false
    | _ => none
  | .nilFunc, .nilFunc => match P.underlying t with
    | some (.func _ _ _) => some true
    | _ => none
  | .func _ _ _, .nilFunc => match P.underlying t with
    | some (.func _ _ _) => some false
    | _ => none
  | .bool a, .bool b => match P.underlying t with
    | some .bool => some (a == b)
    | _ => none
  | _, _ => none
def nilV (P : Program) (op : BinOp) (t : TypeId) (a b : Value) : Option Value := match op with
  | .eql => match nilEq P t a b with
    | some r => some (.bool r)
    | none => none
  | .neq => match nilEq P t a b with
    | some r => some (.bool (!r))
    | none => none
  | _ => none
/-- a value whose form is known -/
def nfv : Value → Option Value
  | .bool b => some (.bool b)
  | .int k n => some (.int k n)
  | .float k b => some (.float k b)
  | .complex k a b => some (.complex k a b)
  | .string s => some (.string s)
  | .pointer a => some (.pointer a)
  | .slice a n c => some (.slice a n c)
  | .map r => some (.map r)
  | .chan r => some (.chan r)
  | .func a b c => some (.func a b c)
  | .nilFunc => some .nilFunc
  | .iface t v => some (.iface t v)
  | .nilIface => some .nilIface
  | .agg cs => some (.agg cs)
  | .tuple vs => some (.tuple vs)
theorem nfv_eq {v u : Value} (h : nfv v = some u) : u = v := by cases v <;> simp [nfv] at h <;> exact h.symm
def nfo : Option Value → Option Value
  | some v => nfv v
  | none => none
theorem nfo_eq {o : Option Value} {u : Value} (h : nfo o = some u) : o = some u := by
  cases o with
  | none => cases h
  | some v => rw [nfv_eq h]

def pureOp (P : Program) (ρ : Operand → Value) : Op → Option Value
  | .move x => some (ρ x)
  | .assign x => some (ρ x)
  | .pick c a b => match ρ c with
    | .bool true => some (ρ a)
    | .bool false => some (ρ b)
    | _ => none
  | .binOp op t x y _ => match binV op (ρ x) (ρ y) with
    | some v => some v
    | none => nilV P op t (ρ x) (ρ y)
  | .unOp .not _ x => match ρ x with
    | .bool b => some (.bool (!b))
    | _ => none
  | .unOp .neg _ x => match ρ x with
    | .int k n => some (.int k (k.wrap (0 - n)))
    | _ => none
  | .fieldAddr t x i => match fieldOff P t i with
    | some (off, _) => match ρ x with
      | .pointer (some ⟨b, o, none⟩) => some (.pointer (some ⟨b, o + off, none⟩))
      | _ => none
    | none => none
  | .field t x i => match fieldOff P t i with
    | some (off, ty) => match ρ x with
      | .agg ⟨cs⟩ => partOf P ty cs off
      | _ => none
    | none => none
  | .extract t i => match ρ t with
    | .tuple ⟨vs⟩ => match vs[i]? with
      | some v => some v
      | none => none
    | _ => none
  | .nilCheck x => match ρ x with
    | .pointer (some a) => some (.pointer (some a))
    | _ => none
  | .convert s d x => match P.underlying s with
    | some (.int _) => match P.underlying d with
      | some (.int .i64) => none
      | some (.int k) => match ρ x with
        | .int _ n => some (.int k (k.wrap n))
        | _ => none
      | _ => none
    | some .string => match P.underlying d with
      | some .string => match ρ x with
        | .string s => some (.string s)
        | _ => none
      | _ => none
    | _ => none
  | .call ⟨.builtin .len, ⟨[x]⟩, ⟨[t]⟩⟩ => match P.underlying t with
    | some .string => match ρ x with
      | .string ⟨⟨s⟩⟩ => some (.int .i64 (s.length : Int))
      | _ => none
    | some (.slice _) => match ρ x with
      | .slice _ n _ => some (.int .i64 (n : Int))
      | _ => none
    | some (.array n _) => some (.int .i64 (n : Int))
    | _ => none
  | .makeFunc fn ⟨first⟩ ⟨cap⟩ => some (.func fn ⟨first.map ρ⟩ ⟨cap.map ρ⟩)
  | _ => none

theorem toList_mk (l : List UInt8) : (ByteArray.mk ⟨l⟩).toList = l := Lib.toList_data _
theorem size_mk (l : List UInt8) : (ByteArray.mk ⟨l⟩).size = l.length := rfl

theorem run_under {P : Program} {t : TypeId} {d : TypeDesc} (h : P.underlying t = some d) (w : World) : (underlying t).run P w = .ok d w := run_underlying h w
theorem run_sizeOf {P : Program} {t : TypeId} {n : Nat} (h : tySize P t = some n) (w : World) : (sizeOf t).run P w = .ok n w := by
  unfold tySize at h
  cases hi : P.info? t with
  | none => simp [hi] at h
  | some i => simp only [hi, Option.some.injEq] at h; simp [sizeOf, typeInfo, hi, h]
theorem run_isAgg {P : Program} {t : TypeId} {b : Bool} (h : tyAgg P t = some b) (w : World) : (isAgg t).run P w = .ok b w := by
  unfold tyAgg at h
  cases hu : P.underlying t with
  | none => simp [hu] at h
  | some d =>
    unfold isAgg
    rw [Sem.run_bind, run_underlying hu w]
    cases d <;> simp_all
theorem run_part {P : Program} {ty : TypeId} {cs : List Value} {off : Nat} {v : Value} (h : partOf P ty cs off = some v) (w : World) : (part ty ⟨cs⟩ off).run P w = .ok v w := by
  unfold partOf at h
  split at h
  · rename_i n hb hn
    simp only [Option.some.injEq] at h
    subst h
    simp [part, Sem.run_bind, run_isAgg hb, run_sizeOf hn]
  · rename_i hb
    split at h
    · rename_i u hu
      simp only [Option.some.injEq] at h
      subst h
      simp [part, Sem.run_bind, run_isAgg hb, hu]
    · cases h
  · cases h

theorem run_binV {P : Program} {op : BinOp} {t : TypeId} {a b v : Value} (h : binV op a b = some v) (w : World) : (binOp op t a b).run P w = .ok v w := by
  unfold binV at h
  split at h
  · rename_i k a k' b
    split at h
    · cases h
    · rename_i hk
      have hk : k = k' := by simpa using hk
      subst hk
      cases op <;> (try simp only [Option.some.injEq, reduceCtorEq] at h) <;> (try (split at h <;> (try simp only [Option.some.injEq, reduceCtorEq] at h))) <;> subst h <;> simp [binOp, Op.intArith, Op.intBits, Op.intCmp, bits, bne, beq_dec]
  · rename_i a b
    cases op <;> simp only [Option.some.injEq, reduceCtorEq] at h <;> subst h <;> simp [binOp, Op.stringOp, toList_mk, beq_dec]
  · cases h

theorem run_arith {P : Program} {t : TypeId} {x y : Operand} {k : IntKind} {a b : Int} (w : World) :
    (eqGuard .add t x y (.int k a) (.int k b)).run P w = .ok () w ∧ (binOp .add t (.int k a) (.int k b)).run P w = .ok (.int k (k.wrap (a + b))) w ∧
    (eqGuard .sub t x y (.int k a) (.int k b)).run P w = .ok () w ∧ (binOp .sub t (.int k a) (.int k b)).run P w = .ok (.int k (k.wrap (a - b))) w ∧
    (eqGuard .mul t x y (.int k a) (.int k b)).run P w = .ok () w ∧ (binOp .mul t (.int k a) (.int k b)).run P w = .ok (.int k (k.wrap (a * b))) w := by
  simp [eqGuard, binOp, Op.intArith]
theorem run_eqGuard {P : Program} {op : BinOp} {t : TypeId} {x y : Operand} {a b v : Value} (h : binV op a b = some v) (w : World) : (eqGuard op t x y a b).run P w = .ok () w := by
  unfold binV at h
  split at h
  · unfold eqGuard; cases op <;> simp
  · unfold eqGuard; cases op <;> simp
  · cases h

theorem run_nilEq {P : Program} {t : TypeId} {a b : Value} {r : Bool} (h : nilEq P t a b = some r) (w : World) (d : Nat) : (Op.equalIn (d + 1) t a b).run P w = .ok r w := by
  unfold nilEq at h
  split at h
  · rename_i a
    split at h
    · rename_i hu
      cases a <;> simp only [Option.some.injEq] at h <;> subst h <;> (unfold Op.equalIn; simp only [Sem.run_bind, run_underlying hu, Result.andThen_ok]; rfl)
    · cases h
  · rename_i a _ _ _ _
    split at h
    · rename_i hu
      cases a <;> simp only [Option.some.injEq] at h <;> subst h <;> (unfold Op.equalIn; simp only [Sem.run_bind, run_underlying hu, Result.andThen_ok]; rfl)
    · cases h
  · rename_i a
    split at h
    · rename_i hu
      cases a <;> simp only [Option.some.injEq] at h <;> subst h <;> (unfold Op.equalIn; simp only [Sem.run_bind, run_underlying hu, Result.andThen_ok]; rfl)
    · cases h
  · split at h
    · rename_i hu
      simp only [Option.some.injEq] at h; subst h
      unfold Op.equalIn; simp only [Sem.run_bind, run_underlying hu, Result.andThen_ok]; rfl
    · cases h
  · split at h
    · rename_i hu
      simp only [Option.some.injEq] at h; subst h
      unfold Op.equalIn; simp only [Sem.run_bind, run_underlying hu, Result.andThen_ok]; rfl
    · cases h
  · split at h
    · rename_i hu
      simp only [Option.some.injEq] at h; subst h
      unfold Op.equalIn; simp only [Sem.run_bind, run_underlying hu, Result.andThen_ok]; rfl
    · cases h
  · cases h
theorem nilEq_form {P : Program} {t : TypeId} {a b : Value} {r : Bool} (h : nilEq P t a b = some r) :
    (∃ x, a = .pointer x ∧ b = .pointer none) ∨ (∃ x n c n' c', a = .slice x n c ∧ b = .slice none n' c') ∨ (∃ x, a = .map x ∧ b = .map none) ∨ (a = .nilFunc ∧ b = .nilFunc) ∨ (∃ x y z, a = .func x y z ∧ b = .nilFunc) ∨ (∃ x y, a = .bool x ∧ b = .bool y) := by
  unfold nilEq at h
  split at h
  · exact .inl ⟨_, rfl, rfl⟩
  · exact .inr (.inl ⟨_, _, _, _, _, rfl, rfl⟩)
  · exact .inr (.inr (.inl ⟨_, rfl, rfl⟩))
  · exact .inr (.inr (.inr (.inl ⟨rfl, rfl⟩)))
  · exact .inr (.inr (.inr (.inr (.inl ⟨_, _, _, rfl, rfl⟩))))
  · exact .inr (.inr (.inr (.inr (.inr ⟨_, _, rfl, rfl⟩))))
  · cases h
theorem run_eql_of {P : Program} {t : TypeId} {a b : Value} {r : Bool} {w : World} (h : (Op.equal t a b).run P w = .ok r w) (hf : (binOp .eql t a b) = (do pure (.bool (← Op.equal t a b))) ∧ (binOp .neq t a b) = (do pure (.bool (!(← Op.equal t a b))))) :
    (binOp .eql t a b).run P w = .ok (.bool r) w ∧ (binOp .neq t a b).run P w = .ok (.bool (!r)) w := by
  rw [hf.1, hf.2]
  simp only [Sem.run_bind, h, Result.andThen_ok]
  exact ⟨rfl, rfl⟩
theorem run_nilGuard {P : Program} {op : BinOp} {t : TypeId} {x y : Operand} {a b v : Value} (h : nilV P op t a b = some v) (w : World) : (eqGuard op t x y a b).run P w = .ok () w := by
  unfold nilV at h
  split at h <;> (try split at h) <;> (try simp only [Option.some.injEq, reduceCtorEq] at h)
  all_goals
    rename_i r hr
    unfold eqGuard
    rcases nilEq_form hr with ⟨x, rfl, rfl⟩ | ⟨x, n, c, n', c', rfl, rfl⟩ | ⟨x, rfl, rfl⟩ | ⟨rfl, rfl⟩ | ⟨x, y, z, rfl, rfl⟩ | ⟨x, y, rfl, rfl⟩ <;> rfl
theorem run_nilV {P : Program} {op : BinOp} {t : TypeId} {a b v : Value} (h : nilV P op t a b = some v) (w : World) : (binOp op t a b).run P w = .ok v w := by
  have key : ∀ r, nilEq P t a b = some r → (binOp .eql t a b).run P w = .ok (.bool r) w ∧ (binOp .neq t a b).run P w = .ok (.bool (!r)) w := fun r hr => by
    refine run_eql_of (run_nilEq hr w 9999) ?_
    rcases nilEq_form hr with ⟨x, rfl, rfl⟩ | ⟨x, n, c, n', c', rfl, rfl⟩ | ⟨x, rfl, rfl⟩ | ⟨rfl, rfl⟩ | ⟨x, y, z, rfl, rfl⟩ | ⟨x, y, rfl, rfl⟩ <;> exact ⟨rfl, rfl⟩
  unfold nilV at h
  split at h <;> (try split at h) <;> (try simp only [Option.some.injEq, reduceCtorEq] at h)
  · rename_i r hr; subst h; exact (key r hr).1
  · rename_i r hr; subst h; exact (key r hr).2
theorem run_fieldAt {P : Program} {t : TypeId} {i off b o : Nat} {ty : TypeId} (h : fieldOff P t i = some (off, ty)) (w : World) :
    (Instr.fieldAt t (.pointer (some ⟨b, o, none⟩)) i).run P w = .ok (.pointer (some ⟨b, o + off, none⟩)) w := by
  unfold fieldOff at h
  split at h
  · rename_i fs hu
    split at h
    · rename_i nm ty' off' em tg pk bo hf
      split at h
      · cases h
      · rename_i n hn
        simp only [Option.some.injEq, Prod.mk.injEq] at h
        obtain ⟨rfl, rfl⟩ := h
        have hs := fun w => run_sizeOf (P := P) hn w
        simp [Instr.fieldAt, Sem.run_bind, run_underlying hu, hf, Instr.sureAddr, fieldPlace, hs, Addr.add_mid]
      · cases h
    · cases h
  · cases h
theorem run_field {P : Program} {t : TypeId} {i off : Nat} {ty : TypeId} {cs : List Value} {v : Value} (h : fieldOff P t i = some (off, ty)) (hp : partOf P ty cs off = some v) (w : World) :
    (Instr.field t (.agg ⟨cs⟩) i).run P w = .ok v w := by
  unfold fieldOff at h
  split at h
  · rename_i fs hu
    split at h
    · rename_i nm ty' off' em tg pk bo hf
      split at h
      · cases h
      · rename_i n hn
        simp only [Option.some.injEq, Prod.mk.injEq] at h
        obtain ⟨rfl, rfl⟩ := h
        simp [Instr.field, Sem.run_bind, run_underlying hu, hf, asAgg, run_part hp]
      · cases h
    · cases h
  · cases h

theorem pure_sound {P : Program} {ρ : Operand → Value} {o : Oper} {v : Value} (h : pureOp P ρ o.op = some v) (w : World) : (execOp ρ o).run P w = .ok (.value v) w := by
  obtain ⟨dst, op, type, pos, after, guard⟩ := o
  simp only at h
  unfold pureOp at h
  split at h
  · simp only [Option.some.injEq] at h; subst h; simp [execOp]
  · simp only [Option.some.injEq] at h; subst h; simp [execOp]
  · split at h
    · rename_i hc; simp only [Option.some.injEq] at h; subst h; simp [execOp, hc, asBool]
    · rename_i hc; simp only [Option.some.injEq] at h; subst h; simp [execOp, hc, asBool]
    · cases h
  · split at h
    · rename_i h'
      simp only [Option.some.injEq] at h; subst h
      simp [execOp, Sem.run_bind, run_eqGuard h', run_binV h']
    · have hr := run_nilV h w
      have hgd : ∀ x y, (eqGuard _ _ x y _ _).run P w = .ok () w := fun x y => run_nilGuard (x := x) (y := y) h w
      simp [execOp, Sem.run_bind, hgd, hr]
  · split at h
    · rename_i hc; simp only [Option.some.injEq] at h; subst h; simp [execOp, hc, Op.unary]
    · cases h
  · split at h
    · rename_i hc; simp only [Option.some.injEq] at h; subst h; simp [execOp, hc, Op.unary, Op.intArith]
    · cases h
  · split at h
    · rename_i hf
      split at h
      · rename_i hx; simp only [Option.some.injEq] at h; subst h; simp [execOp, hx, run_fieldAt hf]
      · cases h
    · cases h
  · split at h
    · rename_i hf
      split at h
      · rename_i hx; simp [execOp, hx, run_field hf h]
      · cases h
    · cases h
  · split at h
    · rename_i hx
      split at h
      · rename_i hv; simp only [Option.some.injEq] at h; subst h; simp [execOp, hx, Instr.extract, hv]
      · cases h
    · cases h
  · split at h
    · rename_i hx; simp only [Option.some.injEq] at h; subst h; simp [execOp, hx]
    · cases h
  · split at h
    · rename_i hs
      split at h
      · cases h
      · rename_i hd
        split at h
        · rename_i hx; simp only [Option.some.injEq] at h; subst h; simp [execOp, hx, convert, run_underlying hs, run_underlying hd, Conv.intToInt]
        · cases h
      · cases h
    · rename_i hs
      split at h
      · rename_i hd
        split at h
        · rename_i hx; simp only [Option.some.injEq] at h; subst h; simp [execOp, hx, convert, run_underlying hs, run_underlying hd]
        · cases h
      · cases h
    · cases h
  · split at h
    · rename_i ht
      split at h
      · rename_i hx; simp only [Option.some.injEq] at h; subst h; simp [execOp, resolve, invoke, builtin, Builtin.len_, hx, run_underlying ht, goInt, size_mk]
      · cases h
    · rename_i ht
      split at h
      · rename_i hx; simp only [Option.some.injEq] at h; subst h; simp [execOp, resolve, invoke, builtin, Builtin.len_, hx, run_underlying ht, goInt]
      · cases h
    · rename_i ht; simp only [Option.some.injEq] at h; subst h; simp [execOp, resolve, invoke, builtin, Builtin.len_, run_underlying ht, goInt]
    · cases h
  · simp only [Option.some.injEq] at h; subst h; simp [execOp, Instr.makeFunc]
  · cases h

/-- .. its form known -/
def pureV (P : Program) (ρ : Operand → Value) (op : Op) : Option Value := nfo (pureOp P ρ op)
theorem pureV_sound {P : Program} {ρ : Operand → Value} {o : Oper} {v : Value} (h : pureV P ρ o.op = some v) (w : World) : (execOp ρ o).run P w = .ok (.value v) w :=
  pure_sound (nfo_eq h) w
end Go.J

/- What is proved: what is known of memory during a walk (chunks that the call owns, snapshots that stay), and how each operation on memory turns it. Conditions: as each rule names them. -/
set_option linter.unusedSimpArgs false
set_option linter.unusedVariables false
namespace Go.J
open Go Go.RowKit

/-- w' is w but for the blocks 'fp' and for new ones -/
structure Upd (fp : List Nat) (w w' : World) : Prop where
  os : w'.os = w.os
  tape : w'.tape = w.tape
  output : w'.output = w.output
  size : w.heap.size ≤ w'.heap.size
  block : ∀ b, b < w.heap.size → b ∉ fp → w'.heap[b]? = w.heap[b]?

theorem Upd.refl (fp : List Nat) (w : World) : Upd fp w w := ⟨rfl, rfl, rfl, Nat.le_refl _, fun _ _ _ => rfl⟩
theorem Upd.trans {fp : List Nat} {a b c : World} (h : Upd fp a b) (k : Upd fp b c) : Upd fp a c :=
  ⟨k.os.trans h.os, k.tape.trans h.tape, k.output.trans h.output, Nat.le_trans h.size k.size, fun i hi hn => (k.block i (Nat.lt_of_lt_of_le hi h.size) hn).trans (h.block i hi hn)⟩
theorem Upd.mono {fp fp' : List Nat} {w w' : World} (h : Upd fp w w') (hs : ∀ b ∈ fp, b ∈ fp') : Upd fp' w w' :=
  ⟨h.os, h.tape, h.output, h.size, fun b hb hn => h.block b hb fun hm => hn (hs b hm)⟩
theorem Upd.drew (fp : List Nat) (w : World) : Upd fp w w.drew := ⟨rfl, rfl, rfl, Nat.le_refl _, fun _ _ _ => rfl⟩
theorem Upd.alloc (fp : List Nat) (w : World) (o : Obj) : Upd fp w (w.alloc o) := ⟨rfl, rfl, rfl, by simp, fun b hb _ => Below.heap_alloc w o b hb⟩
theorem Upd.below {w w' : World} (h : Upd [] w w') : Below w.heap.size w w' := ⟨h.os, h.tape, h.output, h.size, fun k hk => h.block k hk (by simp)⟩
theorem Upd.of_below {w w' : World} (h : Below w.heap.size w w') : Upd [] w w' := ⟨h.os, h.tape, h.output, h.size, fun k hk _ => h.block k hk⟩

/-- all blocks that are there -/
def Old (w : World) : Nat → Prop := fun b => b < w.heap.size

/-- a row of n elements that a slice value owns, from its place on to the end of its room -/
def RowAt (w : World) (e : TypeId) (size : Nat) (v : Value) (n : Nat) (xs : List Value) : Prop :=
  xs.length = n * size ∧ ((v = .slice none 0 0 ∧ n = 0) ∨ ∃ g off cap cur, v = .slice (some ⟨g, off, none⟩) n cap ∧ w.heap[g]? = some (.cells ⟨cur⟩ e (0, 0)) ∧ n ≤ cap ∧ cap ≤ maxLen ∧ off + cap * size ≤ cur.length ∧ (cur.drop off).take (n * size) = xs)
theorem RowAt.of_owns {w : World} {base : Nat} {e : TypeId} {size : Nat} {v : Value} {n : Nat} {xs : List Value} (h : w.ownsRow base e size v n xs) : RowAt w e size v n xs := by
  obtain ⟨h1, h2⟩ := h
  refine ⟨h1, ?_⟩
  rcases h2 with h2 | ⟨g, cap, cur, rfl, hb, hh, hn, hc, hs, ht⟩
  · exact .inl h2
  · exact .inr ⟨g, 0, cap, cur.toList, rfl, hh, hn, hc, by simp; omega, by simpa using ht⟩
theorem RowAt.cells {w : World} {e : TypeId} {size n n' cap g off : Nat} {xs : List Value} (h : RowAt w e size (.slice (some ⟨g, off, none⟩) n cap) n' xs) : ∀ j u, xs[j]? = some u → w.cell? ⟨g, off + j, none⟩ = some u := by
  intro j u hu
  rcases h.2 with ⟨h0, _⟩ | ⟨g', off', cap', cur, h0, hh, hn, hc, hs, ht⟩
  · cases h0
  · simp only [Value.slice.injEq, Option.some.injEq, Addr.mk.injEq, and_true] at h0
    obtain ⟨⟨rfl, rfl⟩, rfl, rfl⟩ := h0
    rw [cell_of_row w g (off + j) ⟨cur⟩ e (0, 0) hh]
    rw [← ht, List.getElem?_take] at hu
    split at hu
    · rw [List.getElem?_drop] at hu; simpa using hu
    · cases hu

structure Snap where
  w : World
  F : Nat → Prop

inductive Chunk where
  | box (b : Nat) (t : TypeId) (cs : List Value)
  | own (v : Value) (e : TypeId) (size n : Nat) (xs : List Value)
  | obj (fp : List Nat) (p : World → Prop)

def Chunk.fp : Chunk → List Nat
  | .box b _ _ => [b]
  | .own v _ _ _ _ => v.ownBlock.toList
  | .obj fp _ => fp
def Local (fp : List Nat) (p : World → Prop) : Prop := ∀ w w' : World, (∀ b ∈ fp, w'.heap[b]? = w.heap[b]?) → p w → p w'
def Chunk.holds : Chunk → World → Prop
  | .box b t cs, w => w.heap[b]? = some (.cells ⟨cs⟩ t (0, 0))
  | .own v e size n xs, w => RowAt w e size v n xs
  | .obj fp p, w => p w ∧ Local fp p

theorem Chunk.keep {c : Chunk} {w w' : World} (h : c.holds w) (hs : ∀ b ∈ c.fp, w'.heap[b]? = w.heap[b]?) : c.holds w' := by
  cases c with
  | box b t cs => exact (hs b (by simp [Chunk.fp])).trans h
  | own v e size n xs =>
    obtain ⟨h1, h2⟩ := h
    refine ⟨h1, ?_⟩
    rcases h2 with h2 | ⟨g, off, cap, cur, rfl, hh, r⟩
    · exact .inl h2
    · exact .inr ⟨g, off, cap, cur, rfl, (hs g (by simp [Chunk.fp, Value.ownBlock])).trans hh, r⟩
  | obj fp p => exact ⟨h.2 w w' hs h.1, h.2⟩

def Chunk.apart (c d : Chunk) : Prop := ∀ b ∈ c.fp, b ∉ d.fp
theorem Chunk.apart_symm {c d : Chunk} (h : c.apart d) : d.apart c := fun b h1 h2 => h b h2 h1

structure St (w0 : World) (M : List Nat) (w : World) (H : List Chunk) (Z : List Snap) : Prop where
  upd : Upd M w0 w
  holds : ∀ c ∈ H, c.holds w
  inb : ∀ c ∈ H, ∀ b ∈ c.fp, b < w.heap.size ∧ (w0.heap.size ≤ b ∨ b ∈ M)
  disj : H.Pairwise Chunk.apart
  snap : ∀ z ∈ Z, ∀ b, z.F b → b < w.heap.size ∧ w.heap[b]? = z.w.heap[b]? ∧ ∀ c ∈ H, b ∉ c.fp

inductive Repl (c c' : Chunk) : List Chunk → List Chunk → Prop where
  | here {r : List Chunk} : Repl c c' (c :: r) (c' :: r)
  | there {d : Chunk} {r r' : List Chunk} : Repl c c' r r' → Repl c c' (d :: r) (d :: r')

section
variable {w0 w w' : World} {M : List Nat} {H H' : List Chunk} {Z : List Snap} {c c' : Chunk}

theorem Repl.mem (h : Repl c c' H H') : c ∈ H := by induction h with | here => simp | there _ ih => simp [ih]
theorem Repl.mem' (h : Repl c c' H H') : ∀ d ∈ H', d = c' ∨ d ∈ H := by
  induction h with
  | here => intro d hd; simp at hd; rcases hd with rfl | hd <;> simp [*]
  | there _ ih =>
    intro d hd
    simp only [List.mem_cons] at hd
    rcases hd with rfl | hd
    · simp
    · rcases ih d hd with h | h <;> simp [h]
theorem Repl.pairwise (h : Repl c c' H H') (hp : H.Pairwise Chunk.apart) (hc : ∀ d ∈ H, c.apart d → c'.apart d) : H'.Pairwise Chunk.apart := by
  induction h with
  | here =>
    rw [List.pairwise_cons] at hp ⊢
    exact ⟨fun d hd => hc d (by simp [hd]) (hp.1 d hd), hp.2⟩
  | @there d r r' h' ih =>
    rw [List.pairwise_cons] at hp ⊢
    refine ⟨fun e he => ?_, ih hp.2 fun e he => hc e (by simp [he])⟩
    rcases h'.mem' e he with rfl | he
    · exact Chunk.apart_symm (hc d (by simp) (Chunk.apart_symm (hp.1 c h'.mem)))
    · exact hp.1 e he
/-- the others are as they were -/
theorem Repl.others (h : Repl c c' H H') (hp : H.Pairwise Chunk.apart) : ∀ d ∈ H', d = c' ∨ (d ∈ H ∧ c.apart d) := by
  induction h with
  | here =>
    rw [List.pairwise_cons] at hp
    intro d hd; simp at hd
    rcases hd with rfl | hd
    · exact .inl rfl
    · exact .inr ⟨by simp [hd], hp.1 d hd⟩
  | @there d r r' h' ih =>
    rw [List.pairwise_cons] at hp
    intro e he
    simp only [List.mem_cons] at he
    rcases he with rfl | he
    · exact .inr ⟨by simp, Chunk.apart_symm (hp.1 c h'.mem)⟩
    · rcases ih hp.2 e he with h1 | ⟨h1, h2⟩
      · exact .inl h1
      · exact .inr ⟨by simp [h1], h2⟩

theorem St.init (w : World) : St w [] w [] [⟨w, Old w⟩] :=
  ⟨.refl _ _, by simp, by simp, .nil, fun z hz b hb => by simp at hz; subst hz; exact ⟨hb, rfl, by simp⟩⟩

theorem St.upd0 (h : St w0 M w H Z) (hu : Upd [] w w') : St w0 M w' H Z where
  upd := h.upd.trans (hu.mono (by simp))
  holds := fun c hc => Chunk.keep (h.holds c hc) fun b hb => hu.block b (h.inb c hc b hb).1 (by simp)
  inb := fun c hc b hb => ⟨Nat.lt_of_lt_of_le (h.inb c hc b hb).1 hu.size, (h.inb c hc b hb).2⟩
  disj := h.disj
  snap := fun z hz b hb => by
    obtain ⟨h1, h2, h3⟩ := h.snap z hz b hb
    exact ⟨Nat.lt_of_lt_of_le h1 hu.size, (hu.block b h1 (by simp)).trans h2, h3⟩
theorem St.drew (h : St w0 M w H Z) : St w0 M w.drew H Z := h.upd0 (.drew _ _)

/-- a snapshot of what is new -/
def fresh (w w' : World) : Nat → Prop := fun b => w.heap.size ≤ b ∧ b < w'.heap.size
theorem St.fresh (h : St w0 M w H Z) (hu : Upd [] w w') : St w0 M w' H (⟨w', fresh w w'⟩ :: Z) :=
  let h' := h.upd0 hu
  ⟨h'.upd, h'.holds, h'.inb, h'.disj, fun z hz b hb => by
      rcases List.mem_cons.1 hz with rfl | hz
      · exact ⟨hb.2, rfl, fun c hc hm => by have := (h.inb c hc b hm).1; have := hb.1; omega⟩
      · exact h'.snap z hz b hb⟩

theorem St.push (h : St w0 M w H Z) (hu : Upd [] w w') (hc : c.holds w') (hf : ∀ b ∈ c.fp, w.heap.size ≤ b ∧ b < w'.heap.size) : St w0 M w' (c :: H) Z :=
  let h' := h.upd0 hu
  { upd := h'.upd
    holds := fun d hd => by
      rcases List.mem_cons.1 hd with rfl | hd
      · exact hc
      · exact h'.holds d hd
    inb := fun d hd b hb => by
      rcases List.mem_cons.1 hd with rfl | hd
      · exact ⟨(hf b hb).2, .inl (Nat.le_trans h.upd.size (hf b hb).1)⟩
      · exact h'.inb d hd b hb
    disj := List.pairwise_cons.2 ⟨fun d hd b hb hm => by have := (hf b hb).1; have := (h.inb d hd b hm).1; omega, h.disj⟩
    snap := fun z hz b hb => by
      obtain ⟨h1, h2, h3⟩ := h'.snap z hz b hb
      refine ⟨h1, h2, fun d hd => ?_⟩
      rcases List.mem_cons.1 hd with rfl | hd
      · intro hm
        have := (hf b hm).1
        have := (h.snap z hz b hb).1
        omega
      · exact h3 d hd }

theorem St.step (h : St w0 M w H Z) (hr : Repl c c' H H') (hu : Upd c.fp w w') (hc : c'.holds w') (hf : ∀ b ∈ c'.fp, b ∈ c.fp ∨ (w.heap.size ≤ b ∧ b < w'.heap.size)) : St w0 M w' H' Z := by
  have ho := hr.others h.disj
  have hcm := hr.mem
  refine ⟨?_, ?_, ?_, ?_, ?_⟩
  · exact ⟨hu.os.trans h.upd.os, hu.tape.trans h.upd.tape, hu.output.trans h.upd.output, Nat.le_trans h.upd.size hu.size, fun b hb hn => by
      have hn' : b ∉ c.fp := fun hm => by
        rcases (h.inb c hcm b hm).2 with h1 | h1
        · omega
        · exact hn h1
      exact (hu.block b (Nat.lt_of_lt_of_le hb h.upd.size) hn').trans (h.upd.block b hb hn)⟩
  · intro d hd
    rcases ho d hd with rfl | ⟨hd, ha⟩
    · exact hc
    · exact Chunk.keep (h.holds d hd) fun b hb => hu.block b (h.inb d hd b hb).1 (Chunk.apart_symm ha b hb)
  · intro d hd b hb
    rcases ho d hd with rfl | ⟨hd, _⟩
    · rcases hf b hb with h1 | h1
      · exact ⟨Nat.lt_of_lt_of_le (h.inb c hcm b h1).1 hu.size, (h.inb c hcm b h1).2⟩
      · exact ⟨h1.2, .inl (Nat.le_trans h.upd.size h1.1)⟩
    · exact ⟨Nat.lt_of_lt_of_le (h.inb d hd b hb).1 hu.size, (h.inb d hd b hb).2⟩
  · refine hr.pairwise h.disj fun d hd ha b hb hm => ?_
    rcases hf b hb with h1 | h1
    · exact ha b h1 hm
    · have := (h.inb d hd b hm).1; omega
  · intro z hz b hb
    obtain ⟨h1, h2, h3⟩ := h.snap z hz b hb
    refine ⟨Nat.lt_of_lt_of_le h1 hu.size, (hu.block b h1 (h3 c hcm)).trans h2, fun d hd hm => ?_⟩
    rcases ho d hd with rfl | ⟨hd, _⟩
    · rcases hf b hm with h4 | h4
      · exact h3 c hcm h4
      · omega
    · exact h3 d hd hm

theorem St.drop (h : St w0 M w (c :: H) Z) : St w0 M w H Z where
  upd := h.upd
  holds := fun d hd => h.holds d (by simp [hd])
  inb := fun d hd => h.inb d (by simp [hd])
  disj := (List.pairwise_cons.1 h.disj).2
  snap := fun z hz b hb => by
    obtain ⟨h1, h2, h3⟩ := h.snap z hz b hb
    exact ⟨h1, h2, fun d hd => h3 d (by simp [hd])⟩
end
end Go.J

/- What is proved: the walk's rules for operations on memory, over chunks and snapshots. Conditions: as each rule names them. -/
set_option linter.unusedSimpArgs false
set_option linter.unusedVariables false
namespace Go.J
open Go Go.RowKit

/-! ## Cells of a value -/
def cellsL : Value → List Value
  | .agg ⟨cs⟩ => cs
  | v => [v]
def cellsO : Value → Option (List Value)
  | .agg ⟨cs⟩ => some cs
  | v => match nfv v with
    | some u => some [u]
    | none => none
theorem cellsO_eq {v : Value} {cs : List Value} (h : cellsO v = some cs) : cellsL v = cs := by
  cases v <;> simp [cellsO, nfv, cellsL] at h ⊢ <;> exact h
theorem cellsL_eq (v : Value) : v.cells.toList = cellsL v := by cases v <;> simp [Value.cells, cellsL]
theorem cells_mk (v : Value) : v.cells = ⟨cellsL v⟩ := by cases v <;> simp [Value.cells, cellsL]
def tyZero (P : Program) (t : TypeId) : Option Value := match P.info? t with
  | some ⟨_, _, _, _, _, _, _, some z, _, _⟩ => some z
  | _ => none
theorem run_zero {P : Program} {t : TypeId} {z : Value} (h : tyZero P t = some z) (w : World) : (zeroValue t).run P w = .ok z w := by
  unfold tyZero at h
  split at h
  · rename_i hi
    simp only [Option.some.injEq] at h
    subst h
    simp [zeroValue, typeInfo, hi]
  · cases h

/-- cells written over others from a place on -/
def spl : List Value → Nat → List Value → Option (List Value)
  | cs, 0, [] => some cs
  | _ :: r, 0, v :: vs => match v.oneCell' with
    | true => match spl r 0 vs with
      | some t => some (v :: t)
      | none => none
    | false => none
  | c :: r, o + 1, vs => match spl r o vs with
    | some t => some (c :: t)
    | none => none
  | _, _, _ => none
theorem spl_spec : ∀ {cs : List Value} {o : Nat} {vs cs' : List Value}, spl cs o vs = some cs' → o + vs.length ≤ cs.length ∧ cs' = cs.take o ++ vs ++ cs.drop (o + vs.length) ∧ ∀ v ∈ vs, v.oneCell' = true
  | cs, 0, [], cs', h => by
    have : cs = cs' := by cases cs <;> simpa [spl] using h
    subst this; simp
  | [], 0, v :: vs, cs', h => by simp [spl] at h
  | c :: r, 0, v :: vs, cs', h => by
    simp only [spl] at h
    split at h
    · rename_i hv
      split at h
      · rename_i t ht
        obtain ⟨h1, h2, h3⟩ := spl_spec ht
        simp only [Option.some.injEq] at h
        subst h
        refine ⟨by simp at h1 ⊢; omega, ?_, ?_⟩
        · rw [h2]; simp
        · intro u hu; rcases List.mem_cons.1 hu with rfl | hu
          · exact hv
          · exact h3 u hu
      · cases h
    · cases h
  | [], o + 1, vs, cs', h => by simp [spl] at h
  | c :: r, o + 1, vs, cs', h => by
    simp only [spl] at h
    split at h
    · rename_i t ht
      obtain ⟨h1, h2, h3⟩ := spl_spec ht
      simp only [Option.some.injEq] at h
      subst h
      refine ⟨by simp; omega, ?_, h3⟩
      rw [h2]
      simp [show o + 1 + vs.length = o + vs.length + 1 by omega]
    · cases h

/-- what a variable of a type at a place of known cells holds -/
def getV0 (P : Program) (ty : TypeId) (cs : List Value) (off : Nat) : Option Value := match tyAgg P ty, tySize P ty with
  | some true, some n => match Nat.ble (off + n) cs.length with
    | true => some (.agg ⟨(cs.drop off).take n⟩)
    | false => none
  | some false, some _ => match cs[off]? with
    | some v => some v
    | none => none
  | _, _ => none

def getV (P : Program) (ty : TypeId) (cs : List Value) (off : Nat) : Option Value := nfo (getV0 P ty cs off)
theorem run_loadVar_cells {P : Program} {w : World} {b o : Nat} {ty : TypeId} {cs : List Value} {off : Nat} {v : Value} (h : getV P ty cs off = some v)
    (hc : ∀ j u, cs[j]? = some u → w.cell? ⟨b, o + j, none⟩ = some u) : (loadVar ty ⟨b, o + off, none⟩).run P w = .ok v w := by
  have h := nfo_eq h
  unfold getV0 at h
  split at h
  · rename_i n hb hn
    split at h
    · rename_i hle
      simp only [Option.some.injEq] at h
      subst h
      have hle := Nat.le_of_ble_eq_true hle
      have hl : (loadCells ⟨b, o + off, none⟩ n).run P w = .ok ((cs.drop off).take n).toArray w := by
        have := run_loadCells_list (P := P) w ⟨b, o + off, none⟩ ((cs.drop off).take n) (fun j u hu => by
          rw [Addr.add_mid, Nat.add_assoc]
          rw [List.getElem?_take] at hu
          split at hu
          · rw [List.getElem?_drop] at hu; exact hc _ _ hu
          · cases hu)
        rwa [show ((cs.drop off).take n).length = n by simp; omega] at this
      simp [loadVar, Sem.run_bind, run_isAgg hb, run_sizeOf hn, hl]
    · cases h
  · rename_i n hb hn
    split at h
    · rename_i u hu
      simp only [Option.some.injEq] at h
      subst h
      simp [loadVar, Sem.run_bind, run_isAgg hb, Go.load, Sem.run, hc _ _ hu]
    · cases h
  · cases h

/-! ## Loads -/
structure LdOk (P : Program) (H : List Chunk) (Z : List Snap) (ty : TypeId) (a : Addr) (v : Value) : Prop where
  out : ∀ w0 M w (Hn : List Chunk) (Zn : List Snap), St w0 M w (Hn ++ H) (Zn ++ Z) → (loadVar ty a).run P w = .ok v w

section
variable {P : Program} {H : List Chunk} {Z : List Snap} {ty : TypeId} {v : Value} {b o : Nat}
theorem cell_box {w : World} {cs : List Value} {t : TypeId} (h : w.heap[b]? = some (.cells ⟨cs⟩ t (0, 0))) : ∀ j u, cs[j]? = some u → w.cell? ⟨b, 0 + j, none⟩ = some u := fun j u hu => by
  rw [Nat.zero_add, cell_of_row w b j ⟨cs⟩ t (0, 0) h]; simpa using hu
theorem LdOk.box {t : TypeId} {cs : List Value} (hm : Chunk.box b t cs ∈ H) (hv : getV P ty cs o = some v) : LdOk P H Z ty ⟨b, o, none⟩ v := by
  refine ⟨fun w0 M w Hn Zn hS => ?_⟩
  have hb : w.heap[b]? = some (.cells ⟨cs⟩ t (0, 0)) := hS.holds _ (List.mem_append_right _ hm)
  have := run_loadVar_cells hv (cell_box hb)
  rwa [Nat.zero_add] at this
/-- cells of memory that stays -/
theorem LdOk.snap {wz : World} {F : Nat → Prop} {off : Nat} {cs : List Value} (hF : F b) (hr : wz.rangeAt b o cs) (hz : Snap.mk wz F ∈ Z) (hv : getV P ty cs off = some v) : LdOk P H Z ty ⟨b, o + off, none⟩ v := by
  refine ⟨fun w0 M w Hn Zn hS => ?_⟩
  obtain ⟨_, h2, _⟩ := hS.snap _ (List.mem_append_right _ hz) b hF
  refine run_loadVar_cells hv fun j u hu => ?_
  rw [World.cell?_of_block (w := wz) h2]
  exact hr j u hu
/-- an element of a row of the call's own -/
theorem LdOk.own {g off n cap : Nat} {e : TypeId} {size n' : Nat} {xs : List Value} (hm : Chunk.own (.slice (some ⟨g, off, none⟩) n cap) e size n' xs ∈ H) (hv : getV P ty xs o = some v) : LdOk P H Z ty ⟨g, off + o, none⟩ v := by
  refine ⟨fun w0 M w Hn Zn hS => ?_⟩
  have hb : RowAt w e size _ n' xs := hS.holds _ (List.mem_append_right _ hm)
  exact run_loadVar_cells (P := P) (w := w) (b := g) (o := off) hv hb.cells
end

section
variable {P : Program} {N : Fz} {f : Fr} {w w0 : World} {Q : Post} {ops l : List Oper} {o : Oper} {M : List Nat} {H H' : List Chunk} {Z : List Snap}

theorem WL.pure {v : Value} (hv : pureV P (ev f) o.op = some v) (hg : wants ops f o = true) {d : Nat} (hd : o.dst = some d) (hn : N.ok d = true) (h : WL P N ops l (up f d v) w Q) : WL P N ops (o :: l) f w Q :=
  .val hg hd hn (pureV_sound hv w) h
/-- sums that an int holds -/
theorem wrap_in {n : Int} (h : -9223372036854775808 ≤ n ∧ n ≤ 9223372036854775807) : IntKind.i64.wrap n = n := IntWalk.i64_in n h
theorem run_add {ρ : Operand → Value} {ty ty' : TypeId} {x y : Operand} {a b : Int} (ho : o.op = .binOp .add ty x y ty') (hx : ρ x = .int .i64 a) (hy : ρ y = .int .i64 b) (hr : -9223372036854775808 ≤ a + b ∧ a + b ≤ 9223372036854775807) :
    (execOp ρ o).run P w = .ok (.value (.int .i64 (a + b))) w := by
  obtain ⟨h1, h2, h3, h4, h5, h6⟩ := run_arith (P := P) (t := ty) (x := x) (y := y) (k := .i64) (a := a) (b := b) w
  simp only [execOp, ho, hx, hy, Sem.run_bind, h1, h2, h3, h4, h5, h6, Result.andThen_ok, wrap_in hr]
  rfl
theorem run_addW {ρ : Operand → Value} {ty ty' : TypeId} {x y : Operand} {k : IntKind} {a b : Int} (ho : o.op = .binOp .add ty x y ty') (hx : ρ x = .int k a) (hy : ρ y = .int k b) :
    (execOp ρ o).run P w = .ok (.value (.int k (k.wrap (a + b)))) w := by
  obtain ⟨h1, h2, h3, h4, h5, h6⟩ := run_arith (P := P) (t := ty) (x := x) (y := y) (k := k) (a := a) (b := b) w
  simp only [execOp, ho, hx, hy, Sem.run_bind, h1, h2, h3, h4, h5, h6, Result.andThen_ok]
  rfl
theorem WL.add {ty ty' : TypeId} {x y : Operand} {a b : Int} (ho : o.op = .binOp .add ty x y ty') (hx : ev f x = .int .i64 a) (hy : ev f y = .int .i64 b) (hr : -9223372036854775808 ≤ a + b ∧ a + b ≤ 9223372036854775807)
    (hg : wants ops f o = true) {d : Nat} (hd : o.dst = some d) (hn : N.ok d = true) (h : WL P N ops l (up f d (.int .i64 (a + b))) w Q) : WL P N ops (o :: l) f w Q :=
  .val hg hd hn (run_add ho hx hy hr) h
theorem run_sub {ρ : Operand → Value} {ty ty' : TypeId} {x y : Operand} {a b : Int} (ho : o.op = .binOp .sub ty x y ty') (hx : ρ x = .int .i64 a) (hy : ρ y = .int .i64 b) (hr : -9223372036854775808 ≤ a - b ∧ a - b ≤ 9223372036854775807) :
    (execOp ρ o).run P w = .ok (.value (.int .i64 (a - b))) w := by
  obtain ⟨h1, h2, h3, h4, h5, h6⟩ := run_arith (P := P) (t := ty) (x := x) (y := y) (k := .i64) (a := a) (b := b) w
  simp only [execOp, ho, hx, hy, Sem.run_bind, h1, h2, h3, h4, h5, h6, Result.andThen_ok, wrap_in hr]
  rfl
theorem run_subW {ρ : Operand → Value} {ty ty' : TypeId} {x y : Operand} {k : IntKind} {a b : Int} (ho : o.op = .binOp .sub ty x y ty') (hx : ρ x = .int k a) (hy : ρ y = .int k b) :
    (execOp ρ o).run P w = .ok (.value (.int k (k.wrap (a - b)))) w := by
  obtain ⟨h1, h2, h3, h4, h5, h6⟩ := run_arith (P := P) (t := ty) (x := x) (y := y) (k := k) (a := a) (b := b) w
  simp only [execOp, ho, hx, hy, Sem.run_bind, h1, h2, h3, h4, h5, h6, Result.andThen_ok]
  rfl
theorem WL.sub {ty ty' : TypeId} {x y : Operand} {a b : Int} (ho : o.op = .binOp .sub ty x y ty') (hx : ev f x = .int .i64 a) (hy : ev f y = .int .i64 b) (hr : -9223372036854775808 ≤ a - b ∧ a - b ≤ 9223372036854775807)
    (hg : wants ops f o = true) {d : Nat} (hd : o.dst = some d) (hn : N.ok d = true) (h : WL P N ops l (up f d (.int .i64 (a - b))) w Q) : WL P N ops (o :: l) f w Q :=
  .val hg hd hn (run_sub ho hx hy hr) h
theorem run_mul {ρ : Operand → Value} {ty ty' : TypeId} {x y : Operand} {a b : Int} (ho : o.op = .binOp .mul ty x y ty') (hx : ρ x = .int .i64 a) (hy : ρ y = .int .i64 b) (hr : -9223372036854775808 ≤ a * b ∧ a * b ≤ 9223372036854775807) :
    (execOp ρ o).run P w = .ok (.value (.int .i64 (a * b))) w := by
  obtain ⟨h1, h2, h3, h4, h5, h6⟩ := run_arith (P := P) (t := ty) (x := x) (y := y) (k := .i64) (a := a) (b := b) w
  simp only [execOp, ho, hx, hy, Sem.run_bind, h1, h2, h3, h4, h5, h6, Result.andThen_ok, wrap_in hr]
  rfl
theorem run_mulW {ρ : Operand → Value} {ty ty' : TypeId} {x y : Operand} {k : IntKind} {a b : Int} (ho : o.op = .binOp .mul ty x y ty') (hx : ρ x = .int k a) (hy : ρ y = .int k b) :
    (execOp ρ o).run P w = .ok (.value (.int k (k.wrap (a * b)))) w := by
  obtain ⟨h1, h2, h3, h4, h5, h6⟩ := run_arith (P := P) (t := ty) (x := x) (y := y) (k := k) (a := a) (b := b) w
  simp only [execOp, ho, hx, hy, Sem.run_bind, h1, h2, h3, h4, h5, h6, Result.andThen_ok]
  rfl
theorem WL.mul {ty ty' : TypeId} {x y : Operand} {a b : Int} (ho : o.op = .binOp .mul ty x y ty') (hx : ev f x = .int .i64 a) (hy : ev f y = .int .i64 b) (hr : -9223372036854775808 ≤ a * b ∧ a * b ≤ 9223372036854775807)
    (hg : wants ops f o = true) {d : Nat} (hd : o.dst = some d) (hn : N.ok d = true) (h : WL P N ops l (up f d (.int .i64 (a * b))) w Q) : WL P N ops (o :: l) f w Q :=
  .val hg hd hn (run_mul ho hx hy hr) h

theorem run_load {ρ : Operand → Value} {ty : TypeId} {x : Operand} {a : Addr} {v : Value} (ho : o.op = .load ty x) (hx : ρ x = .pointer (some a)) (h : (loadVar ty a).run P w = .ok v w) :
    (execOp ρ o).run P w = .ok (.value v) w := by
  simp [execOp, ho, hx, Instr.loadAt, Instr.sureAddr, Sem.run_bind, h]
theorem WL.load {ty : TypeId} {x : Operand} {a : Addr} {v : Value} (hS : St w0 M w H Z) (ho : o.op = .load ty x) (hx : ev f x = .pointer (some a)) (hl : LdOk P H Z ty a v)
    (hg : wants ops f o = true) {d : Nat} (hd : o.dst = some d) (hn : N.ok d = true) (h : WL P N ops l (up f d v) w Q) : WL P N ops (o :: l) f w Q :=
  .val hg hd hn (run_load ho hx (hl.out w0 M w [] [] hS)) h

theorem run_newVar (t : TypeId) (v : Value) (w : World) : (newVar t v).run P w = .ok ⟨w.heap.size, 0, none⟩ (w.alloc (.cells ⟨cellsL v⟩ t)) := by
  simp only [newVar, newRow, cells_mk, newObj, Sem.run_bind]
  rfl
/-- a new variable -/
theorem run_box {ρ : Operand → Value} {t : TypeId} {x : Operand} (ho : o.op = .box t x) : (execOp ρ o).run P w = .ok (.value (.pointer (some ⟨w.heap.size, 0, none⟩))) (w.alloc (.cells ⟨cellsL (ρ x)⟩ t)) := by
  simp [execOp, ho, Instr.box, Sem.run_bind, run_newVar]
theorem run_allocOp {ρ : Operand → Value} {t : TypeId} {z : Value} (ho : o.op = .alloc t) (hz : tyZero P t = some z) : (execOp ρ o).run P w = .ok (.value (.pointer (some ⟨w.heap.size, 0, none⟩))) (w.alloc (.cells ⟨cellsL z⟩ t)) := by
  simp [execOp, ho, Instr.alloc, Sem.run_bind, run_newVar, run_zero hz]
theorem St.newBox (hS : St w0 M w H Z) (t : TypeId) (cs : List Value) : St w0 M (w.alloc (.cells ⟨cs⟩ t)) (.box w.heap.size t cs :: H) Z :=
  hS.push (.alloc _ _ _) (heap_alloc_new w _) fun b hb => by
    have : b = w.heap.size := by simpa [Chunk.fp] using hb
    subst this; simp
theorem WL.box {t : TypeId} {x : Operand} (hS : St w0 M w H Z) (ho : o.op = .box t x) {cs : List Value} (hcs : cellsO (ev f x) = some cs) (hg : wants ops f o = true) {d : Nat} (hd : o.dst = some d) (hn : N.ok d = true)
    (h : ∀ w' b, St w0 M w' (.box b t cs :: H) Z → WL P N ops l (up f d (.pointer (some ⟨b, 0, none⟩))) w' Q) : WL P N ops (o :: l) f w Q :=
  .val hg hd hn (run_box ho) (by rw [cellsO_eq hcs]; exact h _ _ (hS.newBox _ _))
theorem WL.alloc {t : TypeId} {z : Value} (hS : St w0 M w H Z) (ho : o.op = .alloc t) (hz : tyZero P t = some z) {cs : List Value} (hcs : cellsO z = some cs) (hg : wants ops f o = true) {d : Nat} (hd : o.dst = some d) (hn : N.ok d = true)
    (h : ∀ w' b, St w0 M w' (.box b t cs :: H) Z → WL P N ops l (up f d (.pointer (some ⟨b, 0, none⟩))) w' Q) : WL P N ops (o :: l) f w Q :=
  .val hg hd hn (run_allocOp ho hz) (by rw [cellsO_eq hcs]; exact h _ _ (hS.newBox _ _))

/-- a store into a variable of the call's own -/
theorem run_storeBox {ρ : Operand → Value} {ty t : TypeId} {x y : Operand} {b off : Nat} {cs cs' : List Value} (ho : o.op = .store ty x y) (hx : ρ x = .pointer (some ⟨b, off, none⟩))
    (hb : w.heap[b]? = some (.cells ⟨cs⟩ t (0, 0))) (hs : spl cs off (cellsL (ρ y)) = some cs') (hn : tySize P ty = some (cellsL (ρ y)).length) :
    (execOp ρ o).run P w = .ok .skip (w.setRow b ⟨cs'⟩) := by
  obtain ⟨h1, h2, h3⟩ := spl_spec hs
  have := run_storeCells_at P b off t (cellsL (ρ y)) 0 ⟨cs⟩ w hb (by simpa using h1) h3
  simp only [Nat.add_zero] at this
  have hst : (storeVar ty ⟨b, off, none⟩ (ρ y)).run P w = .ok () (w.setRow b ⟨cs'⟩) := by
    unfold storeVar
    rw [Sem.run_bind, run_sizeOf hn]
    have hsz : (ρ y).cells.size = (cellsL (ρ y)).length := by rw [← cellsL_eq]; simp
    simp only [Result.andThen_ok, hsz, ne_eq, not_true, if_false, cellsL_eq]
    rw [h2]
    simpa using this
  simp [execOp, ho, hx, Instr.storeAt, Instr.sureAddr, Sem.run_bind, hst]
theorem heap_setRow {w : World} {b : Nat} {cs : Array Value} {t : TypeId} {cs' : Array Value} (hb : w.heap[b]? = some (.cells cs t (0, 0))) : (w.setRow b cs').heap[b]? = some (.cells cs' t (0, 0)) := by
  simp [World.setRow, Array.getElem?_modify, hb]
theorem Upd.setRow (w : World) (b : Nat) (cs : Array Value) : Upd [b] w (w.setRow b cs) :=
  ⟨rfl, rfl, rfl, by simp [World.setRow], fun k _ hn => by
    have hne : b ≠ k := fun e => hn (by simp [e])
    simp [World.setRow, Array.getElem?_modify, hne]⟩
theorem St.setBox {b : Nat} {t : TypeId} {cs cs' : List Value} (hS : St w0 M w H Z) (hr : Repl (.box b t cs) (.box b t cs') H H') : St w0 M (w.setRow b ⟨cs'⟩) H' Z :=
  hS.step hr (.setRow _ _ _) (heap_setRow (hS.holds _ hr.mem)) fun _ h => .inl h
/-- cells of one of the boxes written over -/
inductive StB (b off : Nat) (vs : List Value) : List Chunk → List Chunk → Prop where
  | here {t : TypeId} {cs cs' : List Value} {r : List Chunk} (h : spl cs off vs = some cs') : StB b off vs (.box b t cs :: r) (.box b t cs' :: r)
  | there {d : Chunk} {r r' : List Chunk} : StB b off vs r r' → StB b off vs (d :: r) (d :: r')
theorem StB.repl {b off : Nat} {vs : List Value} {H H' : List Chunk} (h : StB b off vs H H') : ∃ t cs cs', Repl (.box b t cs) (.box b t cs') H H' ∧ spl cs off vs = some cs' := by
  induction h with
  | here h => exact ⟨_, _, _, .here, h⟩
  | there _ ih => obtain ⟨t, cs, cs', h1, h2⟩ := ih; exact ⟨t, cs, cs', .there h1, h2⟩
theorem WL.store {ty : TypeId} {x y : Operand} {b off : Nat} {vs : List Value} (hS : St w0 M w H Z) (ho : o.op = .store ty x y) (hx : ev f x = .pointer (some ⟨b, off, none⟩)) (hy : cellsO (ev f y) = some vs)
    (hr : StB b off vs H H') (hn : tySize P ty = some vs.length) (hg : wants ops f o = true) (hd : o.dst = none)
    (h : ∀ w', St w0 M w' H' Z → WL P N ops l f w' Q) : WL P N ops (o :: l) f w Q := by
  obtain ⟨t, cs, cs', hr, hs⟩ := hr.repl
  exact .unit0 hg hd (run_storeBox ho hx (hS.holds _ hr.mem) (by rw [cellsO_eq hy]; exact hs) (by rw [cellsO_eq hy]; exact hn)) (h _ (hS.setBox hr))

/-- the address of an element -/
theorem run_indexSlice {ρ : Operand → Value} {t e : TypeId} {size : Nat} {x y : Operand} {A : Option Addr} {n cap j b of : Nat} {k : IntKind} (ho : o.op = .indexAddr t x y) (he : elemOf P t = some (e, size))
    (hx : ρ x = .slice A n cap) (hy : ρ y = .int k (Int.ofNat j)) (hj : j < n) (hA : A = some ⟨b, of, none⟩) :
    (execOp ρ o).run P w = .ok (.value (.pointer (some ⟨b, of + j * size, none⟩))) w := by
  unfold elemOf at he
  split at he
  · rename_i e' hu
    split at he
    · rename_i n' hn
      simp only [Option.some.injEq, Prod.mk.injEq] at he
      obtain ⟨rfl, rfl⟩ := he
      subst hA
      have hlt : (Int.ofNat j : Int) < (n : Int) := by simpa using hj
      have h0 : (0 : Int) ≤ Int.ofNat j := Int.natCast_nonneg j
      have ht : (Int.ofNat j).toNat = j := rfl
      simp [execOp, ho, hx, hy, Instr.indexAt, asIntOf, Sem.run_bind, run_underlying hu, run_sizeOf hn, hj, Addr.add_mid]
    · cases he
  · cases he
theorem WL.index {t e : TypeId} {size : Nat} {x y : Operand} {A : Option Addr} {n cap j b of : Nat} {k : IntKind} (ho : o.op = .indexAddr t x y) (he : elemOf P t = some (e, size))
    (hx : ev f x = .slice A n cap) (hy : ev f y = .int k (Int.ofNat j)) (hj : j < n) (hA : A = some ⟨b, of, none⟩)
    (hg : wants ops f o = true) {d : Nat} (hd : o.dst = some d) (hn : N.ok d = true) (h : WL P N ops l (up f d (.pointer (some ⟨b, of + j * size, none⟩))) w Q) : WL P N ops (o :: l) f w Q :=
  .val hg hd hn (run_indexSlice ho he hx hy hj hA) h
def arrOf (P : Program) (t : TypeId) : Option (Nat × TypeId × Nat) := match P.underlying t with
  | some (.array len e) => match tySize P e with
    | some n => some (len, e, n)
    | none => none
  | _ => none
theorem run_indexArr {ρ : Operand → Value} {t e : TypeId} {size len : Nat} {x y : Operand} {j b of : Nat} {k : IntKind} (ho : o.op = .indexAddr t x y) (he : arrOf P t = some (len, e, size))
    (hx : ρ x = .pointer (some ⟨b, of, none⟩)) (hy : ρ y = .int k (Int.ofNat j)) (hj : j < len) :
    (execOp ρ o).run P w = .ok (.value (.pointer (some ⟨b, of + j * size, none⟩))) w := by
  unfold arrOf at he
  split at he
  · rename_i e' hu
    split at he
    · rename_i n' hn
      simp only [Option.some.injEq, Prod.mk.injEq] at he
      obtain ⟨rfl, rfl, rfl⟩ := he
      simp [execOp, ho, hx, hy, Instr.indexAt, Instr.sureAddr, asIntOf, Sem.run_bind, run_underlying hu, run_sizeOf hn, hj, Addr.add_mid]
    · cases he
  · cases he
theorem WL.indexArr {t e : TypeId} {size len : Nat} {x y : Operand} {j b of : Nat} {k : IntKind} (ho : o.op = .indexAddr t x y) (he : arrOf P t = some (len, e, size))
    (hx : ev f x = .pointer (some ⟨b, of, none⟩)) (hy : ev f y = .int k (Int.ofNat j)) (hj : j < len)
    (hg : wants ops f o = true) {d : Nat} (hd : o.dst = some d) (hn : N.ok d = true) (h : WL P N ops l (up f d (.pointer (some ⟨b, of + j * size, none⟩))) w Q) : WL P N ops (o :: l) f w Q :=
  .val hg hd hn (run_indexArr ho he hx hy hj) h

/-! ## Calls -/
def Ret (R : Value → World → Prop) : Ending → World → Prop := fun e w' => ∃ v, e = .returned v ∧ R v w'
def callOk (P : Program) (fid : FuncId) : Bool := match P.funcs[fid]? with
  | some fn => !(fn.name == "runtime.NumGoroutine") && fn.body.isSome
  | none => false
/-- the call of function 'fid' returns, and R holds of what it returns -/
structure Cal (P : Program) (fid : FuncId) (args : List Value) (w : World) (R : Value → World → Prop) : Prop where
  ok : callOk P fid = true
  calls : Calls P fid ⟨args⟩ w (Ret R)
theorem Cal.mono {fid : FuncId} {args : List Value} {R R' : Value → World → Prop} (h : Cal P fid args w R) (hr : ∀ v w', R v w' → R' v w') : Cal P fid args w R' :=
  ⟨h.ok, h.calls.mono fun _ _ ⟨v, e, r⟩ => ⟨v, e, hr _ _ r⟩⟩
theorem run_callFunc {fid : FuncId} (hk : callOk P fid = true) (args : Array Value) : (callFunc fid args).run P w = .ok (.enter fid args) w := by
  unfold callOk at hk
  cases hf : P.funcs[fid]? with
  | none => simp [hf] at hk
  | some fn =>
    simp only [hf, Bool.and_eq_true, Bool.not_eq_true'] at hk
    obtain ⟨h1, h2⟩ := hk
    have h3 : fn.body.isNone = false := by cases hb : fn.body <;> simp_all
    unfold callFunc
    simp only [Sem.run_bind, program, Sem.run, Result.andThen_ok, hf, h1, h3, Bool.false_eq_true, if_false]
    rfl
theorem run_callOp {fid : FuncId} {xs : List Operand} {ts : Array TypeId} (ho : o.op = .call ⟨.value (.func fid), ⟨xs⟩, ts⟩) {args : List Value} (ha : xs.map (ev f) = args) (hk : callOk P fid = true) :
    (execOp (ev f) o).run P w = .ok (.enter fid ⟨args⟩) w := by
  have e : execOp (ev f) o = callFunc fid (#[] ++ (Array.mk xs).map (ev f) ++ #[]) := by
    obtain ⟨dst, op, type, pos, after, guard⟩ := o
    simp only at ho
    subst ho
    rfl
  rw [e, run_callFunc hk]
  simp [ha]
/-- a call that makes new memory at most -/
theorem WL.call {fid : FuncId} {xs : List Operand} {ts : Array TypeId} {args : List Value} {R : Value → World → Prop} (hS : St w0 M w H Z) (ho : o.op = .call ⟨.value (.func fid), ⟨xs⟩, ts⟩) (ha : xs.map (ev f) = args)
    (hc : Cal P fid args w fun v w' => Upd [] w w' ∧ R v w') (hg : wants ops f o = true) {d : Nat} (hd : o.dst = some d) (hn : N.ok d = true)
    (h : ∀ v w', R v w' → St w0 M w' H (⟨w', fresh w w'⟩ :: Z) → WL P N ops l (up f d v) w' Q) : WL P N ops (o :: l) f w Q :=
  .enter hg hd hn (run_callOp ho ha hc.ok) hc.calls fun v w' ⟨hu, hR⟩ => h v w' hR (hS.fresh hu)
/-- .. what it answers leads to no memory -/
theorem WL.calls {fid : FuncId} {xs : List Operand} {ts : Array TypeId} {args : List Value} {R : Value → World → Prop} (hS : St w0 M w H Z) (ho : o.op = .call ⟨.value (.func fid), ⟨xs⟩, ts⟩) (ha : xs.map (ev f) = args)
    (hc : Cal P fid args w fun v w' => Upd [] w w' ∧ R v w') (hg : wants ops f o = true) {d : Nat} (hd : o.dst = some d) (hn : N.ok d = true)
    (h : ∀ v w', R v w' → St w0 M w' H Z → WL P N ops l (up f d v) w' Q) : WL P N ops (o :: l) f w Q :=
  .enter hg hd hn (run_callOp ho ha hc.ok) hc.calls fun v w' ⟨hu, hR⟩ => h v w' hR (hS.upd0 hu)
end

/-! ## In a region that draws its order -/
/-- what stays true while the region runs: what was known at its head, and more -/
def SS (w0 : World) (M : List Nat) (H : List Chunk) (Z : List Snap) : World → Prop := fun w => ∃ Hn Zn, St w0 M w (Hn ++ H) (Zn ++ Z)
/-- .. and what is known now is more than that -/
def More (H0 : List Chunk) (Z0 : List Snap) (H : List Chunk) (Z : List Snap) : Prop := ∃ Hn Zn, H = Hn ++ H0 ∧ Z = Zn ++ Z0
theorem More.refl (H : List Chunk) (Z : List Snap) : More H Z H Z := ⟨[], [], rfl, rfl⟩
theorem More.chunk {H0 H : List Chunk} {Z0 Z : List Snap} (h : More H0 Z0 H Z) (c : Chunk) : More H0 Z0 (c :: H) Z := by
  obtain ⟨Hn, Zn, rfl, rfl⟩ := h; exact ⟨c :: Hn, Zn, rfl, rfl⟩
theorem More.snap {H0 H : List Chunk} {Z0 Z : List Snap} (h : More H0 Z0 H Z) (z : Snap) : More H0 Z0 H (z :: Z) := by
  obtain ⟨Hn, Zn, rfl, rfl⟩ := h; exact ⟨Hn, z :: Zn, rfl, rfl⟩
theorem More.ss {H0 H : List Chunk} {Z0 Z : List Snap} (h : More H0 Z0 H Z) {w0 w : World} {M : List Nat} (hS : St w0 M w H Z) : SS w0 M H0 Z0 w := by
  obtain ⟨Hn, Zn, rfl, rfl⟩ := h; exact ⟨Hn, Zn, hS⟩
theorem LdOk.more {P : Program} {H0 : List Chunk} {Z0 : List Snap} {ty : TypeId} {a : Addr} {v : Value} (h : LdOk P H0 Z0 ty a v) : ∀ {w0 M w}, SS w0 M H0 Z0 w → (loadVar ty a).run P w = .ok v w :=
  fun ⟨Hn, Zn, hS⟩ => h.out _ _ _ Hn Zn hS

section
variable {P : Program} {N : Fz} {f : Fr} {w w0 : World} {Q : Post} {ops : List Oper} {M : List Nat} {H0 H H' : List Chunk} {Z0 Z : List Snap} {q : Qs} {l : List Nat} {i : Nat}

theorem WC.drawS {id : Nat} (hS : St w0 M w H Z) (q l : List Nat) (hm : P.follows .mixedOrders = true)
    (hk : (Region.noSelect ops.toArray && ordOk ops.toArray ⟨q, .nil⟩ (Array.replicate ops.toArray.size false) l && Nat.beq l.length ops.length) = true)
    (h : ∀ w', St w0 M w' H Z → More H Z H Z → WD P N (SS w0 M H Z) ops ⟨q, .nil⟩ l f w' Q) (hok : okR N ops = true := by rfl) : WC P N (.region id ops.toArray true) f w Q := by
  simp only [Bool.and_eq_true] at hk
  exact WC.draw (SS w0 M H Z) ⟨q, .nil⟩ l hm hk.1.1 hk.1.2 hk.2 ((More.refl H Z).ss hS.drew) (h _ hS.drew (.refl _ _)) hok
/-- .. with effects of which either of two may be first -/
theorem WC.drawP {id : Nat} (hS : St w0 M w H Z) (q l : List Nat) (t : Pl) (hm : P.follows .mixedOrders = true)
    (hk : (Region.noSelect ops.toArray && ordOk ops.toArray ⟨q, t⟩ (Array.replicate ops.toArray.size false) l && Nat.beq (l.length + t.len) ops.length) = true)
    (h : ∀ w', St w0 M w' H Z → More H Z H Z → WD P N (SS w0 M H Z) ops ⟨q, t⟩ l f w' Q) (hok : okR N ops = true := by rfl) : WC P N (.region id ops.toArray true) f w Q := by
  simp only [Bool.and_eq_true] at hk
  exact WC.draw (SS w0 M H Z) ⟨q, t⟩ l hm hk.1.1 hk.1.2 hk.2 ((More.refl H Z).ss hS.drew) (h _ hS.drew (.refl _ _)) hok
/-- .. of which the first chunk is known no longer behind it -/
theorem WC.drawC {id : Nat} {c : Chunk} (hS : St w0 M w (c :: H) Z) (q l : List Nat) (hm : P.follows .mixedOrders = true)
    (hk : (Region.noSelect ops.toArray && ordOk ops.toArray ⟨q, .nil⟩ (Array.replicate ops.toArray.size false) l && Nat.beq l.length ops.length) = true)
    (h : ∀ w', St w0 M w' (c :: H) Z → More H Z (c :: H) Z → WD P N (SS w0 M H Z) ops ⟨q, .nil⟩ l f w' Q) (hok : okR N ops = true := by rfl) : WC P N (.region id ops.toArray true) f w Q := by
  simp only [Bool.and_eq_true] at hk
  exact WC.draw (SS w0 M H Z) ⟨q, .nil⟩ l hm hk.1.1 hk.1.2 hk.2 (((More.refl H Z).chunk c).ss hS.drew) (h _ hS.drew ((More.refl H Z).chunk c)) hok
theorem WD.pure {S : World → Prop} {v : Value} (hv : pureV P (ev f) (ix ops i).op = some v) (hq : q.contains i = true) (hg : wants ops f (ix ops i) = true) {d : Nat} (hd : (ix ops i).dst = some d) (hn : N.ok d = true)
    (h : WD P N S ops q l (up f d v) w Q) : WD P N S ops q (i :: l) f w Q :=
  .take hq hd hn (.inl ⟨hg, fun w' _ => pureV_sound hv w'⟩) h
theorem WD.pass {S : World → Prop} (hq : q.contains i = true) (hg : wants ops f (ix ops i) = false) {d : Nat} (hd : (ix ops i).dst = some d) (hn : N.ok d = true)
    (h : WD P N S ops q l (up f d undef) w Q) : WD P N S ops q (i :: l) f w Q :=
  .take hq hd hn (.inr ⟨hg, rfl⟩) h
theorem WD.add {S : World → Prop} {ty ty' : TypeId} {x y : Operand} {a b : Int} (ho : (ix ops i).op = .binOp .add ty x y ty') (hx : ev f x = .int .i64 a) (hy : ev f y = .int .i64 b) (hr : -9223372036854775808 ≤ a + b ∧ a + b ≤ 9223372036854775807)
    (hq : q.contains i = true) (hg : wants ops f (ix ops i) = true) {d : Nat} (hd : (ix ops i).dst = some d) (hn : N.ok d = true) (h : WD P N S ops q l (up f d (.int .i64 (a + b))) w Q) : WD P N S ops q (i :: l) f w Q :=
  .take hq hd hn (.inl ⟨hg, fun _ _ => run_add ho hx hy hr⟩) h
theorem WD.sub {S : World → Prop} {ty ty' : TypeId} {x y : Operand} {a b : Int} (ho : (ix ops i).op = .binOp .sub ty x y ty') (hx : ev f x = .int .i64 a) (hy : ev f y = .int .i64 b) (hr : -9223372036854775808 ≤ a - b ∧ a - b ≤ 9223372036854775807)
    (hq : q.contains i = true) (hg : wants ops f (ix ops i) = true) {d : Nat} (hd : (ix ops i).dst = some d) (hn : N.ok d = true) (h : WD P N S ops q l (up f d (.int .i64 (a - b))) w Q) : WD P N S ops q (i :: l) f w Q :=
  .take hq hd hn (.inl ⟨hg, fun _ _ => run_sub ho hx hy hr⟩) h
theorem WD.load {ty : TypeId} {x : Operand} {a : Addr} {v : Value} (ho : (ix ops i).op = .load ty x) (hx : ev f x = .pointer (some a)) (hl : LdOk P H0 Z0 ty a v)
    (hq : q.contains i = true) (hg : wants ops f (ix ops i) = true) {d : Nat} (hd : (ix ops i).dst = some d) (hn : N.ok d = true) (h : WD P N (SS w0 M H0 Z0) ops q l (up f d v) w Q) : WD P N (SS w0 M H0 Z0) ops q (i :: l) f w Q :=
  .takeS hq (by unfold blind; rw [ho]) hd hn hg (fun w' hw' => run_load ho hx (hl.more hw')) h
theorem WD.index {S : World → Prop} {t e : TypeId} {size : Nat} {x y : Operand} {A : Option Addr} {n cap j b of : Nat} {k : IntKind} (ho : (ix ops i).op = .indexAddr t x y) (he : elemOf P t = some (e, size))
    (hx : ev f x = .slice A n cap) (hy : ev f y = .int k (Int.ofNat j)) (hj : j < n) (hA : A = some ⟨b, of, none⟩)
    (hq : q.contains i = true) (hg : wants ops f (ix ops i) = true) {d : Nat} (hd : (ix ops i).dst = some d) (hn : N.ok d = true) (h : WD P N S ops q l (up f d (.pointer (some ⟨b, of + j * size, none⟩))) w Q) : WD P N S ops q (i :: l) f w Q :=
  .take hq hd hn (.inl ⟨hg, fun _ _ => run_indexSlice ho he hx hy hj hA⟩) h
theorem WD.indexArr {S : World → Prop} {t e : TypeId} {size len : Nat} {x y : Operand} {j b of : Nat} {k : IntKind} (ho : (ix ops i).op = .indexAddr t x y) (he : arrOf P t = some (len, e, size))
    (hx : ev f x = .pointer (some ⟨b, of, none⟩)) (hy : ev f y = .int k (Int.ofNat j)) (hj : j < len)
    (hq : q.contains i = true) (hg : wants ops f (ix ops i) = true) {d : Nat} (hd : (ix ops i).dst = some d) (hn : N.ok d = true) (h : WD P N S ops q l (up f d (.pointer (some ⟨b, of + j * size, none⟩))) w Q) : WD P N S ops q (i :: l) f w Q :=
  .take hq hd hn (.inl ⟨hg, fun _ _ => run_indexArr ho he hx hy hj⟩) h
theorem WD.box {t : TypeId} {x : Operand} (hS : St w0 M w H Z) (hM : More H0 Z0 H Z) (ho : (ix ops i).op = .box t x) {cs : List Value} (hcs : cellsO (ev f x) = some cs) (hq : q.contains i = false) (hi : Nat.blt i ops.length = true) (hg : wants ops f (ix ops i) = true) {d : Nat} (hd : (ix ops i).dst = some d) (hn : N.ok d = true)
    (h : ∀ w' b, St w0 M w' (.box b t cs :: H) Z → More H0 Z0 (.box b t cs :: H) Z → WD P N (SS w0 M H0 Z0) ops q l (up f d (.pointer (some ⟨b, 0, none⟩))) w' Q) : WD P N (SS w0 M H0 Z0) ops q (i :: l) f w Q :=
  .val hq hi hg hd hn (run_box ho) ((hM.chunk _).ss (hS.newBox _ _)) (by rw [cellsO_eq hcs]; exact h _ _ (hS.newBox _ _) (hM.chunk _))
theorem WD.alloc {t : TypeId} {z : Value} (hS : St w0 M w H Z) (hM : More H0 Z0 H Z) (ho : (ix ops i).op = .alloc t) (hz : tyZero P t = some z) {cs : List Value} (hcs : cellsO z = some cs) (hq : q.contains i = false) (hi : Nat.blt i ops.length = true) (hg : wants ops f (ix ops i) = true) {d : Nat} (hd : (ix ops i).dst = some d) (hn : N.ok d = true)
    (h : ∀ w' b, St w0 M w' (.box b t cs :: H) Z → More H0 Z0 (.box b t cs :: H) Z → WD P N (SS w0 M H0 Z0) ops q l (up f d (.pointer (some ⟨b, 0, none⟩))) w' Q) : WD P N (SS w0 M H0 Z0) ops q (i :: l) f w Q :=
  .val hq hi hg hd hn (run_allocOp ho hz) ((hM.chunk _).ss (hS.newBox _ _)) (by rw [cellsO_eq hcs]; exact h _ _ (hS.newBox _ _) (hM.chunk _))
theorem WD.store {ty : TypeId} {x y : Operand} {b off : Nat} {vs : List Value} (hS : St w0 M w H Z) (ho : (ix ops i).op = .store ty x y) (hx : ev f x = .pointer (some ⟨b, off, none⟩)) (hy : cellsO (ev f y) = some vs)
    (hr : StB b off vs H H') (hn : tySize P ty = some vs.length) (hM : More H0 Z0 H' Z) (hq : q.contains i = false) (hi : Nat.blt i ops.length = true) (hg : wants ops f (ix ops i) = true) (hd : (ix ops i).dst = none)
    (h : ∀ w', St w0 M w' H' Z → More H0 Z0 H' Z → WD P N (SS w0 M H0 Z0) ops q l f w' Q) : WD P N (SS w0 M H0 Z0) ops q (i :: l) f w Q := by
  obtain ⟨t, cs, cs', hr, hs⟩ := hr.repl
  exact .unit0 hq hi hg hd (run_storeBox ho hx (hS.holds _ hr.mem) (by rw [cellsO_eq hy]; exact hs) (by rw [cellsO_eq hy]; exact hn)) (hM.ss (hS.setBox hr)) (h _ (hS.setBox hr) hM)
theorem WD.call {fid : FuncId} {xs : List Operand} {ts : Array TypeId} {args : List Value} {R : Value → World → Prop} (hS : St w0 M w H Z) (hM : More H0 Z0 H Z) (ho : (ix ops i).op = .call ⟨.value (.func fid), ⟨xs⟩, ts⟩) (ha : xs.map (ev f) = args)
    (hc : Cal P fid args w fun v w' => Upd [] w w' ∧ R v w') (hq : q.contains i = false) (hi : Nat.blt i ops.length = true) (hg : wants ops f (ix ops i) = true) {d : Nat} (hd : (ix ops i).dst = some d) (hn : N.ok d = true)
    (h : ∀ v w', R v w' → St w0 M w' H (⟨w', fresh w w'⟩ :: Z) → More H0 Z0 H (⟨w', fresh w w'⟩ :: Z) → WD P N (SS w0 M H0 Z0) ops q l (up f d v) w' Q) : WD P N (SS w0 M H0 Z0) ops q (i :: l) f w Q :=
  .enter hq hi hg hd hn (run_callOp ho ha hc.ok) hc.calls fun v w' ⟨hu, hR⟩ => ⟨(hM.snap _).ss (hS.fresh hu), h v w' hR (hS.fresh hu) (hM.snap _)⟩
theorem WD.calls {fid : FuncId} {xs : List Operand} {ts : Array TypeId} {args : List Value} {R : Value → World → Prop} (hS : St w0 M w H Z) (hM : More H0 Z0 H Z) (ho : (ix ops i).op = .call ⟨.value (.func fid), ⟨xs⟩, ts⟩) (ha : xs.map (ev f) = args)
    (hc : Cal P fid args w fun v w' => Upd [] w w' ∧ R v w') (hq : q.contains i = false) (hi : Nat.blt i ops.length = true) (hg : wants ops f (ix ops i) = true) {d : Nat} (hd : (ix ops i).dst = some d) (hn : N.ok d = true)
    (h : ∀ v w', R v w' → St w0 M w' H Z → WD P N (SS w0 M H0 Z0) ops q l (up f d v) w' Q) : WD P N (SS w0 M H0 Z0) ops q (i :: l) f w Q :=
  .enter hq hi hg hd hn (run_callOp ho ha hc.ok) hc.calls fun v w' ⟨hu, hR⟩ => ⟨hM.ss (hS.upd0 hu), h v w' hR (hS.upd0 hu)⟩
end

/-! ## The end of a function -/
section
variable {P : Program} {fn : Func} {rs : Array ResultVar} {R : Value → World → Prop} {f : Fr} {w : World}
theorem res1 {t : Tmp} (h : fn.results = #[.tmp t]) : ∀ a, Is a fn.ntmps f → (results fn a.tmps).run P w = .ok (f t) w := fun a ha => by
  rw [results_tmp h]; rw [← ha.get t]
theorem fin1r {t : Tmp} {v : Value} (h : fn.results = #[.tmp t]) (hv : nfv (f t) = some v) (hR : R v w) : funQ P rs fn (Ret R) .ret f w := by unfold funQ; exact ⟨v, ⟨v, rfl, hR⟩, by rw [nfv_eq hv]; exact res1 h⟩
theorem res2 {t u : Tmp} (h : fn.results = #[.tmp t, .tmp u]) : ∀ a, Is a fn.ntmps f → (results fn a.tmps).run P w = .ok (.tuple #[f t, f u]) w := fun a ha => by
  rw [results_tmp2 h]; rw [← ha.get t, ← ha.get u]
theorem fin2r {t u : Tmp} {v v' : Value} (h : fn.results = #[.tmp t, .tmp u]) (hv : nfv (f t) = some v) (hv' : nfv (f u) = some v') (hR : R (.tuple #[v, v']) w) : funQ P rs fn (Ret R) .ret f w := by unfold funQ; exact ⟨_, ⟨_, rfl, hR⟩, by rw [nfv_eq hv, nfv_eq hv']; exact res2 h⟩
end
theorem vint {k : IntKind} {a b : Int} (h : a = b) : Value.int k a = Value.int k b := by rw [h]
theorem Cal.mk' {P : Program} {fid : FuncId} {fn : Func} {c : Code} {args : List Value} {w : World} {R : Value → World → Prop} (hk : callOk P fid = true)
    (hf : P.funcs[fid]? = some fn) (hb : fn.body = some c) (hn : Nat.ble args.length fn.ntmps = true)
    (h : St w [] w [] [⟨w, Old w⟩] → WC P fn.ntmps c (fr0 args) w (funQ P fn.results fn (Ret R))) : Cal P fid args w R :=
  ⟨hk, J.calls hf hb hn (h (St.init w))⟩
end Go.J

/- What is proved: how Go values read as plain data (numbers, texts, structs, slices), and that such a reading stays while its memory does. Conditions: none. -/
set_option linter.unusedSimpArgs false
set_option linter.unusedVariables false
namespace Go.J
open Go Go.RowKit

/-- how cells read as an α, through blocks that F names -/
structure Cod (α : Type) where
  sz : Nat
  rd : (Nat → Prop) → World → List Value → α → Prop
  len : ∀ {F w cs x}, rd F w cs x → cs.length = sz
  loc : ∀ {F w w' cs x}, rd F w cs x → (∀ b, F b → w'.heap[b]? = w.heap[b]?) → rd F w' cs x
  mono : ∀ {F F' w cs x}, rd F w cs x → (∀ b, F b → F' b) → rd F' w cs x

/-- cells that say all by themselves -/
def Cod.flat {α : Type} (enc : α → List Value) (n : Nat) (h : ∀ x, (enc x).length = n) : Cod α where
  sz := n
  rd _ _ cs x := cs = enc x
  len e := by rw [e]; exact h _
  loc e _ := e
  mono e _ := e
def cInt : Cod Int := .flat (fun n => [.int .i64 n]) 1 fun _ => rfl
def cBool : Cod Bool := .flat (fun b => [.bool b]) 1 fun _ => rfl
def cStr : Cod (List UInt8) := .flat (fun s => [str s]) 1 fun _ => rfl

def SlAt {α : Type} (c : Cod α) (F : Nat → Prop) (w : World) (A : Option Addr) (xs : List α) : Prop :=
  ∀ k (h : k < xs.length), ∃ b o es, A = some ⟨b, o, none⟩ ∧ F b ∧ w.rangeAt b (o + k * c.sz) es ∧ c.rd F w es xs[k]
theorem SlAt.loc {α : Type} {c : Cod α} {F : Nat → Prop} {w w' : World} {A : Option Addr} {xs : List α} (h : SlAt c F w A xs) (hs : ∀ b, F b → w'.heap[b]? = w.heap[b]?) : SlAt c F w' A xs := fun k hk => by
  obtain ⟨b, o, es, rfl, hF, hr, hx⟩ := h k hk
  exact ⟨b, o, es, rfl, hF, fun j v hv => (World.cell?_of_block (hs b hF)).trans (hr j v hv), c.loc hx hs⟩
theorem SlAt.mono {α : Type} {c : Cod α} {F F' : Nat → Prop} {w : World} {A : Option Addr} {xs : List α} (h : SlAt c F w A xs) (hs : ∀ b, F b → F' b) : SlAt c F' w A xs := fun k hk => by
  obtain ⟨b, o, es, rfl, hF, hr, hx⟩ := h k hk
  exact ⟨b, o, es, rfl, hs b hF, hr, c.mono hx hs⟩
def cSl {α : Type} (c : Cod α) : Cod (List α) where
  sz := 1
  rd F w cs xs := ∃ A cap, cs = [.slice A xs.length cap] ∧ xs.length ≤ cap ∧ SlAt c F w A xs
  len := fun ⟨_, _, e, _⟩ => by rw [e]; rfl
  loc := fun ⟨A, cap, e, hc, h⟩ hs => ⟨A, cap, e, hc, h.loc hs⟩
  mono := fun ⟨A, cap, e, hc, h⟩ hs => ⟨A, cap, e, hc, h.mono hs⟩

theorem SlAt.at_ {α : Type} {c : Cod α} {F : Nat → Prop} {w : World} {A : Option Addr} {xs : List α} (h : SlAt c F w A xs) {k : Nat} (hk : k < xs.length) :
    ∃ b o es, A = some ⟨b, o, none⟩ ∧ F b ∧ w.rangeAt b (o + k * c.sz) es ∧ c.rd F w es xs[k] := h k hk

section
variable {α : Type} {c : Cod α} {w0 w : World} {M : List Nat} {H : List Chunk} {Z : List Snap} {z : Snap} {cs : List Value} {x : α}
/-- what read so at a snapshot reads so now -/
theorem St.rd (hS : St w0 M w H Z) (hz : z ∈ Z) (h : c.rd z.F z.w cs x) : c.rd z.F w cs x := c.loc h fun b hb => (hS.snap z hz b hb).2.1
end
end Go.J

/- What is proved: what list[n:] answers, and that the shorter list reads as the rest of the data. Conditions: n within the list. -/
set_option linter.unusedSimpArgs false
set_option linter.unusedVariables false
namespace Go.J
open Go Go.RowKit

theorem SlAt.drop {α : Type} {c : Cod α} {F : Nat → Prop} {w : World} {A : Option Addr} {xs : List α} (h : SlAt c F w A xs) {n cap : Nat} (hc : xs.length ≤ cap) :
    SlAt c F w (if cap = n then A else A.map (·.add (n * c.sz))) (xs.drop n) := by
  intro k hk
  rw [List.length_drop] at hk
  obtain ⟨b, o, es, rfl, hF, hr, hx⟩ := h (n + k) (by omega)
  rw [if_neg (by omega)]
  refine ⟨b, o + n * c.sz, es, by simp [Addr.add_mid], hF, ?_, by rw [List.getElem_drop]; exact hx⟩
  rw [Nat.add_mul, ← Nat.add_assoc] at hr
  exact hr
theorem pred_ofNat (m : Nat) : ((m + 1 : Nat) : Int) - 1 = Int.ofNat m := by
  rw [Int.natCast_add]; exact Int.add_sub_cancel _ _
end Go.J

/- What is proved: '==' and '!=' between structs (and nil, pointers) reckoned by a function, and that it is right of the machine's own. Conditions: none. -/
set_option linter.unusedSimpArgs false
set_option linter.unusedVariables false
namespace Go.J
open Go Go.RowKit

/-- the fields of a struct type have names, no stand-in, and no interface in them: a Bool for the kernel -/
def eqOk (P : Program) : Nat → TypeId → Bool
  | 0, _ => false
  | d + 1, t => match P.underlying t with
    | some (.struct fs) => !P.stoodInHeld t && fs.all fun f => f.name != "_" && eqOk P d f.type
    | some .bool => true
    | some (.int _) => true
    | some .string => true
    | _ => false
def eqFs (P : Program) (eq : TypeId → Value → Value → Option Bool) (xs ys : List Value) : List Field → Option Bool
  | [] => some true
  | ⟨_, ty, off, _, _, _, _⟩ :: fs => match partOf P ty xs off, partOf P ty ys off with
    | some a, some b => match eq ty a b with
      | some r => match fs with
        | [] => some r
        | f :: fs' => match eqFs P eq xs ys (f :: fs') with
          | some r' => some (r && r')
          | none => none
      | none => none
    | _, _ => none
def eqV (P : Program) : Nat → TypeId → Value → Value → Option Bool
  | 0, _, _, _ => none
  | d + 1, t, x, y => match P.underlying t with
    | some .bool => match x, y with
      | .bool a, .bool b => some (decide (a = b))
      | _, _ => none
    | some (.int _) => match x, y with
      | .int k a, .int k' b => match decide (k = k') with
        | true => some (decide (a = b))
        | false => none
      | _, _ => none
    | some .string => match x, y with
      | .string ⟨⟨a⟩⟩, .string ⟨⟨b⟩⟩ => some (decide (a = b))
      | _, _ => none
    | some (.struct ⟨fs⟩) => match x, y with
      | .agg ⟨xs⟩, .agg ⟨ys⟩ => eqFs P (eqV P d) xs ys fs
      | _, _ => none
    | _ => none

theorem eqFs_spec {P : Program} {eq : TypeId → Value → Value → Option Bool} {xs ys : List Value} {m c : Nat} (w : World)
    (heq : ∀ t x y r, eq t x y = some r → eqOk P m t = true → (Op.equalIn (m + c) t x y).run P w = .ok r w) :
    ∀ {fs : List Field} {r : Bool}, (∀ f ∈ fs, (f.name != "_") = true ∧ eqOk P m f.type = true) → eqFs P eq xs ys fs = some r → (Op.eqFields (m + c) ⟨xs⟩ ⟨ys⟩ fs).run P w = .ok r w
  | [], r, _, h => by simp only [eqFs, Option.some.injEq] at h; subst h; simp [Op.eqFields]
  | ⟨nm, ty, off, em, tg, pk, bo⟩ :: fs, r, hn, h => by
    have h0 := hn _ (List.mem_cons_self ..)
    have hne : nm ≠ "_" := by simpa using h0.1
    unfold eqFs at h
    split at h
    · rename_i a b ha hb
      split at h
      · rename_i r0 hr0
        have he := heq _ _ _ _ hr0 h0.2
        unfold Op.eqFields
        simp only [ne_eq, hne, not_false_eq_true, if_true, Sem.run_bind, run_part ha, run_part hb, he, Result.andThen_ok]
        split at h
        · simp only [Option.some.injEq] at h
          subst h
          cases r0 <;> simp [Op.eqFields]
        · rename_i f fs'
          split at h
          · rename_i r' hr'
            simp only [Option.some.injEq] at h
            subst h
            have ih := eqFs_spec w heq (fs := f :: fs') (fun g hg => hn g (List.mem_cons_of_mem _ hg)) hr'
            cases r0
            · simp
            · simpa using ih
          · cases h
      · cases h
    · cases h

theorem eqV_spec {P : Program} (c : Nat) (w : World) : ∀ (d : Nat) {t : TypeId} {x y : Value} {r : Bool}, eqV P d t x y = some r → eqOk P d t = true → (Op.equalIn (d + c) t x y).run P w = .ok r w
  | 0, t, x, y, r, h, _ => by simp [eqV] at h
  | d + 1, t, x, y, r, h, hk => by
    rw [show d + 1 + c = (d + c) + 1 by omega]
    unfold eqV at h
    split at h
    · rename_i hu
      split at h
      · simp only [Option.some.injEq] at h; subst h; rw [← beq_dec]; exact run_equalIn_bool' w _ t _ _ hu
      · cases h
    · rename_i k0 hu
      split at h
      · rename_i k a k' b
        split at h
        · rename_i hkk
          have hkk : k = k' := by simpa using hkk
          subst hkk
          simp only [Option.some.injEq] at h; subst h; rw [← beq_dec]; exact run_equalIn_int w _ t _ _ _ _ hu
        · cases h
      · cases h
    · rename_i hu
      split at h
      · simp only [Option.some.injEq] at h; subst h
        rw [← beq_dec, run_equalIn_string w _ t _ _ hu, toList_mk, toList_mk]
      · cases h
    · rename_i fs hu
      split at h
      · rename_i xs ys
        have hf : P.fieldsOf t = ⟨fs⟩ := by unfold Program.fieldsOf; rw [hu]
        unfold eqOk at hk
        rw [hu] at hk
        simp only [Bool.and_eq_true, Bool.not_eq_true', Array.all_eq_true_iff_forall_mem] at hk
        rw [run_equalIn_struct w (d + c) t _ _ (by rw [hf]; exact hu) hk.1, hf]
        exact eqFs_spec w (fun t' x' y' r' h' hk' => eqV_spec c w d h' hk') (fun f hf => by have := hk.2 f (by simpa using hf); exact this) h
      · cases h
    · cases h

section
variable {P : Program} {N : Fz} {f : Fr} {w w0 : World} {Q : Post} {ops l : List Oper} {o : Oper} {ρ : Operand → Value}
theorem run_eqStruct {t ty : TypeId} {x y : Operand} {xs ys : List Value} {r : Bool} (ho : o.op = .binOp .eql t x y ty) (hx : ρ x = .agg ⟨xs⟩) (hy : ρ y = .agg ⟨ys⟩) (hv : eqV P 5 t (.agg ⟨xs⟩) (.agg ⟨ys⟩) = some r)
    (hk : (eqOk P 5 t && !P.eqGuardType P.depth t) = true) : (execOp ρ o).run P w = .ok (.value (.bool r)) w := by
  simp only [Bool.and_eq_true, Bool.not_eq_true'] at hk
  have h1 : (Op.equalIn 10000 t (.agg ⟨xs⟩) (.agg ⟨ys⟩)).run P w = .ok r w := eqV_spec 9995 w 5 hv hk.1
  have h2 := run_eqGuard_agg (P := P) w .eql t x y ⟨xs⟩ ⟨ys⟩ hk.2
  simp only [execOp, ho, hx, hy, Sem.run_bind, h2, Result.andThen_ok, run_eql_struct, h1]
  rfl
theorem run_neStruct {t ty : TypeId} {x y : Operand} {xs ys : List Value} {r : Bool} (ho : o.op = .binOp .neq t x y ty) (hx : ρ x = .agg ⟨xs⟩) (hy : ρ y = .agg ⟨ys⟩) (hv : eqV P 5 t (.agg ⟨xs⟩) (.agg ⟨ys⟩) = some r)
    (hk : (eqOk P 5 t && !P.eqGuardType P.depth t) = true) : (execOp ρ o).run P w = .ok (.value (.bool (!r))) w := by
  simp only [Bool.and_eq_true, Bool.not_eq_true'] at hk
  have h1 : (Op.equalIn 10000 t (.agg ⟨xs⟩) (.agg ⟨ys⟩)).run P w = .ok r w := eqV_spec 9995 w 5 hv hk.1
  have h2 := run_eqGuard_agg (P := P) w .neq t x y ⟨xs⟩ ⟨ys⟩ hk.2
  simp only [execOp, ho, hx, hy, Sem.run_bind, h2, Result.andThen_ok, run_neq_struct, h1]
  rfl
theorem WL.eqS {t ty : TypeId} {x y : Operand} {xs ys : List Value} {r : Bool} (ho : o.op = .binOp .eql t x y ty) (hx : ev f x = .agg ⟨xs⟩) (hy : ev f y = .agg ⟨ys⟩) (hv : eqV P 5 t (.agg ⟨xs⟩) (.agg ⟨ys⟩) = some r)
    (hk : (eqOk P 5 t && !P.eqGuardType P.depth t) = true) (hg : wants ops f o = true) {d : Nat} (hd : o.dst = some d) (hn : N.ok d = true) (h : WL P N ops l (up f d (.bool r)) w Q) : WL P N ops (o :: l) f w Q :=
  .val hg hd hn (run_eqStruct ho hx hy hv hk) h
theorem WL.neS {t ty : TypeId} {x y : Operand} {xs ys : List Value} {r : Bool} (ho : o.op = .binOp .neq t x y ty) (hx : ev f x = .agg ⟨xs⟩) (hy : ev f y = .agg ⟨ys⟩) (hv : eqV P 5 t (.agg ⟨xs⟩) (.agg ⟨ys⟩) = some r)
    (hk : (eqOk P 5 t && !P.eqGuardType P.depth t) = true) (hg : wants ops f o = true) {d : Nat} (hd : o.dst = some d) (hn : N.ok d = true) (h : WL P N ops l (up f d (.bool (!r))) w Q) : WL P N ops (o :: l) f w Q :=
  .val hg hd hn (run_neStruct ho hx hy hv hk) h
end
section
variable {P : Program} {N : Fz} {f : Fr} {w : World} {Q : Post} {ops : List Oper} {S : World → Prop} {q : Qs} {l : List Nat} {i : Nat}
theorem WD.eqS {t ty : TypeId} {x y : Operand} {xs ys : List Value} {r : Bool} (ho : (ix ops i).op = .binOp .eql t x y ty) (hx : ev f x = .agg ⟨xs⟩) (hy : ev f y = .agg ⟨ys⟩) (hv : eqV P 5 t (.agg ⟨xs⟩) (.agg ⟨ys⟩) = some r)
    (hk : (eqOk P 5 t && !P.eqGuardType P.depth t) = true) (hq : q.contains i = true) (hg : wants ops f (ix ops i) = true) {d : Nat} (hd : (ix ops i).dst = some d) (hn : N.ok d = true) (h : WD P N S ops q l (up f d (.bool r)) w Q) : WD P N S ops q (i :: l) f w Q :=
  .take hq hd hn (.inl ⟨hg, fun _ _ => run_eqStruct ho hx hy hv hk⟩) h
theorem WD.neS {t ty : TypeId} {x y : Operand} {xs ys : List Value} {r : Bool} (ho : (ix ops i).op = .binOp .neq t x y ty) (hx : ev f x = .agg ⟨xs⟩) (hy : ev f y = .agg ⟨ys⟩) (hv : eqV P 5 t (.agg ⟨xs⟩) (.agg ⟨ys⟩) = some r)
    (hk : (eqOk P 5 t && !P.eqGuardType P.depth t) = true) (hq : q.contains i = true) (hg : wants ops f (ix ops i) = true) {d : Nat} (hd : (ix ops i).dst = some d) (hn : N.ok d = true) (h : WD P N S ops q l (up f d (.bool (!r))) w Q) : WD P N S ops q (i :: l) f w Q :=
  .take hq hd hn (.inl ⟨hg, fun _ _ => run_neStruct ho hx hy hv hk⟩) h
end
end Go.J

/- What is proved: struct and slice literals, in the walk. Conditions: as each rule names them. -/
set_option linter.unusedSimpArgs false
set_option linter.unusedVariables false
namespace Go.J
open Go Go.RowKit

/-- cells put over others from a place on, whatever they hold -/
def rpl : List Value → Nat → List Value → Option (List Value)
  | cs, 0, [] => some cs
  | _ :: r, 0, v :: vs => match rpl r 0 vs with
    | some t => some (v :: t)
    | none => none
  | c :: r, o + 1, vs => match rpl r o vs with
    | some t => some (c :: t)
    | none => none
  | _, _, _ => none
theorem rpl_spec : ∀ {cs : List Value} {o : Nat} {vs cs' : List Value}, rpl cs o vs = some cs' → o + vs.length ≤ cs.length ∧ cs' = cs.take o ++ vs ++ cs.drop (o + vs.length)
  | cs, 0, [], cs', h => by
    have : cs = cs' := by cases cs <;> simpa [rpl] using h
    subst this; simp
  | [], 0, v :: vs, cs', h => by simp [rpl] at h
  | c :: r, 0, v :: vs, cs', h => by
    simp only [rpl] at h
    split at h
    · rename_i t ht
      obtain ⟨h1, h2⟩ := rpl_spec ht
      simp only [Option.some.injEq] at h
      subst h
      exact ⟨by simp at h1 ⊢; omega, by rw [h2]; simp⟩
    · cases h
  | [], o + 1, vs, cs', h => by simp [rpl] at h
  | c :: r, o + 1, vs, cs', h => by
    simp only [rpl] at h
    split at h
    · rename_i t ht
      obtain ⟨h1, h2⟩ := rpl_spec ht
      simp only [Option.some.injEq] at h
      subst h
      refine ⟨by simp; omega, ?_⟩
      rw [h2]
      simp [show o + 1 + vs.length = o + vs.length + 1 by omega]
    · cases h
theorem foldl_set (off : Nat) : ∀ (vs : List Value) (k : Nat) (cs : Array Value), off + k + vs.length ≤ cs.size →
    ((vs.zipIdx k).foldl (fun cs (c, j) => cs.setIfInBounds (off + j) c) cs).toList = cs.toList.take (off + k) ++ vs ++ cs.toList.drop (off + k + vs.length)
  | [], k, cs, h => by simp
  | v :: vs, k, cs, h => by
    simp only [List.zipIdx_cons, List.foldl_cons]
    rw [foldl_set off vs (k + 1) _ (by simp at h ⊢; omega)]
    simp only [List.length_cons] at h
    have hlt : off + k < cs.toList.length := by simp; omega
    simp only [Array.toList_setIfInBounds]
    rw [show off + (k + 1) = (off + k) + 1 by omega, List.take_set, List.drop_set_of_lt (by omega)]
    rw [List.take_succ_eq_append_getElem hlt, List.set_append_right _ _ (by simp; omega)]
    simp only [List.length_take, Nat.min_eq_left (Nat.le_of_lt hlt), Nat.sub_self, List.set_cons_zero, List.append_assoc, List.cons_append, List.nil_append, List.length_cons]
    rw [show off + k + 1 + vs.length = off + k + (vs.length + 1) by omega]
def fillL (place : Nat → Option (Nat × Nat)) : List Value → List (Nat × Value) → Option (List Value)
  | cs, [] => some cs
  | cs, (i, v) :: rest => match place i with
    | some (off, size) => match cellsO v with
      | some vs => match Nat.beq vs.length size with
        | true => match rpl cs off vs with
          | some cs' => fillL place cs' rest
          | none => none
        | false => none
      | none => none
    | none => none
theorem fillL_spec {place : Nat → Option (Nat × Nat)} : ∀ {l : List (Nat × Value)} {cs cs' : List Value}, fillL place cs l = some cs' → Instr.fill place ⟨cs⟩ l = some ⟨cs'⟩
  | [], cs, cs', h => by simp only [fillL, Option.some.injEq] at h; subst h; rfl
  | (i, v) :: rest, cs, cs', h => by
    unfold fillL at h
    split at h
    · rename_i off size hp
      split at h
      · rename_i vs hvs
        split at h
        · rename_i hsz
          split at h
          · rename_i cs1 hc
            obtain ⟨h1, h2⟩ := rpl_spec hc
            have hvc : v.cells = ⟨vs⟩ := by rw [cells_mk, cellsO_eq hvs]
            have hsz' : vs.length = size := Nat.eq_of_beq_eq_true hsz
            unfold Instr.fill
            rw [hp]
            simp only [hvc, List.size_toArray]
            rw [if_neg (by simp; omega)]
            have e : (Array.mk vs).zipIdx.foldl (fun (cs : Array Value) ((c, j) : Value × Nat) => cs.setIfInBounds (off + j) c) (Array.mk cs) = Array.mk cs1 := by
              apply Array.toList_inj.1
              rw [← Array.foldl_toList, Array.toList_zipIdx]
              have := foldl_set off vs 0 ⟨cs⟩ (by simpa using h1)
              simp only [Nat.add_zero] at this
              rw [this, h2]
            rw [e]
            exact fillL_spec h
          · cases h
        · cases h
      · cases h
    · cases h

def placesOf (P : Program) : List Field → List (Nat × Nat)
  | [] => []
  | ⟨_, ty, off, _, _, _, _⟩ :: fs => (off, (tySize P ty).getD 0) :: placesOf P fs
def sizesKnown (P : Program) : List Field → Bool
  | [] => true
  | ⟨_, ty, _, _, _, _, _⟩ :: fs => (tySize P ty).isSome && sizesKnown P fs
/-- a struct literal -/
def buildV (P : Program) (t : TypeId) (l : List (Nat × Value)) : Option Value := match tyZero P t with
  | some z => match cellsO z with
    | some zs => match P.underlying t with
      | some (.struct ⟨fs⟩) => match sizesKnown P fs with
        | true => match fillL ((placesOf P fs)[·]?) zs l with
          | some cs => some (.agg ⟨cs⟩)
          | none => none
        | false => none
      | some (.array _ e) => match tySize P e with
        | some n => match fillL (fun i => some (i * n, n)) zs l with
          | some cs => some (.agg ⟨cs⟩)
          | none => none
        | none => none
      | _ => none
    | none => none
  | none => none
theorem run_places {P : Program} {w : World} : ∀ {fs : List Field}, sizesKnown P fs = true → (fs.mapM fun (f : Field) => (do pure (f.offset, ← sizeOf f.type) : Sem (Nat × Nat))).run P w = .ok (placesOf P fs) w
  | [], _ => by simp [placesOf]
  | ⟨nm, ty, off, em, tg, pk, bo⟩ :: fs, h => by
    simp only [sizesKnown, Bool.and_eq_true] at h
    obtain ⟨n, hn⟩ := Option.isSome_iff_exists.1 h.1
    simp only [List.mapM_cons, Sem.run_bind, run_sizeOf hn, Result.andThen_ok, Sem.run_pure, run_places h.2, placesOf, hn, Option.getD_some]
theorem run_build {P : Program} {w : World} {t : TypeId} {l : List (Nat × Value)} {v : Value} (h : buildV P t l = some v) : (Instr.build t ⟨l⟩).run P w = .ok v w := by
  unfold buildV at h
  split at h
  · rename_i z hz
    split at h
    · rename_i zs hzs
      have hzc : z.cells = ⟨zs⟩ := by rw [cells_mk, cellsO_eq hzs]
      split at h
      · rename_i fs hu
        split at h
        · rename_i hk
          split at h
          · rename_i cs hf
            simp only [Option.some.injEq] at h
            subst h
            have hp := run_places (P := P) (w := w) hk
            have hp' : ((Array.mk fs).mapM fun (f : Field) => (do pure (f.offset, ← sizeOf f.type) : Sem (Nat × Nat))).run P w = .ok ⟨placesOf P fs⟩ w := by
              rw [Array.mapM_eq_mapM_toList]
              show (List.mapM (fun (f : Field) => (do pure (f.offset, ← sizeOf f.type) : Sem (Nat × Nat))) fs >>= (pure ∘ List.toArray)).run P w = _
              rw [Sem.run_bind, hp]
              rfl
            have hfl : Instr.fill (fun i => (Array.mk (placesOf P fs))[i]?) ⟨zs⟩ l = some ⟨cs⟩ := by
              have := fillL_spec hf
              simpa using this
            simp only [Instr.build, Sem.run_bind, run_zero hz, Result.andThen_ok, run_underlying hu, hp', hzc, hfl]
            rfl
          · cases h
        · cases h
      · rename_i len e hu
        split at h
        · rename_i n hn
          split at h
          · rename_i cs hf
            simp only [Option.some.injEq] at h
            subst h
            simp only [Instr.build, Sem.run_bind, run_zero hz, Result.andThen_ok, run_underlying hu, run_sizeOf hn, hzc, fillL_spec hf]
            rfl
          · cases h
        · cases h
      · cases h
    · cases h
  · cases h

section
variable {P : Program} {N : Fz} {f : Fr} {w w0 : World} {Q : Post} {ops l : List Oper} {o : Oper} {M : List Nat} {H H' : List Chunk} {Z : List Snap} {ρ : Operand → Value}
def evP (ρ : Operand → Value) : List (Nat × Operand) → List (Nat × Value)
  | [] => []
  | (i, x) :: r => (i, ρ x) :: evP ρ r
theorem evP_eq (ρ : Operand → Value) (l : List (Nat × Operand)) : (Array.mk l).map (fun (i, x) => (i, ρ x)) = ⟨evP ρ l⟩ := by
  apply Array.toList_inj.1
  simp only [Array.toList_map]
  induction l with
  | nil => rfl
  | cons a l ih => obtain ⟨i, x⟩ := a; simp only [List.map_cons, evP, ih]
theorem run_buildOp {t : TypeId} {ps : List (Nat × Operand)} {v : Value} (ho : o.op = .build t ⟨ps⟩) (h : buildV P t (evP ρ ps) = some v) : (execOp ρ o).run P w = .ok (.value v) w := by
  simp only [execOp, ho, evP_eq, Sem.run_bind, run_build h]
  rfl
theorem WL.build {t : TypeId} {ps : List (Nat × Operand)} {v : Value} (ho : o.op = .build t ⟨ps⟩) (hv : buildV P t (evP (ev f) ps) = some v) (hg : wants ops f o = true) {d : Nat} (hd : o.dst = some d) (hn : N.ok d = true)
    (h : WL P N ops l (up f d v) w Q) : WL P N ops (o :: l) f w Q := .val hg hd hn (run_buildOp ho hv) h

/-- a slice literal: a row of the call's own -/
def repZ (zs : List Value) : Nat → List Value
  | 0 => []
  | n + 1 => zs ++ repZ zs n
theorem repZ_len (zs : List Value) : ∀ n, (repZ zs n).length = n * zs.length
  | 0 => by simp [repZ]
  | n + 1 => by simp only [repZ, List.length_append, repZ_len zs n, Nat.add_mul]; omega
theorem repZ_get (zs : List Value) (h : 0 < zs.length) : ∀ n i, i < n * zs.length → (repZ zs n)[i]? = zs[i % zs.length]?
  | 0, i, hi => by simp at hi
  | n + 1, i, hi => by
    simp only [repZ]
    by_cases hlt : i < zs.length
    · rw [List.getElem?_append_left hlt, Nat.mod_eq_of_lt hlt]
    · rw [List.getElem?_append_right (by omega), repZ_get zs h n (i - zs.length) (by rw [Nat.add_mul] at hi; omega)]
      rw [← Nat.mod_eq_sub_mod (by omega)]
theorem repZ_arr (zs : List Value) (h : 0 < zs.length) (n : Nat) : (Array.range (n * zs.length)).map ((Array.mk zs)[· % (Array.mk zs).size]!) = ⟨repZ zs n⟩ := by
  apply Array.ext_getElem?
  intro i
  simp only [Array.getElem?_map, List.getElem?_toArray]
  by_cases hi : i < n * zs.length
  · rw [repZ_get zs h n i hi]
    have hm : i % zs.length < zs.length := Nat.mod_lt _ h
    simp [Array.getElem?_range, hi, hm]
  · have h1 : (repZ zs n)[i]? = none := List.getElem?_eq_none (by rw [repZ_len]; omega)
    rw [h1]
    simp [Array.getElem?_range, hi]
def buildSliceV (P : Program) (t : TypeId) (len : Nat) (l : List (Nat × Value)) : Option (TypeId × Nat × List Value) := match P.underlying t with
  | some (.slice e) => match tySize P e with
    | some n => match tyZero P e with
      | some z => match cellsO z with
        | some zs => match Nat.beq zs.length n && Nat.blt 0 n && Nat.ble (len * n) 16777216 with
          | true => match fillL (fun i => some (i * n, n)) (repZ zs len) l with
            | some cs => some (e, n, cs)
            | none => none
          | false => none
        | none => none
      | none => none
    | none => none
  | _ => none
theorem run_buildSlice {t e : TypeId} {len n : Nat} {l : List (Nat × Value)} {cs : List Value} (h : buildSliceV P t len l = some (e, n, cs)) :
    (Instr.buildSlice t len ⟨l⟩).run P w = .ok (.slice (some ⟨w.heap.size, 0, none⟩) len len) (w.alloc (.cells ⟨cs⟩ e)) := by
  unfold buildSliceV at h
  split at h
  · rename_i e' hu
    split at h
    · rename_i n' hn
      split at h
      · rename_i z hz
        split at h
        · rename_i zs hzs
          split at h
          · rename_i hb
            simp only [Bool.and_eq_true] at hb
            obtain ⟨⟨h1, h2⟩, h3⟩ := hb
            have h1 := Nat.eq_of_beq_eq_true h1
            have h2 : 0 < n' := Nat.le_of_ble_eq_true h2
            have h3 := Nat.le_of_ble_eq_true h3
            split at h
            · rename_i cs' hf
              simp only [Option.some.injEq, Prod.mk.injEq] at h
              obtain ⟨rfl, rfl, rfl⟩ := h
              subst h1
              have hzc : z.cells = ⟨zs⟩ := by rw [cells_mk, cellsO_eq hzs]
              have hfl := fillL_spec hf
              have hnot : ¬ (len * zs.length > 2 ^ 24) := by omega
              by_cases hl0 : len = 0
              · subst hl0
                simp only [repZ] at hfl
                simp only [Instr.buildSlice, Sem.run_bind, run_underlying hu, run_sizeOf hn, Result.andThen_ok]
                simp [newRow, newObj]
                have e0 : (Array.map (fun (_ : Nat) => (default : Value)) (Array.range 0)) = ⟨[]⟩ := by simp
                rw [e0, hfl]
                rfl
              · have hne : ¬ (len * zs.length = 0) := by
                  intro h0
                  rcases Nat.mul_eq_zero.1 h0 with h0 | h0 <;> omega
                simp only [Instr.buildSlice, Sem.run_bind, run_underlying hu, run_sizeOf hn, Result.andThen_ok, hnot, if_false, hne, run_zero hz, hzc, Sem.run_pure, repZ_arr zs h2 len, hfl]
                simp [newRow, newObj]
                rfl
            · cases h
          · cases h
        · cases h
      · cases h
    · cases h
  · cases h
theorem run_sliceLit {t e : TypeId} {len n : Nat} {ps : List (Nat × Operand)} {cs : List Value} (ho : o.op = .buildSlice t len ⟨ps⟩) (h : buildSliceV P t len (evP ρ ps) = some (e, n, cs)) :
    (execOp ρ o).run P w = .ok (.value (.slice (some ⟨w.heap.size, 0, none⟩) len len)) (w.alloc (.cells ⟨cs⟩ e)) := by
  simp only [execOp, ho, evP_eq, Sem.run_bind, run_buildSlice h]
  rfl
theorem WL.slit {t e : TypeId} {len n : Nat} {ps : List (Nat × Operand)} {cs : List Value} (hS : St w0 M w H Z) (ho : o.op = .buildSlice t len ⟨ps⟩) (hv : buildSliceV P t len (evP (ev f) ps) = some (e, n, cs))
    (hg : wants ops f o = true) {d : Nat} (hd : o.dst = some d) (hn : N.ok d = true)
    (h : ∀ w' b, St w0 M w' (.box b e cs :: H) Z → WL P N ops l (up f d (.slice (some ⟨b, 0, none⟩) len len)) w' Q) : WL P N ops (o :: l) f w Q :=
  .val hg hd hn (run_sliceLit ho hv) (h _ _ (hS.newBox _ _))
/-- a part of a box, as cells that lie there -/
theorem St.range {b : Nat} {t : TypeId} {cs es : List Value} (hS : St w0 M w H Z) (hm : Chunk.box b t cs ∈ H) (off : Nat) (he : (cs.drop off).take es.length = es) : b < w.heap.size ∧ w.rangeAt b off es := by
  have hb : w.heap[b]? = some (.cells ⟨cs⟩ t (0, 0)) := hS.holds _ hm
  refine ⟨(hS.inb _ hm b (by simp [Chunk.fp])).1, fun j v hv => ?_⟩
  rw [cell_of_row w b (off + j) ⟨cs⟩ t (0, 0) hb]
  rw [← he, List.getElem?_take] at hv
  split at hv
  · rw [List.getElem?_drop] at hv; simpa using hv
  · cases hv
end
section
variable {P : Program} {N : Fz} {f : Fr} {w w0 : World} {Q : Post} {ops : List Oper} {M : List Nat} {H0 H H' : List Chunk} {Z0 Z : List Snap} {q : Qs} {l : List Nat} {i : Nat} {S : World → Prop}
theorem WD.build {t : TypeId} {ps : List (Nat × Operand)} {v : Value} (ho : (ix ops i).op = .build t ⟨ps⟩) (hv : buildV P t (evP (ev f) ps) = some v) (hq : q.contains i = true) (hg : wants ops f (ix ops i) = true) {d : Nat} (hd : (ix ops i).dst = some d) (hn : N.ok d = true)
    (h : WD P N S ops q l (up f d v) w Q) : WD P N S ops q (i :: l) f w Q := .take hq hd hn (.inl ⟨hg, fun _ _ => run_buildOp ho hv⟩) h
theorem WD.slit {t e : TypeId} {len n : Nat} {ps : List (Nat × Operand)} {cs : List Value} (hS : St w0 M w H Z) (hM : More H0 Z0 H Z) (ho : (ix ops i).op = .buildSlice t len ⟨ps⟩) (hv : buildSliceV P t len (evP (ev f) ps) = some (e, n, cs))
    (hq : q.contains i = false) (hi : Nat.blt i ops.length = true) (hg : wants ops f (ix ops i) = true) {d : Nat} (hd : (ix ops i).dst = some d) (hn : N.ok d = true)
    (h : ∀ w' b, St w0 M w' (.box b e cs :: H) Z → More H0 Z0 (.box b e cs :: H) Z → WD P N (SS w0 M H0 Z0) ops q l (up f d (.slice (some ⟨b, 0, none⟩) len len)) w' Q) : WD P N (SS w0 M H0 Z0) ops q (i :: l) f w Q :=
  .val hq hi hg hd hn (run_sliceLit ho hv) ((hM.chunk _).ss (hS.newBox _ _)) (h _ _ (hS.newBox _ _) (hM.chunk _))
end
end Go.J

/- What is proved: the walk's rules for rows of the call's own (append, index, store), for calls that make or change objects, and for objects opened and closed. Conditions: as each rule names them. -/
set_option linter.unusedSimpArgs false
set_option linter.unusedVariables false
namespace Go.J
open Go Go.RowKit

/-! ## Objects -/
/-- c is new and holds -/
structure New (w w' : World) (c : Chunk) : Prop where
  holds : c.holds w'
  fp : ∀ b ∈ c.fp, w.heap.size ≤ b ∧ b < w'.heap.size
/-- c has become c' -/
structure Mut (w w' : World) (c c' : Chunk) : Prop where
  upd : Upd c.fp w w'
  holds : c'.holds w'
  fp : ∀ b ∈ c'.fp, b ∈ c.fp ∨ (w.heap.size ≤ b ∧ b < w'.heap.size)
def inB (c : Chunk) (w : World) : Prop := ∀ b ∈ c.fp, b < w.heap.size

section
variable {w0 w w' : World} {M : List Nat} {H H' : List Chunk} {Z : List Snap} {c c' : Chunk}
theorem St.new (hS : St w0 M w H Z) (hu : Upd [] w w') (hn : New w w' c) : St w0 M w' (c :: H) Z := hS.push hu hn.holds hn.fp
theorem St.mut (hS : St w0 M w H Z) (hm : Mut w w' c c') (hr : Repl c c' H H') : St w0 M w' H' Z := hS.step hr hm.upd hm.holds hm.fp
theorem St.newOf (hS : St w0 [] w H Z) (hc : c ∈ H) : New w0 w c :=
  ⟨hS.holds c hc, fun b hb => by have h := hS.inb c hc b hb; simp at h; exact ⟨h.2, h.1⟩⟩
theorem St.mutOf (hS : St w0 c.fp w H Z) (hc : c' ∈ H) : Mut w0 w c c' :=
  ⟨hS.upd, hS.holds c' hc, fun b hb => by
    have h := hS.inb c' hc b hb
    rcases h.2 with h2 | h2
    · exact .inr ⟨h2, h.1⟩
    · exact .inl h2⟩
theorem St.initM (hc : c.holds w) (hb : inB c w) : St w c.fp w [c] [⟨w, fun b => b < w.heap.size ∧ b ∉ c.fp⟩] :=
  ⟨.refl _ _, by simpa using hc, fun d hd b hm => by simp at hd; subst hd; exact ⟨hb b hm, .inr hm⟩, by simp, fun z hz b hbz => by
    simp at hz; subst hz; exact ⟨hbz.1, rfl, fun d hd => by simp at hd; subst hd; exact hbz.2⟩⟩
theorem St.inB_of (hS : St w0 M w H Z) (hc : c ∈ H) : inB c w := fun b hb => (hS.inb c hc b hb).1
/-- an object taken apart -/
theorem St.opens {D : List Chunk} (hS : St w0 M w (c :: H) Z) (hd : ∀ d ∈ D, d.holds w) (hp : D.Pairwise Chunk.apart) (hf : ∀ d ∈ D, ∀ b ∈ d.fp, b ∈ c.fp) : St w0 M w (D ++ H) Z where
  upd := hS.upd
  holds := fun d hdm => by
    rcases List.mem_append.1 hdm with h | h
    · exact hd d h
    · exact hS.holds d (by simp [h])
  inb := fun d hdm b hb => by
    rcases List.mem_append.1 hdm with h | h
    · exact hS.inb c (by simp) b (hf d h b hb)
    · exact hS.inb d (by simp [h]) b hb
  disj := by
    have hq := List.pairwise_cons.1 hS.disj
    refine List.pairwise_append.2 ⟨hp, hq.2, fun d hdm e he b hb hbe => ?_⟩
    exact hq.1 e he b (hf d hdm b hb) hbe
  snap := fun z hz b hb => by
    obtain ⟨h1, h2, h3⟩ := hS.snap z hz b hb
    refine ⟨h1, h2, fun d hdm hbd => ?_⟩
    rcases List.mem_append.1 hdm with h | h
    · exact h3 c (by simp) (hf d h b hbd)
    · exact h3 d (by simp [h]) hbd
/-- parts put together to an object -/
theorem St.closes {D : List Chunk} (hS : St w0 M w (D ++ H) Z) (hc : c.holds w) (hf : ∀ b ∈ c.fp, ∃ d ∈ D, b ∈ d.fp) : St w0 M w (c :: H) Z where
  upd := hS.upd
  holds := fun d hdm => by
    rcases List.mem_cons.1 hdm with rfl | h
    · exact hc
    · exact hS.holds d (by simp [h])
  inb := fun d hdm b hb => by
    rcases List.mem_cons.1 hdm with rfl | h
    · obtain ⟨e, he, hbe⟩ := hf b hb; exact hS.inb e (by simp [he]) b hbe
    · exact hS.inb d (by simp [h]) b hb
  disj := by
    have hq := List.pairwise_append.1 hS.disj
    refine List.pairwise_cons.2 ⟨fun e he b hb hbe => ?_, hq.2.1⟩
    obtain ⟨d, hd, hbd⟩ := hf b hb
    exact hq.2.2 d hd e he b hbd hbe
  snap := fun z hz b hb => by
    obtain ⟨h1, h2, h3⟩ := hS.snap z hz b hb
    refine ⟨h1, h2, fun d hdm hbd => ?_⟩
    rcases List.mem_cons.1 hdm with rfl | h
    · obtain ⟨e, he, hbe⟩ := hf b hbd; exact h3 e (by simp [he]) hbe
    · exact h3 d (by simp [h]) hbd
/-- chunks in another order -/
theorem St.perm (hS : St w0 M w H Z) (hp : H.Perm H') : St w0 M w H' Z :=
  ⟨hS.upd, fun c hc => hS.holds c (hp.mem_iff.2 hc), fun c hc => hS.inb c (hp.mem_iff.2 hc), (hp.pairwise_iff (fun h => Chunk.apart_symm h)).1 hS.disj, fun z hz b hb => by
    obtain ⟨h1, h2, h3⟩ := hS.snap z hz b hb
    exact ⟨h1, h2, fun c hc => h3 c (hp.mem_iff.2 hc)⟩⟩
/-- a chunk taken to the front -/
inductive Pull (c : Chunk) : List Chunk → List Chunk → Prop where
  | here {r : List Chunk} : Pull c (c :: r) r
  | there {d : Chunk} {r r' : List Chunk} : Pull c r r' → Pull c (d :: r) (d :: r')
theorem Pull.perm {c : Chunk} {H H' : List Chunk} (h : Pull c H H') : H.Perm (c :: H') := by
  induction h with
  | here => exact .refl _
  | there _ ih => exact (List.Perm.cons _ ih).trans (.swap _ _ _)
theorem St.pull (hS : St w0 M w H Z) (h : Pull c H H') : St w0 M w (c :: H') Z := hS.perm h.perm
/-- one chunk said in another way -/
theorem St.recast (hS : St w0 M w H Z) (hr : Repl c c' H H') (hc : c.holds w → c'.holds w) (hf : ∀ b ∈ c'.fp, b ∈ c.fp) : St w0 M w H' Z :=
  hS.step hr (.refl _ _) (hc (hS.holds c hr.mem)) fun b hb => .inl (hf b hb)
/-- a row that is nil -/
theorem St.nilRow (hS : St w0 M w H Z) (e : TypeId) (size : Nat) : St w0 M w (.own (.slice none 0 0) e size 0 [] :: H) Z :=
  hS.push (.refl _ _) (RowAt.of_owns (World.ownsRow_nil w 0 e size)) fun b hb => by simp [Chunk.fp, Value.ownBlock] at hb
/-- a box is a row -/
theorem St.boxRow {b : Nat} {e : TypeId} {cs : List Value} {n size : Nat} (hS : St w0 M w H Z) (hr : Repl (.box b e cs) (.own (.slice (some ⟨b, 0, none⟩) n n) e size n cs) H H') (hl : cs.length = n * size) (hm : n ≤ maxLen) : St w0 M w H' Z :=
  hS.recast hr (fun h => ⟨hl, .inr ⟨b, 0, n, cs, rfl, h, Nat.le_refl _, hm, by omega, by rw [← hl]; simp⟩⟩) fun b' hb' => by simpa [Chunk.fp, Value.ownBlock] using hb'
theorem St.own_len {A : Option Addr} {n cap n' : Nat} {e : TypeId} {size : Nat} {xs : List Value} (hS : St w0 M w H Z) (hm : Chunk.own (.slice A n cap) e size n' xs ∈ H) : xs.length = n' * size ∧ n = n' ∧ n ≤ cap := by
  have h : RowAt w e size _ n' xs := hS.holds _ hm
  refine ⟨h.1, ?_⟩
  rcases h.2 with ⟨h1, h2⟩ | ⟨g, off, cap', cur, h1, _, h3, _⟩
  · simp at h1; omega
  · simp at h1; omega
theorem St.own_addr {A : Option Addr} {n cap n' : Nat} {e : TypeId} {size : Nat} {xs : List Value} (hS : St w0 M w H Z) (hm : Chunk.own (.slice A n cap) e size n' xs ∈ H) (h0 : 0 < n) : ∃ g off, A = some ⟨g, off, none⟩ := by
  have h : RowAt w e size _ n' xs := hS.holds _ hm
  rcases h.2 with ⟨h1, h2⟩ | ⟨g, off, cap', cur, h1, _, h3, _⟩
  · simp at h1; omega
  · simp at h1; exact ⟨g, off, h1.1⟩
end

/-- an object: its parts, as the form φ says -/
def ObjIs (φ : List Chunk → Prop) (fp : List Nat) (w : World) : Prop := ∃ D, φ D ∧ fp = D.flatMap Chunk.fp ∧ D.Pairwise Chunk.apart ∧ ∀ d ∈ D, d.holds w
theorem ObjIs.local {φ : List Chunk → Prop} {fp : List Nat} : Local fp (ObjIs φ fp) := fun w w' h ⟨D, h1, h2, h3, h4⟩ => by
  subst h2
  exact ⟨D, h1, rfl, h3, fun d hd => Chunk.keep (h4 d hd) fun b hb => h b (List.mem_flatMap.2 ⟨d, hd, hb⟩)⟩
abbrev objC (φ : List Chunk → Prop) (fp : List Nat) : Chunk := .obj fp (ObjIs φ fp)
section
variable {w0 w : World} {M : List Nat} {H : List Chunk} {Z : List Snap} {φ : List Chunk → Prop}
theorem St.objOpen {fp : List Nat} (hS : St w0 M w (objC φ fp :: H) Z) : ∃ D, φ D ∧ fp = D.flatMap Chunk.fp ∧ St w0 M w (D ++ H) Z := by
  obtain ⟨D, h1, h2, h3, h4⟩ := (hS.holds _ (List.Mem.head _)).1
  exact ⟨D, h1, h2, hS.opens h4 h3 fun d hd b hb => by rw [h2]; exact List.mem_flatMap.2 ⟨d, hd, hb⟩⟩
theorem St.objClose {D : List Chunk} (hS : St w0 M w (D ++ H) Z) (h : φ D) : St w0 M w (objC φ (D.flatMap Chunk.fp) :: H) Z :=
  hS.closes ⟨⟨D, h, rfl, (List.pairwise_append.1 hS.disj).1, fun d hd => hS.holds d (by simp [hd])⟩, ObjIs.local⟩ fun b hb => by
    obtain ⟨d, hd, hbd⟩ := List.mem_flatMap.1 hb
    exact ⟨d, hd, hbd⟩
end

/-! ## Cells that lie there -/
structure RdOk (H : List Chunk) (Z : List Snap) (b o : Nat) (news : List Value) : Prop where
  out : ∀ w0 M w (Hn : List Chunk) (Zn : List Snap), St w0 M w (Hn ++ H) (Zn ++ Z) → ∀ j u, news[j]? = some u → w.cell? ⟨b, o + j, none⟩ = some u
section
variable {H : List Chunk} {Z : List Snap} {b o : Nat} {cs : List Value}
theorem RdOk.box {t : TypeId} (hm : Chunk.box b t cs ∈ H) : RdOk H Z b 0 cs :=
  ⟨fun w0 M w Hn Zn hS => cell_box (hS.holds _ (List.mem_append_right _ hm))⟩
theorem RdOk.snap {wz : World} {F : Nat → Prop} (hF : F b) (hr : wz.rangeAt b o cs) (hz : Snap.mk wz F ∈ Z) : RdOk H Z b o cs :=
  ⟨fun w0 M w Hn Zn hS j u hu => by
    obtain ⟨_, h2, _⟩ := hS.snap _ (List.mem_append_right _ hz) b hF
    rw [World.cell?_of_block (w := wz) h2]
    exact hr j u hu⟩
theorem RdOk.own {off n cap n' : Nat} {e : TypeId} {size : Nat} {xs : List Value} (hm : Chunk.own (.slice (some ⟨b, off, none⟩) n cap) e size n' xs ∈ H) (hx : (xs.drop o).take cs.length = cs) : RdOk H Z b (off + o) cs :=
  ⟨fun w0 M w Hn Zn hS j u hu => by
    have hb : RowAt w e size _ n' xs := hS.holds _ (List.mem_append_right _ hm)
    rw [← hx, List.getElem?_take] at hu
    split at hu
    · rw [List.getElem?_drop] at hu
      have := hb.cells _ u hu
      rwa [← Nat.add_assoc] at this
    · cases hu⟩
theorem RdOk.own0 {off n cap n' : Nat} {e : TypeId} {size : Nat} {xs : List Value} (hm : Chunk.own (.slice (some ⟨b, off, none⟩) n cap) e size n' xs ∈ H) : RdOk H Z b off xs :=
  ⟨fun w0 M w Hn Zn hS => (show RowAt w e size _ n' xs from hS.holds _ (List.mem_append_right _ hm)).cells⟩
end

/-! ## append -/
def appOf (P : Program) (t : TypeId) : Option (TypeId × Nat × Nat) := match P.underlying t with
  | some (.slice e) => match P.info? e with
    | some ⟨_, _, size, bytes, _, _, _, some z, _, _⟩ => match cellsO z with
      | some zs => match Nat.beq zs.length size && Nat.blt 0 size && Nat.blt 0 bytes with
        | true => some (e, size, bytes)
        | false => none
      | none => none
    | _ => none
  | _ => none
theorem appOf_spec {P : Program} {t e : TypeId} {size bytes : Nat} (h : appOf P t = some (e, size, bytes)) :
    ∃ i z, P.underlying t = some (.slice e) ∧ P.info? e = some i ∧ i.zero = some z ∧ i.size = size ∧ i.bytes = bytes ∧ z.cells.size = size ∧ 0 < size ∧ 0 < bytes := by
  unfold appOf at h
  split at h
  · rename_i e' hu
    split at h
    · rename_i d s size' bytes' hp al fa z x y hi
      split at h
      · rename_i zs hzs
        split at h
        · rename_i hb
          simp only [Option.some.injEq, Prod.mk.injEq] at h
          obtain ⟨rfl, rfl, rfl⟩ := h
          simp only [Bool.and_eq_true] at hb
          refine ⟨_, z, hu, hi, rfl, rfl, rfl, ?_, Nat.le_of_ble_eq_true hb.1.2, Nat.le_of_ble_eq_true hb.2⟩
          rw [cells_mk, cellsO_eq hzs]
          exact Nat.eq_of_beq_eq_true hb.1.1
        · cases h
      · cases h
    · cases h
  · cases h
section
variable {P : Program} {N : Fz} {f : Fr} {w w0 : World} {Q : Post} {ops l : List Oper} {o : Oper} {M : List Nat} {H H' : List Chunk} {Z : List Snap} {ρ : Operand → Value}
def one (vs : List Value) : Bool := vs.all (·.oneCell')
theorem run_append_off (t ty e : TypeId) (i : TypeInfo) (ht : P.underlying t = some (.slice e)) (hi : P.info? e = some i)
    (g off sLen sCap : Nat) (cur : List Value) (hg : w.heap[g]? = some (.cells ⟨cur⟩ e (0, 0)))
    (a : Addr) (m c : Nat) (news : List Value) (hl : news.length = m * i.size) (hnews : ∀ j u, news[j]? = some u → w.cell? (a.add j) = some u) (h1 : ∀ u ∈ news, u.oneCell' = true)
    (hroom : sLen + m ≤ sCap) (hfit : off + sLen * i.size + news.length ≤ cur.length) :
    (Builtin.append_ #[t, t] ty #[.slice (some ⟨g, off, none⟩) sLen sCap, .slice (some a) m c]).run P w =
      .ok (.slice (some ⟨g, off, none⟩) (sLen + m) sCap) (w.setRow g ⟨cur.take (off + sLen * i.size) ++ news ++ cur.drop (off + sLen * i.size + news.length)⟩) := by
  have hf := run_firstCells_some (P := P) w i.size m a m c news hl hnews
  have hst := run_storeCells_at P g (off + sLen * i.size) e news 0 ⟨cur⟩ w hg (by simpa using hfit) h1
  simp only [Nat.add_zero] at hst
  simp [Builtin.append_, run_underlying ht, sizeOf, typeInfo, hi, Builtin.lenOf, hroom, hf, Addr.add_mid, hst]
theorem drop_take_app {α : Type} (cur news : List α) (off k : Nat) (h : off + k + news.length ≤ cur.length) :
    ((cur.take (off + k) ++ news ++ cur.drop (off + k + news.length)).drop off).take (k + news.length) = (cur.drop off).take k ++ news := by
  rw [List.append_assoc, List.drop_append_of_le_length (by simp; omega), List.drop_take]
  rw [show off + k - off = k by omega]
  rw [← List.append_assoc, List.take_append_of_le_length (by simp; omega)]
  rw [List.take_of_length_le (by simp; omega)]
theorem run_appOp {s x : Operand} {t e : TypeId} {size bytes n m cap c b off : Nat} {A : Option Addr} {xs news : List Value} (ho : o.op = .call ⟨.builtin .append, ⟨[s, x]⟩, ⟨[t, t]⟩⟩) (hi : appOf P t = some (e, size, bytes))
    (hs : ρ s = .slice A n cap) (hx : ρ x = .slice (some ⟨b, off, none⟩) m c) (hown : RowAt w e size (.slice A n cap) n xs) (hnews : ∀ j u, news[j]? = some u → w.cell? ⟨b, off + j, none⟩ = some u) (hl : news.length = m * size) (h1 : one news = true)
    (hb : (n + m) * bytes ≤ 140737488355328) :
    ∃ A' cap' w', (execOp ρ o).run P w = .ok (.value (.slice A' (n + m) cap')) w' ∧ RowAt w' e size (.slice A' (n + m) cap') (n + m) (xs ++ news) ∧ Upd (Value.slice A n cap).ownBlock.toList w w' ∧ (∀ g, (Value.slice A' (n + m) cap').ownBlock = some g → (Value.slice A n cap).ownBlock = some g ∨ (w.heap.size ≤ g ∧ g < w'.heap.size)) := by
  obtain ⟨i, z, hu, hinfo, hz, rfl, rfl, hzs, h0, h0b⟩ := appOf_spec hi
  have hle : n + m ≤ (n + m) * i.bytes := Nat.le_mul_of_pos_right _ h0b
  have hmx : n + m ≤ maxLen := by unfold maxLen; omega
  have hnews' : ∀ j u, news[j]? = some u → w.cell? ((⟨b, off, none⟩ : Addr).add j) = some u := fun j u hj => by rw [Addr.add_mid]; exact hnews j u hj
  have h1' : ∀ u ∈ news, u.oneCell' = true := by simpa [one] using h1
  have hlen : (xs ++ news).length = (n + m) * i.size := by rw [List.length_append, hown.1, hl, Nat.add_mul]
  have run : ∀ v' w', (Builtin.append_ #[t, t] o.type #[.slice A n cap, .slice (some ⟨b, off, none⟩) m c]).run P w = .ok v' w' → (execOp ρ o).run P w = .ok (.value v') w' := fun v' w' hr => by
    unfold execOp
    simp only [ho, resolve, invoke, builtin, Sem.run_bind, Sem.run_pure, Result.andThen_ok, List.map_toArray, List.map_cons, List.map_nil, hs, hx, hr]
  have grown : ∀ old, old < n + m → RowAt (w.drew.alloc (.cells (xs.toArray ++ news.toArray ++ Builtin.zeroCells z.cells (grownCap w (n + m) old e - (n + m))) e)) e i.size
        (.slice (some ⟨w.heap.size, 0, none⟩) (n + m) (grownCap w (n + m) old e)) (n + m) (xs ++ news) := by
    intro old ho
    have hge := grownCap_ge w (n + m) old e
    have hcm : grownCap w (n + m) old e ≤ maxLen := grownCap_le_maxLen w (n + m) old e hmx
    refine ⟨hlen, .inr ⟨w.heap.size, 0, _, (xs.toArray ++ news.toArray ++ Builtin.zeroCells z.cells (grownCap w (n + m) old e - (n + m))).toList, rfl, heap_alloc_new w.drew _, hge, hcm, ?_, ?_⟩⟩
    · simp only [Array.length_toList, Array.size_append, List.size_toArray, size_zeroCells, hzs, hown.1, hl, ← Nat.add_mul, Nat.zero_add]
      exact Nat.mul_le_mul_right _ (by omega)
    · simp only [Array.toList_append, List.append_assoc, List.drop_zero]
      rw [← List.append_assoc, ← hlen]
      exact List.take_left
  have hup : ∀ (fp : List Nat) (ob : Obj), Upd fp w (w.drew.alloc ob) := fun fp ob => (Upd.drew fp w).trans (.alloc _ _ _)
  have hnew : ∀ ob : Obj, ∀ g, (Value.slice (some ⟨w.heap.size, 0, none⟩) (n + m) 0).ownBlock = some g → w.heap.size ≤ g ∧ g < (w.drew.alloc ob).heap.size := fun ob g hg => by
    simp only [Value.ownBlock, Option.some.injEq] at hg
    subst hg
    simp
  rcases hown.2 with ⟨h2, rfl⟩ | ⟨g, og, cap0, cur, h2, hgg, hnc, hcm, hcs, htake⟩
  · simp only [Value.slice.injEq] at h2
    obtain ⟨rfl, _, rfl⟩ := h2
    have hx0 : xs = [] := List.eq_nil_of_length_eq_zero (by simpa using hown.1)
    subst hx0
    by_cases hm : m = 0
    · subst hm
      have hn : news = [] := List.eq_nil_of_length_eq_zero (by simpa using hl)
      subst hn
      refine ⟨none, 0, w, run _ _ ?_, ⟨by simp, .inl ⟨rfl, rfl⟩⟩, .refl _ _, fun g hg => by simp [Value.ownBlock] at hg⟩
      simp [Builtin.append_, run_underlying hu, sizeOf, typeInfo, hinfo, Builtin.lenOf, Builtin.firstCells, loadCells, loadCellsFrom]
    · have hr := run_append_nil (P := P) w t o.type e i z hu hinfo hz ⟨b, off, none⟩ m c news hl hnews' (by omega) (by omega) (by have hb := hb; simp only [Nat.zero_add] at hb; omega)
      have hgr := grown 0 (by omega)
      simp only [Nat.zero_add, List.nil_append, Array.empty_append] at hgr ⊢
      exact ⟨_, _, _, run _ _ hr, hgr, hup _ _, fun g hg => .inr (hnew _ g hg)⟩
  · simp only [Value.slice.injEq] at h2
    obtain ⟨rfl, _, rfl⟩ := h2
    by_cases hroom : n + m ≤ cap
    · have hns : (n + m) * i.size ≤ cap * i.size := Nat.mul_le_mul_right _ hroom
      rw [Nat.add_mul] at hns
      have hfit : og + n * i.size + news.length ≤ cur.length := by rw [hl]; omega
      have hr := run_append_off (P := P) t o.type e i hu hinfo g og n cap cur hgg ⟨b, off, none⟩ m c news hl hnews' h1' hroom hfit
      refine ⟨_, _, _, run _ _ hr, ⟨hlen, .inr ⟨g, og, cap, _, rfl, heap_setRow hgg, hroom, hcm, ?_, ?_⟩⟩, (Upd.setRow _ _ _).mono (by simp [Value.ownBlock]), fun g' hg' => .inl hg'⟩
      · simp only [List.length_append, List.length_take, List.length_drop]; omega
      · rw [Nat.add_mul, ← hl]
        rw [drop_take_app cur news og (n * i.size) hfit, htake]
    · have holds : ∀ j u, xs[j]? = some u → w.cell? ((⟨g, og, none⟩ : Addr).add j) = some u := fun j u hj => by rw [Addr.add_mid]; exact hown.cells j u hj
      have hr := run_append_grow (P := P) w t o.type e i z hu hinfo hz ⟨g, og, none⟩ n cap xs hown.1 holds ⟨b, off, none⟩ m c news hl hnews' (by omega) (by omega) (growslice_fits (by omega) hb)
      exact ⟨_, _, _, run _ _ hr, grown cap (by omega), hup _ _, fun g hg => .inr (hnew _ g hg)⟩
theorem St.app {e : TypeId} {size n m cap cap' : Nat} {A A' : Option Addr} {xs ys : List Value} (hS : St w0 M w H Z) {w' : World} (hr : Repl (.own (.slice A n cap) e size n xs) (.own (.slice A' m cap') e size m ys) H H')
    (hown' : RowAt w' e size (.slice A' m cap') m ys) (hg : Upd (Value.slice A n cap).ownBlock.toList w w') (hat : ∀ g, (Value.slice A' m cap').ownBlock = some g → (Value.slice A n cap).ownBlock = some g ∨ (w.heap.size ≤ g ∧ g < w'.heap.size)) : St w0 M w' H' Z := by
  refine hS.step hr hg hown' fun b hb => ?_
  have hb' : (Value.slice A' m cap').ownBlock = some b := by simpa [Chunk.fp] using hb
  rcases hat b hb' with h | h
  · exact .inl (by simpa [Chunk.fp] using h)
  · exact .inr h
/-- append to a row of the call's own -/
theorem WL.app {s x : Operand} {t e : TypeId} {size bytes n m cap c b off : Nat} {A : Option Addr} {xs news : List Value} {H' : Option Addr → Nat → List Chunk} (hS : St w0 M w H Z) (ho : o.op = .call ⟨.builtin .append, ⟨[s, x]⟩, ⟨[t, t]⟩⟩) (hi : appOf P t = some (e, size, bytes))
    (hs : ev f s = .slice A n cap) (hx : ev f x = .slice (some ⟨b, off, none⟩) m c) (hnews : RdOk H Z b off news) (hl : news.length = m * size) (h1 : one news = true)
    (hr : ∀ A' cap', Repl (.own (.slice A n cap) e size n xs) (.own (.slice A' (n + m) cap') e size (n + m) (xs ++ news)) H (H' A' cap')) (hb : (n + m) * bytes ≤ 140737488355328)
    (hg : wants ops f o = true) {d : Nat} (hd : o.dst = some d) (hn : N.ok d = true)
    (h : ∀ A' cap' w', St w0 M w' (H' A' cap') Z → WL P N ops l (up f d (.slice A' (n + m) cap')) w' Q) : WL P N ops (o :: l) f w Q := by
  obtain ⟨A', cap', w', hrun, hown', hgr, hat⟩ := run_appOp (P := P) (w := w) ho hi hs hx (hS.holds _ (hr none 0).mem) (hnews.out w0 M w [] [] hS) hl h1 hb
  exact .val hg hd hn hrun (h A' cap' w' (hS.app (hr A' cap') hown' hgr hat))

/-! ## Elements of a row -/
/-- cells of a row written over -/
theorem spl_ok : ∀ {cs : List Value} {o : Nat} {vs : List Value}, o + vs.length ≤ cs.length → one vs = true → spl cs o vs = some (cs.take o ++ vs ++ cs.drop (o + vs.length))
  | cs, 0, [], _, _ => by cases cs <;> simp [spl]
  | [], 0, v :: vs, h, _ => by simp at h
  | c :: r, 0, v :: vs, h, h1 => by
    have h1' : v.oneCell' = true ∧ one vs = true := by simpa [one] using h1
    simp only [spl, h1'.1]
    rw [spl_ok (cs := r) (o := 0) (by simp at h ⊢; omega) h1'.2]
    simp
  | [], o + 1, vs, h, _ => by simp at h
  | c :: r, o + 1, vs, h, h1 => by
    simp only [spl]
    rw [spl_ok (cs := r) (o := o) (by simp at h; omega) h1]
    simp [show o + 1 + vs.length = o + vs.length + 1 by omega]
theorem run_storeOwn {w : World} {ty : TypeId} {x y : Operand} {g off0 off n cap n' : Nat} {e : TypeId} {size : Nat} {xs vs : List Value} (ho : o.op = .store ty x y) (hx : ρ x = .pointer (some ⟨g, off0 + off, none⟩)) (hy : cellsL (ρ y) = vs)
    (hown : RowAt w e size (.slice (some ⟨g, off0, none⟩) n cap) n' xs) (hfit : off + vs.length ≤ xs.length) (h1 : one vs = true) (hn : tySize P ty = some vs.length) :
    ∃ cs', (execOp ρ o).run P w = .ok .skip (w.setRow g ⟨cs'⟩) ∧ RowAt (w.setRow g ⟨cs'⟩) e size (.slice (some ⟨g, off0, none⟩) n cap) n' (xs.take off ++ vs ++ xs.drop (off + vs.length)) := by
  obtain ⟨hl, h2⟩ := hown
  rcases h2 with ⟨h2, _⟩ | ⟨g', og, cap', cur, he, hh, hnc, hcm, hcs, htake⟩
  · simp at h2
  · simp only [Value.slice.injEq, Option.some.injEq, Addr.mk.injEq, and_true] at he
    obtain ⟨⟨rfl, rfl⟩, rfl, rfl⟩ := he
    have hxl : off0 + xs.length ≤ cur.length := by
      have : xs.length ≤ (cur.drop off0).length := by rw [← htake]; simp; omega
      have h3 : n * size ≤ cap * size := Nat.mul_le_mul_right _ hnc
      omega
    have hs := spl_ok (cs := cur) (o := off0 + off) (vs := vs) (by omega) h1
    refine ⟨_, run_storeBox ho hx (cs := cur) hh (by rw [hy]; exact hs) (by rw [hy]; exact hn), ?_, ?_⟩
    · simp; omega
    · refine .inr ⟨g, off0, cap, _, rfl, heap_setRow hh, hnc, hcm, ?_, ?_⟩
      · simp; omega
      · have hmin : n * size = xs.length := hl.symm
        rw [hmin]
        have e1 : xs = (cur.drop off0).take xs.length := by rw [← hmin]; exact htake.symm
        have e2 : xs.take off = (cur.drop off0).take off := by rw [e1, List.take_take, Nat.min_eq_left (by omega)]
        have e3 : xs.drop (off + vs.length) = (cur.drop (off0 + off + vs.length)).take (xs.length - (off + vs.length)) := by
          conv => lhs; rw [e1]
          rw [List.drop_take, List.drop_drop, Nat.add_assoc]
        rw [e2, e3, List.append_assoc, List.drop_append_of_le_length (by simp; omega), List.drop_take, show off0 + off - off0 = off by omega]
        rw [← List.append_assoc, List.take_append, List.take_of_length_le (by simp; omega)]
        have hq : ((cur.drop off0).take off ++ vs).length = off + vs.length := by rw [List.length_append, List.length_take, List.length_drop, Nat.min_eq_left (by omega)]
        rw [hq]
/-- a store into a row -/
theorem WL.storeOwn {ty : TypeId} {x y : Operand} {g off0 off n cap n' : Nat} {e : TypeId} {size : Nat} {xs vs : List Value} (hS : St w0 M w H Z) (ho : o.op = .store ty x y) (hx : ev f x = .pointer (some ⟨g, off0 + off, none⟩)) (hy : cellsO (ev f y) = some vs)
    (hr : Repl (.own (.slice (some ⟨g, off0, none⟩) n cap) e size n' xs) (.own (.slice (some ⟨g, off0, none⟩) n cap) e size n' (xs.take off ++ vs ++ xs.drop (off + vs.length))) H H') (hfit : off + vs.length ≤ xs.length) (h1 : one vs = true) (hn : tySize P ty = some vs.length)
    (hg : wants ops f o = true) (hd : o.dst = none) (h : ∀ w', St w0 M w' H' Z → WL P N ops l f w' Q) : WL P N ops (o :: l) f w Q := by
  obtain ⟨cs', hrun, hown'⟩ := run_storeOwn (P := P) ho hx (cellsO_eq hy) (hS.holds _ hr.mem) hfit h1 hn
  exact .unit0 hg hd hrun (h _ (hS.step hr ((Upd.setRow _ _ _).mono (by simp [Chunk.fp, Value.ownBlock])) hown' fun b hb => .inl hb))
/-- a call, whatever it does -/
theorem WL.callG {fid : FuncId} {xs : List Operand} {ts : Array TypeId} {args : List Value} {R : Value → World → Prop} (ho : o.op = .call ⟨.value (.func fid), ⟨xs⟩, ts⟩) (ha : xs.map (ev f) = args)
    (hc : Cal P fid args w R) (hg : wants ops f o = true) {d : Nat} (hd : o.dst = some d) (hn : N.ok d = true)
    (h : ∀ v w', R v w' → WL P N ops l (up f d v) w' Q) : WL P N ops (o :: l) f w Q :=
  .enter hg hd hn (run_callOp ho ha hc.ok) hc.calls h
end

/-- the function begins with an object that it may change -/
theorem Cal.mkM {P : Program} {fid : FuncId} {fn : Func} {c : Code} {args : List Value} {w : World} {R : Value → World → Prop} {k : Chunk} (hc : k.holds w) (hi : inB k w) (hk : callOk P fid = true)
    (hf : P.funcs[fid]? = some fn) (hb : fn.body = some c) (hn : Nat.ble args.length fn.ntmps = true)
    (h : St w k.fp w [k] [⟨w, fun b => b < w.heap.size ∧ b ∉ k.fp⟩] → WC P fn.ntmps c (fr0 args) w (funQ P fn.results fn (Ret R))) : Cal P fid args w R :=
  ⟨hk, J.calls hf hb hn (h (St.initM hc hi))⟩

/-! ## Rows that read as lists -/
/-- list[k:] of a row -/
def cutA (A : Option Addr) (cap j size : Nat) : Option Addr := if cap = j then A else A.map (·.add (j * size))
theorem RowAt.cut {w : World} {e : TypeId} {size n cap j : Nat} {A : Option Addr} {xs : List Value} (h : RowAt w e size (.slice A n cap) n xs) (hj : j ≤ n) : RowAt w e size (.slice (cutA A cap j size) (n - j) (cap - j)) (n - j) (xs.drop (j * size)) := by
  obtain ⟨h1, h2⟩ := h
  have hle : j * size ≤ n * size := Nat.mul_le_mul_right _ hj
  refine ⟨by rw [List.length_drop, h1, Nat.sub_mul], ?_⟩
  unfold cutA
  rcases h2 with ⟨h2, h3⟩ | ⟨g, og, cap', cur, h2, hh, hnc, hcm, hcs, htake⟩
  · simp only [Value.slice.injEq] at h2
    obtain ⟨rfl, _, rfl⟩ := h2
    refine .inl ⟨?_, by omega⟩
    have : j = 0 := by omega
    subst this
    subst h3
    simp
  · simp only [Value.slice.injEq] at h2
    obtain ⟨rfl, _, rfl⟩ := h2
    have hcj : j * size ≤ cap * size := Nat.mul_le_mul_right _ (by omega)
    split
    · rename_i e
      subst e
      refine .inr ⟨g, og, 0, cur, by simp, hh, by omega, by omega, by omega, ?_⟩
      have : n = cap := by omega
      subst this
      simp [List.drop_of_length_le (show xs.length ≤ n * size by omega)]
    · refine .inr ⟨g, og + j * size, cap - j, cur, by simp [Addr.add_mid], hh, by omega, by omega, by rw [Nat.sub_mul]; omega, ?_⟩
      rw [← htake, List.drop_take, List.drop_drop, Nat.sub_mul]
section
variable {P : Program} {N : Fz} {f : Fr} {w w0 : World} {Q : Post} {ops l : List Oper} {o : Oper} {M : List Nat} {H H' : List Chunk} {Z : List Snap}
theorem cutA_own {A : Option Addr} {cap j size n m c : Nat} : ∀ b, (Value.slice (cutA A cap j size) m c).ownBlock = some b → (Value.slice A n cap).ownBlock = some b := by
  intro b hb
  unfold cutA at hb
  split at hb
  · cases A <;> exact hb
  · cases A with
    | none => simp [Value.ownBlock] at hb
    | some a => simp only [Option.map_some, Value.ownBlock, Option.some.injEq] at hb ⊢; rw [← hb]; unfold Addr.add; split <;> rfl
theorem St.cut {A : Option Addr} {e : TypeId} {size n cap j : Nat} {xs : List Value} (hS : St w0 M w H Z) (hr : Repl (.own (.slice A n cap) e size n xs) (.own (.slice (cutA A cap j size) (n - j) (cap - j)) e size (n - j) (xs.drop (j * size))) H H') (hj : j ≤ n) : St w0 M w H' Z :=
  hS.recast hr (fun h => RowAt.cut h hj) fun b hb => by
    simp only [Chunk.fp, Option.mem_toList] at hb ⊢
    exact cutA_own b hb
end
end Go.J

/- What is proved: the walk's rules for quotients and rests of numbers that are not negative, for loads at a place that is not fixed, and for rows given to callees. Conditions: as each rule names them. -/
set_option linter.unusedSimpArgs false
set_option linter.unusedVariables false
namespace Go.J
open Go Go.RowKit

section
variable {P : Program} {N : Fz} {f : Fr} {w w0 : World} {Q : Post} {ops l : List Oper} {o : Oper} {M : List Nat} {H H' : List Chunk} {Z : List Snap} {ρ : Operand → Value}
theorem run_rem {ty ty' : TypeId} {x y : Operand} {a b : Int} (ho : o.op = .binOp .rem ty x y ty') (hx : ρ x = .int .i64 a) (hy : ρ y = .int .i64 b) (ha : 0 ≤ a) (hb : 0 < b) :
    (execOp ρ o).run P w = .ok (.value (.int .i64 (a % b))) w := by
  have h0 : ¬ b = 0 := by omega
  have h1 : (eqGuard .rem ty x y (.int .i64 a) (.int .i64 b)).run P w = .ok () w := by simp [eqGuard]
  have h2 : (binOp .rem ty (.int .i64 a) (.int .i64 b)).run P w = .ok (.int .i64 (a % b)) w := by simp [binOp, Op.intDiv, h0, Int.tmod_eq_emod_of_nonneg ha]
  simp only [execOp, ho, hx, hy, Sem.run_bind, h1, h2, Result.andThen_ok]
  rfl
theorem run_quo {ty ty' : TypeId} {x y : Operand} {a b : Int} (ho : o.op = .binOp .quo ty x y ty') (hx : ρ x = .int .i64 a) (hy : ρ y = .int .i64 b) (ha : 0 ≤ a) (ha2 : a ≤ 9223372036854775807) (hb : 0 < b) :
    (execOp ρ o).run P w = .ok (.value (.int .i64 (a / b))) w := by
  have h0 : ¬ b = 0 := by omega
  have h1 : (eqGuard .quo ty x y (.int .i64 a) (.int .i64 b)).run P w = .ok () w := by simp [eqGuard]
  have hle : a / b ≤ a := Int.ediv_le_self _ ha
  have hge : 0 ≤ a / b := Int.ediv_nonneg ha (by omega)
  have h2 : (binOp .quo ty (.int .i64 a) (.int .i64 b)).run P w = .ok (.int .i64 (a / b)) w := by
    simp only [binOp, Op.intDiv, h0, if_false, Int.tdiv_eq_ediv_of_nonneg ha, wrap_in (n := a / b) (by omega), ne_eq, not_true]
    rfl
  simp only [execOp, ho, hx, hy, Sem.run_bind, h1, h2, Result.andThen_ok]
  rfl
theorem WL.rem {ty ty' : TypeId} {x y : Operand} {a b : Int} (ho : o.op = .binOp .rem ty x y ty') (hx : ev f x = .int .i64 a) (hy : ev f y = .int .i64 b) (ha : 0 ≤ a) (hb : 0 < b)
    (hg : wants ops f o = true) {d : Nat} (hd : o.dst = some d) (hn : N.ok d = true) (h : WL P N ops l (up f d (.int .i64 (a % b))) w Q) : WL P N ops (o :: l) f w Q :=
  .val hg hd hn (run_rem ho hx hy ha hb) h
theorem WL.quo {ty ty' : TypeId} {x y : Operand} {a b : Int} (ho : o.op = .binOp .quo ty x y ty') (hx : ev f x = .int .i64 a) (hy : ev f y = .int .i64 b) (ha : 0 ≤ a) (ha2 : a ≤ 9223372036854775807) (hb : 0 < b)
    (hg : wants ops f o = true) {d : Nat} (hd : o.dst = some d) (hn : N.ok d = true) (h : WL P N ops l (up f d (.int .i64 (a / b))) w Q) : WL P N ops (o :: l) f w Q :=
  .val hg hd hn (run_quo ho hx hy ha ha2 hb) h
def toI64 (P : Program) (s d : TypeId) : Bool := match P.underlying s, P.underlying d with
  | some (.int _), some (.int .i64) => true
  | _, _ => false
theorem run_conv64 {s d : TypeId} {x : Operand} {k : IntKind} {a : Int} (ho : o.op = .convert s d x) (ht : toI64 P s d = true) (hx : ρ x = .int k a) (hr : -9223372036854775808 ≤ a ∧ a ≤ 9223372036854775807) :
    (execOp ρ o).run P w = .ok (.value (.int .i64 a)) w := by
  unfold toI64 at ht
  split at ht
  · rename_i hs hd
    simp [execOp, ho, hx, convert, run_underlying hs, run_underlying hd, Conv.intToInt, Sem.run_bind, wrap_in hr]
  · cases ht
theorem WL.conv64 {s d' : TypeId} {x : Operand} {k : IntKind} {a : Int} (ho : o.op = .convert s d' x) (ht : toI64 P s d' = true) (hx : ev f x = .int k a) (hr : -9223372036854775808 ≤ a ∧ a ≤ 9223372036854775807)
    (hg : wants ops f o = true) {d : Nat} (hd : o.dst = some d) (hn : N.ok d = true) (h : WL P N ops l (up f d (.int .i64 a)) w Q) : WL P N ops (o :: l) f w Q :=
  .val hg hd hn (run_conv64 ho ht hx hr) h
/-- what a cell at a place that isn't fixed holds -/
theorem getV_at {ty : TypeId} {cs : List Value} {off : Nat} {v : Value} (h0 : tyAgg P ty = some false) (h1 : ∃ n, tySize P ty = some n) (h : cs[off]? = some v) (hv : nfv v = some v) : getV P ty cs off = some v := by
  obtain ⟨n, hn⟩ := h1
  unfold getV getV0
  rw [h0, hn]
  simp only [h, nfo, hv]
theorem LdOk.ownAt {g off0 n cap off : Nat} {e ty : TypeId} {size n' : Nat} {xs : List Value} {v : Value} (hm : Chunk.own (.slice (some ⟨g, off0, none⟩) n cap) e size n' xs ∈ H) (h0 : tyAgg P ty = some false) (h1 : ∃ n, tySize P ty = some n) (h : xs[off]? = some v) (hv : nfv v = some v) : LdOk P H Z ty ⟨g, off0 + off, none⟩ v :=
  .own hm (getV_at h0 h1 h hv)
theorem More.new {H0 : List Chunk} {Z0 : List Snap} {c : Chunk} (hM : More H0 Z0 H Z) (_ : St w0 M w (c :: H) Z) : More H0 Z0 (c :: H) Z := hM.chunk c

/-! ## rows for callees -/
theorem flat_len {α : Type} {enc : α → List Value} {sz : Nat} (hsz : ∀ x, (enc x).length = sz) (l : List α) : (l.flatMap enc).length = l.length * sz := by
  induction l with
  | nil => simp
  | cons a l ih => simp only [List.flatMap_cons, List.length_append, hsz, ih, List.length_cons, Nat.add_mul]; omega
end
section
variable {P : Program} {N : Fz} {f : Fr} {w w0 : World} {Q : Post} {ops : List Oper} {M : List Nat} {H0 H H' : List Chunk} {Z0 Z : List Snap} {q : Qs} {l : List Nat} {i : Nat}
theorem WD.conv64 {S : World → Prop} {s d' : TypeId} {x : Operand} {k : IntKind} {a : Int} (ho : (ix ops i).op = .convert s d' x) (ht : toI64 P s d' = true) (hx : ev f x = .int k a) (hr : -9223372036854775808 ≤ a ∧ a ≤ 9223372036854775807)
    (hq : q.contains i = true) (hg : wants ops f (ix ops i) = true) {d : Nat} (hd : (ix ops i).dst = some d) (hn : N.ok d = true) (h : WD P N S ops q l (up f d (.int .i64 a)) w Q) : WD P N S ops q (i :: l) f w Q :=
  .take hq hd hn (.inl ⟨hg, fun _ _ => run_conv64 ho ht hx hr⟩) h
/-- a call, whatever it does -/
theorem WD.callG {fid : FuncId} {xs : List Operand} {ts : Array TypeId} {args : List Value} {R : Value → World → Prop} (ho : (ix ops i).op = .call ⟨.value (.func fid), ⟨xs⟩, ts⟩) (ha : xs.map (ev f) = args)
    (hc : Cal P fid args w R) (hq : q.contains i = false) (hi : Nat.blt i ops.length = true) (hg : wants ops f (ix ops i) = true) {d : Nat} (hd : (ix ops i).dst = some d) (hn : N.ok d = true)
    (h : ∀ v w', R v w' → SS w0 M H0 Z0 w' ∧ WD P N (SS w0 M H0 Z0) ops q l (up f d v) w' Q) : WD P N (SS w0 M H0 Z0) ops q (i :: l) f w Q :=
  .enter hq hi hg hd hn (run_callOp ho ha hc.ok) hc.calls h
end
end Go.J

/- What is proved: rules that cut a walk where ways meet again. Conditions: none. -/
set_option linter.unusedSimpArgs false
set_option linter.unusedVariables false
namespace Go.J
open Go Go.RowKit

/-- what holds where a block is left: the slots that are named, and those that are kept -/
def cutQ {σ : Type} (id : Nat) (keep : List Nat) (lv : σ → List (Nat × Value)) (I : σ → World → Prop) (f : Fr) (Q : Post) : Post
  | .exit i, f', w' => match Nat.beq i id with
    | true => ∃ s, I s w' ∧ agree f' (lv s) ∧ agreeK f' f keep
    | false => Q (.exit i) f' w'
  | e, f', w' => Q e f' w'
/-- what holds behind a piece of code -/
def endQ {σ : Type} (keep : List Nat) (lv : σ → List (Nat × Value)) (I : σ → World → Prop) (f : Fr) (Q : Post) : Post
  | .normal, f', w' => ∃ s, I s w' ∧ agree f' (lv s) ∧ agreeK f' f keep
  | e, f', w' => Q e f' w'
section
variable {P : Program} {N : Fz} {f f' : Fr} {w : World} {Q : Post} {x y : Code} {σ : Type} {id : Nat} {keep : List Nat} {lv : σ → List (Nat × Value)} {I : σ → World → Prop}
theorem cutQ_miss {i : Nat} (e : Nat.beq i id = false) (h : Q (.exit i) f' w) : cutQ id keep lv I f Q (.exit i) f' w := by
  show (match Nat.beq i id with | true => _ | false => _)
  rw [e]; exact h
theorem cutQ_n (h : Q .normal f' w) : cutQ id keep lv I f Q .normal f' w := h
theorem cutQ_r (h : Q .ret f' w) : cutQ id keep lv I f Q .ret f' w := h
theorem endQ_x {i : Nat} (h : Q (.exit i) f' w) : endQ keep lv I f Q (.exit i) f' w := h
theorem endQ_r (h : Q .ret f' w) : endQ keep lv I f Q .ret f' w := h
end
attribute [irreducible] cutQ endQ
end Go.J

/- What is proved: the walk's rules for texts (joined, indexed, cut, gone through letter by letter), for functions of the library that the model stands in for, for make, and for max and min. Conditions: as each rule names them. -/
set_option linter.unusedSimpArgs false
set_option linter.unusedVariables false
namespace Go.J
open Go Go.RowKit

section
variable {P : Program} {N : Fz} {f : Fr} {w w0 : World} {Q : Post} {ops l : List Oper} {o : Oper} {M : List Nat} {H H' : List Chunk} {Z : List Snap} {ρ : Operand → Value}

/-! ## Texts -/
theorem run_cat {ty ty' : TypeId} {x y : Operand} {a b : List UInt8} (ho : o.op = .binOp .add ty x y ty') (hx : ρ x = str a) (hy : ρ y = str b) (hr : a.length + b.length ≤ 9223372036854775807) :
    (execOp ρ o).run P w = .ok (.value (str (a ++ b))) w := by
  have h1 : (eqGuard .add ty x y (str a) (str b)).run P w = .ok () w := by simp [eqGuard]
  have hm : ¬ (((a.length + b.length : Nat) : Int) > IntKind.i64.max) := by
    have : IntKind.i64.max = 9223372036854775807 := by decide
    omega
  have h2 : (binOp .add ty (str a) (str b)).run P w = .ok (str (a ++ b)) w := by
    show (Op.stringOp .add ⟨⟨a⟩⟩ ⟨⟨b⟩⟩).run P w = _
    unfold Op.stringOp
    simp only [size_mk, hm, if_false]
    have : (ByteArray.mk ⟨a⟩ ++ ByteArray.mk ⟨b⟩) = ByteArray.mk ⟨a ++ b⟩ := by
      apply ByteArray.ext
      rw [ByteArray.data_append]
      simp
    rw [this]
    rfl
  simp only [execOp, ho, hx, hy, Sem.run_bind, h1, h2, Result.andThen_ok]
  rfl
theorem WL.cat {ty ty' : TypeId} {x y : Operand} {a b : List UInt8} (ho : o.op = .binOp .add ty x y ty') (hx : ev f x = str a) (hy : ev f y = str b) (hr : a.length + b.length ≤ 9223372036854775807)
    (hg : wants ops f o = true) {d : Nat} (hd : o.dst = some d) (hn : N.ok d = true) (h : WL P N ops l (up f d (str (a ++ b))) w Q) : WL P N ops (o :: l) f w Q :=
  .val hg hd hn (run_cat ho hx hy hr) h
def isStr (P : Program) (t : TypeId) : Bool := match P.underlying t with
  | some .string => true
  | _ => false
theorem isStr_eq {t : TypeId} (h : isStr P t = true) : P.underlying t = some .string := by
  unfold isStr at h
  split at h
  · assumption
  · cases h
theorem run_idxS {t : TypeId} {x y : Operand} {s : List UInt8} {k : IntKind} {j : Nat} {c : UInt8} (ho : o.op = .index t x y) (ht : isStr P t = true) (hx : ρ x = str s) (hy : ρ y = .int k (Int.ofNat j)) (hj : s[j]? = some c) :
    (execOp ρ o).run P w = .ok (.value (.int .u8 (c.toNat : Int))) w := by
  have hu := isStr_eq ht
  have hlt : j < s.length := (List.getElem?_eq_some_iff.1 hj).1
  have h1 : (ByteArray.mk ⟨s⟩)[j]? = some c := by
    have hs : j < (ByteArray.mk ⟨s⟩).size := hlt
    rw [getElem?_pos (ByteArray.mk ⟨s⟩) j hs]
    have : (ByteArray.mk ⟨s⟩)[j] = s[j] := rfl
    rw [this, ← hj, List.getElem?_eq_getElem hlt]
  have h3 : (asIntOf (.int k (Int.ofNat j))).run P w = .ok (k, Int.ofNat j) w := by simp [asIntOf]
  have h0 : (0 : Int) ≤ Int.ofNat j := Int.natCast_nonneg j
  have h2 : (Int.ofNat j).toNat = j := rfl
  simp only [execOp, ho, hx, hy, Instr.index, Sem.run_bind, h3, run_underlying hu, Result.andThen_ok, h0, if_true, h2, h1]
  rfl
theorem WL.idxS {t : TypeId} {x y : Operand} {s : List UInt8} {k : IntKind} {j : Nat} {c : UInt8} (ho : o.op = .index t x y) (ht : isStr P t = true) (hx : ev f x = str s) (hy : ev f y = .int k (Int.ofNat j)) (hj : s[j]? = some c)
    (hg : wants ops f o = true) {d : Nat} (hd : o.dst = some d) (hn : N.ok d = true) (h : WL P N ops l (up f d (.int .u8 (c.toNat : Int))) w Q) : WL P N ops (o :: l) f w Q :=
  .val hg hd hn (run_idxS ho ht hx hy hj) h
theorem extract_mk (s : List UInt8) (l h : Nat) : (ByteArray.mk ⟨s⟩).extract l h = ByteArray.mk ⟨(s.take h).drop l⟩ := by
  apply ByteArray.ext
  rw [ByteArray.data_extract]
  simp
  rw [List.drop_take]
theorem run_cutS {t : TypeId} {x : Operand} {lo hi : Option Operand} {s : List UInt8} {l h : Nat} (ho : o.op = .slice t x lo hi none) (ht : isStr P t = true) (hx : ρ x = str s)
    (hl : match lo with | none => l = 0 | some y => ∃ k, ρ y = .int k (Int.ofNat l)) (hh : match hi with | none => h = s.length | some y => ∃ k, ρ y = .int k (Int.ofNat h)) (hlh : l ≤ h) (hhs : h ≤ s.length) :
    (execOp ρ o).run P w = .ok (.value (str ((s.take h).drop l))) w := by
  have hu := isStr_eq ht
  have h3 : ∀ k j, (asIntOf (.int k (Int.ofNat j))).run P w = .ok (k, Int.ofNat j) w := by intro k j; simp [asIntOf]
  have hb : ∀ k j y c, j ≤ y → (Instr.sliceBound (.int k (Int.ofNat j)) y c).run P w = .ok j w := by
    intro k j y c hjy
    have : (0 : Int) ≤ Int.ofNat j ∧ Int.ofNat j ≤ (y : Int) := ⟨Int.natCast_nonneg j, by show (j : Int) ≤ y; omega⟩
    simp only [Instr.sliceBound, Sem.run_bind, h3, Result.andThen_ok, this, if_true, and_self]
    rfl
  have hsz : (ByteArray.mk ⟨s⟩).size = s.length := rfl
  cases lo with
  | none =>
    cases hi with
    | none =>
      simp only at hl hh
      subst hl hh
      simp [execOp, ho, hx, Instr.sliceAt, Instr.slice, Instr.sliceBounds, Sem.run_bind, run_underlying hu, hsz, extract_mk]
    | some y =>
      obtain ⟨k, hk⟩ := hh
      simp only at hl
      subst hl
      simp [execOp, ho, hx, hk, Instr.sliceAt, Instr.slice, Instr.sliceBounds, Sem.run_bind, run_underlying hu, hsz, extract_mk, hb _ _ _ _ hhs]
      rw [show ((h : Int)) = Int.ofNat h from rfl, hb _ _ _ _ hhs]
      simp [extract_mk]
  | some x' =>
    obtain ⟨k, hk⟩ := hl
    cases hi with
    | none =>
      simp only at hh
      subst hh
      simp [execOp, ho, hx, hk, Instr.sliceAt, Instr.slice, Instr.sliceBounds, Sem.run_bind, run_underlying hu, hsz, extract_mk]
      rw [show ((l : Int)) = Int.ofNat l from rfl, hb _ _ _ _ hlh]
      simp [extract_mk]
    | some y =>
      obtain ⟨k', hk'⟩ := hh
      simp [execOp, ho, hx, hk, hk', Instr.sliceAt, Instr.slice, Instr.sliceBounds, Sem.run_bind, run_underlying hu, hsz, extract_mk]
      rw [show ((h : Int)) = Int.ofNat h from rfl, show ((l : Int)) = Int.ofNat l from rfl, hb _ _ _ _ hhs]
      simp only [Result.andThen_ok]
      rw [hb _ _ _ _ hlh]
      simp [extract_mk]
/-- s[lo:] -/
theorem WL.lowS {t : TypeId} {x y : Operand} {s : List UInt8} {k : IntKind} {j : Nat} (ho : o.op = .slice t x (some y) none none) (ht : isStr P t = true) (hx : ev f x = str s) (hy : ev f y = .int k (Int.ofNat j)) (hj : j ≤ s.length)
    (hg : wants ops f o = true) {d : Nat} (hd : o.dst = some d) (hn : N.ok d = true) (h : WL P N ops l (up f d (str (s.drop j))) w Q) : WL P N ops (o :: l) f w Q :=
  .val hg hd hn (by have := run_cutS (P := P) (w := w) (l := j) (h := s.length) ho ht hx ⟨k, hy⟩ rfl hj (Nat.le_refl _); rwa [List.take_length] at this) h
/-- s[:hi] -/
theorem WL.highS {t : TypeId} {x y : Operand} {s : List UInt8} {k : IntKind} {j : Nat} (ho : o.op = .slice t x none (some y) none) (ht : isStr P t = true) (hx : ev f x = str s) (hy : ev f y = .int k (Int.ofNat j)) (hj : j ≤ s.length)
    (hg : wants ops f o = true) {d : Nat} (hd : o.dst = some d) (hn : N.ok d = true) (h : WL P N ops l (up f d (str (s.take j))) w Q) : WL P N ops (o :: l) f w Q :=
  .val hg hd hn (by have := run_cutS (P := P) (w := w) (l := 0) (h := j) ho ht hx rfl ⟨k, hy⟩ (Nat.zero_le _) hj; rwa [List.drop_zero] at this) h
/-- s[lo:hi] -/
theorem WL.midS {t : TypeId} {x y z : Operand} {s : List UInt8} {k k' : IntKind} {i j : Nat} (ho : o.op = .slice t x (some y) (some z) none) (ht : isStr P t = true) (hx : ev f x = str s) (hy : ev f y = .int k (Int.ofNat i)) (hz : ev f z = .int k' (Int.ofNat j)) (hij : i ≤ j) (hj : j ≤ s.length)
    (hg : wants ops f o = true) {d : Nat} (hd : o.dst = some d) (hn : N.ok d = true) (h : WL P N ops l (up f d (str ((s.take j).drop i))) w Q) : WL P N ops (o :: l) f w Q :=
  .val hg hd hn (run_cutS (P := P) (w := w) (l := i) (h := j) ho ht hx ⟨k, hy⟩ ⟨k', hz⟩ hij hj) h

/-! ## max and min -/
theorem run_max {x y : Operand} {ts : Array TypeId} {a b : Int} (ho : o.op = .call ⟨.builtin .max, ⟨[x, y]⟩, ts⟩) (hx : ρ x = .int .i64 a) (hy : ρ y = .int .i64 b) : (execOp ρ o).run P w = .ok (.value (.int .i64 (max a b))) w := by
  have e : max a b = if b > a then b else a := by split <;> omega
  rw [e]
  simp [execOp, ho, resolve, invoke, builtin, Sem.run_bind, hx, hy, Builtin.max_, Builtin.max2]
theorem WL.maxI {x y : Operand} {ts : Array TypeId} {a b : Int} (ho : o.op = .call ⟨.builtin .max, ⟨[x, y]⟩, ts⟩) (hx : ev f x = .int .i64 a) (hy : ev f y = .int .i64 b)
    (hg : wants ops f o = true) {d : Nat} (hd : o.dst = some d) (hn : N.ok d = true) (h : WL P N ops l (up f d (.int .i64 (max a b))) w Q) : WL P N ops (o :: l) f w Q := .val hg hd hn (run_max ho hx hy) h
theorem run_min {x y : Operand} {ts : Array TypeId} {a b : Int} (ho : o.op = .call ⟨.builtin .min, ⟨[x, y]⟩, ts⟩) (hx : ρ x = .int .i64 a) (hy : ρ y = .int .i64 b) : (execOp ρ o).run P w = .ok (.value (.int .i64 (min a b))) w := by
  have e : min a b = if b < a then b else a := by split <;> omega
  rw [e]
  simp [execOp, ho, resolve, invoke, builtin, Sem.run_bind, hx, hy, Builtin.min_, Builtin.min2]
theorem WL.minI {x y : Operand} {ts : Array TypeId} {a b : Int} (ho : o.op = .call ⟨.builtin .min, ⟨[x, y]⟩, ts⟩) (hx : ev f x = .int .i64 a) (hy : ev f y = .int .i64 b)
    (hg : wants ops f o = true) {d : Nat} (hd : o.dst = some d) (hn : N.ok d = true) (h : WL P N ops l (up f d (.int .i64 (min a b))) w Q) : WL P N ops (o :: l) f w Q := .val hg hd hn (run_min ho hx hy) h

/-! ## what the model stands in for -/
structure ExtIs (P : Program) (fid : FuncId) (e : Array Value → Sem Value) : Prop where
  out : ∃ fn, P.funcs[fid]? = some fn ∧ (fn.name == "runtime.NumGoroutine") = false ∧ fn.body.isNone = true ∧ Extern.findNext fn = none ∧ Extern.find fn = some e
theorem run_ext {fid : FuncId} {e : Array Value → Sem Value} {xs : List Operand} {ts : Array TypeId} {args : List Value} {v : Value} {w' : World} (ho : o.op = .call ⟨.value (.func fid), ⟨xs⟩, ts⟩) (ha : xs.map (ev f) = args) (he : ExtIs P fid e) (hr : (e ⟨args⟩).run P w = .ok v w') :
    (execOp (ev f) o).run P w = .ok (.value v) w' := by
  have e1 : execOp (ev f) o = callFunc fid (#[] ++ (Array.mk xs).map (ev f) ++ #[]) := by
    obtain ⟨dst, op, type, pos, after, guard⟩ := o
    simp only at ho
    subst ho
    rfl
  obtain ⟨fn, h1, h2, h3, h4, h5⟩ := he.out
  have e2 : (#[] ++ (Array.mk xs).map (ev f) ++ #[] : Array Value) = ⟨args⟩ := by simp [ha]
  rw [e1, e2, run_callFunc_extern h1 h2 h3 h4 h5, hr]
  rfl
theorem WL.ext {fid : FuncId} {e : Array Value → Sem Value} {xs : List Operand} {ts : Array TypeId} {args : List Value} {v : Value} (ho : o.op = .call ⟨.value (.func fid), ⟨xs⟩, ts⟩) (ha : xs.map (ev f) = args) (he : ExtIs P fid e) (hr : (e ⟨args⟩).run P w = .ok v w)
    (hg : wants ops f o = true) {d : Nat} (hd : o.dst = some d) (hn : N.ok d = true) (h : WL P N ops l (up f d v) w Q) : WL P N ops (o :: l) f w Q := .val hg hd hn (run_ext ho ha he hr) h
theorem run_indexByte (s : List UInt8) (c : UInt8) : (Extern.BytealgIndexByte.indexByte ⟨[str s, .int .u8 (c.toNat : Int)]⟩).run P w = .ok (.int .i64 (Lib.indexByte s c)) w := by
  have := Lib.run_indexByteString (P := P) ⟨⟨s⟩⟩ (c.toNat : Int) w
  simpa using this
theorem run_countByte (s : List UInt8) (c : UInt8) : (Extern.BytealgCount.count ⟨[str s, .int .u8 (c.toNat : Int)]⟩).run P w = .ok (.int .i64 ((s.count c : Nat) : Int)) w := by
  have := Lib.run_countString (P := P) ⟨⟨s⟩⟩ (c.toNat : Int) w
  simpa [Lib.countByte] using this

/-! ## make([]T, n) -/
theorem run_mk {t e : TypeId} {size bytes : Nat} {x y : Operand} {n : Nat} {zs : List Value} (ho : o.op = .makeSlice t x y) (hi : appOf P t = some (e, size, bytes)) (hz : ∃ z, tyZero P e = some z ∧ cellsO z = some zs) (hx : ρ x = .int .i64 (Int.ofNat n)) (hy : ρ y = .int .i64 (Int.ofNat n)) (hb : bytes * n ≤ 281474976710656) :
    ∃ w', (execOp ρ o).run P w = .ok (.value (.slice (some ⟨w.heap.size, 0, none⟩) n n)) w' ∧ RowAt w' e size (.slice (some ⟨w.heap.size, 0, none⟩) n n) n (repZ zs n) ∧ Upd [] w w' ∧ w.heap.size < w'.heap.size := by
  obtain ⟨i, z, hu, hinfo, hz', rfl, rfl, hzs, h0, h0b⟩ := appOf_spec hi
  obtain ⟨z', hz1, hz2⟩ := hz
  have hzz : z' = z := by
    unfold tyZero at hz1
    split at hz1
    · rename_i hi'
      rw [hinfo] at hi'
      simp only [Option.some.injEq] at hi' hz1
      subst hi'
      simp only [Option.some.injEq] at hz'
      rw [← hz1, ← hz']
    · cases hz1
  subst hzz
  have hle : n ≤ i.bytes * n := Nat.le_mul_of_pos_left _ h0b
  obtain ⟨w', hrun, hown, hgr⟩ := run_make_full (P := P) w 0 t e i z' i.size hu hinfo hz' rfl .i64 .i64 n hb (by unfold maxLen; omega) (Nat.zero_le _)
  refine ⟨w', ?_, ?_, ⟨hgr.os, hgr.tape, hgr.output, hgr.size, fun b hb' _ => hgr.block b hb' (by simp)⟩, ?_⟩
  · simp only [execOp, ho, hx, hy, Sem.run_bind]
    have h := hrun
    rw [show ((n : Int)) = Int.ofNat n from rfl] at h
    rw [h]
    rfl
  · have := RowAt.of_owns hown
    have e1 : (madeCells z'.cells (n * i.size)).toList = repZ zs n := by
      have hzc : z'.cells = ⟨zs⟩ := by rw [cells_mk, cellsO_eq hz2]
      have hl : zs.length = i.size := by rw [← hzs, hzc]; simp
      have h1 := repZ_arr zs (by omega) n
      rw [hl] at h1
      unfold madeCells
      rw [hzc, h1]
    rwa [e1] at this
  · have := hown.lt w.heap.size rfl
    exact this.2
theorem WL.mkS {t e : TypeId} {size bytes : Nat} {x y : Operand} {n : Nat} {zs : List Value} (hS : St w0 M w H Z) (ho : o.op = .makeSlice t x y) (hi : appOf P t = some (e, size, bytes)) (hz : ∃ z, tyZero P e = some z ∧ cellsO z = some zs) (hx : ev f x = .int .i64 (Int.ofNat n)) (hy : ev f y = .int .i64 (Int.ofNat n)) (hb : bytes * n ≤ 281474976710656)
    (hg : wants ops f o = true) {d : Nat} (hd : o.dst = some d) (hn : N.ok d = true)
    (h : ∀ w' b, St w0 M w' (.own (.slice (some ⟨b, 0, none⟩) n n) e size n (repZ zs n) :: H) Z → WL P N ops l (up f d (.slice (some ⟨b, 0, none⟩) n n)) w' Q) : WL P N ops (o :: l) f w Q := by
  obtain ⟨w', hrun, hown, hu, hlt⟩ := run_mk (P := P) (w := w) ho hi hz hx hy hb
  exact .val hg hd hn hrun (h w' _ (hS.push hu hown fun b hb => by simp [Chunk.fp, Value.ownBlock] at hb; subst hb; exact ⟨Nat.le_refl _, hlt⟩))

/-! ## list[:k] of a row -/
theorem run_sliceHigh {t e : TypeId} {size : Nat} {x y : Operand} {g off n cap j : Nat} {k : IntKind} (ho : o.op = .slice t x none (some y) none) (he : elemOf P t = some (e, size)) (hx : ρ x = .slice (some ⟨g, off, none⟩) n cap) (hy : ρ y = .int k (Int.ofNat j)) (hj : j ≤ cap) :
    (execOp ρ o).run P w = .ok (.value (.slice (some ⟨g, off, none⟩) j cap)) w := by
  unfold elemOf at he
  split at he
  · rename_i e' hu
    split at he
    · rename_i n' hn
      simp only [Option.some.injEq, Prod.mk.injEq] at he
      obtain ⟨rfl, rfl⟩ := he
      simp [execOp, ho, hx, hy, Instr.sliceAt, Instr.slice, Instr.sliceBounds, Instr.sliceBound, asIntOf, Sem.run_bind, run_underlying hu, run_sizeOf hn, hj, Addr.add_mid]
    · cases he
  · cases he
theorem RowAt.high {e : TypeId} {size n cap j g off : Nat} {xs : List Value} (h : RowAt w e size (.slice (some ⟨g, off, none⟩) n cap) n xs) (hj : j ≤ n) : RowAt w e size (.slice (some ⟨g, off, none⟩) j cap) j (xs.take (j * size)) := by
  obtain ⟨h1, h2⟩ := h
  have hle : j * size ≤ n * size := Nat.mul_le_mul_right _ hj
  rcases h2 with ⟨h2, h3⟩ | ⟨g', og, cap', cur, h2, hh, hnc, hcm, hcs, htake⟩
  · simp at h2
  · simp only [Value.slice.injEq, Option.some.injEq, Addr.mk.injEq, and_true] at h2
    obtain ⟨⟨rfl, rfl⟩, _, rfl⟩ := h2
    refine ⟨by rw [List.length_take, h1]; omega, .inr ⟨g, off, cap, cur, rfl, hh, by omega, hcm, hcs, ?_⟩⟩
    rw [← htake, List.take_take, Nat.min_eq_left hle]
theorem WL.sliceHigh {t e : TypeId} {size g off n cap j : Nat} {x y : Operand} {k : IntKind} {xs : List Value} (hS : St w0 M w H Z) (ho : o.op = .slice t x none (some y) none) (he : elemOf P t = some (e, size)) (hx : ev f x = .slice (some ⟨g, off, none⟩) n cap) (hy : ev f y = .int k (Int.ofNat j))
    (hr : Repl (.own (.slice (some ⟨g, off, none⟩) n cap) e size n xs) (.own (.slice (some ⟨g, off, none⟩) j cap) e size j (xs.take (j * size))) H H') (hj : j ≤ n) (hc : n ≤ cap)
    (hg : wants ops f o = true) {d : Nat} (hd : o.dst = some d) (hn : N.ok d = true) (h : St w0 M w H' Z → WL P N ops l (up f d (.slice (some ⟨g, off, none⟩) j cap)) w Q) : WL P N ops (o :: l) f w Q :=
  .val hg hd hn (run_sliceHigh ho he hx hy (by omega)) (h (hS.recast hr (fun h => RowAt.high h hj) fun b hb => hb))

/-! ## a text gone through -/
def ItIs (b : Nat) (s : List UInt8) (pos : Nat) (w : World) : Prop := w.heap[b]? = some (.stringIter ⟨⟨s⟩⟩ pos)
theorem ItIs.local {b : Nat} {s : List UInt8} {pos : Nat} : Local [b] (ItIs b s pos) := fun w w' h e => (h b (by simp)).trans e
abbrev itC (b : Nat) (s : List UInt8) (pos : Nat) : Chunk := .obj [b] (ItIs b s pos)
theorem WL.rangeS {t : TypeId} {x : Operand} {s : List UInt8} (hS : St w0 M w H Z) (ho : o.op = .range t x) (ht : isStr P t = true) (hx : ev f x = str s) (hg : wants ops f o = true) {d : Nat} (hd : o.dst = some d) (hn : N.ok d = true)
    (h : ∀ w' b, St w0 M w' (itC b s 0 :: H) Z → WL P N ops l (up f d (.pointer (some ⟨b, 0, none⟩))) w' Q) : WL P N ops (o :: l) f w Q := by
  have hrun : (execOp (ev f) o).run P w = .ok (.value (.pointer (some ⟨w.heap.size, 0, none⟩))) (w.alloc (.stringIter ⟨⟨s⟩⟩ 0)) := by
    simp only [execOp, ho, hx, Instr.range, Sem.run_bind, run_underlying (isStr_eq ht), Result.andThen_ok, Sem.run_pure]
    rfl
  refine .val hg hd hn hrun (h _ _ (hS.push (.alloc _ _ _) ⟨heap_alloc_new w _, ItIs.local⟩ fun b hb => ?_))
  have : b = w.heap.size := by simpa [Chunk.fp] using hb
  subst this; simp
theorem run_nextS_end {x : Operand} {b : Nat} {s : List UInt8} {pos : Nat} (ho : o.op = .next x true) (hx : ρ x = .pointer (some ⟨b, 0, none⟩)) (hb : ItIs b s pos w) (hp : s.length ≤ pos) : (execOp ρ o).run P w = .ok (.value (.tuple #[.bool false])) w := by
  have hn : ¬ pos < (ByteArray.mk ⟨s⟩).size := by show ¬ pos < s.length; omega
  have hget : (getObj b).run P w = .ok (.stringIter ⟨⟨s⟩⟩ pos) w := by simp [getObj, Sem.run, ItIs] at hb ⊢; simp [hb, Sem.run]
  simp only [execOp, ho, hx, Instr.next, Sem.run_bind, hget, Result.andThen_ok, hn, if_false]
  rfl
theorem get_lt (s : List UInt8) (i : Nat) (h : i < s.length) : (ByteArray.mk ⟨s⟩).get! i = s[i] := by
  show (Array.mk s)[i]! = s[i]
  simp [h]
/-- the letter and its width at a place: a letter below 128 is itself -/
theorem decode_small (s : List UInt8) (pos : Nat) (h : pos < s.length) (h8 : s[pos].toNat < 128) : Utf8.decode ⟨⟨s⟩⟩ pos = (s[pos].toNat, 1) := by
  unfold Utf8.decode
  simp only [Nat.add_zero, get_lt s pos h, if_pos h8]
theorem decode_big (s : List UInt8) (pos : Nat) (h : pos < s.length) (h8 : ¬ s[pos].toNat < 128) : 128 ≤ (Utf8.decode ⟨⟨s⟩⟩ pos).1 ∧ 1 ≤ (Utf8.decode ⟨⟨s⟩⟩ pos).2 := by
  unfold Utf8.decode
  simp only [Nat.add_zero, get_lt s pos h, if_neg h8, Utf8.runeError]
  repeat' split
  all_goals (simp only [Bool.and_eq_true, decide_eq_true_eq, ge_iff_le] at *; omega)
theorem run_nextS {x : Operand} {b : Nat} {s : List UInt8} {pos : Nat} (ho : o.op = .next x true) (hx : ρ x = .pointer (some ⟨b, 0, none⟩)) (hb : ItIs b s pos w) (hp : pos < s.length) :
    (execOp ρ o).run P w = .ok (.value (.tuple #[.bool true, .int .i64 (pos : Int), .int .i32 ((Utf8.decode ⟨⟨s⟩⟩ pos).1 : Int)])) { w with heap := w.heap.setIfInBounds b (.stringIter ⟨⟨s⟩⟩ (pos + (Utf8.decode ⟨⟨s⟩⟩ pos).2)) } := by
  have hn : pos < (ByteArray.mk ⟨s⟩).size := hp
  have hb' : w.heap[b]? = some (.stringIter ⟨⟨s⟩⟩ pos) := hb
  have hget : (getObj b).run P w = .ok (.stringIter ⟨⟨s⟩⟩ pos) w := by simp [getObj, Sem.run, hb']
  have hset : ∀ ob, (setObj b ob).run P w = .ok () { w with heap := w.heap.setIfInBounds b ob } := by intro ob; simp [setObj, Sem.run, hb']
  simp only [execOp, ho, hx, Instr.next, Sem.run_bind, hget, Result.andThen_ok, hn, if_true]
  rcases hd : Utf8.decode ⟨⟨s⟩⟩ pos with ⟨c, width⟩
  simp only [Sem.run_bind, hset, Result.andThen_ok]
  rfl
theorem WL.nextS_end {x : Operand} {b : Nat} {s : List UInt8} {pos : Nat} (hS : St w0 M w H Z) (ho : o.op = .next x true) (hx : ev f x = .pointer (some ⟨b, 0, none⟩)) (hm : itC b s pos ∈ H) (hp : s.length ≤ pos)
    (hg : wants ops f o = true) {d : Nat} (hd : o.dst = some d) (hn : N.ok d = true) (h : WL P N ops l (up f d (.tuple #[.bool false])) w Q) : WL P N ops (o :: l) f w Q :=
  .val hg hd hn (run_nextS_end ho hx (hS.holds _ hm).1 hp) h
theorem WL.nextS {x : Operand} {b : Nat} {s : List UInt8} {pos c width : Nat} (hS : St w0 M w H Z) (ho : o.op = .next x true) (hx : ev f x = .pointer (some ⟨b, 0, none⟩)) (hr : Repl (itC b s pos) (itC b s (pos + width)) H H') (hp : pos < s.length) (hc : Utf8.decode ⟨⟨s⟩⟩ pos = (c, width))
    (hg : wants ops f o = true) {d : Nat} (hd : o.dst = some d) (hn : N.ok d = true) (h : ∀ w', St w0 M w' H' Z → WL P N ops l (up f d (.tuple #[.bool true, .int .i64 (pos : Int), .int .i32 (c : Int)])) w' Q) : WL P N ops (o :: l) f w Q := by
  have hI := (hS.holds _ hr.mem).1
  have hrun := run_nextS (P := P) ho hx hI hp
  rw [hc] at hrun
  have hlt : b < w.heap.size := (hS.inb _ hr.mem b (by simp [Chunk.fp])).1
  refine .val hg hd hn hrun (h _ (hS.step hr ⟨rfl, rfl, rfl, by simp, fun k hk hn => ?_⟩ ⟨?_, ItIs.local⟩ fun b hb => .inl hb))
  · have hne : k ≠ b := fun e => hn (by simp [Chunk.fp, e])
    show (w.heap.setIfInBounds b _)[k]? = _
    rw [Array.getElem?_setIfInBounds_ne (by omega)]
  · show (w.heap.setIfInBounds b _)[b]? = _
    simp [hlt]
end
end Go.J

/- What is proved: the walk's rules for shifts, complements, bytes to texts and back, closures, functions without results, and a builder of texts. Conditions: as each rule names them. -/
set_option linter.unusedSimpArgs false
set_option linter.unusedVariables false
namespace Go.J
open Go Go.RowKit

def shrI (k : IntKind) (a b : Int) : Int := a.fdiv (2 ^ (min b.toNat k.bits))
def shlI (k : IntKind) (a b : Int) : Int := k.wrap (a * 2 ^ (min b.toNat k.bits))
def compI (k : IntKind) (a : Int) : Int := bits .xor k (if k.signed then -1 else k.max) a
section
variable {P : Program} {N : Fz} {f : Fr} {w w0 : World} {Q : Post} {ops l : List Oper} {o : Oper} {M : List Nat} {H H' : List Chunk} {Z : List Snap} {ρ : Operand → Value}

/-- what stood at the head of the call, and stays -/
theorem LdOk.old {r off : Nat} {t ty : TypeId} {cs : List Value} {v : Value} (h : w0.heap[r]? = some (.cells ⟨cs⟩ t (0, 0))) (hz : Snap.mk w0 (Old w0) ∈ Z) (hv : getV P ty cs off = some v) : LdOk P H Z ty ⟨r, off, none⟩ v := by
  have hlt : r < w0.heap.size := by
    rcases Nat.lt_or_ge r w0.heap.size with h2 | h2
    · exact h2
    · rw [Array.getElem?_eq_none (by omega)] at h; cases h
  have := LdOk.snap (P := P) (H := H) (Z := Z) (b := r) (o := 0) (off := off) (wz := w0) (F := Old w0) (cs := cs) hlt (fun j u hj => by
    rw [Nat.zero_add, cell_of_row w0 r j ⟨cs⟩ t (0, 0) h]; simpa using hj) hz hv
  rwa [Nat.zero_add] at this
/-! ## shifts and complements -/
theorem run_shr {ty ty' : TypeId} {x y : Operand} {k k2 : IntKind} {a b : Int} (ho : o.op = .binOp .shr ty x y ty') (hx : ρ x = .int k a) (hy : ρ y = .int k2 b) (hb : 0 ≤ b) : (execOp ρ o).run P w = .ok (.value (.int k (shrI k a b))) w := by
  have h0 : ¬ b < 0 := by omega
  have h1 : (eqGuard .shr ty x y (.int k a) (.int k2 b)).run P w = .ok () w := by simp [eqGuard]
  simp only [execOp, ho, hx, hy, Sem.run_bind, h1, Result.andThen_ok, binOp, Op.shift, h0, if_false, Sem.run_pure]
  rfl
theorem run_shl {ty ty' : TypeId} {x y : Operand} {k k2 : IntKind} {a b : Int} (ho : o.op = .binOp .shl ty x y ty') (hx : ρ x = .int k a) (hy : ρ y = .int k2 b) (hb : 0 ≤ b) : (execOp ρ o).run P w = .ok (.value (.int k (shlI k a b))) w := by
  have h0 : ¬ b < 0 := by omega
  have h1 : (eqGuard .shl ty x y (.int k a) (.int k2 b)).run P w = .ok () w := by simp [eqGuard]
  simp only [execOp, ho, hx, hy, Sem.run_bind, h1, Result.andThen_ok, binOp, Op.shift, h0, if_false, Sem.run_pure]
  rfl
theorem run_comp {ty : TypeId} {x : Operand} {k : IntKind} {a : Int} (ho : o.op = .unOp .xor ty x) (hx : ρ x = .int k a) : (execOp ρ o).run P w = .ok (.value (.int k (compI k a))) w := by
  simp only [execOp, ho, hx, Sem.run_bind, Op.unary, Op.intBits, Result.andThen_ok, Sem.run_pure]
  rfl
theorem WL.shr {ty ty' : TypeId} {x y : Operand} {k k2 : IntKind} {a b : Int} (ho : o.op = .binOp .shr ty x y ty') (hx : ev f x = .int k a) (hy : ev f y = .int k2 b) (hb : 0 ≤ b)
    (hg : wants ops f o = true) {d : Nat} (hd : o.dst = some d) (hn : N.ok d = true) (h : WL P N ops l (up f d (.int k (shrI k a b))) w Q) : WL P N ops (o :: l) f w Q :=
  .val hg hd hn (run_shr ho hx hy hb) h
theorem WL.shl {ty ty' : TypeId} {x y : Operand} {k k2 : IntKind} {a b : Int} (ho : o.op = .binOp .shl ty x y ty') (hx : ev f x = .int k a) (hy : ev f y = .int k2 b) (hb : 0 ≤ b)
    (hg : wants ops f o = true) {d : Nat} (hd : o.dst = some d) (hn : N.ok d = true) (h : WL P N ops l (up f d (.int k (shlI k a b))) w Q) : WL P N ops (o :: l) f w Q :=
  .val hg hd hn (run_shl ho hx hy hb) h
theorem WL.comp {ty : TypeId} {x : Operand} {k : IntKind} {a : Int} (ho : o.op = .unOp .xor ty x) (hx : ev f x = .int k a)
    (hg : wants ops f o = true) {d : Nat} (hd : o.dst = some d) (hn : N.ok d = true) (h : WL P N ops l (up f d (.int k (compI k a))) w Q) : WL P N ops (o :: l) f w Q :=
  .val hg hd hn (run_comp ho hx) h

/-! ## closures -/
theorem run_callF {x : Operand} {xs : List Operand} {ts : Array TypeId} {fid : FuncId} {first cap args : List Value} (ho : o.op = .call ⟨.value x, ⟨xs⟩, ts⟩) (hx : ev f x = .func (.func fid) ⟨first⟩ ⟨cap⟩) (ha : first ++ xs.map (ev f) ++ cap = args) (hk : callOk P fid = true) :
    (execOp (ev f) o).run P w = .ok (.enter fid ⟨args⟩) w := by
  have e : execOp (ev f) o = callFunc fid (#[] ++ (Array.mk first ++ (Array.mk xs).map (ev f)) ++ Array.mk cap) := by
    obtain ⟨dst, op, type, pos, after, guard⟩ := o
    simp only at ho
    subst ho
    simp [execOp, resolve, hx, Deferred.ofValue, invoke]
  rw [e, run_callFunc hk]
  simp [← ha]
/-! ## texts out of bytes -/
def byteC (l : List UInt8) : List Value := l.map fun b => Value.int .u8 b.toNat
theorem byteC_len (l : List UInt8) : (byteC l).length = l.length := by simp [byteC]
theorem byteC_app (a b : List UInt8) : byteC (a ++ b) = byteC a ++ byteC b := by simp [byteC]
/-- a slice of bytes -/
def bytesOf (P : Program) (t : TypeId) : Option TypeId := match P.underlying t with
  | some (.slice e) => match P.underlying e with
    | some (.int .u8) => some e
    | _ => none
  | _ => none
theorem bytesOf_spec {t e : TypeId} (h : bytesOf P t = some e) : P.underlying t = some (.slice e) ∧ P.underlying e = some (.int .u8) := by
  unfold bytesOf at h
  split at h
  · rename_i e' hu
    split at h
    · rename_i he
      simp only [Option.some.injEq] at h
      subst h; exact ⟨hu, he⟩
    · cases h
  · cases h
theorem run_b2s {t t2 : TypeId} {x : Operand} {e e' : TypeId} {A : Option Addr} {n cap n' : Nat} {l : List UInt8} (ho : o.op = .convert t t2 x) (ht : bytesOf P t = some e) (ht2 : isStr P t2 = true) (hx : ρ x = .slice A n cap) (hb : RowAt w e' 1 (.slice A n cap) n' (byteC l)) :
    (execOp ρ o).run P w = .ok (.value (str l)) w := by
  obtain ⟨hs, he⟩ := bytesOf_spec ht
  have hd := isStr_eq ht2
  have h1 := hb.1
  rw [byteC_len, Nat.mul_one] at h1
  rcases hb.2 with ⟨h2, h3⟩ | ⟨g, off, cap', cur, h2, hh, _⟩
  · simp only [Value.slice.injEq] at h2
    obtain ⟨rfl, rfl, rfl⟩ := h2
    have : l = [] := by rw [← List.length_eq_zero_iff]; omega
    subst this
    simp only [execOp, ho, hx, Sem.run_bind]
    rw [run_convert_bytes_string w t t2 e none 0 0 hs he hd]
    rfl
  · simp only [Value.slice.injEq] at h2
    obtain ⟨rfl, rfl, rfl⟩ := h2
    have hcells := hb.cells
    subst h1
    have := run_convert_bytes_back (P := P) w t t2 e ⟨g, off, none⟩ cap l hs he hd (fun j hj => by
      rw [Addr.add_mid]
      exact hcells j _ (by simp [byteC, List.getElem?_eq_getElem hj]))
    simp only [execOp, ho, hx, Sem.run_bind, this, Result.andThen_ok]
    rfl
end
section
variable {P : Program} {N : Fz} {f : Fr} {w w0 : World} {Q : Post} {ops : List Oper} {M : List Nat} {H0 H H' : List Chunk} {Z0 Z : List Snap} {q : Qs} {l : List Nat} {i : Nat} {S : World → Prop}
theorem WD.shr {ty ty' : TypeId} {x y : Operand} {k k2 : IntKind} {a b : Int} (ho : (ix ops i).op = .binOp .shr ty x y ty') (hx : ev f x = .int k a) (hy : ev f y = .int k2 b) (hb : 0 ≤ b)
    (hq : q.contains i = true) (hg : wants ops f (ix ops i) = true) {d : Nat} (hd : (ix ops i).dst = some d) (hn : N.ok d = true) (h : WD P N S ops q l (up f d (.int k (shrI k a b))) w Q) : WD P N S ops q (i :: l) f w Q :=
  .take hq hd hn (.inl ⟨hg, fun _ _ => run_shr ho hx hy hb⟩) h
theorem WD.shl {ty ty' : TypeId} {x y : Operand} {k k2 : IntKind} {a b : Int} (ho : (ix ops i).op = .binOp .shl ty x y ty') (hx : ev f x = .int k a) (hy : ev f y = .int k2 b) (hb : 0 ≤ b)
    (hq : q.contains i = true) (hg : wants ops f (ix ops i) = true) {d : Nat} (hd : (ix ops i).dst = some d) (hn : N.ok d = true) (h : WD P N S ops q l (up f d (.int k (shlI k a b))) w Q) : WD P N S ops q (i :: l) f w Q :=
  .take hq hd hn (.inl ⟨hg, fun _ _ => run_shl ho hx hy hb⟩) h
theorem WD.cat {ty ty' : TypeId} {x y : Operand} {a b : List UInt8} (ho : (ix ops i).op = .binOp .add ty x y ty') (hx : ev f x = str a) (hy : ev f y = str b) (hr : a.length + b.length ≤ 9223372036854775807)
    (hq : q.contains i = true) (hg : wants ops f (ix ops i) = true) {d : Nat} (hd : (ix ops i).dst = some d) (hn : N.ok d = true) (h : WD P N S ops q l (up f d (str (a ++ b))) w Q) : WD P N S ops q (i :: l) f w Q :=
  .take hq hd hn (.inl ⟨hg, fun _ _ => run_cat ho hx hy hr⟩) h
theorem WD.idxS {t : TypeId} {x y : Operand} {s : List UInt8} {k : IntKind} {j : Nat} {c : UInt8} (ho : (ix ops i).op = .index t x y) (ht : isStr P t = true) (hx : ev f x = str s) (hy : ev f y = .int k (Int.ofNat j)) (hj : s[j]? = some c)
    (hq : q.contains i = true) (hg : wants ops f (ix ops i) = true) {d : Nat} (hd : (ix ops i).dst = some d) (hn : N.ok d = true) (h : WD P N S ops q l (up f d (.int .u8 (c.toNat : Int))) w Q) : WD P N S ops q (i :: l) f w Q :=
  .take hq hd hn (.inl ⟨hg, fun _ _ => run_idxS ho ht hx hy hj⟩) h
theorem WD.lowS {t : TypeId} {x y : Operand} {s : List UInt8} {k : IntKind} {j : Nat} (ho : (ix ops i).op = .slice t x (some y) none none) (ht : isStr P t = true) (hx : ev f x = str s) (hy : ev f y = .int k (Int.ofNat j)) (hj : j ≤ s.length)
    (hq : q.contains i = true) (hg : wants ops f (ix ops i) = true) {d : Nat} (hd : (ix ops i).dst = some d) (hn : N.ok d = true) (h : WD P N S ops q l (up f d (str (s.drop j))) w Q) : WD P N S ops q (i :: l) f w Q :=
  .take hq hd hn (.inl ⟨hg, fun w' _ => by have := run_cutS (P := P) (w := w') (l := j) (h := s.length) ho ht hx ⟨k, hy⟩ rfl hj (Nat.le_refl _); rwa [List.take_length] at this⟩) h
theorem WD.highS {t : TypeId} {x y : Operand} {s : List UInt8} {k : IntKind} {j : Nat} (ho : (ix ops i).op = .slice t x none (some y) none) (ht : isStr P t = true) (hx : ev f x = str s) (hy : ev f y = .int k (Int.ofNat j)) (hj : j ≤ s.length)
    (hq : q.contains i = true) (hg : wants ops f (ix ops i) = true) {d : Nat} (hd : (ix ops i).dst = some d) (hn : N.ok d = true) (h : WD P N S ops q l (up f d (str (s.take j))) w Q) : WD P N S ops q (i :: l) f w Q :=
  .take hq hd hn (.inl ⟨hg, fun w' _ => by have := run_cutS (P := P) (w := w') (l := 0) (h := j) ho ht hx rfl ⟨k, hy⟩ (Nat.zero_le _) hj; rwa [List.drop_zero] at this⟩) h
theorem WD.midS {t : TypeId} {x y z : Operand} {s : List UInt8} {k k' : IntKind} {a b : Nat} (ho : (ix ops i).op = .slice t x (some y) (some z) none) (ht : isStr P t = true) (hx : ev f x = str s) (hy : ev f y = .int k (Int.ofNat a)) (hz : ev f z = .int k' (Int.ofNat b)) (hij : a ≤ b) (hj : b ≤ s.length)
    (hq : q.contains i = true) (hg : wants ops f (ix ops i) = true) {d : Nat} (hd : (ix ops i).dst = some d) (hn : N.ok d = true) (h : WD P N S ops q l (up f d (str ((s.take b).drop a))) w Q) : WD P N S ops q (i :: l) f w Q :=
  .take hq hd hn (.inl ⟨hg, fun w' _ => run_cutS (P := P) (w := w') (l := a) (h := b) ho ht hx ⟨k, hy⟩ ⟨k', hz⟩ hij hj⟩) h
theorem WDo.calls {fid : FuncId} {xs : List Operand} {ts : Array TypeId} {args : List Value} {R : Value → World → Prop} (hS : St w0 M w H Z) (hM : More H0 Z0 H Z) (ho : (ix ops i).op = .call ⟨.value (.func fid), ⟨xs⟩, ts⟩) (ha : xs.map (ev f) = args)
    (hc : Cal P fid args w fun v w' => Upd [] w w' ∧ R v w') (hi : Nat.blt i ops.length = true) (hg : wants ops f (ix ops i) = true) {d : Nat} (hd : (ix ops i).dst = some d) (hn : N.ok d = true)
    (h : ∀ v w', R v w' → St w0 M w' H Z → WD P N (SS w0 M H0 Z0) ops q l (up f d v) w' Q) : WDo P N (SS w0 M H0 Z0) ops q i l f w Q :=
  .enter hi hg hd hn (run_callOp ho ha hc.ok) hc.calls fun v w' ⟨hu, hR⟩ => ⟨hM.ss (hS.upd0 hu), h v w' hR (hS.upd0 hu)⟩
theorem row_box {b n : Nat} {e : TypeId} {cs : List Value} (hb : w.heap[b]? = some (.cells ⟨cs⟩ e (0, 0))) (hl : cs.length = n) (hm : n ≤ maxLen) : RowAt w e 1 (.slice (some ⟨b, 0, none⟩) n n) n cs :=
  ⟨by omega, .inr ⟨b, 0, n, cs, rfl, hb, Nat.le_refl _, hm, by omega, by subst hl; simp⟩⟩
theorem WDo.b2sBox {t t2 : TypeId} {x : Operand} {e e' : TypeId} {b n : Nat} {s : List UInt8} {cs : List Value} (hS : St w0 M w H Z) (hM : More H0 Z0 H Z) (ho : (ix ops i).op = .convert t t2 x) (ht : bytesOf P t = some e) (ht2 : isStr P t2 = true) (hx : ev f x = .slice (some ⟨b, 0, none⟩) n n) (hm : Chunk.box b e' cs ∈ H) (hxs : cs = byteC s) (hl : s.length = n) (hmx : n ≤ 1048576)
    (hi : Nat.blt i ops.length = true) (hg : wants ops f (ix ops i) = true) {d : Nat} (hd : (ix ops i).dst = some d) (hn : N.ok d = true) (h : WD P N (SS w0 M H0 Z0) ops q l (up f d (str s)) w Q) : WDo P N (SS w0 M H0 Z0) ops q i l f w Q :=
  .val hi hg hd hn (run_b2s ho ht ht2 hx (hxs ▸ row_box (hS.holds _ hm) (by rw [hxs, byteC_len]; exact hl) (by unfold maxLen; omega))) (hM.ss hS) h
theorem WD.b2sBox {t t2 : TypeId} {x : Operand} {e e' : TypeId} {b n : Nat} {s : List UInt8} {cs : List Value} (hS : St w0 M w H Z) (hM : More H0 Z0 H Z) (ho : (ix ops i).op = .convert t t2 x) (ht : bytesOf P t = some e) (ht2 : isStr P t2 = true) (hx : ev f x = .slice (some ⟨b, 0, none⟩) n n) (hm : Chunk.box b e' cs ∈ H) (hxs : cs = byteC s) (hl : s.length = n) (hmx : n ≤ 1048576)
    (hq : q.contains i = false) (hi : Nat.blt i ops.length = true) (hg : wants ops f (ix ops i) = true) {d : Nat} (hd : (ix ops i).dst = some d) (hn : N.ok d = true) (h : WD P N (SS w0 M H0 Z0) ops q l (up f d (str s)) w Q) : WD P N (SS w0 M H0 Z0) ops q (i :: l) f w Q :=
  .eff hq (WDo.b2sBox hS hM ho ht ht2 hx hm hxs hl hmx hi hg hd hn h).out
theorem WDo.slit {t e : TypeId} {len n : Nat} {ps : List (Nat × Operand)} {cs : List Value} (hS : St w0 M w H Z) (hM : More H0 Z0 H Z) (ho : (ix ops i).op = .buildSlice t len ⟨ps⟩) (hv : buildSliceV P t len (evP (ev f) ps) = some (e, n, cs))
    (hi : Nat.blt i ops.length = true) (hg : wants ops f (ix ops i) = true) {d : Nat} (hd : (ix ops i).dst = some d) (hn : N.ok d = true)
    (h : ∀ w' b, St w0 M w' (.box b e cs :: H) Z → More H0 Z0 (.box b e cs :: H) Z → WD P N (SS w0 M H0 Z0) ops q l (up f d (.slice (some ⟨b, 0, none⟩) len len)) w' Q) : WDo P N (SS w0 M H0 Z0) ops q i l f w Q :=
  .val hi hg hd hn (run_sliceLit ho hv) ((hM.chunk _).ss (hS.newBox _ _)) (h _ _ (hS.newBox _ _) (hM.chunk _))
end

/-! ## addresses seen as plain ones, and bytes read as a text -/
section
variable {P : Program} {N : Fz} {f : Fr} {w w0 : World} {Q : Post} {ops l : List Oper} {o : Oper} {M : List Nat} {H H' : List Chunk} {Z : List Snap} {ρ : Operand → Value}
def ptrTo (P : Program) (t : TypeId) : Option (TypeId × Nat) := match P.underlying t with
  | some (.pointer e) => match P.info? e with
    | some ⟨_, _, size, _, _, _, _, _, _, _⟩ => some (e, size)
    | none => none
  | _ => none
theorem ptrTo_spec {t e : TypeId} {n : Nat} (h : ptrTo P t = some (e, n)) : P.underlying t = some (.pointer e) ∧ ∃ i, P.info? e = some i ∧ i.size = n := by
  unfold ptrTo at h
  split at h
  · rename_i e' hu
    split at h
    · rename_i d s sz by_ hp al fa z x y hi
      simp only [Option.some.injEq, Prod.mk.injEq] at h
      obtain ⟨rfl, rfl⟩ := h
      exact ⟨hu, _, hi, rfl⟩
    · cases h
  · cases h
def isUns (P : Program) (t : TypeId) : Bool := match P.underlying t with
  | some .unsafePointer => true
  | _ => false
theorem isUns_eq {t : TypeId} (h : isUns P t = true) : P.underlying t = some .unsafePointer := by
  unfold isUns at h
  split at h
  · assumption
  · cases h
theorem box_shape {b : Nat} {t : TypeId} {cs : List Value} (h : w.heap[b]? = some (.cells ⟨cs⟩ t (0, 0))) : w.shape? b = some (t, cs.length) := by
  unfold World.shape?; rw [h]; rfl
theorem WL.toU {t t2 e : TypeId} {n b : Nat} {x : Operand} {bt : TypeId} {cs : List Value} (hS : St w0 M w H Z) (ho : o.op = .convert t t2 x) (ht : ptrTo P t = some (e, n + 1)) (ht2 : isUns P t2 = true) (hx : ev f x = .pointer (some ⟨b, 0, none⟩)) (hm : Chunk.box b bt cs ∈ H) (h0 : 0 < cs.length)
    (hg : wants ops f o = true) {d : Nat} (hd : o.dst = some d) (hn : N.ok d = true) (h : WL P N ops l (up f d (.pointer (some ⟨b, 0, none⟩))) w Q) : WL P N ops (o :: l) f w Q := by
  obtain ⟨hu, i, hi, hsz⟩ := ptrTo_spec ht
  have := Lib.run_to_unsafe (P := P) w ⟨b, 0, none⟩ hu (isUns_eq ht2) hi (by omega) (box_shape (hS.holds _ hm)) h0
  exact .val hg hd hn (by simp [execOp, ho, hx, Sem.run_bind, this]) h
theorem WL.fromU {t t2 e : TypeId} {n b : Nat} {x : Operand} {bt : TypeId} {cs : List Value} (hS : St w0 M w H Z) (ho : o.op = .convert t t2 x) (ht : isUns P t = true) (ht2 : ptrTo P t2 = some (e, n)) (hx : ev f x = .pointer (some ⟨b, 0, none⟩)) (hm : Chunk.box b bt cs ∈ H) (hl : liesAt P P.depth bt (cs.length / P.cellsOf bt) 0 e 1 = true)
    (hg : wants ops f o = true) {d : Nat} (hd : o.dst = some d) (hn : N.ok d = true) (h : WL P N ops l (up f d (.pointer (some ⟨b, 0, none⟩))) w Q) : WL P N ops (o :: l) f w Q := by
  obtain ⟨hu, i, hi, hsz⟩ := ptrTo_spec ht2
  have := Lib.run_from_unsafe (P := P) w ⟨b, 0, none⟩ (isUns_eq ht) hu hi (box_shape (hS.holds _ hm)) hl
  exact .val hg hd hn (by simp [execOp, ho, hx, Sem.run_bind, this]) h
/-- an address held against itself -/
theorem WL.neSame {t t' e : TypeId} {n : Nat} {x y : Operand} {a : Addr} (ho : o.op = .binOp .neq t x y t') (ht : ptrTo P t = some (e, n)) (hx : ev f x = .pointer (some a)) (hy : ev f y = .pointer (some a))
    (hg : wants ops f o = true) {d : Nat} (hd : o.dst = some d) (hn : N.ok d = true) (h : WL P N ops l (up f d (.bool false)) w Q) : WL P N ops (o :: l) f w Q := by
  obtain ⟨hu, i, hi, hsz⟩ := ptrTo_spec ht
  have h1 := Lib.run_neq_ptr_same (P := P) w a hu hi
  have h2 : (eqGuard .neq t x y (.pointer (some a)) (.pointer (some a))).run P w = .ok () w := by rfl
  exact .val hg hd hn (by simp [execOp, ho, hx, hy, Sem.run_bind, h1, h2]) h
theorem run_noEsc (v : Value) : (Extern.AbiNoEscape.same ⟨[v]⟩).run P w = .ok v w := rfl
theorem liesAt_byte {e : TypeId} (hc : P.cellsOf e = 1) (count off n : Nat) (hn : off + n ≤ count) : liesAt P P.depth e count off e n = true := by
  have hd : P.depth = (2 * (P.types.size + Made.depth) + 1) + 1 := rfl
  rw [hd]
  simp only [liesAt, Bool.or_eq_true]
  left
  rw [hd]
  simp [rowAt, hc, hn, sameLayout, Nat.mod_one]
theorem run_unsafeStr {pt it ty e : TypeId} {g off n cap n' : Nat} {s : List UInt8} (hp : P.underlying pt = some (.pointer e)) (hc : P.cellsOf e = 1) (hb : RowAt w e 1 (.slice (some ⟨g, off, none⟩) n cap) n' (byteC s)) (h63 : s.length ≤ 9223372036854775807) :
    ∃ w', (Builtin.unsafeString_ #[pt, it] ty #[.pointer (some ⟨g, off, none⟩), .int .i64 (s.length : Int)]).run P w = .ok (str s) w' ∧ Upd [g] w w' := by
  rcases hb.2 with ⟨h2, h3⟩ | ⟨g', off', cap', cur, h2, hh, hn, hcm, hs, ht⟩
  · cases h2
  · simp only [Value.slice.injEq, Option.some.injEq, Addr.mk.injEq, and_true] at h2
    obtain ⟨⟨rfl, rfl⟩, rfl, rfl⟩ := h2
    have hlen := hb.1
    rw [byteC_len, Nat.mul_one] at hlen
    have hmax : IntKind.i64.max = 9223372036854775807 := rfl
    by_cases h0 : s = []
    · subst h0
      exact ⟨w, Lib.run_unsafeString_none w pt it ty (some ⟨g, off, none⟩), .refl _ _⟩
    · have hl : s.length ≠ 0 := by simpa using h0
      have hcell : ∀ j x, s[j]? = some x → w.cell? ((⟨g, off, none⟩ : Addr).add j) = some (.int .u8 x.toNat) := fun j x hj => by
        rw [Addr.add_mid]
        exact hb.cells j _ (by simp [byteC, hj])
      have hlb := Lib.run_loadBytes (P := P) w s ⟨g, off, none⟩ .empty hcell
      have hlies := liesAt_byte (P := P) hc (cur.length / P.cellsOf e) off s.length (by rw [hc]; simp; omega)
      have h63' : ¬ (9223372036854775807 : Int) < (s.length : Int) := by omega
      have hdef : Builtin.unsafeString_ #[pt, it] ty #[.pointer (some ⟨g, off, none⟩), .int .i64 s.length] =
          (do
            let n ← asInt (.int .i64 s.length)
            if n < 0 then runtimePanic (.error "unsafe.String: len out of range")
            if n > IntKind.i64.max then unsupported (.unsafePointer "String: a length above the largest int")
            if n = 0 then pure (.string .empty)
            else if ← variablesAt ⟨g, off, none⟩ (← Go.elemOf pt) n.toNat then do
              let s ← loadBytes ⟨g, off, none⟩ .empty n.toNat
              freeze ⟨g, off, none⟩ n.toNat
              pure (.string s)
            else unsupported (.unsafePointer "String: not so many bytes at ptr")) := rfl
      have hneg : ¬ (s.length : Int) < 0 := by omega
      refine ⟨w.freeze ⟨g, off, none⟩ s.length, ?_, ?_⟩
      · rw [hdef]
        simp [asInt, asIntOf, hmax, h63', hneg, hl, variablesAt, box_shape hh, Go.elemOf, run_underlying hp, hlies, hlb]
      · unfold World.freeze
        split
        · exact .refl _ _
        · exact ⟨rfl, rfl, rfl, by simp, fun k hk hn => by
            have : g ≠ k := fun e => hn (by simp [e])
            simp only [Array.getElem?_modify]
            rw [if_neg this]⟩
end
section
variable {P : Program} {N : Fz} {f : Fr} {w w0 : World} {Q : Post} {ops : List Oper} {M : List Nat} {H0 H H' : List Chunk} {Z0 Z : List Snap} {q : Qs} {l : List Nat} {i : Nat} {S : World → Prop}
theorem St.lose {c : Chunk} {w' : World} (hS : St w0 M w (c :: H) Z) (hu : Upd c.fp w w') : St w0 M w' H Z :=
  (hS.step (c' := .obj [] fun _ => True) .here hu ⟨trivial, fun _ _ _ _ => trivial⟩ (fun b hb => by simp [Chunk.fp] at hb)).drop
theorem WD.sliceData {x : Operand} {ts : Array TypeId} {A : Option Addr} {n cap : Nat} (hS : St w0 M w H Z) (hM : More H0 Z0 H Z) (ho : (ix ops i).op = .call ⟨.builtin .unsafeSliceData, ⟨[x]⟩, ts⟩) (hx : ev f x = .slice A n cap) (hA : A = none ∨ cap ≠ 0)
    (hq : q.contains i = false) (hi : Nat.blt i ops.length = true) (hg : wants ops f (ix ops i) = true) {d : Nat} (hd : (ix ops i).dst = some d) (hn : N.ok d = true) (h : WD P N (SS w0 M H0 Z0) ops q l (up f d (.pointer A)) w Q) : WD P N (SS w0 M H0 Z0) ops q (i :: l) f w Q := by
  have hrun : (execOp (ev f) (ix ops i)).run P w = .ok (.value (.pointer A)) w := by
    cases A with
    | none => simp [execOp, ho, resolve, invoke, builtin, hx, Sem.run_bind, Lib.run_unsafeSliceData_nil]
    | some a =>
      have hc : cap ≠ 0 := by
        rcases hA with h | h
        · cases h
        · exact h
      simp [execOp, ho, resolve, invoke, builtin, hx, Sem.run_bind, Lib.run_unsafeSliceData_row w _ _ a n cap hc]
  exact .val hq hi hg hd hn hrun (hM.ss hS) h
theorem WD.unsStr {x y : Operand} {pt it e : TypeId} {A : Option Addr} {n cap n' : Nat} {s : List UInt8} (hS : St w0 M w (.own (.slice A n cap) e 1 n' (byteC s) :: H) Z) (hM : More H0 Z0 H Z) (ho : (ix ops i).op = .call ⟨.builtin .unsafeString, ⟨[x, y]⟩, ⟨[pt, it]⟩⟩) (hp : ptrTo P pt = some (e, 1))
    (hx : ev f x = .pointer A) (hy : ev f y = .int .i64 (s.length : Int)) (h63 : s.length ≤ 9223372036854775807)
    (hq : q.contains i = false) (hi : Nat.blt i ops.length = true) (hg : wants ops f (ix ops i) = true) {d : Nat} (hd : (ix ops i).dst = some d) (hn : N.ok d = true)
    (h : ∀ w', St w0 M w' H Z → WD P N (SS w0 M H0 Z0) ops q l (up f d (str s)) w' Q) : WD P N (SS w0 M H0 Z0) ops q (i :: l) f w Q := by
  obtain ⟨hu, inf, hinf, hsz⟩ := ptrTo_spec hp
  have hc : P.cellsOf e = 1 := by unfold Program.cellsOf; rw [hinf]; exact hsz
  have hrow : RowAt w e 1 (.slice A n cap) n' (byteC s) := hS.holds _ (List.Mem.head _)
  cases A with
  | none =>
    have hs : s = [] := by
      rcases hrow.2 with ⟨h1, h2⟩ | ⟨g, off, cap', cur, h1, _⟩
      · have := hrow.1
        rw [byteC_len] at this
        rw [← List.length_eq_zero_iff]; omega
      · cases h1
    subst hs
    have := Lib.run_unsafeString_none (P := P) w pt it (ix ops i).type none
    exact .val hq hi hg hd hn (by simp [execOp, ho, resolve, invoke, builtin, hx, hy, Sem.run_bind, this]; rfl) (hM.ss hS.drop) (h _ hS.drop)
  | some a =>
    obtain ⟨g, off, rfl⟩ : ∃ g off, a = ⟨g, off, none⟩ := by
      rcases hrow.2 with ⟨h1, h2⟩ | ⟨g, off, cap', cur, h1, _⟩
      · cases h1
      · simp only [Value.slice.injEq, Option.some.injEq] at h1
        exact ⟨g, off, h1.1⟩
    obtain ⟨w', hrun, hupd⟩ := run_unsafeStr (pt := pt) (it := it) (ty := (ix ops i).type) hu hc hrow h63
    have hS' : St w0 M w' H Z := hS.lose (by simpa [Chunk.fp, Value.ownBlock] using hupd)
    exact .val hq hi hg hd hn (by simp [execOp, ho, resolve, invoke, builtin, hx, hy, Sem.run_bind, hrun]) (hM.ss hS') (h _ hS')
end

/-! ## the end of a function without results -/
section
variable {P : Program} {fn : Func} {rs : Array ResultVar} {R : Value → World → Prop} {f : Fr} {w : World}
theorem fin0n (h : fn.results = #[]) (hR : R (.tuple #[]) w) : funQ P rs fn (Ret R) .normal f w := by unfold funQ; exact ⟨_, ⟨_, rfl, hR⟩, fun a _ => by simp [results, h]⟩
theorem res3 {t u x : Tmp} (h : fn.results = #[.tmp t, .tmp u, .tmp x]) : ∀ a, Is a fn.ntmps f → (results fn a.tmps).run P w = .ok (.tuple #[f t, f u, f x]) w := fun a ha => by
  rw [← ha.get t, ← ha.get u, ← ha.get x]
  simp [results, h]
theorem fin3r {t u x : Tmp} {v v' v'' : Value} (h : fn.results = #[.tmp t, .tmp u, .tmp x]) (hv : nfv (f t) = some v) (hv' : nfv (f u) = some v') (hv'' : nfv (f x) = some v'') (hR : R (.tuple #[v, v', v'']) w) : funQ P rs fn (Ret R) .ret f w := by unfold funQ; exact ⟨_, ⟨_, rfl, hR⟩, by rw [nfv_eq hv, nfv_eq hv', nfv_eq hv'']; exact res3 h⟩
end
end Go.J

/- What is proved: functions that change several chunks at once. Conditions: as each rule names them. -/
set_option linter.unusedSimpArgs false
set_option linter.unusedVariables false
namespace Go.J
open Go Go.RowKit

def fps (D : List Chunk) : List Nat := D.flatMap Chunk.fp
theorem mem_fps {D : List Chunk} {b : Nat} : b ∈ fps D ↔ ∃ c ∈ D, b ∈ c.fp := by simp [fps]
/-- D has become D' -/
structure MutL (w w' : World) (D D' : List Chunk) : Prop where
  upd : Upd (fps D) w w'
  holds : ∀ c ∈ D', c.holds w'
  fp : ∀ c ∈ D', ∀ b ∈ c.fp, b ∈ fps D ∨ (w.heap.size ≤ b ∧ b < w'.heap.size)
  disj : D'.Pairwise Chunk.apart
structure InL (w : World) (D : List Chunk) : Prop where
  holds : ∀ c ∈ D, c.holds w
  inb : ∀ c ∈ D, inB c w
  disj : D.Pairwise Chunk.apart
inductive Pulls : List Chunk → List Chunk → List Chunk → Prop where
  | nil {H : List Chunk} : Pulls [] H H
  | cons {c : Chunk} {D H H1 H2 : List Chunk} : Pull c H H1 → Pulls D H1 H2 → Pulls (c :: D) H H2
theorem Pulls.perm {D H H' : List Chunk} (h : Pulls D H H') : H.Perm (D ++ H') := by
  induction h with
  | nil => exact .refl _
  | cons h _ ih => exact h.perm.trans (.cons _ ih)
section
variable {w0 w w' : World} {M : List Nat} {H H' D D' : List Chunk} {Z : List Snap} {c c' : Chunk}
theorem St.pulls (hS : St w0 M w H Z) (h : Pulls D H H') : St w0 M w (D ++ H') Z := hS.perm h.perm
theorem St.inL (hS : St w0 M w (D ++ H) Z) : InL w D :=
  ⟨fun c hc => hS.holds c (List.mem_append_left _ hc), fun c hc b hb => (hS.inb c (List.mem_append_left _ hc) b hb).1, (List.pairwise_append.1 hS.disj).1⟩
theorem St.mutL (hS : St w0 M w (D ++ H) Z) (hm : MutL w w' D D') : St w0 M w' (D' ++ H) Z := by
  have hin : ∀ b ∈ fps D, b < w.heap.size ∧ (w0.heap.size ≤ b ∨ b ∈ M) := fun b hb => by
    obtain ⟨c, hc, hb⟩ := mem_fps.1 hb
    exact hS.inb c (List.mem_append_left _ hc) b hb
  have hap : ∀ d ∈ H, ∀ b ∈ d.fp, b ∉ fps D := fun d hd b hb hbD => by
    obtain ⟨c, hc, hb2⟩ := mem_fps.1 hbD
    exact (List.pairwise_append.1 hS.disj).2.2 c hc d hd b hb2 hb
  refine ⟨?_, ?_, ?_, ?_, ?_⟩
  · exact ⟨hm.upd.os.trans hS.upd.os, hm.upd.tape.trans hS.upd.tape, hm.upd.output.trans hS.upd.output, Nat.le_trans hS.upd.size hm.upd.size, fun b hb hn => by
      have hn' : b ∉ fps D := fun h => by
        rcases (hin b h).2 with h1 | h1
        · omega
        · exact hn h1
      exact (hm.upd.block b (Nat.lt_of_lt_of_le hb hS.upd.size) hn').trans (hS.upd.block b hb hn)⟩
  · intro d hd
    rcases List.mem_append.1 hd with h | h
    · exact hm.holds d h
    · exact Chunk.keep (hS.holds d (List.mem_append_right _ h)) fun b hb => hm.upd.block b (hS.inb d (List.mem_append_right _ h) b hb).1 (hap d h b hb)
  · intro d hd b hb
    rcases List.mem_append.1 hd with h | h
    · rcases hm.fp d h b hb with h1 | h1
      · exact ⟨Nat.lt_of_lt_of_le (hin b h1).1 hm.upd.size, (hin b h1).2⟩
      · exact ⟨h1.2, .inl (Nat.le_trans hS.upd.size h1.1)⟩
    · have := hS.inb d (List.mem_append_right _ h) b hb
      exact ⟨Nat.lt_of_lt_of_le this.1 hm.upd.size, this.2⟩
  · refine List.pairwise_append.2 ⟨hm.disj, (List.pairwise_append.1 hS.disj).2.1, fun c hc d hd b hb hbd => ?_⟩
    rcases hm.fp c hc b hb with h1 | h1
    · exact hap d hd b hbd h1
    · have := (hS.inb d (List.mem_append_right _ hd) b hbd).1; omega
  · intro z hz b hb
    obtain ⟨h1, h2, h3⟩ := hS.snap z hz b hb
    have hn : b ∉ fps D := fun h => by
      obtain ⟨c, hc, hb2⟩ := mem_fps.1 h
      exact h3 c (List.mem_append_left _ hc) hb2
    refine ⟨Nat.lt_of_lt_of_le h1 hm.upd.size, (hm.upd.block b h1 hn).trans h2, fun d hd hbd => ?_⟩
    rcases List.mem_append.1 hd with h | h
    · rcases hm.fp d h b hbd with h4 | h4
      · exact hn h4
      · omega
    · exact h3 d (List.mem_append_right _ h) hbd
theorem St.initL (h : InL w D) : St w (fps D) w D [⟨w, fun b => b < w.heap.size ∧ b ∉ fps D⟩] :=
  ⟨.refl _ _, h.holds, fun c hc b hb => ⟨h.inb c hc b hb, .inr (mem_fps.2 ⟨c, hc, hb⟩)⟩, h.disj, fun z hz b hbz => by
    simp at hz; subst hz; exact ⟨hbz.1, rfl, fun d hd hbd => hbz.2 (mem_fps.2 ⟨d, hd, hbd⟩)⟩⟩
theorem St.mutLOf (hS : St w0 (fps D) w (D' ++ H) Z) : MutL w0 w D D' :=
  ⟨hS.upd, fun c hc => hS.holds c (List.mem_append_left _ hc), fun c hc b hb => by
    have h := hS.inb c (List.mem_append_left _ hc) b hb
    rcases h.2 with h2 | h2
    · exact .inr ⟨h2, h.1⟩
    · exact .inl h2, (List.pairwise_append.1 hS.disj).1⟩
theorem St.mutLp (hS : St w0 (fps D) w H Z) (hp : Pulls D' H H') : MutL w0 w D D' := (hS.pulls hp).mutLOf
theorem MutL.of1 (h : Mut w w' c c') : MutL w w' [c] [c'] :=
  ⟨by simpa [fps] using h.upd, by simpa using h.holds, by simpa [fps] using h.fp, by simp⟩
theorem InL.of1 (h : c.holds w) (hi : inB c w) : InL w [c] := ⟨by simpa using h, by simpa using hi, by simp⟩
theorem InL.head (h : InL w (c :: D)) : c.holds w := h.holds c (List.mem_cons_self ..)
theorem InL.headB (h : InL w (c :: D)) : inB c w := h.inb c (List.mem_cons_self ..)
theorem InL.sub (h : InL w D) (hp : Pulls D' D H) : InL w D' := by
  have hp := hp.perm
  refine ⟨fun c hc => h.holds c (hp.mem_iff.2 (List.mem_append_left _ hc)), fun c hc => h.inb c (hp.mem_iff.2 (List.mem_append_left _ hc)), ?_⟩
  exact (List.pairwise_append.1 ((hp.pairwise_iff (fun {a b} h => Chunk.apart_symm h)).1 h.disj)).1
theorem MutL.refl (h : InL w D) : MutL w w D D :=
  ⟨.refl _ _, h.holds, fun c hc b hb => .inl (mem_fps.2 ⟨c, hc, hb⟩), h.disj⟩
/-- chunks that nobody asks for any more -/
theorem MutL.drop (h : MutL w w' D (c :: D')) : MutL w w' D D' :=
  ⟨h.upd, fun d hd => h.holds d (List.mem_cons_of_mem _ hd), fun d hd => h.fp d (List.mem_cons_of_mem _ hd), (List.pairwise_cons.1 h.disj).2⟩
theorem St.droplast2 {D H' : List Chunk} (hS : St w0 M w H Z) (hp : Pulls D H H') : St w0 M w D Z := by
  have h := hS.pulls hp
  exact ⟨h.upd, fun c hc => h.holds c (List.mem_append_left _ hc), fun c hc => h.inb c (List.mem_append_left _ hc), (List.pairwise_append.1 h.disj).1, fun z hz b hb => by
    obtain ⟨h1, h2, h3⟩ := h.snap z hz b hb
    exact ⟨h1, h2, fun d hd => h3 d (List.mem_append_left _ hd)⟩⟩
end
theorem Cal.mkL {P : Program} {fid : FuncId} {fn : Func} {c : Code} {args : List Value} {w : World} {R : Value → World → Prop} {D : List Chunk} (hi : InL w D) (hk : callOk P fid = true)
    (hf : P.funcs[fid]? = some fn) (hb : fn.body = some c) (hn : Nat.ble args.length fn.ntmps = true)
    (h : St w (fps D) w D [⟨w, fun b => b < w.heap.size ∧ b ∉ fps D⟩] → WC P fn.ntmps c (fr0 args) w (funQ P fn.results fn (Ret R))) : Cal P fid args w R :=
  ⟨hk, J.calls hf hb hn (h (St.initL hi))⟩
section
variable {P : Program} {N : Fz} {f : Fr} {w w0 : World} {Q : Post} {ops l : List Oper} {o : Oper} {M : List Nat} {H H' D : List Chunk} {Z : List Snap}
/-- values whose forms are known -/
def evN (ρ : Operand → Value) : List Operand → Option (List Value)
  | [] => some []
  | x :: xs => match nfv (ρ x) with
    | some v => match evN ρ xs with
      | some r => some (v :: r)
      | none => none
    | none => none
/-- cells that a slice value leads to, or none -/
def RdSl (H : List Chunk) (Z : List Snap) (B : Option Addr) (m : Nat) (news : List Value) : Prop := (B = none ∧ m = 0 ∧ news = []) ∨ ∃ b off, B = some ⟨b, off, none⟩ ∧ RdOk H Z b off news
theorem RdSl.own {A : Option Addr} {n cap n' : Nat} {e : TypeId} {size : Nat} {xs : List Value} (hS : St w0 M w H Z) (hm : Chunk.own (.slice A n cap) e size n' xs ∈ H) : RdSl H Z A n xs := by
  have h := hS.holds _ hm
  rcases h.2 with ⟨h2, rfl⟩ | ⟨g, off, cap', cur, h2, _⟩
  · simp only [Value.slice.injEq] at h2
    obtain ⟨rfl, rfl, rfl⟩ := h2
    exact .inl ⟨rfl, rfl, List.eq_nil_of_length_eq_zero (by rw [h.1, Nat.zero_mul])⟩
  · simp only [Value.slice.injEq] at h2
    obtain ⟨rfl, rfl, rfl⟩ := h2
    exact .inr ⟨g, off, rfl, .own0 hm⟩
/-- a call that may change the chunks D -/
theorem WL.callL {fid : FuncId} {xs : List Operand} {ts : Array TypeId} {args : List Value} {R : Value → World → Prop} (hS : St w0 M w H Z) (hp : Pulls D H H') (ho : o.op = .call ⟨.value (.func fid), ⟨xs⟩, ts⟩) (ha : xs.map (ev f) = args) (hc : InL w D → Cal P fid args w R)
    (hg : wants ops f o = true) {d : Nat} (hd : o.dst = some d) (hn : N.ok d = true) (h : ∀ v w', R v w' → (∀ D', MutL w w' D D' → St w0 M w' (D' ++ H') Z) → WL P N ops l (up f d v) w' Q) : WL P N ops (o :: l) f w Q :=
  have hS' := hS.pulls hp
  .callG ho ha (hc hS'.inL) hg hd hn fun v w' hR => h v w' hR fun D' hm => hS'.mutL hm
end
section
variable {P : Program} {N : Fz} {f : Fr} {w w0 : World} {Q : Post} {ops : List Oper} {M : List Nat} {H0 H H' D : List Chunk} {Z0 Z : List Snap} {q : Qs} {l : List Nat} {i : Nat}
theorem More.app {D' : List Chunk} (h : More H0 Z0 H Z) : More H0 Z0 (D' ++ H) Z := by
  obtain ⟨a, b, h1, h2⟩ := h; exact ⟨D' ++ a, b, by rw [h1, List.append_assoc], h2⟩
/-- a region that draws its order, and does not lean on D -/
theorem WC.drawL {id : Nat} (D : List Chunk) (hS : St w0 M w H Z) (hp : Pulls D H H') (q l : List Nat) (hm : P.follows .mixedOrders = true)
    (hk : (Region.noSelect ops.toArray && ordOk ops.toArray ⟨q, .nil⟩ (Array.replicate ops.toArray.size false) l && Nat.beq l.length ops.length) = true)
    (h : ∀ w', St w0 M w' (D ++ H') Z → More H' Z (D ++ H') Z → WD P N (SS w0 M H' Z) ops ⟨q, .nil⟩ l f w' Q) (hok : okR N ops = true := by rfl) : WC P N (.region id ops.toArray true) f w Q := by
  have hS' := hS.pulls hp
  simp only [Bool.and_eq_true] at hk
  exact WC.draw (SS w0 M H' Z) ⟨q, .nil⟩ l hm hk.1.1 hk.1.2 hk.2 ((More.app (.refl _ _)).ss hS'.drew) (h _ hS'.drew (More.app (.refl _ _))) hok
/-- a call in such a region -/
theorem WD.callL {fid : FuncId} {xs : List Operand} {ts : Array TypeId} {args : List Value} {R : Value → World → Prop} (hS : St w0 M w H Z) (hp : Pulls D H H') (hM : More H0 Z0 H' Z) (ho : (ix ops i).op = .call ⟨.value (.func fid), ⟨xs⟩, ts⟩) (ha : xs.map (ev f) = args)
    (hc : InL w D → Cal P fid args w R) (hq : q.contains i = false) (hi : Nat.blt i ops.length = true) (hg : wants ops f (ix ops i) = true) {d : Nat} (hd : (ix ops i).dst = some d) (hn : N.ok d = true)
    (h : ∀ v w', R v w' → ∃ D', MutL w w' D D' ∧ (St w0 M w' (D' ++ H') Z → More H0 Z0 (D' ++ H') Z → WD P N (SS w0 M H0 Z0) ops q l (up f d v) w' Q)) : WD P N (SS w0 M H0 Z0) ops q (i :: l) f w Q :=
  have hS' := hS.pulls hp
  .enter hq hi hg hd hn (run_callOp ho ha (hc hS'.inL).ok) (hc hS'.inL).calls fun v w' hR => by
    obtain ⟨D', hm, hk⟩ := h v w' hR
    have hS2 := hS'.mutL hm
    exact ⟨(More.app hM).ss hS2, hk hS2 (More.app hM)⟩
theorem SS.any (hS : St w0 M w H Z) : SS w0 M [] [] w := ⟨H, Z, by simpa using hS⟩
theorem More.none : More [] [] H Z := ⟨H, Z, by simp, by simp⟩
end
end Go.J

/- What is proved: rules for the bytes of a text ('[]byte(s)'), and remainders of any sign. Conditions: as each rule names them. -/
set_option linter.unusedSimpArgs false
set_option linter.unusedVariables false
namespace Go.J
open Go Go.RowKit

/-- the bytes of a text, in a row of their own -/
def BsIs (b : Nat) (e : TypeId) (s : List UInt8) (w : World) : Prop := ∃ cs lo, w.heap[b]? = some (.cells ⟨byteC s ++ cs⟩ e (lo, lo + 1)) ∧ (byteC s ++ cs).length ≤ lo
theorem BsIs.local {b : Nat} {e : TypeId} {s : List UInt8} : Local [b] (BsIs b e s) := fun w w' h ⟨cs, lo, h1, h2⟩ => ⟨cs, lo, (h b (by simp)).trans h1, h2⟩
abbrev bsC (b : Nat) (e : TypeId) (s : List UInt8) : Chunk := .obj [b] (BsIs b e s)
theorem byteC_get {s : List UInt8} {j : Nat} {c : UInt8} (h : s[j]? = some c) : (byteC s)[j]? = some (.int .u8 (c.toNat : Int)) := by simp [byteC, h]
theorem BsIs.cell {b : Nat} {e : TypeId} {s : List UInt8} {w : World} (h : BsIs b e s w) : ∀ j u, (byteC s)[j]? = some u → w.cell? ⟨b, 0 + j, none⟩ = some u := by
  obtain ⟨cs, lo, h1, h2⟩ := h
  intro j u hj
  rw [Nat.zero_add, cell_of_row w b j _ e _ h1]
  have hlt := (List.getElem?_eq_some_iff.1 hj).1
  simp only [List.getElem?_toArray]
  rw [List.getElem?_append_left hlt]
  exact hj
section
variable {P : Program} {N : Fz} {f : Fr} {w w0 : World} {Q : Post} {ops l : List Oper} {o : Oper} {M : List Nat} {H H' : List Chunk} {Z : List Snap} {ρ : Operand → Value}
theorem run_s2b {t t2 e : TypeId} {x : Operand} {s : List UInt8} (ho : o.op = .convert t t2 x) (ht : isStr P t = true) (ht2 : bytesOf P t2 = some e) (hx : ρ x = str s) :
    ∃ cap w', (execOp ρ o).run P w = .ok (.value (.slice (some ⟨w.heap.size, 0, none⟩) s.length cap)) w' ∧ BsIs w.heap.size e s w' ∧ Upd [] w w' ∧ w.heap.size < w'.heap.size ∧ s.length ≤ cap := by
  obtain ⟨h1, h2⟩ := bytesOf_spec ht2
  have hr := run_bytes_of_string (P := P) w t t2 e ⟨⟨s⟩⟩ (isStr_eq ht) h1 h2
  have hb : bytesRow ⟨⟨s⟩⟩ (grownCap w s.length 0 e) = ⟨byteC s ++ List.replicate (grownCap w s.length 0 e - s.length) (.int .u8 0)⟩ := by
    simp [bytesRow, byteC, ByteArray.size]
  have hsz : (⟨⟨s⟩⟩ : ByteArray).size = s.length := rfl
  rw [hsz, hb] at hr
  generalize List.replicate (grownCap w s.length 0 e - s.length) (Value.int .u8 0) = C at hr
  refine ⟨grownCap w s.length 0 e, w.drew.alloc (.cells ⟨byteC s ++ C⟩ e ((byteC s ++ C).length, (byteC s ++ C).length + 1)), ?_, ⟨C, _, heap_alloc_new w.drew _, Nat.le_refl _⟩, (Upd.drew [] w).trans (.alloc _ _ _), by simp, grownCap_ge w _ _ _⟩
  simp only [execOp, ho, hx, Sem.run_bind, hr, Result.andThen_ok]
  rfl
theorem LdOk.bs {b j : Nat} {e ty : TypeId} {s : List UInt8} {c : UInt8} (hm : bsC b e s ∈ H) (hj : s[j]? = some c) (h0 : tyAgg P ty = some false) (h1 : ∃ n, tySize P ty = some n) : LdOk P H Z ty ⟨b, 0 + j * 1, none⟩ (.int .u8 (c.toNat : Int)) :=
  ⟨fun w0 M w Hn Zn hS => run_loadVar_cells (getV_at h0 h1 (byteC_get (by rwa [Nat.mul_one])) rfl) (BsIs.cell (hS.holds _ (List.mem_append_right _ hm)).1)⟩
end
section
variable {P : Program} {N : Fz} {f : Fr} {w w0 : World} {Q : Post} {ops : List Oper} {M : List Nat} {H0 H H' : List Chunk} {Z0 Z : List Snap} {q : Qs} {l : List Nat} {i : Nat}
theorem WD.rem {S : World → Prop} {ty ty' : TypeId} {x y : Operand} {a b : Int} (ho : (ix ops i).op = .binOp .rem ty x y ty') (hx : ev f x = .int .i64 a) (hy : ev f y = .int .i64 b) (ha : 0 ≤ a) (hb : 0 < b)
    (hq : q.contains i = true) (hg : wants ops f (ix ops i) = true) {d : Nat} (hd : (ix ops i).dst = some d) (hn : N.ok d = true) (h : WD P N S ops q l (up f d (.int .i64 (a % b))) w Q) : WD P N S ops q (i :: l) f w Q :=
  .take hq hd hn (.inl ⟨hg, fun _ _ => run_rem ho hx hy ha hb⟩) h
theorem WD.quo {S : World → Prop} {ty ty' : TypeId} {x y : Operand} {a b : Int} (ho : (ix ops i).op = .binOp .quo ty x y ty') (hx : ev f x = .int .i64 a) (hy : ev f y = .int .i64 b) (ha : 0 ≤ a) (ha2 : a ≤ 9223372036854775807) (hb : 0 < b)
    (hq : q.contains i = true) (hg : wants ops f (ix ops i) = true) {d : Nat} (hd : (ix ops i).dst = some d) (hn : N.ok d = true) (h : WD P N S ops q l (up f d (.int .i64 (a / b))) w Q) : WD P N S ops q (i :: l) f w Q :=
  .take hq hd hn (.inl ⟨hg, fun _ _ => run_quo ho hx hy ha ha2 hb⟩) h
end
end Go.J
