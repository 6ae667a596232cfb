/- What is proved: rules by which code is walked over a frame that is a function of slots: structure, single operations, regions that draw their order, loops. Conditions: none beyond those in each rule. -/
import Derived.WalkKit
import Derived.OrdersHeld
import Derived.Deep.LoopGhost
import Derived.LoopN
set_option linter.unusedSimpArgs false
set_option linter.unusedVariables false
namespace Go.J
open Go Go.RowKit

/-! ## Frames -/
abbrev Fr := Nat → Value
def up (f : Fr) (d : Nat) (v : Value) : Fr := fun i => match Nat.beq i d with
  | true => v
  | false => f i
def upo (f : Fr) : Option Nat → Value → Fr
  | some d, v => up f d v
  | none, _ => f
abbrev ev (f : Fr) : Operand → Value
  | .tmp t => f t
  | .const v => v
  | .global g => .pointer (some ⟨g, 0, none⟩)
  | .func i => .func (.func i) #[] #[]

structure Is (a : Act) (N : Nat) (f : Fr) : Prop where
  defers : a.defers = []
  size : a.tmps.size = N
  get : ∀ i, a.tmps.getD i undef = f i

theorem Is.eval {a : Act} {N : Nat} {f : Fr} (h : Is a N f) : a.eval = ev f := by
  funext x
  cases x with
  | tmp t => exact h.get t
  | _ => rfl

def dOk (N : Nat) : Option Nat → Bool
  | some d => Nat.blt d N
  | none => true

theorem Is.put {a : Act} {N : Nat} {f : Fr} (h : Is a N f) {o : Option Nat} (hd : dOk N o = true) (v : Value) : Is (a.put o v) N (upo f o v) := by
  cases o with
  | none => exact h
  | some d =>
    have hlt : d < N := Nat.le_of_ble_eq_true hd
    refine ⟨h.defers, by simp [Act.put, h.size], fun i => ?_⟩
    show (a.tmps.setIfInBounds d v).getD i undef = (match Nat.beq i d with | true => v | false => f i)
    by_cases e : i = d
    · subst e
      have : Nat.beq i i = true := by simp
      rw [this]
      have hs : i < a.tmps.size := by rw [h.size]; exact hlt
      simp [hs]
    · have : Nat.beq i d = false := by
        cases hb : Nat.beq i d with
        | false => rfl
        | true => exact absurd (Nat.eq_of_beq_eq_true hb) e
      rw [this]
      have := h.get i
      simp only [Array.getD_eq_getD_getElem?] at this ⊢
      rw [Array.getElem?_setIfInBounds_ne (by omega)]
      exact this

theorem Is.put1 {a : Act} {N : Nat} {f : Fr} (h : Is a N f) {o : Option Nat} {d : Nat} (hd : o = some d) (hn : Nat.blt d N = true) (v : Value) : Is (a.put o v) N (up f d v) := by
  subst hd
  exact h.put (o := some d) hn v

/-! ## Posts -/
abbrev Post := Exit → Fr → World → Prop
/-- a post of the frame as a post of the machine's own temporaries; at a panic the frame is not looked at -/
def lift (N : Nat) (Q : Post) : Exit → Act → World → Prop
  | .panic c, a, w => a.defers = [] ∧ Q (.panic c) (fun _ => undef) w
  | e, a, w => ∃ f, Is a N f ∧ Q e f w

theorem lift_hQ {N : Nat} {Q : Post} {d : Option Tmp} {v : Value} : ∀ c a w, lift N Q (.panic c) (a.put d v) w → lift N Q (.panic c) a w := by
  intro c a w h
  refine ⟨?_, h.2⟩
  have := h.1
  cases d <;> exact this

structure WC (P : Program) (N : Nat) (c : Code) (f : Fr) (w : World) (Q : Post) : Prop where
  out : ∀ a, Is a N f → c.wp P (lift N Q) a w

def seqQ (P : Program) (N : Nat) (y : Code) (Q : Post) : Post
  | .normal, f, w => WC P N y f w Q
  | e, f, w => Q e f w
def blkQ (id : Nat) (Q : Post) : Post
  | .exit i, f, w => match Nat.beq i id with
    | true => Q .normal f w
    | false => Q (.exit i) f w
  | e, f, w => Q e f w

section
variable {P : Program} {N : Nat} {f : Fr} {w : World} {Q : Post} {x y : Code}

theorem lift_some {N : Nat} {Q : Post} {e : Exit} {a : Act} {f : Fr} {w : World} (hne : ∀ c, e ≠ .panic c) (h : Is a N f) (q : Q e f w) : lift N Q e a w := by
  cases e with
  | panic c => exact absurd rfl (hne c)
  | _ => exact ⟨f, h, q⟩

theorem WC.seq (h : WC P N x f w (seqQ P N y Q)) : WC P N (.seq x y) f w Q := by
  refine ⟨fun a ha => wp_seq (wp_mono (h.out a ha) fun e a' w' hq => ?_)⟩
  cases e with
  | normal => obtain ⟨f', hf', hw⟩ := hq; exact hw.out a' hf'
  | panic c => exact hq
  | exit i => exact hq
  | goto l => exact hq
  | ret => exact hq
  | outgrown => exact hq
theorem WC.block {id : Nat} (h : WC P N x f w (blkQ id Q)) : WC P N (.block id x) f w Q := by
  refine ⟨fun a ha => wp_block (wp_mono (h.out a ha) fun e a' w' hq => ?_)⟩
  cases e with
  | exit i =>
    obtain ⟨f', hf', hw⟩ := hq
    simp only [Exit.inBlock]
    by_cases hi : i = id
    · subst hi
      rw [if_pos rfl]
      have hb : Nat.beq i i = true := by simp
      simp only [blkQ, hb] at hw
      exact ⟨f', hf', hw⟩
    · rw [if_neg hi]
      have hb : Nat.beq i id = false := by
        cases hb : Nat.beq i id with
        | false => rfl
        | true => exact absurd (Nat.eq_of_beq_eq_true hb) hi
      simp only [blkQ, hb] at hw
      exact ⟨f', hf', hw⟩
  | normal => exact hq
  | panic c => exact hq
  | goto l => exact hq
  | ret => exact hq
  | outgrown => exact hq
theorem WC.ret (h : Q .ret f w) : WC P N .ret f w Q := ⟨fun _ ha => wp_ret ⟨f, ha, h⟩⟩
theorem WC.skip (h : Q .normal f w) : WC P N .skip f w Q := ⟨fun _ ha => wp_skip ⟨f, ha, h⟩⟩
theorem WC.exit {i : Nat} (h : Q (.exit i) f w) : WC P N (.exit i) f w Q := ⟨fun _ ha => wp_exit ⟨f, ha, h⟩⟩
theorem WC.cond {c : Operand} {t : Bool} (hc : ev f c = .bool t) (h1 : t = true → WC P N x f w Q) (h2 : t = false → WC P N y f w Q) : WC P N (.cond c x y) f w Q := by
  refine ⟨fun a ha => ?_⟩
  have he : a.eval c = .bool t := by rw [ha.eval]; exact hc
  exact wp_cond_split he (fun ht => (h1 ht).out a ha) (fun ht => (h2 ht).out a ha)
theorem WC.condT {c : Operand} {t : Bool} (hc : ev f c = .bool t) (ht : t = true) (h1 : WC P N x f w Q) : WC P N (.cond c x y) f w Q :=
  .cond hc (fun _ => h1) (fun h => by rw [ht] at h; cases h)
theorem WC.condF {c : Operand} {t : Bool} (hc : ev f c = .bool t) (ht : t = false) (h1 : WC P N y f w Q) : WC P N (.cond c x y) f w Q :=
  .cond hc (fun h => by rw [ht] at h; cases h) (fun _ => h1)
theorem WC.mono {Q' : Post} (h : WC P N x f w Q) (hq : ∀ e f w, Q e f w → Q' e f w) : WC P N x f w Q' := by
  refine ⟨fun a ha => wp_mono (h.out a ha) fun e a' w' h' => ?_⟩
  cases e with
  | panic c => exact ⟨h'.1, hq _ _ _ h'.2⟩
  | normal => obtain ⟨f', h1, h2⟩ := h'; exact ⟨f', h1, hq _ _ _ h2⟩
  | exit i => obtain ⟨f', h1, h2⟩ := h'; exact ⟨f', h1, hq _ _ _ h2⟩
  | goto l => obtain ⟨f', h1, h2⟩ := h'; exact ⟨f', h1, hq _ _ _ h2⟩
  | ret => obtain ⟨f', h1, h2⟩ := h'; exact ⟨f', h1, hq _ _ _ h2⟩
  | outgrown => obtain ⟨f', h1, h2⟩ := h'; exact ⟨f', h1, hq _ _ _ h2⟩

-- posts, step by step
theorem seqQ_n (h : WC P N y f w Q) : seqQ P N y Q .normal f w := h
theorem seqQ_r (h : Q .ret f w) : seqQ P N y Q .ret f w := h
theorem seqQ_x {i : Nat} (h : Q (.exit i) f w) : seqQ P N y Q (.exit i) f w := h
theorem seqQ_p {c : List PanicEntry} (h : Q (.panic c) f w) : seqQ P N y Q (.panic c) f w := h
theorem blkQ_n {id : Nat} (h : Q .normal f w) : blkQ id Q .normal f w := h
theorem blkQ_r {id : Nat} (h : Q .ret f w) : blkQ id Q .ret f w := h
theorem blkQ_p {id : Nat} {c : List PanicEntry} (h : Q (.panic c) f w) : blkQ id Q (.panic c) f w := h
theorem blkQ_hit {i id : Nat} (e : Nat.beq i id = true) (h : Q .normal f w) : blkQ id Q (.exit i) f w := by
  show (match Nat.beq i id with | true => Q .normal f w | false => Q (.exit i) f w)
  rw [e]; exact h
theorem blkQ_miss {i id : Nat} (e : Nat.beq i id = false) (h : Q (.exit i) f w) : blkQ id Q (.exit i) f w := by
  show (match Nat.beq i id with | true => Q .normal f w | false => Q (.exit i) f w)
  rw [e]; exact h
end

/-! ## A region in the text's order -/
structure WL (P : Program) (N : Nat) (ops l : List Oper) (f : Fr) (w : World) (Q : Post) : Prop where
  out : ∀ a, Is a N f → wpList P ops.toArray (lift N Q) l a w

section
variable {P : Program} {N : Nat} {f : Fr} {w : World} {Q : Post} {ops l : List Oper} {o : Oper}

theorem WC.region {id : Nat} (h : WL P N ops ops f w Q) : WC P N (.region id ops.toArray false) f w Q :=
  ⟨fun a ha => wp_region_lit (h.out a ha)⟩
theorem WL.nil (h : Q .normal f w) : WL P N ops [] f w Q := ⟨fun _ ha => wpList_nil ⟨f, ha, h⟩⟩

/-- what the guard of an operation reads -/
def guardVal (ops : List Oper) (f : Fr) (j : Nat) : Option Bool :=
  match ops[j]? with
  | some o => match o.dst with
    | some d => match f d with
      | .bool b => some b
      | _ => none
    | none => none
  | none => none
theorem yielded_eq {a : Act} (ha : Is a N f) (j : Nat) : yielded ops.toArray a.tmps j = guardVal ops f j := by
  unfold yielded guardVal
  rw [List.getElem?_toArray]
  cases ho : ops[j]? with
  | none => rfl
  | some o =>
    cases hd : o.dst with
    | none => simp [hd]
    | some d =>
      have hg := ha.get d
      simp only [Array.getD_eq_getD_getElem?] at hg
      simp only [Option.bind_some, hd]
      rw [← hg]
      cases he : a.tmps[d]? with
      | none => simp [he, undef]
      | some v => cases v <;> simp [he]
def wants (ops : List Oper) (f : Fr) (o : Oper) : Bool :=
  match o.guard with
  | none => true
  | some (j, b) => guardVal ops f j == some b
theorem wanted_eq {a : Act} (ha : Is a N f) (o : Oper) : Region.wanted o (yielded ops.toArray a.tmps) = wants ops f o := by
  unfold Region.wanted wants
  cases o.guard with
  | none => rfl
  | some g => obtain ⟨j, b⟩ := g; simp only [yielded_eq ha]

/-- an operation that leaves a value -/
theorem WL.val (hg : wants ops f o = true) {d : Nat} (hd : o.dst = some d) (hn : Nat.blt d N = true) {v : Value} {w' : World} (hr : (execOp (ev f) o).run P w = .ok (.value v) w')
    (h : WL P N ops l (up f d v) w' Q) : WL P N ops (o :: l) f w Q := by
  refine ⟨fun a ha => wpList_step fun K hK => ?_⟩
  rw [if_pos ((wanted_eq ha o).trans hg)]
  simp only [Oper.wp, ha.eval, hr, Oper.upon]
  exact hK _ _ (h.out _ (ha.put1 hd hn v))
theorem WL.unit (hg : wants ops f o = true) {d : Nat} (hd : o.dst = some d) (hn : Nat.blt d N = true) {w' : World} (hr : (execOp (ev f) o).run P w = .ok .skip w')
    (h : WL P N ops l (up f d undef) w' Q) : WL P N ops (o :: l) f w Q := by
  refine ⟨fun a ha => wpList_step fun K hK => ?_⟩
  rw [if_pos ((wanted_eq ha o).trans hg)]
  simp only [Oper.wp, ha.eval, hr, Oper.upon]
  exact hK _ _ (h.out _ (ha.put1 hd hn undef))
theorem WL.unit0 (hg : wants ops f o = true) (hd : o.dst = none) {w' : World} (hr : (execOp (ev f) o).run P w = .ok .skip w')
    (h : WL P N ops l f w' Q) : WL P N ops (o :: l) f w Q := by
  refine ⟨fun a ha => wpList_step fun K hK => ?_⟩
  rw [if_pos ((wanted_eq ha o).trans hg)]
  simp only [Oper.wp, ha.eval, hr, Oper.upon]
  exact hK _ _ (h.out _ (by rw [hd]; exact ha))
theorem WL.enter (hg : wants ops f o = true) {d : Nat} (hd : o.dst = some d) (hn : Nat.blt d N = true) {fid : FuncId} {args : Array Value} {w' : World} (hr : (execOp (ev f) o).run P w = .ok (.enter fid args) w')
    {R : Value → World → Prop} (hc : Calls P fid args w' fun e w'' => ∃ v, e = .returned v ∧ R v w'')
    (h : ∀ v w'', R v w'' → WL P N ops l (up f d v) w'' Q) : WL P N ops (o :: l) f w Q := by
  refine ⟨fun a ha => wpList_step fun K hK => ?_⟩
  rw [if_pos ((wanted_eq ha o).trans hg)]
  simp only [Oper.wp, ha.eval, hr, Oper.upon]
  refine hc.mono fun e w'' he => ?_
  obtain ⟨v, rfl, hR⟩ := he
  exact hK _ _ ((h v w'' hR).out _ (ha.put1 hd hn v))
theorem WL.skip (hg : wants ops f o = false) {d : Nat} (hd : o.dst = some d) (hn : Nat.blt d N = true) (h : WL P N ops l (up f d undef) w Q) : WL P N ops (o :: l) f w Q := by
  refine ⟨fun a ha => wpList_step fun K hK => ?_⟩
  rw [if_neg (by rw [wanted_eq ha o, hg]; exact Bool.false_ne_true)]
  exact hK _ _ (h.out _ (ha.put1 hd hn undef))
/-- a slot that holds a Bool is written out -/
theorem up_same {f : Fr} {t : Nat} {v : Value} (h : f t = v) : up f t v = f := by
  funext i
  unfold up
  split
  · rename_i e; rw [Nat.eq_of_beq_eq_true e]; exact h.symm
  · rfl
theorem WL.skip0 (hg : wants ops f o = false) (hd : o.dst = none) (h : WL P N ops l f w Q) : WL P N ops (o :: l) f w Q := by
  refine ⟨fun a ha => wpList_step fun K hK => ?_⟩
  rw [if_neg (by rw [wanted_eq ha o, hg]; exact Bool.false_ne_true)]
  exact hK _ _ (h.out _ (by rw [hd]; exact ha))
theorem WL.split (t : Nat) {b : Bool} (ht : f t = .bool b) (h1 : b = true → WL P N ops l (up f t (.bool true)) w Q) (h2 : b = false → WL P N ops l (up f t (.bool false)) w Q) : WL P N ops l f w Q := by
  cases b with
  | true => have := h1 rfl; rwa [up_same ht] at this
  | false => have := h2 rfl; rwa [up_same ht] at this
/-- the slot that a guard reads -/
def gslot (ops : List Oper) (j : Nat) : Option Nat := match ops[j]? with
  | some o => o.dst
  | none => none
/-- (to see whether a guard is decided) -/
theorem WL.wanted (_ : wants ops f o = true) (h : WL P N ops (o :: l) f w Q) : WL P N ops (o :: l) f w Q := h
/-- a guard that isn't decided: both ways -/
theorem WL.guard {j t : Nat} {want b : Bool} (hg : o.guard = some (j, want)) (hj : gslot ops j = some t) (ht : f t = .bool b)
    (h1 : b = true → WL P N ops (o :: l) (up f t (.bool true)) w Q) (h2 : b = false → WL P N ops (o :: l) (up f t (.bool false)) w Q) : WL P N ops (o :: l) f w Q := .split t ht h1 h2
end

/-! ## A region that draws its order -/
def ix (ops : List Oper) (i : Nat) : Oper := match ops[i]? with | some o => o | none => default

/-- a bound that holds till the operation 'k' has come up -/
def upTo : Option Nat → Array Bool → Prop → Prop
  | none, _, p => p
  | some k, L, p => L.getD k true = false → p
/-- 'k' comes behind i -/
def behind (ops : Array Oper) (L : Array Bool) (i : Nat) : Option Nat → Bool
  | none => true
  | some k => !L.getD k true && !Nat.beq k i && match ops[k]? with
    | some o => o.after.any fun e => Region.binds .any e && Nat.beq e.on i
    | none => false
/-- every order from here on, S being so behind each operation ahead of 'k' -/
def AnyT (P : Program) (ops : Array Oper) (Q : Exit → Act → World → Prop) (S : World → Prop) (k : Option Nat) : Nat → Array Bool → Act → World → Prop
  | 0, L, a, w => Region.ready .any ops L = [] ∧ Q .normal a w
  | n + 1, L, a, w => (Region.ready .any ops L = [] → Q .normal a w) ∧ ∀ i ∈ Region.ready .any ops L, wpOp P ops Q i (fun a' w' => upTo k (L.setIfInBounds i true) (S w') ∧ AnyT P ops Q S k n (L.setIfInBounds i true) a' w') a w
theorem AnyT.any {P : Program} {ops : Array Oper} {Q : Exit → Act → World → Prop} {S : World → Prop} {k : Option Nat} : ∀ (n : Nat) (L : Array Bool) (a : Act) (w : World), AnyT P ops Q S k n L a w → wpAny P .any ops Q n L a w
  | 0, _, _, _, h => h
  | n + 1, _, _, _, h => ⟨h.1, fun i hi => wpOp_mono (fun _ _ h' => AnyT.any n _ _ _ h'.2) (h.2 i hi)⟩
theorem unset {L : Array Bool} {i k : Nat} (h : (L.setIfInBounds i true).getD k true = false) : L.getD k true = false := by
  by_cases e : i = k
  · subst e
    rcases Nat.lt_or_ge i L.size with h1 | h1
    · simp [h1] at h
    · simp [h1] at h
  · rwa [getD_set_ne true e] at h
/-- behind 'k' nothing is asked of S -/
theorem AnyT.free {P : Program} {ops : Array Oper} {Q : Exit → Act → World → Prop} {S S2 : World → Prop} {k : Nat} : ∀ (n : Nat) (L : Array Bool) (a : Act) (w : World), L.getD k true = true → AnyT P ops Q S2 none n L a w → AnyT P ops Q S (some k) n L a w
  | 0, _, _, _, _, h => h
  | n + 1, L, _, _, hk, h => ⟨h.1, fun i hi => wpOp_mono (fun _ _ h' => by
      have hk' : (L.setIfInBounds i true).getD k true = true := by
        cases hh : (L.setIfInBounds i true).getD k true with
        | true => rfl
        | false => rw [unset hh] at hk; cases hk
      exact ⟨fun h0 => (by rw [hk'] at h0; cases h0), AnyT.free n _ _ _ hk' h'.2⟩) (h.2 i hi)⟩
theorem AnyT.done {P : Program} {ops : Array Oper} {Q : Exit → Act → World → Prop} {S : World → Prop} {k : Option Nat} {L : Array Bool} {a : Act} {w : World} (hr : Region.ready .any ops L = []) (h : Q .normal a w) : ∀ n, AnyT P ops Q S k n L a w
  | 0 => ⟨hr, h⟩
  | _ + 1 => ⟨fun _ => h, by rw [hr]; simp⟩
theorem AnyT.all {P : Program} {ops : Array Oper} {Q : Exit → Act → World → Prop} {S : World → Prop} {k : Option Nat} {rs : List Nat} {n : Nat} {L : Array Bool} {a : Act} {w : World} (hr : Region.ready .any ops L = rs) (hne : rs ≠ [])
    (h : ∀ i ∈ rs, wpOp P ops Q i (fun a' w' => upTo k (L.setIfInBounds i true) (S w') ∧ AnyT P ops Q S k n (L.setIfInBounds i true) a' w') a w) : AnyT P ops Q S k (n + 1) L a w :=
  ⟨fun h0 => absurd (hr ▸ h0) hne, hr ▸ h⟩
/-- what another operation needs, i does not keep from it, and the other way about -/
def Lone (ops : Array Oper) (oi : Oper) (i : Nat) (L : Array Bool) : Prop :=
  ∀ j oj, ops[j]? = some oj → j ≠ i → L.getD j true = false → (∀ e ∈ oj.after, Region.binds .any e = true → e.on ≠ i) → oi.apart ops oj = true
theorem Lone.set {ops : Array Oper} {oi : Oper} {i j : Nat} {L : Array Bool} (h : Lone ops oi i L) : Lone ops oi i (L.setIfInBounds j true) :=
  fun m om hm hne hun hno => h m om hm hne (unset hun) hno
theorem upTo_of {k : Option Nat} {L : Array Bool} {p : Prop} (h : p) : upTo k L p := by
  cases k with
  | none => exact h
  | some k => exact fun _ => h
/-- 'k' can't come ahead of i, so that no other one that may come up now is it -/
theorem behind_ne {ops : Array Oper} {L : Array Bool} {i j k : Nat} (h : behind ops L i (some k) = true) (hi : i ∈ Region.ready .any ops L) (hj : j ∈ Region.ready .any ops L) : L.getD k true = false ∧ k ≠ i ∧ k ≠ j := by
  unfold behind at h
  simp only [Bool.and_eq_true, Bool.not_eq_true'] at h
  obtain ⟨⟨h1, h2⟩, h3⟩ := h
  refine ⟨h1, fun e => (by subst e; simp at h2), fun e => ?_⟩
  subst e
  obtain ⟨_, oj, hoj, hall⟩ := mem_ready.1 hj
  rw [hoj] at h3
  simp only [Array.any_eq_true, Bool.and_eq_true] at h3
  obtain ⟨m, hm, hb, he⟩ := h3
  have h4 := hall _ (Array.getElem_mem hm) hb
  rw [Nat.eq_of_beq_eq_true he] at h4
  have h5 := (mem_ready.1 hi).1
  rcases Nat.lt_or_ge i L.size with h' | h'
  · simp [h'] at h4 h5; rw [h5] at h4; cases h4
  · simp [h'] at h4
theorem behind_set {ops : Array Oper} {L : Array Bool} {i j : Nat} {k : Option Nat} (h : behind ops L i k = true) (hi : i ∈ Region.ready .any ops L) (hj : j ∈ Region.ready .any ops L) : behind ops (L.setIfInBounds j true) i k = true := by
  cases k with
  | none => rfl
  | some k =>
    obtain ⟨h1, h2, h3⟩ := behind_ne h hi hj
    have : (L.setIfInBounds j true).getD k true = L.getD k true := getD_set_ne true (Ne.symm h3)
    simp only [behind] at h ⊢
    rw [this]; exact h
theorem upTo_get {ops : Array Oper} {L : Array Bool} {i j : Nat} {k : Option Nat} {p : Prop} (h : behind ops L i k = true) (hi : i ∈ Region.ready .any ops L) (hj : j ∈ Region.ready .any ops L) (hp : upTo k ((L.setIfInBounds i true).setIfInBounds j true) p) : p := by
  cases k with
  | none => exact hp
  | some k =>
    obtain ⟨h1, h2, h3⟩ := behind_ne h hi hj
    exact hp (by rw [getD_set_ne true (Ne.symm h3), getD_set_ne true (Ne.symm h2)]; exact h1)
/-- one that yields its value wherever S holds comes first -/
theorem AnyT.one {P : Program} {ops : Array Oper} {Q : Exit → Act → World → Prop} {S : World → Prop} {k : Option Nat} {i : Nat} {oi : Oper} {v : Value} (hi : ops[i]? = some oi) (hs : ∀ (j : Nat) (o : Oper) cs b, ops[j]? = some o → o.op ≠ .select cs b)
    (hQ : ∀ c a w, Q (.panic c) (a.put oi.dst v) w → Q (.panic c) a w) : ∀ (n : Nat) (L : Array Bool) (a : Act) (w : World), Lone ops oi i L → behind ops L i k = true → i ∈ Region.ready .any ops L → YieldsIf P ops S oi v a → S w →
      AnyT P ops Q S k n (L.setIfInBounds i true) (a.put oi.dst v) w → AnyT P ops Q S k (n + 1) L a w
  | 0, L, a, w, hl, hb, hr, hy, hS, H => by
    refine .all rfl (fun h => by rw [h] at hr; cases hr) fun j hj => ?_
    by_cases e : j = i
    · subst e; exact hy.wpOp hi hS ⟨upTo_of hS, H⟩
    · have := ready_mono hj e
      rw [H.1] at this; cases this
  | n + 1, L, a, w, hl, hb, hr, hy, hS, H => by
    refine .all rfl (fun h => by rw [h] at hr; cases hr) fun j hj => ?_
    by_cases e : j = i
    · subst e; exact hy.wpOp hi hS ⟨upTo_of hS, H⟩
    · obtain ⟨hjL, oj, hoj, hall⟩ := mem_ready.1 hj
      have hno : ∀ e ∈ oj.after, Region.binds .any e = true → e.on ≠ i := fun e he hbe heq => by
        have h4 := hall e he hbe
        have h5 := (mem_ready.1 hr).1
        rw [heq] at h4
        rcases Nat.lt_or_ge i L.size with h' | h'
        · simp [h'] at h4 h5; rw [h5] at h4; cases h4
        · simp [h'] at h4
      have h2 := wpOp_putIf hoj (hl j oj hoj e hjL hno) (fun cs b => hs i oi cs b hi) (fun cs b => hs j oj cs b hoj) hQ hy (H.2 j (ready_mono hj e))
      refine wpOp_mono (fun a' w' h3 => ?_) h2
      have hSw := upTo_get hb hr hj h3.2.1
      refine ⟨upTo_of hSw, AnyT.one hi hs hQ n _ a' w' hl.set (behind_set hb hr hj) (ready_mono hr (Ne.symm e)) h3.1 hSw ?_⟩
      rw [Array.setIfInBounds_comm _ _ e]
      exact h3.2.2

theorem upTo_swap {L : Array Bool} {i j : Nat} {k : Option Nat} {p : Prop} (h : k ≠ some i) (hp : upTo k ((L.setIfInBounds i true).setIfInBounds j true) p) : upTo k (L.setIfInBounds j true) p := by
  cases k with
  | none => exact hp
  | some k =>
    intro h0
    refine hp ?_
    by_cases e : i = j
    · subst e
      have hki : i ≠ k := fun e => h (by rw [e])
      rw [getD_set_ne true hki] at h0 ⊢
      rw [getD_set_ne true hki]; exact h0
    · rw [Array.setIfInBounds_comm _ _ e, getD_set_ne true (fun e => h (by rw [e]))]
      exact h0
/-- one that yields its value in whatever world -/
theorem AnyT.one0 {P : Program} {ops : Array Oper} {Q : Exit → Act → World → Prop} {S : World → Prop} {k : Option Nat} {i : Nat} {oi : Oper} {v : Value} (hi : ops[i]? = some oi) (hs : ∀ (j : Nat) (o : Oper) cs b, ops[j]? = some o → o.op ≠ .select cs b)
    (hQ : ∀ c a w, Q (.panic c) (a.put oi.dst v) w → Q (.panic c) a w) (hk : k ≠ some i) : ∀ (n : Nat) (L : Array Bool) (a : Act) (w : World), Lone ops oi i L → i ∈ Region.ready .any ops L → YieldsIf P ops (fun _ => True) oi v a → upTo k (L.setIfInBounds i true) (S w) →
      AnyT P ops Q S k n (L.setIfInBounds i true) (a.put oi.dst v) w → AnyT P ops Q S k (n + 1) L a w
  | 0, L, a, w, hl, hr, hy, hS, H => by
    refine .all rfl (fun h => by rw [h] at hr; cases hr) fun j hj => ?_
    by_cases e : j = i
    · subst e; exact hy.wpOp hi trivial ⟨hS, H⟩
    · have := ready_mono hj e
      rw [H.1] at this; cases this
  | n + 1, L, a, w, hl, hr, hy, hS, H => by
    refine .all rfl (fun h => by rw [h] at hr; cases hr) fun j hj => ?_
    by_cases e : j = i
    · subst e; exact hy.wpOp hi trivial ⟨hS, H⟩
    · obtain ⟨hjL, oj, hoj, hall⟩ := mem_ready.1 hj
      have hno : ∀ e ∈ oj.after, Region.binds .any e = true → e.on ≠ i := fun e he hbe heq => by
        have h4 := hall e he hbe
        have h5 := (mem_ready.1 hr).1
        rw [heq] at h4
        rcases Nat.lt_or_ge i L.size with h' | h'
        · simp [h'] at h4 h5; rw [h5] at h4; cases h4
        · simp [h'] at h4
      have h2 := wpOp_putIf hoj (hl j oj hoj e hjL hno) (fun cs b => hs i oi cs b hi) (fun cs b => hs j oj cs b hoj) hQ hy (H.2 j (ready_mono hj e))
      refine wpOp_mono (fun a' w' h3 => ?_) h2
      have hc : (L.setIfInBounds i true).setIfInBounds j true = (L.setIfInBounds j true).setIfInBounds i true := Array.setIfInBounds_comm _ _ (Ne.symm e)
      refine ⟨upTo_swap hk h3.2.1, AnyT.one0 hi hs hQ hk n _ a' w' hl.set (ready_mono hr (Ne.symm e)) h3.1 (hc ▸ h3.2.1) (hc ▸ h3.2.2)⟩
/-- operations that look at no memory -/
def blind (o : Oper) : Bool := match o.op with
  | .load .. => false
  | .lookup .. => false
  | .call .. => false
  | .next .. => false
  | .entry .. => false
  | _ => true

/-- the order 'l' may be taken, what is behind it being as 'fin' says: what 'q' does not name comes up alone -/
def ordL (ops : Array Oper) (q : List Nat) (k : Option Nat) (fin : Array Bool → Bool) : Array Bool → List Nat → Bool
  | L, [] => fin L
  | L, i :: l => (i < ops.size) && (if q.contains i then Region.free .any ops L i && (Region.ready .any ops L).contains i && !(k == some i) && (match ops[i]? with | some o => blind o | none => false) || Region.free .any ops L i && (Region.ready .any ops L).contains i && behind ops L i k else Region.ready .any ops L == [i]) && ordL ops q k fin (L.setIfInBounds i true) l
/-- a plan: nothing is left, or two effects, of which either may be first, or one behind which nothing is known any more -/
inductive Pl where
  | nil
  | two (i : Nat) (l1 : List Nat) (t1 : Pl) (j : Nat) (l2 : List Nat) (t2 : Pl)
  | piv (i : Nat) (l1 : List Nat)
def Pl.len : Pl → Nat
  | .nil => 0
  | .two _ l1 t1 _ _ _ => l1.length + t1.len + 1
  | .piv _ l1 => l1.length + 1
def Pl.pv : Pl → Option Nat
  | .nil => none
  | .two _ _ t1 _ _ _ => t1.pv
  | .piv i _ => some i
def plOk (ops : Array Oper) (q : List Nat) : Pl → Array Bool → Bool
  | .nil, L => (Region.ready .any ops L).isEmpty
  | .two i l1 t1 j l2 t2, L => Region.ready .any ops L == [i, j] && Nat.beq (l1.length + t1.len) (l2.length + t2.len) && t1.pv == t2.pv && ordL ops q t1.pv (plOk ops q t1) (L.setIfInBounds i true) l1 && ordL ops q t2.pv (plOk ops q t2) (L.setIfInBounds j true) l2
  | .piv i l1, L => (i < L.size) && Region.ready .any ops L == [i] && ordL ops q none (fun L => (Region.ready .any ops L).isEmpty) (L.setIfInBounds i true) l1
/-- which only look, and the plan behind the order -/
structure Qs where
  q : List Nat
  t : Pl
def Qs.contains (x : Qs) (i : Nat) : Bool := x.q.contains i
def ordOk (ops : Array Oper) (x : Qs) (L : Array Bool) (l : List Nat) : Bool := ordL ops x.q x.t.pv (plOk ops x.q x.t) L l

structure WD (P : Program) (N : Nat) (S : World → Prop) (ops : List Oper) (q : Qs) (l : List Nat) (f : Fr) (w : World) (Q : Post) : Prop where
  out : ∀ a, Is a N f → ∀ L, ordOk ops.toArray q L l = true → Region.noSelect ops.toArray = true → S w → AnyT P ops.toArray (lift N Q) S q.t.pv (l.length + q.t.len) L a w
/-- one effect, chosen -/
structure WDo (P : Program) (N : Nat) (S : World → Prop) (ops : List Oper) (q : Qs) (i : Nat) (l : List Nat) (f : Fr) (w : World) (Q : Post) : Prop where
  out : ∀ a, Is a N f → ∀ K : Act → World → Prop, (∀ f' w' a', Is a' N f' → S w' → WD P N S ops q l f' w' Q → K a' w') → wpOp P ops.toArray (lift N Q) i K a w

section
variable {P : Program} {N : Nat} {f : Fr} {w : World} {Q : Post} {ops : List Oper} {S : World → Prop} {q : Qs} {l : List Nat} {i : Nat}

theorem WC.draw {id : Nat} (S : World → Prop) (q : Qs) (l : List Nat) (hm : P.follows .mixedOrders = true) (hs : Region.noSelect ops.toArray = true)
    (hl : ordOk ops.toArray q (Array.replicate ops.toArray.size false) l = true) (hn : Nat.beq (l.length + q.t.len) ops.length = true) (hS : S w.drew)
    (h : WD P N S ops q l f w.drew Q) : WC P N (.region id ops.toArray true) f w Q := by
  refine ⟨fun a ha => wp_region_any hm (AnyT.any _ _ _ _ (S := S) (k := q.t.pv) ?_)⟩
  have e := Nat.eq_of_beq_eq_true hn
  have := h.out a ha _ hl hs hS
  rw [e] at this
  simpa using this
theorem WD.nil {q : List Nat} (h : Q .normal f w) : WD P N S ops ⟨q, .nil⟩ [] f w Q := by
  refine ⟨fun a ha L hL _ _ => ?_⟩
  have hr : Region.ready .any ops.toArray L = [] := by
    have : (Region.ready .any ops.toArray L).isEmpty = true := hL
    exact List.isEmpty_iff.1 this
  exact AnyT.done hr ⟨f, ha, h⟩ _
/-- either of two effects may be first -/
theorem WD.fork {q : List Nat} {i j : Nat} {l1 l2 : List Nat} {t1 t2 : Pl} (h1 : WDo P N S ops ⟨q, t1⟩ i l1 f w Q) (h2 : WDo P N S ops ⟨q, t2⟩ j l2 f w Q) : WD P N S ops ⟨q, .two i l1 t1 j l2 t2⟩ [] f w Q := by
  refine ⟨fun a ha L hL hs hS => ?_⟩
  have hL : plOk ops.toArray q (.two i l1 t1 j l2 t2) L = true := hL
  unfold plOk at hL
  simp only [Bool.and_eq_true] at hL
  obtain ⟨⟨⟨⟨hr, hlen⟩, hpv⟩, ho1⟩, ho2⟩ := hL
  have hpv : t1.pv = t2.pv := by simpa using hpv
  have hr : Region.ready .any ops.toArray L = [i, j] := by simpa using hr
  have hlen := Nat.eq_of_beq_eq_true hlen
  have hsz : ([] : List Nat).length + (⟨q, .two i l1 t1 j l2 t2⟩ : Qs).t.len = l1.length + t1.len + 1 := by simp [Pl.len]
  rw [hsz]
  show AnyT P ops.toArray (lift N Q) S t1.pv _ L a w
  refine AnyT.all hr (by simp) fun k hk => ?_
  rcases List.mem_cons.1 hk with rfl | hk
  · exact h1.out a ha _ fun f' w' a' ha' hS' hw' => ⟨upTo_of hS', hw'.out a' ha' _ ho1 hs hS'⟩
  · obtain rfl : k = j := by simpa using hk
    rw [hlen, hpv]
    exact h2.out a ha _ fun f' w' a' ha' hS' hw' => ⟨upTo_of hS', hw'.out a' ha' _ ho2 hs hS'⟩
/-- an effect behind which what was known holds no more -/
theorem WD.piv {q : List Nat} {i : Nat} {l1 : List Nat} {S2 : World → Prop} (h : WDo P N S2 ops ⟨q, .nil⟩ i l1 f w Q) : WD P N S ops ⟨q, .piv i l1⟩ [] f w Q := by
  refine ⟨fun a ha L hL hs hS => ?_⟩
  have hL : plOk ops.toArray q (.piv i l1) L = true := hL
  unfold plOk at hL
  simp only [Bool.and_eq_true, decide_eq_true_eq] at hL
  obtain ⟨⟨hlt, hr⟩, ho⟩ := hL
  have hr : Region.ready .any ops.toArray L = [i] := by simpa using hr
  have hsz : ([] : List Nat).length + (⟨q, .piv i l1⟩ : Qs).t.len = l1.length + 1 := by simp [Pl.len]
  rw [hsz]
  show AnyT P ops.toArray (lift N Q) S (some i) _ L a w
  refine AnyT.all hr (by simp) fun k hk => ?_
  obtain rfl : k = i := by simpa using hk
  have hk' : (L.setIfInBounds k true).getD k true = true := by simp [hlt]
  refine h.out a ha _ fun f' w' a' ha' hS' hw' => ⟨fun h0 => (by rw [hk'] at h0; cases h0), AnyT.free (S2 := S2) _ _ _ _ hk' ?_⟩
  have := hw'.out a' ha' (L.setIfInBounds k true) ho hs hS'
  exact this

theorem ix_some {i : Nat} (h : i < ops.toArray.size) : ops.toArray[i]? = some (ix ops i) := by
  have h' : i < ops.length := by simpa using h
  unfold ix
  rw [List.getElem?_toArray, List.getElem?_eq_getElem h']

/-- one that only looks -/
theorem WD.take (hq : q.contains i = true) {d : Nat} (hd : (ix ops i).dst = some d) (hn : Nat.blt d N = true) {v : Value}
    (hy : (wants ops f (ix ops i) = true ∧ ∀ w', True → (execOp (ev f) (ix ops i)).run P w' = .ok (.value v) w') ∨ (wants ops f (ix ops i) = false ∧ v = undef))
    (h : WD P N S ops q l (up f d v) w Q) : WD P N S ops q (i :: l) f w Q := by
  refine ⟨fun a ha L hL hs hS => ?_⟩
  unfold ordOk ordL at hL
  simp only [Bool.and_eq_true, decide_eq_true_eq] at hL
  obtain ⟨⟨hlt, hc⟩, hrest⟩ := hL
  have hq : q.q.contains i = true := hq
  rw [if_pos hq] at hc
  simp only [Bool.or_eq_true, Bool.and_eq_true] at hc
  rw [List.length_cons, Nat.add_right_comm]
  have hyy : ∀ S' : World → Prop, YieldsIf P ops.toArray S' (ix ops i) v a := fun S' => by
    rcases hy with ⟨h1, h2⟩ | ⟨h1, h2⟩
    · refine .inl ⟨(wanted_eq ha _).trans h1, fun w' hw' => ?_⟩
      rw [ha.eval]; exact h2 w' trivial
    · exact .inr ⟨(wanted_eq ha _).trans h1, h2⟩
  rcases hc with ⟨⟨⟨hf, hr⟩, hk⟩, _⟩ | ⟨⟨hf, hr⟩, hb⟩
  · have hk : q.t.pv ≠ some i := by simpa using hk
    exact AnyT.one0 (ix_some hlt) (Region.noSelect_spec hs) lift_hQ hk _ L a w (Region.free_spec (ix_some hlt) hf) (by simpa using hr) (hyy _) (upTo_of hS) (h.out _ (ha.put1 hd hn v) _ hrest hs hS)
  · exact AnyT.one (ix_some hlt) (Region.noSelect_spec hs) lift_hQ _ L a w (Region.free_spec (ix_some hlt) hf) hb (by simpa using hr) (hyy _) hS (h.out _ (ha.put1 hd hn v) _ hrest hs hS)
/-- one that looks at memory -/
theorem WD.takeS (hq : q.contains i = true) (hbl : blind (ix ops i) = false) {d : Nat} (hd : (ix ops i).dst = some d) (hn : Nat.blt d N = true) {v : Value} (hg : wants ops f (ix ops i) = true)
    (hy : ∀ w', S w' → (execOp (ev f) (ix ops i)).run P w' = .ok (.value v) w') (h : WD P N S ops q l (up f d v) w Q) : WD P N S ops q (i :: l) f w Q := by
  refine ⟨fun a ha L hL hs hS => ?_⟩
  unfold ordOk ordL at hL
  simp only [Bool.and_eq_true, decide_eq_true_eq] at hL
  obtain ⟨⟨hlt, hc⟩, hrest⟩ := hL
  have hq : q.q.contains i = true := hq
  rw [if_pos hq, ix_some hlt] at hc
  simp only [hbl, Bool.or_eq_true, Bool.and_eq_true, Bool.false_eq_true, and_false, false_or] at hc
  obtain ⟨⟨hf, hr⟩, hb⟩ := hc
  rw [List.length_cons, Nat.add_right_comm]
  refine AnyT.one (ix_some hlt) (Region.noSelect_spec hs) lift_hQ _ L a w (Region.free_spec (ix_some hlt) hf) hb (by simpa using hr) (.inl ⟨(wanted_eq ha _).trans hg, fun w' hw' => ?_⟩) hS (h.out _ (ha.put1 hd hn v) _ hrest hs hS)
  rw [ha.eval]; exact hy w' hw'

theorem WD.eff (hq : q.contains i = false) (h : ∀ a, Is a N f → ∀ K : Act → World → Prop, (∀ f' w' a', Is a' N f' → S w' → WD P N S ops q l f' w' Q → K a' w') → wpOp P ops.toArray (lift N Q) i K a w) :
    WD P N S ops q (i :: l) f w Q := by
  refine ⟨fun a ha L hL hs hS => ?_⟩
  unfold ordOk ordL at hL
  simp only [Bool.and_eq_true, decide_eq_true_eq] at hL
  obtain ⟨⟨hlt, hc⟩, hrest⟩ := hL
  have hq : q.q.contains i = false := hq
  rw [if_neg (by rw [hq]; exact Bool.false_ne_true)] at hc
  rw [List.length_cons, Nat.add_right_comm]
  have hr : Region.ready .any ops.toArray L = [i] := by simpa using hc
  refine AnyT.all hr (by simp) fun j hj => ?_
  obtain rfl : j = i := by simpa using hj
  exact h a ha _ fun f' w' a' ha' hS' hw' => ⟨upTo_of hS', hw'.out a' ha' _ hrest hs hS'⟩

theorem WDo.val (hi : Nat.blt i ops.length = true) (hg : wants ops f (ix ops i) = true) {d : Nat} (hd : (ix ops i).dst = some d) (hn : Nat.blt d N = true) {v : Value} {w' : World}
    (hr : (execOp (ev f) (ix ops i)).run P w = .ok (.value v) w') (hS : S w') (h : WD P N S ops q l (up f d v) w' Q) : WDo P N S ops q i l f w Q := by
  refine ⟨fun a ha K hK => ?_⟩
  unfold Go.wpOp
  rw [ix_some (by simp only [List.size_toArray]; exact Nat.le_of_ble_eq_true hi)]
  simp only
  rw [if_pos ((wanted_eq ha _).trans hg)]
  refine .inl ?_
  simp only [Oper.wp, ha.eval, hr, Oper.upon]
  exact hK _ _ _ (ha.put1 hd hn v) hS h
theorem WDo.enter (hi : Nat.blt i ops.length = true) (hg : wants ops f (ix ops i) = true) {d : Nat} (hd : (ix ops i).dst = some d) (hn : Nat.blt d N = true) {fid : FuncId} {args : Array Value} {w' : World}
    (hr : (execOp (ev f) (ix ops i)).run P w = .ok (.enter fid args) w') {R : Value → World → Prop} (hc : Calls P fid args w' fun e w'' => ∃ v, e = .returned v ∧ R v w'')
    (h : ∀ v w'', R v w'' → S w'' ∧ WD P N S ops q l (up f d v) w'' Q) : WDo P N S ops q i l f w Q := by
  refine ⟨fun a ha K hK => ?_⟩
  unfold Go.wpOp
  rw [ix_some (by simp only [List.size_toArray]; exact Nat.le_of_ble_eq_true hi)]
  simp only
  rw [if_pos ((wanted_eq ha _).trans hg)]
  refine .inl ?_
  simp only [Oper.wp, ha.eval, hr, Oper.upon]
  refine hc.mono fun e w'' he => ?_
  obtain ⟨v, rfl, hR⟩ := he
  obtain ⟨h1, h2⟩ := h v w'' hR
  exact hK _ _ _ (ha.put1 hd hn v) h1 h2
theorem WDo.unit0 (hi : Nat.blt i ops.length = true) (hg : wants ops f (ix ops i) = true) (hd : (ix ops i).dst = none) {w' : World}
    (hr : (execOp (ev f) (ix ops i)).run P w = .ok .skip w') (hS : S w') (h : WD P N S ops q l f w' Q) : WDo P N S ops q i l f w Q := by
  refine ⟨fun a ha K hK => ?_⟩
  unfold Go.wpOp
  rw [ix_some (by simp only [List.size_toArray]; exact Nat.le_of_ble_eq_true hi)]
  simp only
  rw [if_pos ((wanted_eq ha _).trans hg)]
  refine .inl ?_
  simp only [Oper.wp, ha.eval, hr, Oper.upon]
  exact hK _ _ _ (by rw [hd]; exact ha) hS h
theorem WD.val (hq : q.contains i = false) (hi : Nat.blt i ops.length = true) (hg : wants ops f (ix ops i) = true) {d : Nat} (hd : (ix ops i).dst = some d) (hn : Nat.blt d N = true) {v : Value} {w' : World}
    (hr : (execOp (ev f) (ix ops i)).run P w = .ok (.value v) w') (hS : S w') (h : WD P N S ops q l (up f d v) w' Q) : WD P N S ops q (i :: l) f w Q := by
  refine .eff hq fun a ha K hK => ?_
  unfold Go.wpOp
  rw [ix_some (by simp only [List.size_toArray]; exact Nat.le_of_ble_eq_true hi)]
  simp only
  rw [if_pos ((wanted_eq ha _).trans hg)]
  refine .inl ?_
  simp only [Oper.wp, ha.eval, hr, Oper.upon]
  exact hK _ _ _ (ha.put1 hd hn v) hS h
theorem WD.unit (hq : q.contains i = false) (hi : Nat.blt i ops.length = true) (hg : wants ops f (ix ops i) = true) {d : Nat} (hd : (ix ops i).dst = some d) (hn : Nat.blt d N = true) {w' : World}
    (hr : (execOp (ev f) (ix ops i)).run P w = .ok .skip w') (hS : S w') (h : WD P N S ops q l (up f d undef) w' Q) : WD P N S ops q (i :: l) f w Q := by
  refine .eff hq fun a ha K hK => ?_
  unfold Go.wpOp
  rw [ix_some (by simp only [List.size_toArray]; exact Nat.le_of_ble_eq_true hi)]
  simp only
  rw [if_pos ((wanted_eq ha _).trans hg)]
  refine .inl ?_
  simp only [Oper.wp, ha.eval, hr, Oper.upon]
  exact hK _ _ _ (ha.put1 hd hn undef) hS h
theorem WD.unit0 (hq : q.contains i = false) (hi : Nat.blt i ops.length = true) (hg : wants ops f (ix ops i) = true) (hd : (ix ops i).dst = none) {w' : World}
    (hr : (execOp (ev f) (ix ops i)).run P w = .ok .skip w') (hS : S w') (h : WD P N S ops q l f w' Q) : WD P N S ops q (i :: l) f w Q := by
  refine .eff hq fun a ha K hK => ?_
  unfold Go.wpOp
  rw [ix_some (by simp only [List.size_toArray]; exact Nat.le_of_ble_eq_true hi)]
  simp only
  rw [if_pos ((wanted_eq ha _).trans hg)]
  refine .inl ?_
  simp only [Oper.wp, ha.eval, hr, Oper.upon]
  exact hK _ _ _ (by rw [hd]; exact ha) hS h
theorem WD.enter (hq : q.contains i = false) (hi : Nat.blt i ops.length = true) (hg : wants ops f (ix ops i) = true) {d : Nat} (hd : (ix ops i).dst = some d) (hn : Nat.blt d N = true) {fid : FuncId} {args : Array Value} {w' : World}
    (hr : (execOp (ev f) (ix ops i)).run P w = .ok (.enter fid args) w') {R : Value → World → Prop} (hc : Calls P fid args w' fun e w'' => ∃ v, e = .returned v ∧ R v w'')
    (h : ∀ v w'', R v w'' → S w'' ∧ WD P N S ops q l (up f d v) w'' Q) : WD P N S ops q (i :: l) f w Q := by
  refine .eff hq fun a ha K hK => ?_
  unfold Go.wpOp
  rw [ix_some (by simp only [List.size_toArray]; exact Nat.le_of_ble_eq_true hi)]
  simp only
  rw [if_pos ((wanted_eq ha _).trans hg)]
  refine .inl ?_
  simp only [Oper.wp, ha.eval, hr, Oper.upon]
  refine hc.mono fun e w'' he => ?_
  obtain ⟨v, rfl, hR⟩ := he
  obtain ⟨h1, h2⟩ := h v w'' hR
  exact hK _ _ _ (ha.put1 hd hn v) h1 h2
/-- an effect whose guard says no -/
theorem WD.skip (hq : q.contains i = false) (hi : Nat.blt i ops.length = true) (hg : wants ops f (ix ops i) = false) {d : Nat} (hd : (ix ops i).dst = some d) (hn : Nat.blt d N = true) (hS : S w)
    (h : WD P N S ops q l (up f d undef) w Q) : WD P N S ops q (i :: l) f w Q := by
  refine .eff hq fun a ha K hK => ?_
  unfold Go.wpOp
  rw [ix_some (by simp only [List.size_toArray]; exact Nat.le_of_ble_eq_true hi)]
  simp only
  rw [if_neg (by rw [wanted_eq ha _, hg]; exact Bool.false_ne_true)]
  exact hK _ _ _ (ha.put1 hd hn undef) hS h
theorem WD.split (t : Nat) {b : Bool} (ht : f t = .bool b) (h1 : b = true → WD P N S ops q l (up f t (.bool true)) w Q) (h2 : b = false → WD P N S ops q l (up f t (.bool false)) w Q) : WD P N S ops q l f w Q := by
  cases b with
  | true => have := h1 rfl; rwa [up_same ht] at this
  | false => have := h2 rfl; rwa [up_same ht] at this
theorem WD.wanted (_ : wants ops f (ix ops i) = true) (h : WD P N S ops q (i :: l) f w Q) : WD P N S ops q (i :: l) f w Q := h
theorem WD.guard {j t : Nat} {want b : Bool} (hg : (ix ops i).guard = some (j, want)) (hj : gslot ops j = some t) (ht : f t = .bool b)
    (h1 : b = true → WD P N S ops q (i :: l) (up f t (.bool true)) w Q) (h2 : b = false → WD P N S ops q (i :: l) (up f t (.bool false)) w Q) : WD P N S ops q (i :: l) f w Q := .split t ht h1 h2
end

/-! ## Functions -/
def funQ (P : Program) (rs : Array ResultVar) (fn : Func) (R : Ending → World → Prop) : Post
  | .normal, f, w => ∃ v, R (.returned v) w ∧ ∀ a, Is a fn.ntmps f → (results fn a.tmps).run P w = .ok v w
  | .ret, f, w => ∃ v, R (.returned v) w ∧ ∀ a, Is a fn.ntmps f → (results fn a.tmps).run P w = .ok v w
  | .panic c, _, w => R (.panicked c) w
  | _, _, _ => False

def fr0 (args : List Value) : Fr := fun i => match args[i]? with | some v => v | none => undef

theorem calls {P : Program} {fid : FuncId} {fn : Func} {c : Code} {args : List Value} {w : World} {R : Ending → World → Prop}
    (hf : P.funcs[fid]? = some fn) (hb : fn.body = some c) (hn : Nat.ble args.length fn.ntmps = true)
    (h : WC P fn.ntmps c (fr0 args) w (funQ P fn.results fn R)) : Calls P fid args.toArray w R := by
  refine calls_of_wp hf hb (wp_mono (h.out _ ⟨rfl, ?_, ?_⟩) fun e a w' hq => ?_)
  · have : args.length ≤ fn.ntmps := Nat.le_of_ble_eq_true hn
    simp; omega
  · intro i
    simp only [fr0, Array.getD_eq_getD_getElem?]
    rw [Array.getElem?_append]
    simp only [List.size_toArray, List.getElem?_toArray]
    by_cases hi : i < args.length
    · rw [if_pos hi]; simp [hi]
    · rw [if_neg hi]
      have : args[i]? = none := List.getElem?_eq_none (by omega)
      rw [this]
      simp only [Array.getElem?_replicate]
      split <;> rfl
  · cases e with
    | normal => obtain ⟨f, hf', v, hR, hv⟩ := hq; exact ⟨hf'.defers, v, hv a hf', hR⟩
    | ret => obtain ⟨f, hf', v, hR, hv⟩ := hq; exact ⟨hf'.defers, v, hv a hf', hR⟩
    | panic c => exact hq
    | exit i => obtain ⟨_, _, h⟩ := hq; exact h.elim
    | goto l => obtain ⟨_, _, h⟩ := hq; exact h.elim
    | outgrown => obtain ⟨_, _, h⟩ := hq; exact h.elim

/-! ## Loops -/
def lk : List (Nat × Value) → Nat → Option Value
  | [], _ => none
  | (j, v) :: r, i => match Nat.beq i j with
    | true => some v
    | false => lk r i
def kp : List Nat → Nat → Bool
  | [], _ => false
  | j :: r, i => match Nat.beq i j with
    | true => true
    | false => kp r i
/-- the frame at a loop's head: the named slots, those that are kept, and whatever in the others -/
def lf (keep : List Nat) (lv : List (Nat × Value)) (f g : Fr) : Fr := fun i => match lk lv i with
  | some v => v
  | none => match kp keep i with
    | true => f i
    | false => g i
def agree (f' : Fr) : List (Nat × Value) → Prop
  | [] => True
  | (j, v) :: r => f' j = v ∧ agree f' r
def agreeK (f' f : Fr) : List Nat → Prop
  | [] => True
  | j :: r => f' j = f j ∧ agreeK f' f r
theorem agreeK_refl (f : Fr) : ∀ k, agreeK f f k
  | [] => trivial
  | _ :: r => ⟨rfl, agreeK_refl f r⟩
theorem agree_lk {f' : Fr} : ∀ {lv : List (Nat × Value)}, agree f' lv → ∀ i v, lk lv i = some v → f' i = v
  | (j, u) :: r, h, i, v, e => by
    unfold lk at e
    split at e
    · rename_i hb; rw [Nat.eq_of_beq_eq_true hb]; simp only [Option.some.injEq] at e; rw [h.1, e]
    · exact agree_lk h.2 i v e
theorem agreeK_kp {f' f : Fr} : ∀ {k : List Nat}, agreeK f' f k → ∀ i, kp k i = true → f' i = f i
  | j :: r, h, i, e => by
    unfold kp at e
    split at e
    · rename_i hb; rw [Nat.eq_of_beq_eq_true hb]; exact h.1
    · exact agreeK_kp h.2 i e
theorem lf_eq {keep : List Nat} {lv : List (Nat × Value)} {f f' : Fr} (h1 : agree f' lv) (h2 : agreeK f' f keep) : f' = lf keep lv f f' := by
  funext i
  unfold lf
  split
  · rename_i v e; exact agree_lk h1 i v e
  · split
    · rename_i e; exact agreeK_kp h2 i e
    · rfl

def rndQ {σ : Type} (keep : List Nat) (lv : σ → List (Nat × Value)) (I : σ → World → Prop) (μ : σ → Nat) (f : Fr) (s : σ) (Q : Post) : Post
  | .normal, f', w' => ∃ s', I s' w' ∧ μ s' < μ s ∧ agree f' (lv s') ∧ agreeK f' f keep
  | e, f', w' => Q e f' w'
section
variable {σ : Type} {keep : List Nat} {lv : σ → List (Nat × Value)} {I : σ → World → Prop} {μ : σ → Nat} {f f' : Fr} {s : σ} {Q : Post} {w : World}
theorem rndQ_x {i : Nat} (h : Q (.exit i) f' w) : rndQ keep lv I μ f s Q (.exit i) f' w := h
theorem rndQ_r (h : Q .ret f' w) : rndQ keep lv I μ f s Q .ret f' w := h
theorem rndQ_p {c : List PanicEntry} (h : Q (.panic c) f' w) : rndQ keep lv I μ f s Q (.panic c) f' w := h
theorem rndQ_n (s' : σ) (h1 : I s' w) (h2 : μ s' < μ s) (h3 : agree f' (lv s')) (h4 : agreeK f' f keep) : rndQ keep lv I μ f s Q .normal f' w := ⟨s', h1, h2, h3, h4⟩
end

theorem WC.loop {P : Program} {N : Nat} {f : Fr} {w : World} {Q : Post} {c : Code} {σ : Type} (keep : List Nat) (lv : σ → List (Nat × Value)) (I : σ → World → Prop) (μ : σ → Nat) (s0 : σ)
    (h0 : I s0 w) (ha : agree f (lv s0))
    (hb : ∀ s g w, I s w → WC P N c (lf keep (lv s) f g) w (rndQ keep lv I μ f s Q)) : WC P N (.loop c) f w Q := by
  refine ⟨fun a hia => wp_loop_ghost (fun n a w => ∃ s g, I s w ∧ Is a N (lf keep (lv s) f g) ∧ μ s = n) (μ s0) ⟨s0, f, h0, ?_, rfl⟩ ?_⟩
  · have : f = lf keep (lv s0) f f := lf_eq ha (agreeK_refl f keep)
    rwa [← this]
  · rintro n a w ⟨s, g, hI, his, rfl⟩
    refine wp_mono ((hb s g w hI).out a his) fun e a' w' hq => ?_
    cases e with
    | normal =>
      obtain ⟨f', hf', s', h1, h2, h3, h4⟩ := hq
      refine ⟨μ s', h2, s', f', h1, ?_, rfl⟩
      rwa [← lf_eq h3 h4]
    | panic c => exact hq
    | exit i => exact hq
    | goto l => exact hq
    | ret => exact hq
    | outgrown => exact hq
/-- a loop of a known number of rounds -/
def rdQ (P : Program) (N : Nat) (c : Code) (Q : Post) : Nat → Post
  | 0, .normal, _, _ => False
  | n + 1, .normal, f, w => WC P N c f w (rdQ P N c Q n)
  | _, e, f, w => Q e f w
section
variable {P : Program} {N : Nat} {f : Fr} {w : World} {Q : Post} {c : Code} {n : Nat}
theorem WC.rounds (n : Nat) (h : WC P N c f w (rdQ P N c Q n)) : WC P N (.loop c) f w Q := by
  have key : ∀ n f w a, Is a N f → WC P N c f w (rdQ P N c Q n) → Code.rounds P c (lift N Q) (n + 1) a w := by
    intro n
    induction n with
    | zero =>
      intro f w a ha h
      refine wp_mono (h.out a ha) fun e a' w' hq => ?_
      cases e with
      | normal => obtain ⟨_, _, h⟩ := hq; exact h.elim
      | panic c => exact hq
      | exit i => exact hq
      | goto l => exact hq
      | ret => exact hq
      | outgrown => exact hq
    | succ n ih =>
      intro f w a ha h
      refine wp_mono (h.out a ha) fun e a' w' hq => ?_
      cases e with
      | normal => obtain ⟨f', h1, h2⟩ := hq; exact ih f' w' a' h1 h2
      | panic c => exact hq
      | exit i => exact hq
      | goto l => exact hq
      | ret => exact hq
      | outgrown => exact hq
  exact ⟨fun a ha => wp_loop_rounds (n + 1) (key n f w a ha h)⟩
theorem rdQ_n (h : WC P N c f w (rdQ P N c Q n)) : rdQ P N c Q (n + 1) .normal f w := h
theorem rdQ_x {i : Nat} (h : Q (.exit i) f w) : rdQ P N c Q n (.exit i) f w := by cases n <;> exact h
theorem rdQ_r (h : Q .ret f w) : rdQ P N c Q n .ret f w := by cases n <;> exact h
theorem rdQ_p {p : List PanicEntry} (h : Q (.panic p) f w) : rdQ P N c Q n (.panic p) f w := by cases n <;> exact h
end
attribute [irreducible] seqQ blkQ rndQ funQ rdQ
end Go.J
