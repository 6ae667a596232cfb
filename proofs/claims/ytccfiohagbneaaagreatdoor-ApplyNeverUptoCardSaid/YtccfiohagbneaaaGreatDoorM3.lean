/- What is proved: contracts and plain facts that the law leans on (texts put together). Conditions: as each names them. -/
import Derived.Test.YtccfiohagbneaaaGreatDoorM2
import Derived.RangeFuncRecord
import Derived.RangeFuncLeaves
import Derived.Test.YtccfiohagbneaaaGreatDoorProg
import Derived.Lib.ItoaNum
set_option linter.unusedSimpArgs false
set_option linter.unusedVariables false
set_option linter.unusedSectionVars false
/- What is proved: the walk's rules for a range over a function: the statement, its rounds, the function that yields, and functions that end with its mark among their deferred calls. Conditions: as each rule names them. -/
namespace Go.J
open Go Go.RowKit
abbrev FW : Fence := ⟨fun _ => True, none, false, none⟩
theorem roomW (n : Nat) : FW.room n := fun _ h => by cases h
theorem fencedW {P : Program} (m : Machine) : m.fenced P FW := fun g hg => ⟨fun h => (by cases h), .inl trivial, fun _ _ => trivial, roomW _⟩
theorem callsW {P : Program} {f : FuncId} {args : Array Value} {w : World} {R : Ending → World → Prop} {n : Nat} (h : Calls P f args w R) : CallsIn FW n P f args w R := (callsIn_wide (n := n)).2 h
theorem callsW' {P : Program} {f : FuncId} {args : Array Value} {w : World} {R : Ending → World → Prop} {n : Nat} (h : CallsIn FW n P f args w R) : Calls P f args w R := (callsIn_wide (n := n)).1 h
structure WR (P : Program) (N : Fz) (c : Code) (f : Fr) (w : World) (Q : Exit → Act → World → Prop) : Prop where
  out : ∀ a, Is a N f → ∀ (b : Frame) (k : List Item) (cs : List Frame) (F0 : Func), b.roundOf = none → P.funcs[b.fn]? = some F0 →
    ∃ e a' w', Q e a' w' ∧ ArrivesIn (Machine.fenced P FW) P (lone (b.atR a (.code c :: k)) cs w) b k cs e a' w'
def seqR (P : Program) (N : Fz) (y : Code) (Q : Exit → Act → World → Prop) (Q0 : Post) : Post
  | .normal, f, w => WR P N y f w Q
  | e, f, w => Q0 e f w
section
variable {P : Program} {N : Fz} {f : Fr} {w : World} {Q : Exit → Act → World → Prop} {Q0 : Post} {x y r rest : Code}
theorem Fz.FW (h : N.rd = none) : N.F = FW := by
  obtain ⟨n, ds, rd, lo, pin⟩ := N
  subst h
  rfl
theorem WR.ofC (hrd : N.rd = none) (h : WC P N x f w Q0) (hq : ∀ e a w, lift N Q0 e a w → Q e a w) : WR P N x f w Q := ⟨fun a ha b k cs F0 hb hf => by
  have h1 := h.out a ha
  rw [Fz.FW hrd] at h1
  obtain ⟨e, a', w', q, s⟩ := h1 b k cs hb trivial (roomW _)
  exact ⟨e, a', w', hq _ _ _ q, s⟩⟩
theorem WR.seqX (h : ∀ a, Is a N f → x.wpIn FW 0 P (fun e a' w' => match e with
      | .normal => ∃ N' f', Is a' N' f' ∧ WR P N' y f' w' Q
      | e => Q e a' w') a w) : WR P N (.seq x y) f w Q := by
  refine ⟨fun a ha b k cs F0 hb hf => ?_⟩
  obtain ⟨e, a1, w1, hq, harr⟩ := h a ha b (.code y :: k) cs hb trivial (roomW _)
  have h0 := fencedW (P := P) (lone (b.atR a (.code (.seq x y) :: k)) cs w)
  cases e with
  | normal =>
    obtain ⟨N', f', ha', hw⟩ := hq
    obtain ⟨e2, a2, w2, q2, s2⟩ := hw.out a1 ha' b k cs F0 hb hf
    exact ⟨e2, a2, w2, q2, .of_steps (.head h0 stepR_seq harr) s2⟩
  | exit id => exact ⟨_, a1, w1, hq, .of_steps (.one h0 stepR_seq) (.pass (x := .code y) rfl (fun _ _ => .inl (by simp)) harr)⟩
  | goto l => exact ⟨_, a1, w1, hq, .of_steps (.one h0 stepR_seq) (.pass (x := .code y) rfl (fun _ _ => .inl (by simp)) harr)⟩
  | ret => exact ⟨_, a1, w1, hq, .of_steps (.one h0 stepR_seq) (.pass (x := .code y) rfl (fun _ _ => .inl (by simp)) harr)⟩
  | panic ch => exact ⟨_, a1, w1, hq, .of_steps (.one h0 stepR_seq) (.pass (x := .code y) rfl (fun _ _ => .inl (by simp)) harr)⟩
  | outgrown => exact ⟨_, a1, w1, hq, .of_steps (.one h0 stepR_seq) (.pass (x := .code y) rfl (fun _ _ => .inl (by simp)) harr)⟩
theorem WR.seq (hrd : N.rd = none) (hq : ∀ e a w, lift N Q0 e a w → Q e a w) (h : WC P N x f w (seqR P N y Q Q0)) : WR P N (.seq x y) f w Q := by
  refine .seqX fun a ha => ?_
  have h1 := h.out a ha
  rw [Fz.FW hrd] at h1
  refine wpIn_mono h1 fun e a' w' q => ?_
  cases e with
  | normal => obtain ⟨f', hf', hw⟩ := q; exact ⟨N, f', hf', hw⟩
  | panic c => exact hq (.panic c) a' w' q
  | exit i => exact hq (.exit i) a' w' q
  | goto l => exact hq (.goto l) a' w' q
  | ret => exact hq .ret a' w' q
  | outgrown => exact hq .outgrown a' w' q
theorem WR.defer {id n : Nat} {ops : List Oper} {od : Oper} {z : Operand} {ts : Array TypeId} (lo : Nat) (hsp : ops.take n ++ [od] = ops) (hrd : N.rd = none) (ho : od.op = .defer ⟨.value z, #[], ts⟩) (hg : od.guard = none) (hd : od.dst = none)
    (h : WL P N ops (ops.take n) f w (fun e f' w' => match e with
      | .normal => ∃ fv cap, ev f' z = .func fv #[] cap ∧ WR P ⟨N.n, ⟨.fn fv cap, #[]⟩ :: N.ds, none, lo, f'⟩ rest f' w' Q
      | _ => False)) : WR P N (.seq (.region id ops.toArray false) rest) f w Q := by
  refine .seqX fun a ha => (wpIn_wide (n := 0)).2 (wp_region ?_)
  rw [List.range_eq_range', show ops.toArray.size = ops.length by simp, wpOps_eq_wpList (ops := ops.toArray) ops 0 (fun j => by rw [List.getElem?_toArray, Nat.zero_add])]
  suffices hw : ∀ Qx : Exit → Act → World → Prop, (∀ a' w', (∃ N' f', Is a' N' f' ∧ WR P N' rest f' w' Q) → Qx .normal a' w') → wpList P ops.toArray Qx (ops.take n ++ [od]) a w by
    have h2 := hw (fun e a' w' => match e with
      | .normal => ∃ N' f', Is a' N' f' ∧ WR P N' rest f' w' Q
      | e => Q e a' w') (fun a' w' h => h)
    rw [hsp] at h2
    exact h2
  · intro Qx hQx
    refine wpList_app (ops.take n) [od] _ _ ?_
    refine wpList_post _ _ _ (h.out a ha) ?_ ?_
    · intro a' w' hq
      obtain ⟨f', hf', fv, cap, hx, hw⟩ := hq
      show wpList P _ _ [od] a' w'
      unfold wpList
      have hwn : Region.wanted od (yielded ops.toArray a'.tmps) = true := by unfold Region.wanted; rw [hg]
      rw [if_pos hwn]
      refine .inl ?_
      have hr := run_defer (P := P) (ρ := a'.eval) (w := w') ho (by rw [hf'.eval]; exact hx)
      unfold Oper.wp
      rw [hr, Oper.upon_defer]
      refine hQx _ _ ⟨_, f', ?_, hw⟩
      rw [hd]
      refine ⟨?_, hf'.size, fun i _ => rfl, hf'.get⟩
      show _ :: a'.defers = _
      rw [hf'.defers]
    · intro e a' w' hne hq
      cases e with
      | normal => exact absurd rfl hne
      | ret => obtain ⟨_, _, h⟩ := hq; exact h.elim
      | panic c => exact hq.2.2.elim
      | exit i => obtain ⟨_, _, h⟩ := hq; exact h.elim
      | goto l => obtain ⟨_, _, h⟩ := hq; exact h.elim
      | outgrown => exact hq.elim
def noQ : Post := fun _ _ _ => False
theorem noQ_ok : ∀ e a w, lift N noQ e a w → Q e a w := by
  intro e a w h
  cases e with
  | panic c => exact h.2.2.elim
  | outgrown => exact h.elim
  | normal => obtain ⟨_, _, h⟩ := h; exact h.elim
  | ret => obtain ⟨_, _, h⟩ := h; exact h.elim
  | exit i => obtain ⟨_, _, h⟩ := h; exact h.elim
  | goto l => obtain ⟨_, _, h⟩ := h; exact h.elim
abbrev markD (r : Nat) : Deferred := ⟨.collected r, #[]⟩
def LvM (P : Program) (fn : Func) (tmps : Array Value) (R : Ending → World → Prop) (ds : List Deferred) (u : FrameMode) : List Nat → World → Prop
  | [], w => Leaves P fn tmps R ds u w
  | r :: rs, w => ∃ w', (Instr.takeDeferred r).run P w = .ok [] w' ∧ LvM P fn tmps R ds u rs w'
theorem leaves_stepsR {fn : Func} {tmps : Array Value} {R : Ending → World → Prop} {ds : List Deferred} {u : FrameMode} (hu0 : u ≠ .run) : ∀ (rs : List Nat) (w : World) (fr : Frame) (cs : List Frame), fr.mode = u → fr.defers = rs.map markD ++ ds → fr.tmps = tmps → P.funcs[fr.fn]? = some fn → fr.kind = .normal →
    LvM P fn tmps R ds u rs w → ∃ e w' fr', R e w' ∧ Comes P (lone fr cs w) (lone fr' cs w') e ∧ fr'.fn = fr.fn ∧ fr'.leaving P w' e
  | [], w, fr, cs, hu, hd, ht, hf, hk, h => leaves_steps ds u w fr cs hu hd ht hf hk h
  | r :: rs, w, fr, cs, hu, hd, ht, hf, hk, h => by
    obtain ⟨w', htake, hrest⟩ := h
    have h1 := step_collected (cs := cs) (by rw [hu]; exact hu0) (show fr.defers = markD r :: (rs.map markD ++ ds) from hd) rfl htake
    obtain ⟨e, w'', fr', hR, hs, hfn, hl⟩ := leaves_stepsR hu0 rs w' { fr with defers := [] ++ (rs.map markD ++ ds) } cs hu rfl ht hf hk hrest
    exact ⟨e, w'', fr', hR, Comes.of_steps (.one h1) hs, hfn, hl⟩
def bodyPostR (P : Program) (fn : Func) (R : Ending → World → Prop) : Exit → Act → World → Prop
  | .normal, a, w | .ret, a, w => ∃ rs ds, a.defers = rs.map markD ++ ds ∧ LvM P fn a.tmps R ds .returning rs w
  | .panic c, a, w => ∃ rs ds, a.defers = rs.map markD ++ ds ∧ LvM P fn a.tmps R ds (.panicking c) rs w
  | _, _, _ => False
def endQ0 (P : Program) (fn : Func) (N : Fz) (rs : List Nat) (ds : List Deferred) (R : Ending → World → Prop) : Post
  | .ret, f, w => ∀ a, Is a N f → LvM P fn a.tmps R ds .returning rs w
  | .normal, f, w => ∀ a, Is a N f → LvM P fn a.tmps R ds .returning rs w
  | .panic c, _, w => ∀ tmps : Array Value, (∀ i, i < N.lo → tmps.getD i undef = N.pin i) → LvM P fn tmps R ds (.panicking c) rs w
  | _, _, _ => False
theorem endQ0_ok {fn : Func} {rs : List Nat} {ds : List Deferred} {R : Ending → World → Prop} (hds : N.ds = rs.map markD ++ ds) : ∀ e a w, lift N (endQ0 P fn N rs ds R) e a w → bodyPostR P fn R e a w := by
  intro e a w h
  cases e with
  | normal => obtain ⟨f, hf, hq⟩ := h; exact ⟨rs, ds, hf.defers.trans hds, hq a hf⟩
  | ret => obtain ⟨f, hf, hq⟩ := h; exact ⟨rs, ds, hf.defers.trans hds, hq a hf⟩
  | panic c => exact ⟨rs, ds, h.1.trans hds, h.2.2 a.tmps h.2.1⟩
  | exit i => obtain ⟨_, _, h⟩ := h; exact h.elim
  | goto l => obtain ⟨_, _, h⟩ := h; exact h.elim
  | outgrown => exact h.elim
theorem callsR {fid : FuncId} {fn : Func} {c : Code} {args : List Value} {R : Ending → World → Prop} (hf : P.funcs[fid]? = some fn) (hb : fn.body = some c) (hn : Nat.ble args.length fn.ntmps = true)
    (h : WR P fn.ntmps c (fr0 args) w (bodyPostR P fn R)) : Calls P fid args.toArray w R := by
  intro cs
  let b : Frame := { (default : Frame) with fn := fid, kind := .normal, roundOf := none }
  have henter : Frame.enter P fid args.toArray .normal = b.atR { tmps := args.toArray ++ Array.replicate (fn.ntmps - args.toArray.size) undef, defers := [] } [.code c] := by
    simp [Frame.enter, Frame.atR, hf, hb, b]
  have hle : args.length ≤ fn.ntmps := Nat.le_of_ble_eq_true hn
  obtain ⟨e, a', w', hq, harr⟩ := h.out { tmps := args.toArray ++ Array.replicate (fn.ntmps - args.toArray.size) undef, defers := [] } ⟨rfl, by simp; omega, fun i hi => absurd hi (Nat.not_lt_zero _), fun i => by
    simp only [fr0, Array.getD_eq_getD_getElem?]
    rw [Array.getElem?_append]
    simp only [List.size_toArray, List.getElem?_toArray]
    by_cases hi : i < args.length
    · rw [if_pos hi]; simp [hi]
    · rw [if_neg hi]
      have : args[i]? = none := List.getElem?_eq_none (by omega)
      rw [this]
      simp only [Array.getElem?_replicate]
      split <;> rfl⟩ b [] cs fn rfl hf
  rw [← henter] at harr
  cases e with
  | normal =>
    obtain ⟨rs, ds, hd, hq⟩ := hq
    obtain ⟨e', w'', fr', hR, hs, hfn, hl⟩ := leaves_stepsR (by simp) rs w' { b.atR a' [] with mode := .returning } cs rfl hd rfl hf rfl hq
    exact ⟨e', w'', fr', hR, Comes.of_steps (StepsIn.trans harr (.one (fencedW _) (stepR_end rfl))).steps hs, hfn, hl⟩
  | ret =>
    obtain ⟨rs, ds, hd, hq⟩ := hq
    obtain ⟨todo, hs₀⟩ := harr.1 rfl
    obtain ⟨e', w'', fr', hR, hs, hfn, hl⟩ := leaves_stepsR (by simp) rs w' { b.atR a' todo with mode := .returning } cs rfl hd rfl hf rfl hq
    exact ⟨e', w'', fr', hR, Comes.of_steps hs₀.steps hs, hfn, hl⟩
  | panic chain =>
    obtain ⟨rs, ds, hd, hq⟩ := hq
    obtain ⟨todo, hs₀⟩ := harr
    obtain ⟨e', w'', fr', hR, hs, hfn, hl⟩ := leaves_stepsR (by simp) rs w' { b.atR a' todo with mode := .panicking chain } cs rfl hd rfl hf rfl hq
    exact ⟨e', w'', fr', hR, Comes.of_steps hs₀.steps hs, hfn, hl⟩
  | exit id => exact hq.elim
  | goto l => exact hq.elim
  | outgrown => exact hq.elim
end
def rndR (P : Program) (l : Nat) (R : Ending → World → Prop) : Post
  | .normal, _, w => ∃ v w', (Instr.endRound l none).run P w = .ok v w' ∧ R (.returned v) w'
  | .ret, _, w => ∃ v w', (Instr.endRound l (some .ret)).run P w = .ok v w' ∧ R (.returned v) w'
  | .panic c, _, w => R (.panicked c) w
  | _, _, _ => False
def asgR (P : Program) (N : Fz) (l : Nat) (body : Code) (R : Ending → World → Prop) : Post
  | .normal, f, w => ∃ w2, (Instr.beginRound l).run P w = .ok () w2 ∧ WC P N body f w2 (rndR P l R)
  | _, _, _ => False
abbrev Nrd (n l : Nat) : Fz := ⟨n, [], some l, 0, fun _ => undef⟩
theorem roundIn_walk {P : Program} {l n : Nat} {fn : FuncId} {F0 : Func} {tm : Array Value} {assign body : Code} {f : Fr} {w : World} {R : Ending → World → Prop} (hfn : P.funcs[fn]? = some F0) (hn : tm.size = n) (hf : ∀ i, tm.getD i undef = f i)
    (h : WC P (Nrd n l) assign f w (asgR P (Nrd n l) l body R)) : RoundIn FW 0 P l fn tm assign body w R := by
  refine ⟨trivial, fun c cs hr => ?_⟩
  let b : Frame := { (default : Frame) with fn := fn, kind := .normal, roundOf := some l }
  have hb0 : Frame.round l fn tm assign body .normal = b.atR { tmps := tm, defers := [] } [.code assign, .beginRound, .code body] := by
    simp [Frame.round, Frame.atR, b]
  have hI : ∀ m : Machine, m.fenced P (Nrd n l).F := fun m g hg => ⟨fun h => (by cases h), .inl trivial, fun _ _ => trivial, fun _ h => by cases h⟩
  obtain ⟨e, a₁, w₁, hq, harr⟩ := h.out { tmps := tm, defers := [] } ⟨rfl, hn, fun i hi => absurd hi (Nat.not_lt_zero _), hf⟩ b [.beginRound, .code body] (c :: cs) rfl trivial (fun _ h => by cases h)
  rw [← hb0] at harr
  cases e with
  | normal =>
    obtain ⟨f1, hf1, w₂, hbr, hbody⟩ := hq
    have s1 : StepsIn (Machine.fenced P FW) P (lone (b.atR a₁ [.beginRound, .code body]) (c :: cs) w₁) (lone (b.atR a₁ [.code body]) (c :: cs) w₂) :=
      .one (fencedW _) (stepR_beginRound rfl hbr)
    obtain ⟨e₂, a₂, w₃, hq₂, harr₂⟩ := hbody.out a₁ hf1 b [] (c :: cs) rfl trivial (fun _ h => by cases h)
    have s2 := StepsIn.trans harr s1
    cases e₂ with
    | normal =>
      obtain ⟨f2, hf2, v, w₄, hend, hR⟩ := hq₂
      exact ⟨.returned v, w₄, hR, s2.trans (StepsIn.trans harr₂ (.one (fencedW _) (stepR_round_end rfl rfl hend)))⟩
    | ret =>
      obtain ⟨f2, hf2, v, w₄, hend, hR⟩ := hq₂
      obtain ⟨k₁, hs⟩ := harr₂.2 rfl
      exact ⟨.returned v, w₄, hR, s2.trans (StepsIn.trans hs (.one (fencedW _) (stepR_round_ret rfl rfl hend)))⟩
    | panic chain =>
      obtain ⟨hd, _, hR⟩ := hq₂
      obtain ⟨todo, hs⟩ := harr₂
      have hl : ({ b.atR a₂ todo with mode := .panicking chain } : Frame).leaving P w₃ (.panicked chain) := ⟨rfl, hd, F0, hfn⟩
      exact ⟨.panicked chain, w₃, hR, s2.trans (StepsIn.trans hs (.one (fencedW _) (step_leave_panicked hl)))⟩
    | exit id => obtain ⟨_, _, h⟩ := hq₂; exact h.elim
    | goto t => obtain ⟨_, _, h⟩ := hq₂; exact h.elim
    | outgrown => exact hq₂.elim
  | exit id => obtain ⟨_, _, h⟩ := hq; exact h.elim
  | goto t => obtain ⟨_, _, h⟩ := hq; exact h.elim
  | ret => obtain ⟨_, _, h⟩ := hq; exact h.elim
  | panic chain => exact hq.2.2.elim
  | outgrown => exact hq.elim
def layL (w : World) (fn : FuncId) (tm : Array Value) (ps : Array Tmp) (assign body : Code) : World :=
  (w.alloc (.deferred (some []))).alloc (.loop { state := .ready, pending := none, fn, tmps := tm, params := ps, assign, body, defers := w.heap.size })
def endR (P : Program) (N : Fz) (l : Nat) (f : Fr) (rest : Code) (Q : Exit → Act → World → Prop) : Ending → World → Prop
  | .returned _, w3 => ∃ pend w4, (Instr.endLoop l).run P w3 = .ok pend w4 ∧ ((pend = none ∧ WR P N rest f w4 Q) ∨ (pend = some .ret ∧ ∀ a, Is a N f → Q .ret a w4))
  | .panicked c, w3 => ∀ a, Is a N f → Q (.panic c) a w3
  | .outgrown, _ => False
def rangeAt (P : Program) (N : Fz) (g : Operand) (ps : Array Tmp) (assign body rest : Code) (Q : Exit → Act → World → Prop) : Post
  | .normal, f, w => ∃ gf cap, ev f g = .func (.func gf) #[] cap ∧ callOk P gf = true ∧ ∀ (fn : FuncId) (F0 : Func) (tm : Array Value), P.funcs[fn]? = some F0 → tm.size = N.n → (∀ i, tm.getD i undef = f i) →
      Calls P gf (#[.func (.yield (w.heap.size + 1)) #[] #[]] ++ cap) (layL w fn tm ps assign body) (endR P { N with ds := ⟨.collected w.heap.size, #[]⟩ :: N.ds } (w.heap.size + 1) f rest Q)
  | _, _, _ => False
section
variable {P : Program} {N : Fz} {f : Fr} {w : World} {Q : Exit → Act → World → Prop} {r rest assign body : Code} {g : Operand} {ps : Array Tmp} {id : Nat}
theorem run_rangeCall {P : Program} {gf : FuncId} {cap : Array Value} {l : Nat} {ρ : Operand → Value} {w : World} (hg : ρ g = .func (.func gf) #[] cap) (hc : ρ (.const (.func (.yield l) #[] #[])) = .func (.yield l) #[] #[]) : (resolve ρ (rangeCall g l) 0).run P w = .ok ⟨.fn (.func gf) cap, #[.func (.yield l) #[] #[]]⟩ w := by
  simp only [resolve, hg]
  simp [go_sem, hc]
theorem WR.range (hrd : N.rd = none) (h : WC P N r f w (rangeAt P N g ps assign body rest Q)) : WR P N (.seq (.seq r (.block id (.rangeFunc g ps assign body))) rest) f w Q := by
  refine ⟨fun a ha b k cs F0 hb hf => ?_⟩
  have h1 := h.out a ha
  rw [Fz.FW hrd] at h1
  obtain ⟨e, a1, w1, hq, harr⟩ := h1 b (.code (.block id (.rangeFunc g ps assign body)) :: .code rest :: k) cs hb trivial (roomW _)
  cases e with
  | normal =>
    obtain ⟨f1, hf1, gf, cap, hg, hok, hc⟩ := hq
    have hc := hc b.fn F0 a1.tmps hf hf1.size hf1.get
    have he : (Instr.enterLoop b.fn a1.tmps ps assign body b.roundOf).run P w1 = .ok (w1.heap.size + 1, [{ target := .collected w1.heap.size, args := #[] }]) (layL w1 b.fn a1.tmps ps assign body) := by
      rw [hb]; exact run_enterLoop_outer _ _ _ _ _
    have hres := run_rangeCall (P := P) (g := g) (gf := gf) (cap := cap) (l := w1.heap.size + 1) (ρ := a1.eval) (w := layL w1 b.fn a1.tmps ps assign body) (by rw [hf1.eval]; exact hg) rfl
    have hinv : (invoke (Deferred.mk (.fn (.func gf) cap) #[.func (.yield (w1.heap.size + 1)) #[] #[]]).target (Deferred.mk (.fn (.func gf) cap) #[.func (.yield (w1.heap.size + 1)) #[] #[]]).args).run P (layL w1 b.fn a1.tmps ps assign body)
        = .ok (.enter gf (#[.func (.yield (w1.heap.size + 1)) #[] #[]] ++ cap)) (layL w1 b.fn a1.tmps ps assign body) := by
      show (callFunc gf _).run P _ = _
      exact run_callFunc hok _
    have sE := stepR_rangeFunc (P := P) (b := b) (a := a1) (k := .inBlock id :: .code rest :: k) (cs := cs) (w := w1) (ps := ps) (assign := assign) (body := body) he hres hinv
    have s0 : StepsIn (Machine.fenced P FW) P (lone (b.atR a (.code (.seq (.seq r (.block id (.rangeFunc g ps assign body))) rest) :: k)) cs w) (lone (b.atR a1 (.code (.rangeFunc g ps assign body) :: .inBlock id :: .code rest :: k)) cs w1) :=
      .head (fencedW _) stepR_seq (.head (fencedW _) stepR_seq (StepsIn.trans harr (.one (fencedW _) stepR_block)))
    obtain ⟨e, w3, fr, hR, hsteps, hfn, hleave⟩ := hc (b.atR { a1 with defers := [{ target := .collected w1.heap.size, args := #[] }] ++ a1.defers } (.inRangeFunc (w1.heap.size + 1) :: .inBlock id :: .code rest :: k) :: cs)
    have ha2 : Is { a1 with defers := [{ target := .collected w1.heap.size, args := #[] }] ++ a1.defers } { N with ds := ⟨.collected w1.heap.size, #[]⟩ :: N.ds } f1 :=
      ⟨by show _ :: a1.defers = _; rw [hf1.defers], hf1.size, hf1.pin, hf1.get⟩
    cases e with
    | returned v =>
      obtain ⟨pend, w4, hend, hp⟩ := hR
      have hsteps : StepsIn (Machine.fenced P FW) P _ _ := stepsIn_wide.2 hsteps
      have s1 := StepsIn.trans s0 (.head (fencedW _) sE (StepsIn.trans hsteps (.one (fencedW _) (step_leave_returned hleave))))
      rw [finish_atR_inRangeFunc] at s1
      have s2 := StepsIn.trans s1 (.one (fencedW _) (stepR_endRangeFunc hend))
      rcases hp with ⟨rfl, hw⟩ | ⟨rfl, hq⟩
      · obtain ⟨e2, a2, w5, q2, s3⟩ := hw.out _ ha2 b k cs F0 hb hf
        exact ⟨e2, a2, w5, q2, .of_steps (StepsIn.trans s2 (.one (fencedW _) stepR_inBlock)) s3⟩
      · refine ⟨.ret, _, w4, hq _ ha2, fun hn => ⟨_, StepsIn.trans s2 (.one (fencedW _) (stepR_ret hb))⟩, fun hn => ?_⟩
        rw [hb] at hn; cases hn
    | panicked c =>
      have hsteps : StepsIn (Machine.fenced P FW) P _ _ := stepsIn_wide.2 hsteps
      have s1 := StepsIn.trans s0 (.head (fencedW _) sE (StepsIn.trans hsteps (.one (fencedW _) (step_leave_panicked hleave))))
      rw [Frame.raise_atR] at s1
      exact ⟨.panic c, _, w3, hR _ ha2, _, s1⟩
    | outgrown => exact hR.elim
  | exit i => obtain ⟨_, _, h⟩ := hq; exact h.elim
  | goto l => obtain ⟨_, _, h⟩ := hq; exact h.elim
  | ret => obtain ⟨_, _, h⟩ := hq; exact h.elim
  | panic c => exact hq.2.2.elim
  | outgrown => exact hq.elim
end
theorem uponIn_swap {P : Program} {o : Oper} {a : Act} {K1 K2 : Act → World → Prop} {Q1 Q2 : Exit → Act → World → Prop} (hk : ∀ a w, K1 a w → K2 a w) (hp : ∀ c a w, Q1 (.panic c) a w → Q2 (.panic c) a w) (hl : LetsOut Q1 → LetsOut Q2) {r : Result Next}
    (h : o.uponIn FW 0 P a K1 Q1 r) : o.uponIn FW 0 P a K2 Q2 r := by
  unfold Oper.uponIn at *
  split at h
  · exact hk _ _ h
  · exact hk _ _ h
  · exact hk _ _ h
  · refine ⟨h.1, callsW ((callsW' h.2).mono fun e w' he => ?_)⟩
    cases e with
    | returned v => exact hk _ _ he
    | panicked c => exact hp _ _ _ he
    | outgrown => exact hl he
  · exact ⟨h.1, h.2.mono fun v w' hv => hk _ _ hv⟩
  · refine ⟨h.1, h.2.mono fun e w' he => ?_⟩
    cases e with
    | returned v => exact hk _ _ he
    | panicked c => exact hp _ _ _ he
    | outgrown => exact hl he
  · exact hp _ _ _ h
  · exact h.elim
def thenL2 (P : Program) (ops : Array Oper) (Q : Exit → Act → World → Prop) (l2 : List Oper) : Exit → Act → World → Prop
  | .normal, a, w => wpListIn FW 0 P ops Q l2 a w
  | e, a, w => Q e a w
theorem wpListIn_app {P : Program} {ops : Array Oper} {Q : Exit → Act → World → Prop} : ∀ (l1 l2 : List Oper) (a : Act) (w : World), wpListIn FW 0 P ops (thenL2 P ops Q l2) l1 a w → wpListIn FW 0 P ops Q (l1 ++ l2) a w
  | [], _, _, _, h => h
  | o :: l1, l2, a, w, h => by
    unfold wpListIn at h
    rw [List.cons_append]
    unfold wpListIn
    split
    · rename_i hw
      rw [if_pos hw] at h
      exact ⟨h.1, uponIn_swap (fun a w => wpListIn_app l1 l2 a w) (fun c a w h => h) (fun ⟨a, w, h⟩ => ⟨a, w, h⟩) h.2⟩
    · rename_i hw
      rw [if_neg hw] at h
      exact ⟨h.1, wpListIn_app l1 l2 _ _ h.2⟩
theorem wpList_in {P : Program} {ops : Array Oper} {Q : Exit → Act → World → Prop} (hQ : ¬ LetsOut Q) : ∀ (l : List Oper) (a : Act) (w : World), wpList P ops Q l a w → wpListIn FW 0 P ops Q l a w
  | [], _, _, h => h
  | o :: l, a, w, h => by
    unfold wpList at h
    unfold wpListIn
    split
    · rename_i hw
      rw [if_pos hw] at h
      refine operF (N := ((0 : Nat) : Fz)) rfl hQ ?_
      rcases h with h | h
      · exact .inl (Oper.wp_mono (fun a w => wpList_in hQ l a w) h)
      · exact .inr h
    · rename_i hw
      rw [if_neg hw] at h
      exact ⟨fun _ _ => trivial, wpList_in hQ l _ _ h⟩
theorem run_yieldOp {P : Program} {ρ : Operand → Value} {o : Oper} {x : Operand} {xs : List Operand} {ts : Array TypeId} {l : Nat} {w : World} (ho : o.op = .call ⟨.value x, ⟨xs⟩, ts⟩) (hx : ρ x = .func (.yield l) #[] #[]) : (execOp ρ o).run P w = (Instr.yield l ⟨xs.map ρ⟩).run P w := by
  have e : execOp ρ o = Instr.yield l (#[] ++ (Array.mk xs).map ρ ++ #[]) := by
    obtain ⟨dst, op, type, pos, after, guard⟩ := o
    simp only at ho
    subst ho
    simp [execOp, resolve, hx, Deferred.ofValue, invoke]
  rw [e]
  simp
def yldQ (P : Program) (N : Fz) (ops post : List Oper) (x : Operand) (xs : List Operand) (d : Nat) (Q : Post) : Post
  | .normal, f, w => ∃ l fn tm assign body, ev f x = .func (.yield l) #[] #[] ∧ (Instr.yield l ⟨xs.map (ev f)⟩).run P w = .ok (.round l fn tm assign body) w ∧ RoundIn FW 0 P l fn tm assign body w fun e w' => match e with
      | .returned v => WL P N ops post (up f d v) w' Q
      | .panicked c => Q (.panic c) (fun _ => undef) w'
      | .outgrown => False
  | _, _, _ => False
theorem WC.regY {P : Program} {N : Fz} {f : Fr} {w : World} {Q : Post} {id : Nat} {ops : List Oper} {o : Oper} {x : Operand} {xs : List Operand} {ts : Array TypeId} {d n : Nat} (hsp : ops.take n ++ o :: ops.drop (n + 1) = ops) (hrd : N.rd = none) (ho : o.op = .call ⟨.value x, ⟨xs⟩, ts⟩) (hg : o.guard = none) (hd : o.dst = some d) (hn : N.ok d = true)
    (h : WL P N ops (ops.take n) f w (yldQ P N ops (ops.drop (n + 1)) x xs d Q)) : WC P N (.region id ops.toArray false) f w Q := by
  refine ⟨fun a ha => wpIn_region ?_⟩
  rw [Fz.FW hrd, List.range_eq_range', show ops.toArray.size = ops.length by simp, wpOpsIn_eq_wpListIn (ops := ops.toArray) ops 0 (fun j => by rw [List.getElem?_toArray, Nat.zero_add])]
  have hl : wpListIn FW 0 P ops.toArray (lift N Q) (ops.take n ++ o :: ops.drop (n + 1)) a w := by
    refine wpListIn_app (ops.take n) (o :: ops.drop (n + 1)) _ _ (wpList_in (fun ⟨_, _, h⟩ => h) _ _ _ (wpList_post _ _ _ (h.out a ha) (fun a' w' hq => ?_) fun e a' w' hne hq => ?_))
    · obtain ⟨f', hf', l, fn, tm, assign, body, hx, hr, hR⟩ := hq
      show wpListIn FW 0 P _ _ (o :: ops.drop (n + 1)) a' w'
      unfold wpListIn
      have hwn : Region.wanted o (yielded ops.toArray a'.tmps) = true := by unfold Region.wanted; rw [hg]
      rw [if_pos hwn]
      refine ⟨fun _ _ => trivial, ?_⟩
      have hrun : (o.semAt FW.round a'.eval).run P w' = .ok (.round l fn tm assign body) w' := by
        show (execOp a'.eval o).run P w' = _
        rw [hf'.eval, run_yieldOp ho hx]; exact hr
      rw [hrun, Oper.uponIn_round]
      refine ⟨fun h => (by cases h), hR.mono fun e w'' he => ?_⟩
      cases e with
      | returned v => exact wpList_in lift_lets _ _ _ (he.out _ (hf'.put1 hd hn v))
      | panicked c => exact ⟨hf'.defers, hf'.pins, he⟩
      | outgrown => exact he.elim
    · cases e with
      | normal => exact absurd rfl hne
      | ret => obtain ⟨_, _, h⟩ := hq; exact h.elim
      | panic c => exact hq.2.2.elim
      | exit i => obtain ⟨_, _, h⟩ := hq; exact h.elim
      | goto l => obtain ⟨_, _, h⟩ := hq; exact h.elim
      | outgrown => exact hq.elim
  rwa [hsp] at hl
def isItf (P : Program) (t : TypeId) : Bool := match P.underlying t with
  | some (.interface _) => true
  | _ => false
theorem isItf_eq {P : Program} {t : TypeId} (h : isItf P t = true) : ∃ ms, P.underlying t = some (.interface ms) := by
  unfold isItf at h
  split at h
  · rename_i ms e; exact ⟨ms, e⟩
  · cases h
theorem WL.neNil0 {P : Program} {N : Fz} {f : Fr} {w : World} {Q : Post} {ops l : List Oper} {o : Oper} {t ty : TypeId} {x : Operand} (ho : o.op = .binOp .neq t x (.const .nilIface) ty) (ht : isItf P t = true) (hx : ev f x = .nilIface) (hg : wants ops f o = true) {d : Nat} (hd : o.dst = some d) (hn : N.ok d = true)
    (h : WL P N ops l (up f d (.bool false)) w Q) : WL P N ops (o :: l) f w Q := by
  obtain ⟨ms, hu⟩ := isItf_eq ht
  refine .val hg hd hn (v := .bool false) (w' := w) ?_ h
  have h1 : ∀ d : Nat, (Op.equalIn (d + 1) t .nilIface .nilIface).run P w = .ok true w := fun d => by simp [Op.equalIn, run_underlying hu]
  simp [execOp, ho, hx, go_sem, binOp, Op.equal, Op.maxDepth, h1 9999]
theorem WL.neNil1 {P : Program} {N : Fz} {f : Fr} {w : World} {Q : Post} {ops l : List Oper} {o : Oper} {t ty tv : TypeId} {v : Value} {x : Operand} (ho : o.op = .binOp .neq t x (.const .nilIface) ty) (ht : isItf P t = true) (hx : ev f x = .iface tv v) (hg : wants ops f o = true) {d : Nat} (hd : o.dst = some d) (hn : N.ok d = true)
    (h : WL P N ops l (up f d (.bool true)) w Q) : WL P N ops (o :: l) f w Q := by
  obtain ⟨ms, hu⟩ := isItf_eq ht
  refine .val hg hd hn (v := .bool true) (w' := w) ?_ h
  have h1 : ∀ d : Nat, (Op.equalIn (d + 1) t (.iface tv v) .nilIface).run P w = .ok false w := fun d => by simp [Op.equalIn, run_underlying hu]
  simp [execOp, ho, hx, go_sem, binOp, Op.equal, Op.maxDepth, h1 9999]
theorem WL.callP0 {P : Program} {N : Fz} {f : Fr} {w w0 : World} {Q : Post} {ops l : List Oper} {o : Oper} {M : List Nat} {H : List Chunk} {Z : List Snap} {fid : FuncId} {xs : List Operand} {ts : Array TypeId} {args : List Value} {R : Value → World → Prop} {S : List PanicEntry → World → Prop} (hS : St w0 M w H Z)
    (ho : o.op = .call ⟨.value (.func fid), ⟨xs⟩, ts⟩) (ha : xs.map (ev f) = args) (hc : CalP P fid args w (fun v w' => Upd [] w w' ∧ R v w') (fun c w' => Upd [] w w' ∧ S c w'))
    (hg : wants ops f o = true) {d : Nat} (hd : o.dst = some d) (hn : N.ok d = true) (h : ∀ v w', R v w' → St w0 M w' H Z → WL P N ops l (up f d v) w' Q)
    (hx : ∀ c w', S c w' → St w0 M w' H Z → Q (.panic c) (fun _ => undef) w') : WL P N ops (o :: l) f w Q :=
  .enterP hg hd hn (run_callOp ho ha hc.ok) hc.calls (fun v w' hR => h v w' hR.2 (hS.upd0 hR.1)) (fun c w' hs => hx c w' hs.2 (hS.upd0 hs.1))
abbrev ocC (b : Nat) (o : Obj) : Chunk := .obj [b] fun w => w.heap[b]? = some o
theorem ocC_holds {b : Nat} {o : Obj} {w : World} (h : w.heap[b]? = some o) : (ocC b o).holds w := ⟨h, fun w w' hs e => (hs b (by simp)).trans e⟩
abbrev recL (st : LoopState) (pend : Option Code) (fn : FuncId) (tm : Array Value) (ps : Array Tmp) (assign body : Code) (db : Nat) : Obj := .loop { state := st, pending := pend, fn, tmps := tm, params := ps, assign, body, defers := db }
section
variable {P : Program} {w w0 : World} {M : List Nat} {H H' : List Chunk} {Z : List Snap} {fn : FuncId} {tm : Array Value} {ps : Array Tmp} {assign body : Code} {l db : Nat}
theorem St.newObj (hS : St w0 M w H Z) (o : Obj) : St w0 M (w.alloc o) (ocC w.heap.size o :: H) Z :=
  hS.push (.alloc _ _ _) (ocC_holds (heap_alloc_new w o)) fun b hb => by
    have : b = w.heap.size := by simpa [Chunk.fp] using hb
    subst this; simp
theorem St.layL (hS : St w0 M w H Z) : St w0 M (layL w fn tm ps assign body) (ocC (w.heap.size + 1) (recL .ready none fn tm ps assign body w.heap.size) :: ocC w.heap.size (.deferred (some [])) :: H) Z := by
  have h := (hS.newObj (.deferred (some []))).newObj (recL .ready none fn tm ps assign body w.heap.size)
  rw [World.size_alloc] at h
  exact h
theorem putObj_upd (w : World) (l : Nat) (o : Obj) : Upd [l] w (w.putObj l o) :=
  ⟨rfl, rfl, rfl, by simp, fun k _ hk => World.putObj_heap_other (fun e => hk (by simp [e]))⟩
theorem St.putObj {o o' : Obj} (hS : St w0 M w H Z) (hr : Repl (ocC l o) (ocC l o') H H') : St w0 M (w.putObj l o') H' Z := by
  have hh : w.heap[l]? = some o := (hS.holds _ hr.mem).1
  exact hS.step hr (putObj_upd _ _ _) (ocC_holds (World.putObj_heap_same (Array.getElem?_eq_some_iff.1 hh).1)) fun b hb => .inl hb
theorem St.heapOf {o : Obj} (hS : St w0 M w H Z) (hm : ocC l o ∈ H) : w.heap[l]? = some o := (hS.holds _ hm).1
theorem getD_set2 {tm : Array Value} {n p1 p2 : Nat} {v1 v2 : Value} {f : Fr} (hn : tm.size = n) (hf : ∀ i, tm.getD i undef = f i) (h1 : p1 < n) (h2 : p2 < n) :
    ∀ i, ((tm.setIfInBounds p1 v1).setIfInBounds p2 v2).getD i undef = up (up f p1 v1) p2 v2 i := by
  intro i
  have hs : ∀ (t : Array Value) (g : Fr) (p : Nat) (v : Value), p < t.size → (∀ i, t.getD i undef = g i) → ∀ i, (t.setIfInBounds p v).getD i undef = up g p v i := by
    intro t g p v hp hg i
    unfold up
    by_cases e : i = p
    · subst e
      have : Nat.beq i i = true := by simp
      rw [this]
      simp [hp]
    · have : Nat.beq i p = false := by
        cases hb : Nat.beq i p with
        | false => rfl
        | true => exact absurd (Nat.eq_of_beq_eq_true hb) e
      rw [this]
      have := hg i
      simp only [Array.getD_eq_getD_getElem?] at this ⊢
      rw [Array.getElem?_setIfInBounds_ne (by omega)]
      exact this
  exact hs _ _ _ _ (by simp; omega) (hs _ _ _ _ (by omega) hf) i
theorem yield2 {n p1 p2 : Nat} {F0 : Func} {f : Fr} {v1 v2 : Value} {R : Ending → World → Prop} (hl : w.heap[l]? = some (recL .ready none fn tm #[p1, p2] assign body db)) (hfn : P.funcs[fn]? = some F0) (hn : tm.size = n) (hf : ∀ i, tm.getD i undef = f i) (h1 : p1 < n) (h2 : p2 < n)
    (h : WC P (Nrd n l) assign (up (up f p1 v1) p2 v2) w (asgR P (Nrd n l) l body R)) :
    ∃ fn tm assign body, (Instr.yield l ⟨[v1, v2]⟩).run P w = .ok (.round l fn tm assign body) w ∧ RoundIn FW 0 P l fn tm assign body w R := by
  have hy := run_yield (P := P) (args := ⟨[v1, v2]⟩) hl rfl
  refine ⟨fn, _, assign, body, hy, roundIn_walk hfn ?_ ?_ h⟩
  · simp [hn]
  · intro i
    have := getD_set2 (v1 := v1) (v2 := v2) hn hf h1 h2 i
    simpa using this
theorem run_begin (hS : St w0 M w H Z) (hr : Repl (ocC l (recL .ready none fn tm ps assign body db)) (ocC l (recL .busy none fn tm ps assign body db)) H H') : ∃ w2, (Instr.beginRound l).run P w = .ok () w2 ∧ St w0 M w2 H' Z :=
  ⟨_, run_beginRound (hS.heapOf hr.mem) rfl, hS.putObj hr⟩
theorem run_endN (hS : St w0 M w H Z) (hr : Repl (ocC l (recL .busy none fn tm ps assign body db)) (ocC l (recL .ready none fn tm ps assign body db)) H H') : ∃ w2, (Instr.endRound l none).run P w = .ok (.bool true) w2 ∧ St w0 M w2 H' Z :=
  ⟨_, run_endRound none (hS.heapOf hr.mem), hS.putObj hr⟩
theorem run_endAll {st : LoopState} {pend : Option Code} (hb : st ≠ .busy) (hS : St w0 M w H Z) (hr : Repl (ocC l (recL st pend fn tm ps assign body db)) (ocC l (recL .exhausted pend fn tm ps assign body db)) H H') : ∃ w2, (Instr.endLoop l).run P w = .ok pend w2 ∧ St w0 M w2 H' Z :=
  ⟨_, run_endLoop (hS.heapOf hr.mem) hb, hS.putObj hr⟩
theorem run_take (hS : St w0 M w H Z) (hr : Repl (ocC l (.deferred (some []))) (ocC l (.deferred none)) H H') : ∃ w2, (Instr.takeDeferred l).run P w = .ok [] w2 ∧ St w0 M w2 H' Z :=
  ⟨_, run_takeDeferred (hS.heapOf hr.mem), hS.putObj hr⟩
end
theorem rangeAt_of {P : Program} {N : Fz} {f : Fr} {w w0 : World} {M : List Nat} {H : List Chunk} {Z : List Snap} {Q : Exit → Act → World → Prop} {rest assign body : Code} {g : Operand} {ps : Array Tmp} {gf : FuncId} {cap : Array Value} (hS : St w0 M w H Z) (hg : ev f g = .func (.func gf) #[] cap) (hok : callOk P gf = true)
    (h : ∀ (db : Nat) (fn : FuncId) (F0 : Func) (tm : Array Value) (w2 : World) (RC : LoopState → Option Code → Obj), P.funcs[fn]? = some F0 → tm.size = N.n → (∀ i, tm.getD i undef = f i) → (RC = fun st pend => recL st pend fn tm ps assign body db) → St w0 M w2 (ocC (db + 1) (RC .ready none) :: ocC db (.deferred (some [])) :: H) Z →
      Calls P gf (#[.func (.yield (db + 1)) #[] #[]] ++ cap) w2 (endR P { N with ds := markD db :: N.ds } (db + 1) f rest Q)) : rangeAt P N g ps assign body rest Q .normal f w :=
  ⟨gf, cap, hg, hok, fun fn F0 tm hfn htn htf => h w.heap.size fn F0 tm _ _ hfn htn htf rfl hS.layL⟩
section
variable {P : Program} {w w0 : World} {M : List Nat} {H H' : List Chunk} {Z : List Snap} {fn : FuncId} {tm : Array Value} {ps : Array Tmp} {assign body : Code} {l db : Nat} {RC : LoopState → Option Code → Obj} (hRC : RC = fun st pend => recL st pend fn tm ps assign body db)
include hRC
theorem rc_begin (hS : St w0 M w H Z) (hr : Repl (ocC l (RC .ready none)) (ocC l (RC .busy none)) H H') : ∃ w2, (Instr.beginRound l).run P w = .ok () w2 ∧ St w0 M w2 H' Z := by subst hRC; exact run_begin hS hr
theorem rc_endN (hS : St w0 M w H Z) (hr : Repl (ocC l (RC .busy none)) (ocC l (RC .ready none)) H H') : ∃ w2, (Instr.endRound l none).run P w = .ok (.bool true) w2 ∧ St w0 M w2 H' Z := by subst hRC; exact run_endN hS hr
theorem rc_endAll {st : LoopState} {pend : Option Code} (hb : st ≠ .busy) (hS : St w0 M w H Z) (hr : Repl (ocC l (RC st pend)) (ocC l (RC .exhausted pend)) H H') : ∃ w2, (Instr.endLoop l).run P w = .ok pend w2 ∧ St w0 M w2 H' Z := by subst hRC; exact run_endAll hb hS hr
end
end Go.J

/- What is proved: what slices.Backward's function does with a round's yield: it goes down through the elements, till a round says no or panics. Conditions: bounded length; a round's own contract. -/
namespace Go.Proofs.YtccfiohagbneaaaGreatDoor
open Go Go.J Go.RowKit
set_option maxRecDepth 8000 in
theorem backE_c (A : Option Addr) (n cap : Nat) (w0 : World) : Cal Tryz.prog 159 [.slice A n cap] w0 (fun v w' => ∃ b, v = .func (.func 188) #[] ⟨[.pointer (some ⟨b, 0, none⟩)]⟩ ∧ MutL w0 w' [] [.box b 84 [.slice A n cap]]) := by
  refine Cal.mkL (D := []) ⟨by simp, by simp, by simp⟩ (by kernel_rfl) Tryz.func159 rfl rfl fun hS => ?_
  repeat' (first | (show WL _ _ _ _ _ _ _; first | refine WL.pure rfl rfl rfl rfl ?_ | refine WL.nil ?_ | (refine WL.box hS rfl rfl rfl rfl rfl ?_; intro w b hS)) | (show WC _ _ _ _ _ _; first | refine WC.seq ?_ | refine WC.region ?_ | refine WC.ret ?_) | refine seqQ_n ?_)
  exact fin1r rfl rfl ⟨_, rfl, hS.mutLp Pu⟩
set_option maxHeartbeats 4000000 in
set_option maxRecDepth 100000 in
theorem backInE_c {b l cap : Nat} {A : Option Addr} {t : List Ent} {I : Nat → World → Prop} {X : World → Prop} {S : List PanicEntry → World → Prop} {w0 : World} (hl : t.length ≤ 1048576)
    (hb : ∀ k w, I k w → w.heap[b]? = some (.cells ⟨[.slice A t.length cap]⟩ 84 (0, 0))) (hA : ∀ k w, I k w → SlAt cEnt (Old w) w A t)
    (hr : ∀ k (h : k < t.length) w, I (k + 1) w → ∃ fn tm assign body, (Instr.yield l ⟨[.int .i64 (k : Int), .agg ⟨encEnt t[k]⟩]⟩).run Tryz.prog w = .ok (.round l fn tm assign body) w ∧ RoundIn FW 0 Tryz.prog l fn tm assign body w fun e w' => match e with
      | .returned v => (v = .bool true ∧ I k w') ∨ (v = .bool false ∧ X w')
      | .panicked c => S c w'
      | .outgrown => False)
    (h0 : I t.length w0) : Calls Tryz.prog 188 ⟨[.func (.yield l) #[] #[], .pointer (some ⟨b, 0, none⟩)]⟩ w0 (RetP (fun _ w' => I 0 w' ∨ X w') S) := by
  refine J.calls Tryz.func188 rfl rfl ?_
  have hS := St.init w0
  have hb0 := hb _ _ h0
  repeat' (first | (show WL _ _ _ _ _ _ _; first | refine WL.pure rfl rfl rfl rfl ?_ | refine WL.nil ?_ | refine WL.sub rfl rfl rfl (by omega) rfl rfl rfl ?_ | (refine WL.load hS rfl rfl (LdOk.old hb0 Mm rfl) rfl rfl rfl ?_)) | (show WC _ _ _ _ _ _; first | refine WC.seq ?_ | refine WC.region ?_ | refine WC.block ?_) | refine seqQ_n ?_)
  refine WC.loop (σ := Nat) [0, 1] (fun k => [(3, .int .i64 ((k : Int) - 1))]) (fun k w => k ≤ t.length ∧ I k w) (fun k => k) t.length ⟨Nat.le_refl _, h0⟩ ⟨rfl, trivial⟩ ?_
  clear hS hb0 h0
  rintro k g w ⟨hk, hI⟩
  show WC _ _ _ (lf _ [(3, .int .i64 ((k : Int) - 1))] _ _) _ _
  have hS := St.init w
  rcases k with _ | k
  · repeat' (first | (show WL _ _ _ _ _ _ _; first | refine WL.pure rfl rfl rfl rfl ?_ | refine WL.nil ?_) | (show WC _ _ _ _ _ _; first | refine WC.seq ?_ | refine WC.region ?_ | refine WC.exit ?_ | refine WC.condF rfl (by decide) ?_) | refine seqQ_n ?_ | refine seqQ_x ?_ | refine blkQ_hit rfl ?_ | refine rndQ_x ?_)
    exact finR (fin0n rfl (.inl hI))
  · have e : (((k + 1 : Nat) : Int) - 1) = (k : Int) := by omega
    rw [e]
    have hkl : k < t.length := hk
    have hb1 := hb _ _ hI
    obtain ⟨rb, ro, es, rfl, hF, hrr, hes⟩ := (hA _ _ hI).at_ hkl
    have hes : es = encEnt t[k] := hes
    subst hes
    have hrr : w.rangeAt rb (ro + k * cEnt.sz) (encEnt t[k]) := hrr
    obtain ⟨fn, tm, assign, body, hy, hR⟩ := hr k hkl w hI
    generalize t[k] = x at *
    repeat' (first | (show WL _ _ _ _ _ _ _; first | refine WL.pure rfl rfl rfl rfl ?_ | refine WL.nil ?_ | (refine WL.load hS rfl rfl (LdOk.old hb1 Mm rfl) rfl rfl rfl ?_) | (refine WL.load hS rfl rfl (LdOk.snap0 hF hrr Mm rfl) rfl rfl rfl ?_) | refine WL.index rfl rfl rfl rfl (by first | with_reducible assumption | omega) rfl rfl rfl rfl ?_) | (show WC _ _ _ _ _ _; first | (refine WC.regY (x := .tmp 11) (n := 6) rfl rfl rfl rfl rfl rfl ?_; show WL _ _ _ [_, _, _, _, _, _] _ _ _) | refine WC.seq ?_ | refine WC.region ?_ | refine WC.block ?_ | refine WC.skip ?_ | refine WC.condT rfl (decide_eq_true (by first | with_reducible assumption | omega)) ?_) | refine seqQ_n ?_)
    refine ⟨l, fn, tm, assign, body, rfl, hy, hR.mono fun e w' he => ?_⟩
    cases e with
    | returned v =>
      show WL _ _ _ [_] _ _ _
      rcases he with ⟨rfl, hI2⟩ | ⟨rfl, hX⟩
      · repeat' (first | (show WL _ _ _ _ _ _ _; first | refine WL.pure rfl rfl rfl rfl ?_ | refine WL.nil ?_ | refine WL.sub rfl rfl rfl (by omega) rfl rfl rfl ?_) | (show WC _ _ _ _ _ _; first | refine WC.region ?_ | refine WC.skip ?_ | refine WC.condF rfl (by decide) ?_) | refine seqQ_n ?_ | refine blkQ_n ?_)
        exact rndQ_n k ⟨by omega, hI2⟩ (by omega) ⟨vint (by omega), trivial⟩ ⟨rfl, rfl, trivial⟩
      · repeat' (first | (show WL _ _ _ _ _ _ _; first | refine WL.pure rfl rfl rfl rfl ?_ | refine WL.nil ?_) | (show WC _ _ _ _ _ _; first | refine WC.ret ?_ | refine WC.condT rfl (by decide) ?_) | refine seqQ_n ?_ | refine seqQ_r ?_ | refine blkQ_r ?_ | refine rndQ_r ?_)
        exact finR (fin0r rfl (.inr hX))
    | panicked c => exact seqQ_p (blkQ_p (seqQ_p (rndQ_p (blkQ_p (finP he)))))
    | outgrown => exact he.elim
set_option maxHeartbeats 4000000 in
set_option maxRecDepth 100000 in
theorem backA_c (A : Option Addr) (n cap : Nat) (w0 : World) : Cal Tryz.prog 113 [.slice A n cap] w0 (fun v w' => ∃ b, v = .func (.func 164) #[] ⟨[.pointer (some ⟨b, 0, none⟩)]⟩ ∧ MutL w0 w' [] [.box b 88 [.slice A n cap]]) := by
  refine Cal.mkL (D := []) ⟨by simp, by simp, by simp⟩ (by kernel_rfl) Tryz.func113 rfl rfl fun hS => ?_
  repeat' (first | (show WL _ _ _ _ _ _ _; first | refine WL.pure rfl rfl rfl rfl ?_ | refine WL.nil ?_ | (refine WL.box hS rfl rfl rfl rfl rfl ?_; intro w b hS)) | (show WC _ _ _ _ _ _; first | refine WC.seq ?_ | refine WC.region ?_ | refine WC.ret ?_) | refine seqQ_n ?_)
  exact fin1r rfl rfl ⟨_, rfl, hS.mutLp Pu⟩
set_option maxHeartbeats 4000000 in
set_option maxRecDepth 100000 in
theorem backInA_c {b l cap : Nat} {A : Option Addr} {t : List Ac} {I : Nat → World → Prop} {X : World → Prop} {S : List PanicEntry → World → Prop} {w0 : World} (hl : t.length ≤ 1048576)
    (hb : ∀ k w, I k w → w.heap[b]? = some (.cells ⟨[.slice A t.length cap]⟩ 88 (0, 0))) (hA : ∀ k w, I k w → SlAt cAc (Old w) w A t)
    (hr : ∀ k (h : k < t.length) w, I (k + 1) w → ∃ fn tm assign body, (Instr.yield l ⟨[.int .i64 (k : Int), .agg ⟨encAc t[k]⟩]⟩).run Tryz.prog w = .ok (.round l fn tm assign body) w ∧ RoundIn FW 0 Tryz.prog l fn tm assign body w fun e w' => match e with
      | .returned v => (v = .bool true ∧ I k w') ∨ (v = .bool false ∧ X w')
      | .panicked c => S c w'
      | .outgrown => False)
    (h0 : I t.length w0) : Calls Tryz.prog 164 ⟨[.func (.yield l) #[] #[], .pointer (some ⟨b, 0, none⟩)]⟩ w0 (RetP (fun _ w' => I 0 w' ∨ X w') S) := by
  refine J.calls Tryz.func164 rfl rfl ?_
  have hS := St.init w0
  have hb0 := hb _ _ h0
  repeat' (first | (show WL _ _ _ _ _ _ _; first | refine WL.pure rfl rfl rfl rfl ?_ | refine WL.nil ?_ | refine WL.sub rfl rfl rfl (by omega) rfl rfl rfl ?_ | (refine WL.load hS rfl rfl (LdOk.old hb0 Mm rfl) rfl rfl rfl ?_)) | (show WC _ _ _ _ _ _; first | refine WC.seq ?_ | refine WC.region ?_ | refine WC.block ?_) | refine seqQ_n ?_)
  refine WC.loop (σ := Nat) [0, 1] (fun k => [(3, .int .i64 ((k : Int) - 1))]) (fun k w => k ≤ t.length ∧ I k w) (fun k => k) t.length ⟨Nat.le_refl _, h0⟩ ⟨rfl, trivial⟩ ?_
  clear hS hb0 h0
  rintro k g w ⟨hk, hI⟩
  show WC _ _ _ (lf _ [(3, .int .i64 ((k : Int) - 1))] _ _) _ _
  have hS := St.init w
  rcases k with _ | k
  · repeat' (first | (show WL _ _ _ _ _ _ _; first | refine WL.pure rfl rfl rfl rfl ?_ | refine WL.nil ?_) | (show WC _ _ _ _ _ _; first | refine WC.seq ?_ | refine WC.region ?_ | refine WC.exit ?_ | refine WC.condF rfl (by decide) ?_) | refine seqQ_n ?_ | refine seqQ_x ?_ | refine blkQ_hit rfl ?_ | refine rndQ_x ?_)
    exact finR (fin0n rfl (.inl hI))
  · have e : (((k + 1 : Nat) : Int) - 1) = (k : Int) := by omega
    rw [e]
    have hkl : k < t.length := hk
    have hb1 := hb _ _ hI
    obtain ⟨rb, ro, es, rfl, hF, hrr, hes⟩ := (hA _ _ hI).at_ hkl
    have hes : es = encAc t[k] := hes
    subst hes
    have hrr : w.rangeAt rb (ro + k * cAc.sz) (encAc t[k]) := hrr
    obtain ⟨fn, tm, assign, body, hy, hR⟩ := hr k hkl w hI
    generalize t[k] = x at *
    repeat' (first | (show WL _ _ _ _ _ _ _; first | refine WL.pure rfl rfl rfl rfl ?_ | refine WL.nil ?_ | (refine WL.load hS rfl rfl (LdOk.old hb1 Mm rfl) rfl rfl rfl ?_) | (refine WL.load hS rfl rfl (LdOk.snap0 hF hrr Mm rfl) rfl rfl rfl ?_) | refine WL.index rfl rfl rfl rfl (by first | with_reducible assumption | omega) rfl rfl rfl rfl ?_) | (show WC _ _ _ _ _ _; first | (refine WC.regY (x := .tmp 11) (n := 6) rfl rfl rfl rfl rfl rfl ?_; show WL _ _ _ [_, _, _, _, _, _] _ _ _) | refine WC.seq ?_ | refine WC.region ?_ | refine WC.block ?_ | refine WC.skip ?_ | refine WC.condT rfl (decide_eq_true (by first | with_reducible assumption | omega)) ?_) | refine seqQ_n ?_)
    refine ⟨l, fn, tm, assign, body, rfl, hy, hR.mono fun e w' he => ?_⟩
    cases e with
    | returned v =>
      show WL _ _ _ [_] _ _ _
      rcases he with ⟨rfl, hI2⟩ | ⟨rfl, hX⟩
      · repeat' (first | (show WL _ _ _ _ _ _ _; first | refine WL.pure rfl rfl rfl rfl ?_ | refine WL.nil ?_ | refine WL.sub rfl rfl rfl (by omega) rfl rfl rfl ?_) | (show WC _ _ _ _ _ _; first | refine WC.region ?_ | refine WC.skip ?_ | refine WC.condF rfl (by decide) ?_) | refine seqQ_n ?_ | refine blkQ_n ?_)
        exact rndQ_n k ⟨by omega, hI2⟩ (by omega) ⟨vint (by omega), trivial⟩ ⟨rfl, rfl, trivial⟩
      · repeat' (first | (show WL _ _ _ _ _ _ _; first | refine WL.pure rfl rfl rfl rfl ?_ | refine WL.nil ?_) | (show WC _ _ _ _ _ _; first | refine WC.ret ?_ | refine WC.condT rfl (by decide) ?_) | refine seqQ_n ?_ | refine seqQ_r ?_ | refine blkQ_r ?_ | refine rndQ_r ?_)
        exact finR (fin0r rfl (.inr hX))
    | panicked c => exact seqQ_p (blkQ_p (seqQ_p (rndQ_p (blkQ_p (finP he)))))
    | outgrown => exact he.elim
end Go.Proofs.YtccfiohagbneaaaGreatDoor

/- What is proved: digits and what they are worth. Conditions: none. -/
namespace Go.J
open Go Go.Lib
def digB (c : UInt8) : Bool := decide (48 ≤ c.toNat ∧ c.toNat ≤ 57)
def valE (s : List UInt8) : Nat := s.foldl (fun n c => 10 * n + (c.toNat - 48)) 0
end Go.J

/- What is proved: the walk's rules for maps whose keys are structs of a text and an int: made, asked, written, struck from, their length. Conditions: as each rule names them. -/
namespace Go.J
open Go Go.RowKit
abbrev PK := List UInt8 × Int
abbrev pk (x : PK) : Value := .agg ⟨[str x.1, .int .i64 x.2]⟩
section
variable {β γ : Type}
def mgetP : List (PK × β) → PK → Option β
  | [], _ => none
  | (k, v) :: r, x => if x = k then some v else mgetP r x
def msetP : List (PK × β) → PK → β → List (PK × β)
  | [], x, v => [(x, v)]
  | (k, u) :: r, x, v => if x = k then (k, v) :: r else (k, u) :: msetP r x v
def mdelP : List (PK × β) → PK → List (PK × β)
  | [], _ => []
  | (k, u) :: r, x => if x = k then r else (k, u) :: mdelP r x
def mmapP (f : β → γ) (m : List (PK × β)) : List (PK × γ) := m.map fun p => (p.1, f p.2)
theorem mget_mapP (f : β → γ) (x : PK) : ∀ m : List (PK × β), mgetP (mmapP f m) x = (mgetP m x).map f
  | [] => rfl
  | (k, v) :: r => by
    have := mget_mapP f x r
    unfold mmapP at this ⊢
    simp only [List.map_cons, mgetP]
    split
    · rfl
    · exact this
theorem mset_mapP (f : β → γ) (x : PK) (v : β) : ∀ m : List (PK × β), msetP (mmapP f m) x (f v) = mmapP f (msetP m x v)
  | [] => rfl
  | (k, u) :: r => by
    have := mset_mapP f x v r
    unfold mmapP at this ⊢
    simp only [List.map_cons, msetP]
    split
    · rfl
    · simp [this]
theorem mset_keysP (m : List (PK × β)) (x : PK) (v : β) : (msetP m x v).map Prod.fst = if x ∈ m.map Prod.fst then m.map Prod.fst else m.map Prod.fst ++ [x] := by
  induction m with
  | nil => simp [msetP]
  | cons p r ih =>
    obtain ⟨k, u⟩ := p
    simp only [msetP]
    split
    · rename_i h; subst h; simp
    · rename_i h
      rw [List.map_cons, ih]
      by_cases h2 : x ∈ r.map Prod.fst
      · rw [if_pos h2, if_pos (by simp only [List.map_cons, List.mem_cons]; exact .inr h2)]; rfl
      · rw [if_neg h2, if_neg (by simp only [List.map_cons, List.mem_cons, not_or]; exact ⟨h, h2⟩)]; rfl
theorem mset_nodupP {m : List (PK × β)} (h : (m.map Prod.fst).Nodup) (x : PK) (v : β) : ((msetP m x v).map Prod.fst).Nodup := by
  rw [mset_keysP]
  split
  · exact h
  · rename_i h2
    rw [List.nodup_append]
    exact ⟨h, by simp, fun a ha b hb => by simp at hb; subst hb; rintro rfl; exact h2 ha⟩
theorem mdel_subP (m : List (PK × β)) (x : PK) : (mdelP m x).Sublist m := by
  induction m with
  | nil => exact .slnil
  | cons p r ih =>
    obtain ⟨k, u⟩ := p
    simp only [mdelP]
    split
    · exact List.sublist_cons_self _ _
    · exact ih.cons_cons _
theorem mdel_nodupP {m : List (PK × β)} (h : (m.map Prod.fst).Nodup) (x : PK) : ((mdelP m x).map Prod.fst).Nodup := h.sublist ((mdel_subP m x).map _)
theorem mget_setP (m : List (PK × β)) (x y : PK) (v : β) : mgetP (msetP m x v) y = if y = x then some v else mgetP m y := by
  induction m with
  | nil => simp [msetP, mgetP]
  | cons p r ih =>
    obtain ⟨k, u⟩ := p
    simp only [msetP]
    split
    · rename_i h; subst h
      simp only [mgetP]
      split <;> rfl
    · rename_i h
      simp only [mgetP, ih]
      split
      · rename_i h2; subst h2; rw [if_neg (Ne.symm h)]
      · rfl
end
abbrev KVP := List (PK × Value)
def kvsP (es : List MapEntry) : List (Value × Value) := es.map fun e => (e.key, e.val)
def kvmP (m : KVP) : List (Value × Value) := m.map fun p => (pk p.1, p.2)
def MapIsP (b : Nat) (m : KVP) (w : World) : Prop := (m.map Prod.fst).Nodup ∧ ∃ es clock, w.heap[b]? = some (.map ⟨es⟩ clock) ∧ kvsP es = kvmP m ∧ (es.map (·.born)).Nodup ∧ ∀ e ∈ es, e.born < clock
theorem MapIsP.local {b : Nat} {m : KVP} : Local [b] (MapIsP b m) := fun w w' h ⟨h0, es, c, e, r⟩ => ⟨h0, es, c, (h b (by simp)).trans e, r⟩
abbrev mapCP (b : Nat) (m : KVP) : Chunk := .obj [b] (MapIsP b m)
theorem mapC_holdsP {b : Nat} {m : KVP} {w : World} (h : MapIsP b m w) : (mapCP b m).holds w := ⟨h, MapIsP.local⟩
structure KeyTy (P : Program) (k : TypeId) : Prop where
  eq : ∀ a b : PK, eqV P 5 k (pk a) (pk b) = some (decide (a.1 = b.1) && decide (a.2 = b.2))
  ok : eqOk P 5 k = true
  agg : ∃ fs, P.underlying k = some (.struct fs)
  ck : ∀ (a : PK) (em : Bool) (w : World), (Instr.checkKey em 10000 k (pk a)).run P w = .ok () w
theorem same_pk {P : Program} {k : TypeId} (h : KeyTy P k) (a b : PK) (w : World) : (Op.equal k (pk a) (pk b)).run P w = .ok (decide (a = b)) w := by
  have h1 : (Op.equalIn 10000 k (pk a) (pk b)).run P w = .ok (decide (a.1 = b.1) && decide (a.2 = b.2)) w := eqV_spec 9995 w 5 (h.eq a b) h.ok
  have h2 : (decide (a.1 = b.1) && decide (a.2 = b.2)) = decide (a = b) := by
    obtain ⟨a1, a2⟩ := a; obtain ⟨b1, b2⟩ := b
    simp only [Prod.mk.injEq, Bool.decide_and]
  rw [h2] at h1; exact h1
theorem find_specP {P : Program} {kt : TypeId} (hk : KeyTy P kt) (x : PK) (w : World) : ∀ (es : List MapEntry) (m : KVP) (i : Nat), kvsP es = kvmP m →
    (mgetP m x = none ∧ (Instr.findAsking kt (pk x) es i).run P w = .ok none w ∧ (∀ u, msetP m x u = m ++ [(x, u)]) ∧ mdelP m x = m) ∨
    ∃ v j e, mgetP m x = some v ∧ (Instr.findAsking kt (pk x) es i).run P w = .ok (some (i + j, v)) w ∧ es[j]? = some e ∧ e.key = pk x ∧ e.val = v ∧ (∀ u, kvsP (es.modify j fun e => { e with key := pk x, val := u }) = kvmP (msetP m x u)) ∧ kvsP (es.eraseIdx j) = kvmP (mdelP m x)
  | [], [], i, _ => .inl ⟨rfl, rfl, fun _ => rfl, rfl⟩
  | [], _ :: _, i, h => by simp [kvsP, kvmP] at h
  | _ :: _, [], i, h => by simp [kvsP, kvmP] at h
  | e :: es, (k, v) :: m, i, h => by
    simp only [kvsP, kvmP, List.map_cons, List.cons.injEq, Prod.mk.injEq] at h
    obtain ⟨⟨h1, h2⟩, h3⟩ := h
    by_cases hx : x = k
    · subst hx
      refine .inr ⟨v, 0, e, by simp [mgetP], ?_, rfl, h1, h2, fun u => ?_, ?_⟩
      · simp only [Instr.findAsking, h1, Sem.run_bind, same_pk hk, decide_true, Result.andThen_ok, if_true, h2, Nat.add_zero, Sem.run_pure]
      · simp only [List.modify_zero_cons, msetP, if_true, kvsP, kvmP, List.map_cons]
        rw [h3]
      · simp only [List.eraseIdx_zero, List.tail_cons, mdelP, if_true]; exact h3
    · have hf : (Instr.findAsking kt (pk x) (e :: es) i).run P w = (Instr.findAsking kt (pk x) es (i + 1)).run P w := by
        simp only [Instr.findAsking, h1, Sem.run_bind, same_pk hk, decide_eq_false hx, Result.andThen_ok]; rfl
      rcases find_specP hk x w es m (i + 1) h3 with ⟨h4, h5, h6, h7⟩ | ⟨u, j, e', h4, h5, h6, h7, h8, h9, h10⟩
      · refine .inl ⟨by simp [mgetP, hx, h4], by rw [hf, h5], fun u => by simp [msetP, hx, h6], by simp [mdelP, hx, h7]⟩
      · refine .inr ⟨u, j + 1, e', by simp [mgetP, hx, h4], by rw [hf, h5, Nat.add_right_comm i 1 j]; rfl, by simpa using h6, h7, h8, fun y => ?_, ?_⟩
        · simp only [List.modify_succ_cons, msetP, if_neg hx, kvsP, kvmP, List.map_cons, h1, h2]
          have := h9 y; unfold kvsP kvmP at this; rw [this]
        · simp only [List.eraseIdx_cons_succ, mdelP, if_neg hx, kvsP, kvmP, List.map_cons, h1, h2]
          have := h10; unfold kvsP kvmP at this; rw [this]
def mapOfP (P : Program) (t : TypeId) : Option (TypeId × Value) := match P.underlying t with
  | some (.map k e) => match tyZero P e with
      | some z => some (k, z)
      | none => none
  | _ => none
theorem mapOf_specP {P : Program} {t k : TypeId} {z : Value} (h : mapOfP P t = some (k, z)) : ∃ e, P.underlying t = some (.map k e) ∧ tyZero P e = some z := by
  unfold mapOfP at h
  split at h
  · rename_i k' e hu
    split at h
    · rename_i z' hz
      simp only [Option.some.injEq, Prod.mk.injEq] at h
      obtain ⟨rfl, rfl⟩ := h
      exact ⟨e, hu, hz⟩
    · cases h
  · cases h
section
variable {P : Program} {w : World} {ρ : Operand → Value} {o : Oper}
theorem run_getMapP {b clock : Nat} {es : List MapEntry} (hb : w.heap[b]? = some (.map ⟨es⟩ clock)) : (getObj b).run P w = .ok (.map ⟨es⟩ clock) w := by simp [getObj, Sem.run, hb]
theorem run_setMapP {b clock : Nat} {es : List MapEntry} (hb : w.heap[b]? = some (.map ⟨es⟩ clock)) (ob : Obj) : (setObj b ob).run P w = .ok () { w with heap := w.heap.setIfInBounds b ob } := by simp [setObj, Sem.run, hb]
theorem run_findKeyP {k : TypeId} {x : PK} {es : List MapEntry} {r : Option (Nat × Value)} (hk : KeyTy P k) (hf : (Instr.findAsking k (pk x) es 0).run P w = .ok r w) : (Instr.findKey k (pk x) es).run P w = .ok r w := by
  obtain ⟨fs, hu⟩ := hk.agg
  cases es with
  | nil =>
    have hf : r = none := by simpa [Instr.findAsking] using hf.symm
    subst hf
    simp only [Instr.findKey, Sem.run_bind, run_underlying hu, Result.andThen_ok, Instr.findNow]; rfl
  | cons e es => simp only [Instr.findKey, Sem.run_bind, run_underlying hu, Result.andThen_ok, Instr.findNow, Instr.sameNow, hf]
def lookVP (z : Value) (m : KVP) (x : PK) (ok : Bool) : Value := match ok with
  | true => .tuple #[(mgetP m x).getD z, .bool (mgetP m x).isSome]
  | false => (mgetP m x).getD z
theorem run_lookupP {t k : TypeId} {z : Value} {x i : Operand} {ok : Bool} {b : Nat} {m : KVP} {s : PK} (ho : o.op = .lookup t x i ok) (ht : mapOfP P t = some (k, z)) (hk : KeyTy P k) (hx : ρ x = .map (some b)) (hi : ρ i = pk s) (hm : MapIsP b m w) :
    (execOp ρ o).run P w = .ok (.value (lookVP z m s ok)) w := by
  obtain ⟨e, hu, hz⟩ := mapOf_specP ht
  obtain ⟨hnd, es, clock, hb, hkv, _, _⟩ := hm
  have hz := run_zero hz
  rcases find_specP hk s w es m 0 hkv with ⟨h1, h2, _⟩ | ⟨v, j, e', h1, h2, _⟩
  · simp only [execOp, ho, hx, hi, Instr.lookup, Sem.run_bind, run_underlying hu, Result.andThen_ok, run_getMapP hb, hk.ck, run_findKeyP hk h2, hz, Sem.run_pure]
    cases ok <;> simp [lookVP, h1, Sem.run]
  · simp only [execOp, ho, hx, hi, Instr.lookup, Sem.run_bind, run_underlying hu, Result.andThen_ok, run_getMapP hb, hk.ck, run_findKeyP hk h2, Sem.run_pure]
    cases ok <;> simp [lookVP, h1, Sem.run]
theorem sameBits_pk (s : PK) (n : Nat) : Instr.sameBits (n + 1) (pk s) (pk s) = true := by cases n <;> simp [pk, Instr.sameBits, ba_beq]
theorem run_mapUpdateP {t k : TypeId} {z u : Value} {b : Nat} {m : KVP} {s : PK} (ht : mapOfP P t = some (k, z)) (hk : KeyTy P k) (hm : MapIsP b m w) :
    ∃ ob, (Instr.mapUpdate t (.map (some b)) (pk s) u).run P w = .ok () { w with heap := w.heap.setIfInBounds b ob } ∧ MapIsP b (msetP m s u) { w with heap := w.heap.setIfInBounds b ob } := by
  obtain ⟨e, hu, hz⟩ := mapOf_specP ht
  obtain ⟨hnd, es, clock, hb, hkv, hbo, hcl⟩ := hm
  have hlt : b < w.heap.size := by
    rcases Nat.lt_or_ge b w.heap.size with h | h
    · exact h
    · rw [Array.getElem?_eq_none (by omega)] at hb; cases hb
  rcases find_specP hk s w es m 0 hkv with ⟨h1, h2, h3, _⟩ | ⟨v, j, e', h1, h2, h3, h4, h5, h6, _⟩
  · refine ⟨_, by simp only [Instr.mapUpdate, Sem.run_bind, run_underlying hu, Result.andThen_ok, run_getMapP hb, hk.ck, run_findKeyP hk h2, Sem.run_pure]; exact run_setMapP hb _, mset_nodupP hnd _ _, es ++ [{ key := pk s, val := u, born := clock }], clock + 1, by simp [hlt], ?_, ?_, ?_⟩
    · rw [h3]; simp only [kvsP, kvmP, List.map_append] at hkv ⊢; rw [hkv]; rfl
    · rw [List.map_append, List.nodup_append]
      refine ⟨hbo, by simp, fun a ha b hb => ?_⟩
      simp at hb; subst hb
      obtain ⟨e, he, rfl⟩ := List.mem_map.1 ha
      have := hcl e he; omega
    · intro e he
      rcases List.mem_append.1 he with he | he
      · have := hcl e he; omega
      · simp at he; subst he; show clock < clock + 1; omega
  · simp only [Nat.zero_add] at h2
    have hkey : (((Array.mk es)[j]?).map (·.key)).getD (pk s) = pk s := by simp [h3, h4]
    refine ⟨.map ⟨es.modify j fun e => { e with key := pk s, val := u }⟩ clock, ?_, mset_nodupP hnd _ _, _, clock, by simp [hlt], h6 u, ?_, ?_⟩
    · have hks : (Instr.keyThatStays (pk s) (pk s)).run P w = .ok (pk s) w := by
        unfold Instr.keyThatStays; rw [sameBits_pk]; rfl
      simp only [Instr.mapUpdate, Sem.run_bind, run_underlying hu, Result.andThen_ok, run_getMapP hb, hk.ck, run_findKeyP hk h2, hkey, hks]
      rw [run_setMapP hb]
      simp
    · have : (es.modify j fun e => { e with key := pk s, val := u }).map (·.born) = es.map (·.born) := by
        apply List.ext_getElem?; intro i
        simp only [List.getElem?_map, List.getElem?_modify]
        split <;> simp_all
      rw [this]; exact hbo
    · intro e he
      obtain ⟨i, hi, hge⟩ := List.mem_iff_getElem.1 he
      rw [List.getElem_modify] at hge
      split at hge
      · subst hge; exact hcl (es[i]'(by simpa using hi)) (List.getElem_mem _)
      · subst hge; exact hcl _ (List.getElem_mem _)
theorem run_deleteP {t k : TypeId} {z : Value} {b : Nat} {m : KVP} {s : PK} {t2 ty : TypeId} (ht : mapOfP P t = some (k, z)) (hk : KeyTy P k) (hm : MapIsP b m w) :
    ∃ ob, (Builtin.delete_ #[t, t2] ty #[.map (some b), pk s]).run P w = .ok (.tuple #[]) { w with heap := w.heap.setIfInBounds b ob } ∧ MapIsP b (mdelP m s) { w with heap := w.heap.setIfInBounds b ob } := by
  obtain ⟨e, hu, hz⟩ := mapOf_specP ht
  obtain ⟨hnd, es, clock, hb, hkv, hbo, hcl⟩ := hm
  have hlt : b < w.heap.size := by
    rcases Nat.lt_or_ge b w.heap.size with h | h
    · exact h
    · rw [Array.getElem?_eq_none (by omega)] at hb; cases hb
  rcases find_specP hk s w es m 0 hkv with ⟨h1, h2, _, h3⟩ | ⟨v, j, e', h1, h2, h3, h4, h5, _, h6⟩
  · refine ⟨.map ⟨es⟩ clock, ?_, mdel_nodupP hnd _, es, clock, by simp [hlt], by rw [h3]; exact hkv, hbo, hcl⟩
    simp [Builtin.delete_, Sem.run_bind, run_underlying hu, run_getMapP hb, hk.ck, run_findKeyP hk h2, run_setMapP hb]
  · simp only [Nat.zero_add] at h2
    refine ⟨.map ⟨es.eraseIdx j⟩ clock, ?_, mdel_nodupP hnd _, _, clock, by simp [hlt], h6, ?_, ?_⟩
    · simp [Builtin.delete_, Sem.run_bind, run_underlying hu, run_getMapP hb, hk.ck, run_findKeyP hk h2, run_setMapP hb]
    · exact hbo.sublist ((List.eraseIdx_sublist _ _).map _)
    · exact fun e he => hcl e ((List.eraseIdx_sublist _ _).subset he)
end
structure MapOkP (H : List Chunk) (Z : List Snap) (b : Nat) (m : KVP) : Prop where
  out : ∀ w0 M w (Hn : List Chunk) (Zn : List Snap), St w0 M w (Hn ++ H) (Zn ++ Z) → MapIsP b m w
theorem MapOkP.mk' {H : List Chunk} {Z : List Snap} {b : Nat} {m : KVP} (hm : mapCP b m ∈ H) : MapOkP H Z b m :=
  ⟨fun w0 M w Hn Zn hS => (hS.holds _ (List.mem_append_right _ hm)).1⟩
theorem MapOkP.old {w0 : World} {H : List Chunk} {Z : List Snap} {b : Nat} {m : KVP} (h : MapIsP b m w0) (hz : Snap.mk w0 (Old w0) ∈ Z) : MapOkP H Z b m := by
  refine ⟨fun w1 M w Hn Zn hS => ?_⟩
  obtain ⟨h0, es, c, e, r⟩ := h
  have hlt : b < w0.heap.size := by
    rcases Nat.lt_or_ge b w0.heap.size with h2 | h2
    · exact h2
    · rw [Array.getElem?_eq_none (by omega)] at e; cases e
  exact ⟨h0, es, c, (hS.snap _ (List.mem_append_right _ hz) b hlt).2.1.trans e, r⟩
section
variable {P : Program} {N : Fz} {f : Fr} {w w0 : World} {Q : Post} {ops l : List Oper} {o : Oper} {M : List Nat} {H H' : List Chunk} {Z : List Snap} {ρ : Operand → Value}
theorem St.setMapP {b : Nat} {m m' : KVP} {ob : Obj} (hS : St w0 M w H Z) (hr : Repl (mapCP b m) (mapCP b m') H H') (h : MapIsP b m' { w with heap := w.heap.setIfInBounds b ob }) : St w0 M { w with heap := w.heap.setIfInBounds b ob } H' Z := by
  refine hS.step hr ⟨rfl, rfl, rfl, by simp, fun k hk hn => ?_⟩ (mapC_holdsP h) fun b hb => .inl hb
  have hne : k ≠ b := fun e => hn (by simp [Chunk.fp, e])
  show (w.heap.setIfInBounds b _)[k]? = _
  rw [Array.getElem?_setIfInBounds_ne (by omega)]
theorem WL.mgetP {t k : TypeId} {z v : Value} {x i : Operand} {ok : Bool} {b : Nat} {m : KVP} {s : PK} (hS : St w0 M w H Z) (ho : o.op = .lookup t x i ok) (ht : mapOfP P t = some (k, z)) (hk : KeyTy P k) (hx : ev f x = .map (some b)) (hi : ev f i = pk s) (hm : MapOkP H Z b m) (hv : lookVP z m s ok = v)
    (hg : wants ops f o = true) {d : Nat} (hd : o.dst = some d) (hn : N.ok d = true) (h : WL P N ops l (up f d v) w Q) : WL P N ops (o :: l) f w Q :=
  .val hg hd hn (hv ▸ run_lookupP ho ht hk hx hi (hm.out _ _ _ [] [] hS)) h
theorem WL.msetP {t k : TypeId} {z u : Value} {x i y : Operand} {b : Nat} {m : KVP} {s : PK} (hS : St w0 M w H Z) (ho : o.op = .mapUpdate t x i y ∨ o.op = .insert t x i y) (ht : mapOfP P t = some (k, z)) (hk : KeyTy P k) (hx : ev f x = .map (some b)) (hi : ev f i = pk s) (hy : nfv (ev f y) = some u)
    (hr : Repl (mapCP b m) (mapCP b (msetP m s u)) H H') (hg : wants ops f o = true) (hd : o.dst = none) (h : ∀ w', St w0 M w' H' Z → WL P N ops l f w' Q) : WL P N ops (o :: l) f w Q := by
  obtain ⟨ob, h1, h2⟩ := run_mapUpdateP (u := u) (s := s) ht hk (hS.holds _ hr.mem).1
  have hrun : (execOp (ev f) o).run P w = .ok .skip { w with heap := w.heap.setIfInBounds b ob } := by
    rcases ho with ho | ho <;> simp [execOp, ho, hx, hi, ← nfv_eq hy, Sem.run_bind, h1]
  exact .unit0 hg hd hrun (h _ (hS.setMapP hr h2))
theorem WL.mdelP {t k t2 : TypeId} {z : Value} {x i : Operand} {b : Nat} {m : KVP} {s : PK} (hS : St w0 M w H Z) (ho : o.op = .call ⟨.builtin .delete, ⟨[x, i]⟩, ⟨[t, t2]⟩⟩) (ht : mapOfP P t = some (k, z)) (hk : KeyTy P k) (hx : ev f x = .map (some b)) (hi : ev f i = pk s)
    (hr : Repl (mapCP b m) (mapCP b (mdelP m s)) H H') (hg : wants ops f o = true) {d : Nat} (hd : o.dst = some d) (hn : N.ok d = true) (h : ∀ w', St w0 M w' H' Z → WL P N ops l (up f d (.tuple #[])) w' Q) : WL P N ops (o :: l) f w Q := by
  obtain ⟨ob, h1, h2⟩ := run_deleteP (t2 := t2) (ty := o.type) (s := s) ht hk (hS.holds _ hr.mem).1
  have hrun : (execOp (ev f) o).run P w = .ok (.value (.tuple #[])) { w with heap := w.heap.setIfInBounds b ob } := by
    simp [execOp, ho, resolve, invoke, builtin, hx, hi, Sem.run_bind, h1]
  exact .val hg hd hn hrun (h _ (hS.setMapP hr h2))
theorem WL.mmakeP {t k : TypeId} {z : Value} (hS : St w0 M w H Z) (ho : o.op = .makeMap t none) (ht : mapOfP P t = some (k, z)) (hk : KeyTy P k) (hg : wants ops f o = true) {d : Nat} (hd : o.dst = some d) (hn : N.ok d = true)
    (h : ∀ w' b, St w0 M w' (mapCP b [] :: H) Z → WL P N ops l (up f d (.map (some b))) w' Q) : WL P N ops (o :: l) f w Q := by
  have hrun : (execOp (ev f) o).run P w = .ok (.value (.map (some w.heap.size))) (w.alloc (.map #[] 0)) := by
    simp only [execOp, ho, Instr.makeMap, Option.map_none, Sem.run_bind, newObj, Result.andThen_ok]
    rfl
  refine .val hg hd hn hrun (h _ _ (hS.push (.alloc _ _ _) (mapC_holdsP ⟨.nil, [], 0, heap_alloc_new w _, rfl, .nil, by simp⟩) fun b hb => ?_))
  have : b = w.heap.size := by simpa [Chunk.fp] using hb
  subst this; simp
end
section
variable {P : Program} {N : Fz} {f : Fr} {w w0 : World} {Q : Post} {ops : List Oper} {M : List Nat} {H0 H H' : List Chunk} {Z0 Z : List Snap} {q : Qs} {l : List Nat} {i : Nat}
theorem WD.mgetP {t k : TypeId} {z v : Value} {x y : Operand} {ok : Bool} {b : Nat} {m : KVP} {s : PK} (ho : (ix ops i).op = .lookup t x y ok) (ht : mapOfP P t = some (k, z)) (hk : KeyTy P k) (hx : ev f x = .map (some b)) (hi : ev f y = pk s) (hm : MapOkP H0 Z0 b m) (hv : lookVP z m s ok = v)
    (hq : q.contains i = true) (hg : wants ops f (ix ops i) = true) {d : Nat} (hd : (ix ops i).dst = some d) (hn : N.ok d = true) (h : WD P N (SS w0 M H0 Z0) ops q l (up f d v) w Q) : WD P N (SS w0 M H0 Z0) ops q (i :: l) f w Q :=
  .takeS hq (by unfold blind; rw [ho]) hd hn hg (fun w' ⟨Hn, Zn, hS⟩ => hv ▸ run_lookupP ho ht hk hx hi (hm.out _ _ _ Hn Zn hS)) h
end
end Go.J

/- What is proved: the walk's rules for maps whose keys are ints: made, asked, written, struck from, their length. Conditions: as each rule names them. -/
namespace Go.J
open Go Go.RowKit
section
variable {β γ : Type}
def mgetI : List (Int × β) → Int → Option β
  | [], _ => none
  | (k, v) :: r, x => if x = k then some v else mgetI r x
def msetI : List (Int × β) → Int → β → List (Int × β)
  | [], x, v => [(x, v)]
  | (k, u) :: r, x, v => if x = k then (k, v) :: r else (k, u) :: msetI r x v
def mdelI : List (Int × β) → Int → List (Int × β)
  | [], _ => []
  | (k, u) :: r, x => if x = k then r else (k, u) :: mdelI r x
def mmapI (f : β → γ) (m : List (Int × β)) : List (Int × γ) := m.map fun p => (p.1, f p.2)
theorem mset_keysI (m : List (Int × β)) (x : Int) (v : β) : (msetI m x v).map Prod.fst = if x ∈ m.map Prod.fst then m.map Prod.fst else m.map Prod.fst ++ [x] := by
  induction m with
  | nil => simp [msetI]
  | cons p r ih =>
    obtain ⟨k, u⟩ := p
    simp only [msetI]
    split
    · rename_i h; subst h; simp
    · rename_i h
      rw [List.map_cons, ih]
      by_cases h2 : x ∈ r.map Prod.fst
      · rw [if_pos h2, if_pos (by simp only [List.map_cons, List.mem_cons]; exact .inr h2)]; rfl
      · rw [if_neg h2, if_neg (by simp only [List.map_cons, List.mem_cons, not_or]; exact ⟨h, h2⟩)]; rfl
theorem mset_nodupI {m : List (Int × β)} (h : (m.map Prod.fst).Nodup) (x : Int) (v : β) : ((msetI m x v).map Prod.fst).Nodup := by
  rw [mset_keysI]
  split
  · exact h
  · rename_i h2
    rw [List.nodup_append]
    exact ⟨h, by simp, fun a ha b hb => by simp at hb; subst hb; rintro rfl; exact h2 ha⟩
theorem mdel_subI (m : List (Int × β)) (x : Int) : (mdelI m x).Sublist m := by
  induction m with
  | nil => exact .slnil
  | cons p r ih =>
    obtain ⟨k, u⟩ := p
    simp only [mdelI]
    split
    · exact List.sublist_cons_self _ _
    · exact ih.cons_cons _
theorem mdel_nodupI {m : List (Int × β)} (h : (m.map Prod.fst).Nodup) (x : Int) : ((mdelI m x).map Prod.fst).Nodup := h.sublist ((mdel_subI m x).map _)
end
abbrev ik (n : Int) : Value := .int .i64 n
abbrev KVI := List (Int × Value)
def kvsI (es : List MapEntry) : List (Value × Value) := es.map fun e => (e.key, e.val)
def kvmI (m : KVI) : List (Value × Value) := m.map fun p => (ik p.1, p.2)
def MapIsI (b : Nat) (m : KVI) (w : World) : Prop := (m.map Prod.fst).Nodup ∧ ∃ es clock, w.heap[b]? = some (.map ⟨es⟩ clock) ∧ kvsI es = kvmI m ∧ (es.map (·.born)).Nodup ∧ ∀ e ∈ es, e.born < clock
theorem MapIsI.local {b : Nat} {m : KVI} : Local [b] (MapIsI b m) := fun w w' h ⟨h0, es, c, e, r⟩ => ⟨h0, es, c, (h b (by simp)).trans e, r⟩
abbrev mapCI (b : Nat) (m : KVI) : Chunk := .obj [b] (MapIsI b m)
theorem mapC_holdsI {b : Nat} {m : KVI} {w : World} (h : MapIsI b m w) : (mapCI b m).holds w := ⟨h, MapIsI.local⟩
theorem same_int (a b : Int) : Instr.sameNow (.int .i64) (ik a) (ik b) = some (decide (a = b)) := by
  simp only [ik, Instr.sameNow, if_true]; rw [beq_dec]
theorem find_specI (x : Int) : ∀ (es : List MapEntry) (m : KVI) (i : Nat), kvsI es = kvmI m →
    (mgetI m x = none ∧ Instr.findNow (.int .i64) (ik x) es i = some none ∧ (∀ u, msetI m x u = m ++ [(x, u)]) ∧ mdelI m x = m) ∨
    ∃ v j e, mgetI m x = some v ∧ Instr.findNow (.int .i64) (ik x) es i = some (some (i + j, v)) ∧ es[j]? = some e ∧ e.key = ik x ∧ e.val = v ∧ (∀ u, kvsI (es.modify j fun e => { e with key := ik x, val := u }) = kvmI (msetI m x u)) ∧ kvsI (es.eraseIdx j) = kvmI (mdelI m x)
  | [], [], i, _ => .inl ⟨rfl, rfl, fun _ => rfl, rfl⟩
  | [], _ :: _, i, h => by simp [kvsI, kvmI] at h
  | _ :: _, [], i, h => by simp [kvsI, kvmI] at h
  | e :: es, (k, v) :: m, i, h => by
    simp only [kvsI, kvmI, List.map_cons, List.cons.injEq, Prod.mk.injEq] at h
    obtain ⟨⟨h1, h2⟩, h3⟩ := h
    by_cases hx : x = k
    · subst hx
      refine .inr ⟨v, 0, e, by simp [mgetI], ?_, rfl, h1, h2, fun u => ?_, ?_⟩
      · simp only [Instr.findNow, h1, same_int, decide_true, h2, Nat.add_zero]
      · simp only [List.modify_zero_cons, msetI, if_true, kvsI, kvmI, List.map_cons]
        rw [h3]
      · simp only [List.eraseIdx_zero, List.tail_cons, mdelI, if_true]; exact h3
    · have hf : Instr.findNow (.int .i64) (ik x) (e :: es) i = Instr.findNow (.int .i64) (ik x) es (i + 1) := by
        simp only [Instr.findNow, h1, same_int, decide_eq_false hx]
      rcases find_specI x es m (i + 1) h3 with ⟨h4, h5, h6, h7⟩ | ⟨u, j, e', h4, h5, h6, h7, h8, h9, h10⟩
      · refine .inl ⟨by simp [mgetI, hx, h4], by rw [hf, h5], fun u => by simp [msetI, hx, h6], by simp [mdelI, hx, h7]⟩
      · refine .inr ⟨u, j + 1, e', by simp [mgetI, hx, h4], by rw [hf, h5, Nat.add_right_comm i 1 j]; rfl, by simpa using h6, h7, h8, fun y => ?_, ?_⟩
        · simp only [List.modify_succ_cons, msetI, if_neg hx, kvsI, kvmI, List.map_cons, h1, h2]
          have := h9 y; unfold kvsI kvmI at this; rw [this]
        · simp only [List.eraseIdx_cons_succ, mdelI, if_neg hx, kvsI, kvmI, List.map_cons, h1, h2]
          have := h10; unfold kvsI kvmI at this; rw [this]
def mapOfI (P : Program) (t : TypeId) : Option (TypeId × Value) := match P.underlying t with
  | some (.map k e) => match P.underlying k with
    | some (.int .i64) => match tyZero P e with
      | some z => some (k, z)
      | none => none
    | _ => none
  | _ => none
theorem mapOf_specI {P : Program} {t k : TypeId} {z : Value} (h : mapOfI P t = some (k, z)) : ∃ e, P.underlying t = some (.map k e) ∧ P.underlying k = some (.int .i64) ∧ tyZero P e = some z := by
  unfold mapOfI at h
  split at h
  · rename_i k' e hu
    split at h
    · rename_i hk
      split at h
      · rename_i z' hz
        simp only [Option.some.injEq, Prod.mk.injEq] at h
        obtain ⟨rfl, rfl⟩ := h
        exact ⟨e, hu, hk, hz⟩
      · cases h
    · cases h
  · cases h
section
variable {P : Program} {w : World} {ρ : Operand → Value} {o : Oper}
theorem run_getMapI {b clock : Nat} {es : List MapEntry} (hb : w.heap[b]? = some (.map ⟨es⟩ clock)) : (getObj b).run P w = .ok (.map ⟨es⟩ clock) w := by simp [getObj, Sem.run, hb]
theorem run_setMapI {b clock : Nat} {es : List MapEntry} (hb : w.heap[b]? = some (.map ⟨es⟩ clock)) (ob : Obj) : (setObj b ob).run P w = .ok () { w with heap := w.heap.setIfInBounds b ob } := by simp [setObj, Sem.run, hb]
theorem run_checkKeyI {k : TypeId} {x : Int} (hk : P.underlying k = some (.int .i64)) (em : Bool) (n : Nat) : (Instr.checkKey em (n + 1) k (ik x)).run P w = .ok () w := by
  simp only [Instr.checkKey, Sem.run_bind, run_underlying hk, Result.andThen_ok]; rfl
theorem run_findKeyI {k : TypeId} {x : Int} {es : List MapEntry} {r : Option (Nat × Value)} (hk : P.underlying k = some (.int .i64)) (hf : Instr.findNow (.int .i64) (ik x) es 0 = some r) : (Instr.findKey k (ik x) es).run P w = .ok r w := by
  simp only [Instr.findKey, Sem.run_bind, run_underlying hk, Result.andThen_ok, hf]; rfl
def lookVI (z : Value) (m : KVI) (x : Int) (ok : Bool) : Value := match ok with
  | true => .tuple #[(mgetI m x).getD z, .bool (mgetI m x).isSome]
  | false => (mgetI m x).getD z
theorem run_lookupI {t k : TypeId} {z : Value} {x i : Operand} {ok : Bool} {b : Nat} {m : KVI} {s : Int} (ho : o.op = .lookup t x i ok) (ht : mapOfI P t = some (k, z)) (hx : ρ x = .map (some b)) (hi : ρ i = ik s) (hm : MapIsI b m w) :
    (execOp ρ o).run P w = .ok (.value (lookVI z m s ok)) w := by
  obtain ⟨e, hu, hk, hz⟩ := mapOf_specI ht
  obtain ⟨hnd, es, clock, hb, hkv, _, _⟩ := hm
  have hz := run_zero hz
  rcases find_specI s es m 0 hkv with ⟨h1, h2, _⟩ | ⟨v, j, e', h1, h2, _⟩
  · simp only [execOp, ho, hx, hi, Instr.lookup, Sem.run_bind, run_underlying hu, Result.andThen_ok, run_getMapI hb, run_checkKeyI hk, run_findKeyI hk h2, hz, Sem.run_pure]
    cases ok <;> simp [lookVI, h1, Sem.run]
  · simp only [execOp, ho, hx, hi, Instr.lookup, Sem.run_bind, run_underlying hu, Result.andThen_ok, run_getMapI hb, run_checkKeyI hk, run_findKeyI hk h2, Sem.run_pure]
    cases ok <;> simp [lookVI, h1, Sem.run]
theorem sameBits_intI (s : Int) (n : Nat) : Instr.sameBits n (ik s) (ik s) = true := by cases n <;> simp [ik, Instr.sameBits]
theorem run_mapUpdateI {t k : TypeId} {z u : Value} {b : Nat} {m : KVI} {s : Int} (ht : mapOfI P t = some (k, z)) (hm : MapIsI b m w) :
    ∃ ob, (Instr.mapUpdate t (.map (some b)) (ik s) u).run P w = .ok () { w with heap := w.heap.setIfInBounds b ob } ∧ MapIsI b (msetI m s u) { w with heap := w.heap.setIfInBounds b ob } := by
  obtain ⟨e, hu, hk, hz⟩ := mapOf_specI ht
  obtain ⟨hnd, es, clock, hb, hkv, hbo, hcl⟩ := hm
  have hlt : b < w.heap.size := by
    rcases Nat.lt_or_ge b w.heap.size with h | h
    · exact h
    · rw [Array.getElem?_eq_none (by omega)] at hb; cases hb
  rcases find_specI s es m 0 hkv with ⟨h1, h2, h3, _⟩ | ⟨v, j, e', h1, h2, h3, h4, h5, h6, _⟩
  · refine ⟨_, by simp only [Instr.mapUpdate, Sem.run_bind, run_underlying hu, Result.andThen_ok, run_getMapI hb, run_checkKeyI hk, run_findKeyI hk h2, Sem.run_pure]; exact run_setMapI hb _, mset_nodupI hnd _ _, es ++ [{ key := ik s, val := u, born := clock }], clock + 1, by simp [hlt], ?_, ?_, ?_⟩
    · rw [h3]; simp only [kvsI, kvmI, List.map_append] at hkv ⊢; rw [hkv]; rfl
    · rw [List.map_append, List.nodup_append]
      refine ⟨hbo, by simp, fun a ha b hb => ?_⟩
      simp at hb; subst hb
      obtain ⟨e, he, rfl⟩ := List.mem_map.1 ha
      have := hcl e he; omega
    · intro e he
      rcases List.mem_append.1 he with he | he
      · have := hcl e he; omega
      · simp at he; subst he; show clock < clock + 1; omega
  · simp only [Nat.zero_add] at h2
    have hkey : (((Array.mk es)[j]?).map (·.key)).getD (ik s) = ik s := by simp [h3, h4]
    refine ⟨.map ⟨es.modify j fun e => { e with key := ik s, val := u }⟩ clock, ?_, mset_nodupI hnd _ _, _, clock, by simp [hlt], h6 u, ?_, ?_⟩
    · have hks : (Instr.keyThatStays (ik s) (ik s)).run P w = .ok (ik s) w := by
        unfold Instr.keyThatStays; rw [sameBits_intI]; rfl
      simp only [Instr.mapUpdate, Sem.run_bind, run_underlying hu, Result.andThen_ok, run_getMapI hb, run_checkKeyI hk, run_findKeyI hk h2, hkey, hks]
      rw [run_setMapI hb]
      simp
    · have : (es.modify j fun e => { e with key := ik s, val := u }).map (·.born) = es.map (·.born) := by
        apply List.ext_getElem?; intro i
        simp only [List.getElem?_map, List.getElem?_modify]
        split <;> simp_all
      rw [this]; exact hbo
    · intro e he
      obtain ⟨i, hi, hge⟩ := List.mem_iff_getElem.1 he
      rw [List.getElem_modify] at hge
      split at hge
      · subst hge; exact hcl (es[i]'(by simpa using hi)) (List.getElem_mem _)
      · subst hge; exact hcl _ (List.getElem_mem _)
theorem run_deleteI {t k : TypeId} {z : Value} {b : Nat} {m : KVI} {s : Int} {t2 ty : TypeId} (ht : mapOfI P t = some (k, z)) (hm : MapIsI b m w) :
    ∃ ob, (Builtin.delete_ #[t, t2] ty #[.map (some b), ik s]).run P w = .ok (.tuple #[]) { w with heap := w.heap.setIfInBounds b ob } ∧ MapIsI b (mdelI m s) { w with heap := w.heap.setIfInBounds b ob } := by
  obtain ⟨e, hu, hk, hz⟩ := mapOf_specI ht
  obtain ⟨hnd, es, clock, hb, hkv, hbo, hcl⟩ := hm
  have hlt : b < w.heap.size := by
    rcases Nat.lt_or_ge b w.heap.size with h | h
    · exact h
    · rw [Array.getElem?_eq_none (by omega)] at hb; cases hb
  rcases find_specI s es m 0 hkv with ⟨h1, h2, _, h3⟩ | ⟨v, j, e', h1, h2, h3, h4, h5, _, h6⟩
  · refine ⟨.map ⟨es⟩ clock, ?_, mdel_nodupI hnd _, es, clock, by simp [hlt], by rw [h3]; exact hkv, hbo, hcl⟩
    simp [Builtin.delete_, Sem.run_bind, run_underlying hu, run_getMapI hb, run_checkKeyI hk, run_findKeyI hk h2, run_setMapI hb]
  · simp only [Nat.zero_add] at h2
    refine ⟨.map ⟨es.eraseIdx j⟩ clock, ?_, mdel_nodupI hnd _, _, clock, by simp [hlt], h6, ?_, ?_⟩
    · simp [Builtin.delete_, Sem.run_bind, run_underlying hu, run_getMapI hb, run_checkKeyI hk, run_findKeyI hk h2, run_setMapI hb]
    · exact hbo.sublist ((List.eraseIdx_sublist _ _).map _)
    · exact fun e he => hcl e ((List.eraseIdx_sublist _ _).subset he)
end
structure MapOkI (H : List Chunk) (Z : List Snap) (b : Nat) (m : KVI) : Prop where
  out : ∀ w0 M w (Hn : List Chunk) (Zn : List Snap), St w0 M w (Hn ++ H) (Zn ++ Z) → MapIsI b m w
theorem MapOkI.mk' {H : List Chunk} {Z : List Snap} {b : Nat} {m : KVI} (hm : mapCI b m ∈ H) : MapOkI H Z b m :=
  ⟨fun w0 M w Hn Zn hS => (hS.holds _ (List.mem_append_right _ hm)).1⟩
theorem MapOkI.old {w0 : World} {H : List Chunk} {Z : List Snap} {b : Nat} {m : KVI} (h : MapIsI b m w0) (hz : Snap.mk w0 (Old w0) ∈ Z) : MapOkI H Z b m := by
  refine ⟨fun w1 M w Hn Zn hS => ?_⟩
  obtain ⟨h0, es, c, e, r⟩ := h
  have hlt : b < w0.heap.size := by
    rcases Nat.lt_or_ge b w0.heap.size with h2 | h2
    · exact h2
    · rw [Array.getElem?_eq_none (by omega)] at e; cases e
  exact ⟨h0, es, c, (hS.snap _ (List.mem_append_right _ hz) b hlt).2.1.trans e, r⟩
section
variable {P : Program} {N : Fz} {f : Fr} {w w0 : World} {Q : Post} {ops l : List Oper} {o : Oper} {M : List Nat} {H H' : List Chunk} {Z : List Snap} {ρ : Operand → Value}
theorem St.setMapI {b : Nat} {m m' : KVI} {ob : Obj} (hS : St w0 M w H Z) (hr : Repl (mapCI b m) (mapCI b m') H H') (h : MapIsI b m' { w with heap := w.heap.setIfInBounds b ob }) : St w0 M { w with heap := w.heap.setIfInBounds b ob } H' Z := by
  refine hS.step hr ⟨rfl, rfl, rfl, by simp, fun k hk hn => ?_⟩ (mapC_holdsI h) fun b hb => .inl hb
  have hne : k ≠ b := fun e => hn (by simp [Chunk.fp, e])
  show (w.heap.setIfInBounds b _)[k]? = _
  rw [Array.getElem?_setIfInBounds_ne (by omega)]
theorem WL.mgetI {t k : TypeId} {z v : Value} {x i : Operand} {ok : Bool} {b : Nat} {m : KVI} {s : Int} (hS : St w0 M w H Z) (ho : o.op = .lookup t x i ok) (ht : mapOfI P t = some (k, z)) (hx : ev f x = .map (some b)) (hi : ev f i = ik s) (hm : MapOkI H Z b m) (hv : lookVI z m s ok = v)
    (hg : wants ops f o = true) {d : Nat} (hd : o.dst = some d) (hn : N.ok d = true) (h : WL P N ops l (up f d v) w Q) : WL P N ops (o :: l) f w Q :=
  .val hg hd hn (hv ▸ run_lookupI ho ht hx hi (hm.out _ _ _ [] [] hS)) h
theorem WL.msetI {t k : TypeId} {z u : Value} {x i y : Operand} {b : Nat} {m : KVI} {s : Int} (hS : St w0 M w H Z) (ho : o.op = .mapUpdate t x i y ∨ o.op = .insert t x i y) (ht : mapOfI P t = some (k, z)) (hx : ev f x = .map (some b)) (hi : ev f i = ik s) (hy : nfv (ev f y) = some u)
    (hr : Repl (mapCI b m) (mapCI b (msetI m s u)) H H') (hg : wants ops f o = true) (hd : o.dst = none) (h : ∀ w', St w0 M w' H' Z → WL P N ops l f w' Q) : WL P N ops (o :: l) f w Q := by
  obtain ⟨ob, h1, h2⟩ := run_mapUpdateI (u := u) (s := s) ht (hS.holds _ hr.mem).1
  have hrun : (execOp (ev f) o).run P w = .ok .skip { w with heap := w.heap.setIfInBounds b ob } := by
    rcases ho with ho | ho <;> simp [execOp, ho, hx, hi, ← nfv_eq hy, Sem.run_bind, h1]
  exact .unit0 hg hd hrun (h _ (hS.setMapI hr h2))
theorem WL.mdelI {t k t2 : TypeId} {z : Value} {x i : Operand} {b : Nat} {m : KVI} {s : Int} (hS : St w0 M w H Z) (ho : o.op = .call ⟨.builtin .delete, ⟨[x, i]⟩, ⟨[t, t2]⟩⟩) (ht : mapOfI P t = some (k, z)) (hx : ev f x = .map (some b)) (hi : ev f i = ik s)
    (hr : Repl (mapCI b m) (mapCI b (mdelI m s)) H H') (hg : wants ops f o = true) {d : Nat} (hd : o.dst = some d) (hn : N.ok d = true) (h : ∀ w', St w0 M w' H' Z → WL P N ops l (up f d (.tuple #[])) w' Q) : WL P N ops (o :: l) f w Q := by
  obtain ⟨ob, h1, h2⟩ := run_deleteI (t2 := t2) (ty := o.type) (s := s) ht (hS.holds _ hr.mem).1
  have hrun : (execOp (ev f) o).run P w = .ok (.value (.tuple #[])) { w with heap := w.heap.setIfInBounds b ob } := by
    simp [execOp, ho, resolve, invoke, builtin, hx, hi, Sem.run_bind, h1]
  exact .val hg hd hn hrun (h _ (hS.setMapI hr h2))
end
section
variable {P : Program} {N : Fz} {f : Fr} {w w0 : World} {Q : Post} {ops : List Oper} {M : List Nat} {H0 H H' : List Chunk} {Z0 Z : List Snap} {q : Qs} {l : List Nat} {i : Nat}
theorem WD.mgetI {t k : TypeId} {z v : Value} {x y : Operand} {ok : Bool} {b : Nat} {m : KVI} {s : Int} (ho : (ix ops i).op = .lookup t x y ok) (ht : mapOfI P t = some (k, z)) (hx : ev f x = .map (some b)) (hi : ev f y = ik s) (hm : MapOkI H0 Z0 b m) (hv : lookVI z m s ok = v)
    (hq : q.contains i = true) (hg : wants ops f (ix ops i) = true) {d : Nat} (hd : (ix ops i).dst = some d) (hn : N.ok d = true) (h : WD P N (SS w0 M H0 Z0) ops q l (up f d v) w Q) : WD P N (SS w0 M H0 Z0) ops q (i :: l) f w Q :=
  .takeS hq (by unfold blind; rw [ho]) hd hn hg (fun w' ⟨Hn, Zn, hS⟩ => hv ▸ run_lookupI ho ht hx hi (hm.out _ _ _ Hn Zn hS)) h
end
end Go.J

/- What is proved: a struct of a text and an int may be a key of a map. Conditions: its type. -/
namespace Go.J
open Go Go.RowKit
theorem run_checkKey_pair {P : Program} {k : TypeId} {f1 f2 : Field} {kk : IntKind} {s : List UInt8} {n : Int} {w : World} (em : Bool) (m : Nat) (hk : P.underlying k = some (.struct #[f1, f2])) (h1 : P.underlying f1.type = some .string) (h2 : P.underlying f2.type = some (.int kk))
    (p1 : partOf P f1.type [str s, .int .i64 n] f1.offset = some (str s)) (p2 : partOf P f2.type [str s, .int .i64 n] f2.offset = some (.int .i64 n)) : (Instr.checkKey em (m + 2) k (pk (s, n))).run P w = .ok () w := by
  have c1 : ∀ w, (Instr.checkKey em (m + 1) f1.type (str s)).run P w = .ok () w := fun w => run_checkKey h1 em m
  have c2 : ∀ w, (Instr.checkKey em (m + 1) f2.type (.int .i64 n)).run P w = .ok () w := fun w => by
    simp only [Instr.checkKey, Sem.run_bind, run_underlying h2, Result.andThen_ok]; rfl
  have q1 := fun w => run_part (P := P) (w := w) p1
  have q2 := fun w => run_part (P := P) (w := w) p2
  rw [show m + 2 = (m + 1) + 1 from rfl, Instr.checkKey]
  simp only [Sem.run_bind, run_underlying hk, Result.andThen_ok]
  by_cases e1 : f1.name = "_" <;> by_cases e2 : f2.name = "_" <;> simp [e1, e2, q1, q2, c1, c2, Sem.run_bind, pk]
end Go.J

/- What is proved: the walk's rules for a map's entry that is found first and stored to later. Conditions: as each rule names them. -/
namespace Go.J
open Go Go.RowKit
theorem str_inj {a b : List UInt8} (h : str a = str b) : a = b := by
  have h1 : ByteArray.mk ⟨a⟩ = ByteArray.mk ⟨b⟩ := Value.string.inj h
  have h2 := congrArg (fun x : ByteArray => x.data.toList) h1
  exact h2
def entM (m : KV) (s : List UInt8) (z : Value) : KV := match mget m s with
  | some _ => m
  | none => m ++ [(s, z)]
def EntIs (b : Nat) (m : KV) (s : List UInt8) (n : Int) (w : World) : Prop := (m.map Prod.fst).Nodup ∧ ∃ es clock, w.heap[b]? = some (.map ⟨es⟩ clock) ∧ kvs es = kvm m ∧ (es.map (·.born)).Nodup ∧ (∀ e ∈ es, e.born < clock) ∧ ∃ (i : Nat) (e : MapEntry), es[i]? = some e ∧ e.key = str s ∧ (e.born : Int) = n
theorem EntIs.local {b : Nat} {m : KV} {s : List UInt8} {n : Int} : Local [b] (EntIs b m s n) := fun w w' h ⟨h0, es, c, e, r⟩ => ⟨h0, es, c, (h b (by simp)).trans e, r⟩
abbrev entC (b : Nat) (m : KV) (s : List UInt8) (n : Int) : Chunk := .obj [b] (EntIs b m s n)
theorem entC_holds {b : Nat} {m : KV} {s : List UInt8} {n : Int} {w : World} (h : EntIs b m s n w) : (entC b m s n).holds w := ⟨h, EntIs.local⟩
theorem mset_entM {m : KV} {s : List UInt8} {z u : Value} : mset (entM m s z) s u = mset m s u := by
  unfold entM
  cases h : mget m s with
  | some v => rfl
  | none =>
    dsimp only
    induction m with
    | nil => simp [mset]
    | cons p r ih =>
      obtain ⟨k, v⟩ := p
      simp only [mget] at h
      by_cases e : s = k
      · rw [if_pos e] at h; cases h
      · rw [if_neg e] at h
        simp only [List.cons_append, mset, if_neg e]
        rw [ih h]
section
variable {P : Program} {w : World} {ρ : Operand → Value} {o : Oper}
theorem run_mapEntry {t k : TypeId} {z : Value} {b : Nat} {m : KV} {s : List UInt8} (ht : mapOf P t = some (k, z)) (hm : MapIs b m w) :
    ∃ ob n, (Instr.mapEntry t (.map (some b)) (str s)).run P w = .ok (.tuple #[(mget m s).getD z, .int .i64 n]) { w with heap := w.heap.setIfInBounds b ob } ∧ EntIs b (entM m s z) s n { w with heap := w.heap.setIfInBounds b ob } := by
  obtain ⟨e, hu, hk, hz⟩ := mapOf_spec ht
  obtain ⟨hnd, es, clock, hb, hkv, hbo, hcl⟩ := hm
  have hz := run_zero hz
  have hlt : b < w.heap.size := by
    rcases Nat.lt_or_ge b w.heap.size with h | h
    · exact h
    · rw [Array.getElem?_eq_none (by omega)] at hb; cases hb
  rcases find_spec s es m 0 hkv with ⟨h1, h2, h3, _⟩ | ⟨v, j, e', h1, h2, h3, h4, h5, h6, _⟩
  · refine ⟨.map ⟨es ++ [{ key := str s, val := z, born := clock }]⟩ (clock + 1), clock, ?_, ?_, es ++ [{ key := str s, val := z, born := clock }], clock + 1, by simp [hlt], ?_, ?_, ?_, es.length, { key := str s, val := z, born := clock }, by simp, rfl, rfl⟩
    · simp only [Instr.mapEntry, Sem.run_bind, run_underlying hu, Result.andThen_ok, run_getMap hb, run_checkKey hk, run_findKey hk h2, hz]
      rw [run_setMap hb, h1]
      simp [goInt]
    · unfold entM
      rw [h1]
      show ((m ++ [(s, z)]).map Prod.fst).Nodup
      rw [List.map_append, List.nodup_append]
      exact ⟨hnd, by simp, fun a ha b hb => by
        simp at hb; subst hb; rintro rfl; exact mget_none.1 h1 ha⟩
    · unfold entM
      rw [h1]
      simp only [kvs, kvm, List.map_append] at hkv ⊢
      rw [hkv]; rfl
    · rw [List.map_append, List.nodup_append]
      refine ⟨hbo, by simp, fun a ha b hb => ?_⟩
      simp at hb; subst hb
      obtain ⟨e, he, rfl⟩ := List.mem_map.1 ha
      have := hcl e he; omega
    · intro e he
      rcases List.mem_append.1 he with he | he
      · have := hcl e he; omega
      · simp at he; subst he; show clock < clock + 1; omega
  · simp only [Nat.zero_add] at h2
    have hkey : (((Array.mk es)[j]?).map (·.key)).getD (str s) = str s := by simp [h3, h4]
    have hborn : (((Array.mk es)[j]?).map (·.born)).getD 0 = e'.born := by simp [h3]
    have hsame : es.modify j (fun e => { e with key := str s }) = es := by
      apply List.ext_getElem?; intro i
      rw [List.getElem?_modify]
      by_cases hi : j = i
      · subst hi
        rw [h3]
        simp only [Option.map_some, if_true]
        congr 1
        obtain ⟨k, v, n⟩ := e'
        have h4 : k = str s := h4
        subst h4; rfl
      · simp [hi]
    refine ⟨.map ⟨es⟩ clock, e'.born, ?_, ?_, es, clock, by simp [hlt], ?_, hbo, hcl, j, e', h3, h4, rfl⟩
    · have hks : (Instr.keyThatStays (str s) (str s)).run P w = .ok (str s) w := by
        unfold Instr.keyThatStays; rw [sameBits_str]; rfl
      simp only [Instr.mapEntry, Sem.run_bind, run_underlying hu, Result.andThen_ok, run_getMap hb, run_checkKey hk, run_findKey hk h2, hkey, hks, hborn]
      have hsm : (Array.mk es).modify j (fun e => { e with key := str s }) = ⟨es⟩ := by
        apply Array.ext'
        rw [Array.toList_modify]
        exact hsame
      rw [hsm, run_setMap hb, h1]
      simp [goInt, h3]
    · unfold entM
      rw [h1]; exact hnd
    · unfold entM
      rw [h1]; exact hkv
theorem run_entryStore {t : TypeId} {u : Value} {b : Nat} {m : KV} {s : List UInt8} {n : Int} {k : IntKind} (hm : EntIs b m s n w) :
    ∃ ob, (Instr.entryStore t (.map (some b)) (.int k n) u).run P w = .ok () { w with heap := w.heap.setIfInBounds b ob } ∧ MapIs b (mset m s u) { w with heap := w.heap.setIfInBounds b ob } := by
  obtain ⟨hnd, es, clock, hb, hkv, hbo, hcl, i, e, hi, hek, heb⟩ := hm
  have hlt : b < w.heap.size := by
    rcases Nat.lt_or_ge b w.heap.size with h | h
    · exact h
    · rw [Array.getElem?_eq_none (by omega)] at hb; cases hb
  have hil : i < es.length := by
    rcases Nat.lt_or_ge i es.length with h | h
    · exact h
    · rw [List.getElem?_eq_none h] at hi; cases hi
  have hge : es[i] = e := by rw [List.getElem?_eq_getElem hil] at hi; exact Option.some.inj hi
  have hfi : (Array.mk es).findIdx? (fun e => (e.born : Int) == n) = some i := by
    rw [List.findIdx?_toArray, List.findIdx?_eq_some_iff_getElem]
    refine ⟨hil, by rw [hge]; simpa using heb, fun j hj => ?_⟩
    have hne : (es.map (·.born))[j]'(by simp; omega) ≠ (es.map (·.born))[i]'(by simpa using hil) := fun h => by
      have := (List.getElem_inj hbo).1 h
      omega
    simp only [List.getElem_map] at hne
    rw [hge] at hne
    have : ¬ ((es[j]).born : Int) = n := fun h => hne (by omega)
    simpa using this
  have hkl : (kvm m).length = es.length := by rw [← hkv]; simp [kvs]
  rcases find_spec s es m 0 hkv with ⟨h1, _⟩ | ⟨v, j, e', h1, h2, h3, h4, h5, h6, _⟩
  · exfalso
    refine mget_none.1 h1 ?_
    have hml : i < m.length := by simp [kvm] at hkl; omega
    have : (kvs es)[i]? = (kvm m)[i]? := by rw [hkv]
    simp only [kvs, kvm, List.getElem?_map, hi, List.getElem?_eq_getElem hml, Option.map_some, Option.some.injEq, Prod.mk.injEq] at this
    have h2 : (m[i]).1 = s := by
      have h3 := this.1
      rw [hek] at h3
      exact (str_inj h3).symm
    rw [← h2]
    exact List.mem_map_of_mem (List.getElem_mem hml)
  · have hij : j = i := by
      have hjl : j < es.length := by
        rcases Nat.lt_or_ge j es.length with h | h
        · exact h
        · rw [List.getElem?_eq_none h] at h3; cases h3
      have hmi : i < m.length := by simp [kvm] at hkl; omega
      have hmj : j < m.length := by simp [kvm] at hkl; omega
      have ki : (m[i]).1 = s := by
        have : (kvs es)[i]? = (kvm m)[i]? := by rw [hkv]
        simp only [kvs, kvm, List.getElem?_map, hi, List.getElem?_eq_getElem hmi, Option.map_some, Option.some.injEq, Prod.mk.injEq] at this
        have h3 := this.1
        rw [hek] at h3
        exact (str_inj h3).symm
      have kj : (m[j]).1 = s := by
        have : (kvs es)[j]? = (kvm m)[j]? := by rw [hkv]
        simp only [kvs, kvm, List.getElem?_map, h3, List.getElem?_eq_getElem hmj, Option.map_some, Option.some.injEq, Prod.mk.injEq] at this
        have h3 := this.1
        rw [h4] at h3
        exact (str_inj h3).symm
      have hne : (m.map Prod.fst)[j]'(by simpa using hmj) = (m.map Prod.fst)[i]'(by simpa using hmi) := by
        rw [List.getElem_map, List.getElem_map, ki, kj]
      exact (List.getElem_inj hnd).1 hne
    subst hij
    have hmod : es.modify j (fun e => { e with val := u }) = es.modify j (fun e => { e with key := str s, val := u }) := by
      apply List.ext_getElem?; intro i
      rw [List.getElem?_modify, List.getElem?_modify]
      by_cases hi2 : j = i
      · subst hi2
        rw [hi]
        simp only [Option.map_some, if_true]
        obtain ⟨k, v, n⟩ := e
        have hek : k = str s := hek
        subst hek; rfl
      · simp [hi2]
    refine ⟨.map ⟨es.modify j fun e => { e with val := u }⟩ clock, ?_, mset_nodup hnd _ _, es.modify j fun e => { e with val := u }, clock, by simp [hlt], by rw [hmod]; exact h6 u, ?_, ?_⟩
    · simp only [Instr.entryStore, Sem.run_bind, run_getMap hb, Result.andThen_ok, asInt, asIntOf, Sem.run_pure, hfi]
      rw [run_setMap hb]
      simp
    · have : (es.modify j fun e => { e with val := u }).map (·.born) = es.map (·.born) := by
        apply List.ext_getElem?; intro i
        simp only [List.getElem?_map, List.getElem?_modify]
        split <;> simp_all
      rw [this]; exact hbo
    · intro e he
      obtain ⟨i, hi, hge⟩ := List.mem_iff_getElem.1 he
      rw [List.getElem_modify] at hge
      split at hge
      · subst hge; exact hcl (es[i]'(by simpa using hi)) (List.getElem_mem _)
      · subst hge; exact hcl _ (List.getElem_mem _)
end
section
variable {P : Program} {N : Fz} {f : Fr} {w w0 : World} {Q : Post} {ops : List Oper} {M : List Nat} {H0 H H' : List Chunk} {Z0 Z : List Snap} {q : Qs} {l : List Nat} {i : Nat}
theorem WD.mapEntry {H' : Int → List Chunk} {t k : TypeId} {z : Value} {x y : Operand} {b : Nat} {m : KV} {s : List UInt8} (hS : St w0 M w H Z) (ho : (ix ops i).op = .mapEntry t x y) (ht : mapOf P t = some (k, z)) (hx : ev f x = .map (some b)) (hy : ev f y = str s)
    (hr : ∀ n, Repl (mapC b m) (entC b (entM m s z) s n) H (H' n)) (hM : ∀ n, More H0 Z0 (H' n) Z) (hq : q.contains i = false) (hi : Nat.blt i ops.length = true) (hg : wants ops f (ix ops i) = true) {d : Nat} (hd : (ix ops i).dst = some d) (hn : N.ok d = true)
    (h : ∀ w' n, St w0 M w' (H' n) Z → More H0 Z0 (H' n) Z → WD P N (SS w0 M H0 Z0) ops q l (up f d (.tuple #[(Go.J.mget m s).getD z, .int .i64 n])) w' Q) : WD P N (SS w0 M H0 Z0) ops q (i :: l) f w Q := by
  obtain ⟨ob, n, h1, h2⟩ := run_mapEntry (s := s) ht (hS.holds _ (hr 0).mem).1
  have hrun : (execOp (ev f) (ix ops i)).run P w = .ok (.value (.tuple #[(Go.J.mget m s).getD z, .int .i64 n])) { w with heap := w.heap.setIfInBounds b ob } := by
    simp [execOp, ho, hx, hy, Sem.run_bind, h1]
  have hS' : St w0 M { w with heap := w.heap.setIfInBounds b ob } (H' n) Z := by
    refine hS.step (hr n) ⟨rfl, rfl, rfl, by simp, fun k hk hn => ?_⟩ (entC_holds h2) fun b hb => .inl hb
    have hne : k ≠ b := fun e => hn (by simp [Chunk.fp, e])
    show (w.heap.setIfInBounds b _)[k]? = _
    rw [Array.getElem?_setIfInBounds_ne (by omega)]
  exact .val hq hi hg hd hn hrun ((hM n).ss hS') (h _ n hS' (hM n))
theorem WD.entryStore {t : TypeId} {u : Value} {x y a : Operand} {b : Nat} {m : KV} {s : List UInt8} {n : Int} {k : IntKind} (hS : St w0 M w H Z) (ho : (ix ops i).op = .entryStore t x y a) (hx : ev f x = .map (some b)) (hy : ev f y = .int k n) (ha : nfv (ev f a) = some u)
    (hr : Repl (entC b m s n) (mapC b (mset m s u)) H H') (hM : More H0 Z0 H' Z) (hq : q.contains i = false) (hi : Nat.blt i ops.length = true) (hg : wants ops f (ix ops i) = true) (hd : (ix ops i).dst = none)
    (h : ∀ w', St w0 M w' H' Z → More H0 Z0 H' Z → WD P N (SS w0 M H0 Z0) ops q l f w' Q) : WD P N (SS w0 M H0 Z0) ops q (i :: l) f w Q := by
  obtain ⟨ob, h1, h2⟩ := run_entryStore (P := P) (t := t) (u := u) (k := k) (hS.holds _ hr.mem).1
  have hrun : (execOp (ev f) (ix ops i)).run P w = .ok .skip { w with heap := w.heap.setIfInBounds b ob } := by
    simp [execOp, ho, hx, hy, ← nfv_eq ha, Sem.run_bind, h1]
  have hS' : St w0 M { w with heap := w.heap.setIfInBounds b ob } H' Z := by
    refine hS.step hr ⟨rfl, rfl, rfl, by simp, fun k hk hn => ?_⟩ (mapC_holds h2) fun b hb => .inl hb
    have hne : k ≠ b := fun e => hn (by simp [Chunk.fp, e])
    show (w.heap.setIfInBounds b _)[k]? = _
    rw [Array.getElem?_setIfInBounds_ne (by omega)]
  exact .unit0 hq hi hg hd hrun (hM.ss hS') (h _ hS' hM)
end
section
variable {P : Program} {rs : Array ResultVar} {fn : Func} {R : Value → World → Prop} {f : Fr} {w : World}
theorem res4 {t u x y : Tmp} (h : fn.results = #[.tmp t, .tmp u, .tmp x, .tmp y]) : ∀ a, Is a fn.ntmps f → (results fn a.tmps).run P w = .ok (.tuple #[f t, f u, f x, f y]) w := fun a ha => by
  rw [← ha.get t, ← ha.get u, ← ha.get x, ← ha.get y]
  simp [results, h]
theorem fin4r {t u x y : Tmp} {v v' v'' v3 : Value} (h : fn.results = #[.tmp t, .tmp u, .tmp x, .tmp y]) (hv : nfv (f t) = some v) (hv' : nfv (f u) = some v') (hv'' : nfv (f x) = some v'') (hv3 : nfv (f y) = some v3) (hR : R (.tuple #[v, v', v'', v3]) w) : funQ P rs fn (Ret R) .ret f w := by unfold funQ; exact ⟨_, ⟨_, rfl, hR⟩, by rw [nfv_eq hv, nfv_eq hv', nfv_eq hv'', nfv_eq hv3]; exact res4 h⟩
end
end Go.J

/- What is proved: rules for literals, appends and cuts whose place among a region's effects is drawn. Conditions: as each names them. -/
namespace Go.J
open Go Go.RowKit
section
variable {P : Program} {N : Fz} {f : Fr} {w w0 : World} {Q : Post} {ops : List Oper} {M : List Nat} {H0 H H' : List Chunk} {Z0 Z : List Snap} {q : Qs} {l : List Nat} {i : Nat}
theorem WDo.app {s x : Operand} {t e : TypeId} {size bytes n m cap c b off : Nat} {A : Option Addr} {xs news : List Value} (hS : St w0 M w H Z) (hp : Pull (.own (.slice A n cap) e size n xs) H H') (hM : More H0 Z0 H' Z) (ho : (ix ops i).op = .call ⟨.builtin .append, ⟨[s, x]⟩, ⟨[t, t]⟩⟩) (hi0 : appOf P t = some (e, size, bytes))
    (hs : ev f s = .slice A n cap) (hx : ev f x = .slice (some ⟨b, off, none⟩) m c) (hnews : RdOk H Z b off news) (hl : news.length = m * size) (h1 : one news = true) (hb : (n + m) * bytes ≤ 140737488355328)
    (hi : Nat.blt i ops.length = true) (hg : wants ops f (ix ops i) = true) {d : Nat} (hd : (ix ops i).dst = some d) (hn : N.ok d = true)
    (h : ∀ A' cap' w', St w0 M w' (.own (.slice A' (n + m) cap') e size (n + m) (xs ++ news) :: H') Z → More H0 Z0 (.own (.slice A' (n + m) cap') e size (n + m) (xs ++ news) :: H') Z → WD P N (SS w0 M H0 Z0) ops q l (up f d (.slice A' (n + m) cap')) w' Q) : WDo P N (SS w0 M H0 Z0) ops q i l f w Q := by
  have hS' := hS.pull hp
  obtain ⟨A', cap', w', hrun, hown', hgr, hat⟩ := run_appOp (P := P) (w := w) ho hi0 hs hx (hS'.holds _ (List.Mem.head _)) (hnews.out w0 M w [] [] hS) hl h1 hb
  have hS2 := hS'.app (.here) hown' hgr hat
  exact .val hi hg hd hn hrun ((hM.chunk _).ss hS2) (h A' cap' w' hS2 (hM.chunk _))
theorem WD.appS {s x : Operand} {t e : TypeId} {size bytes n m cap c : Nat} {A B : Option Addr} {xs news : List Value} (hS : St w0 M w H Z) (hp : Pull (.own (.slice A n cap) e size n xs) H H') (hM : More H0 Z0 H' Z) (ho : (ix ops i).op = .call ⟨.builtin .append, ⟨[s, x]⟩, ⟨[t, t]⟩⟩) (hi0 : appOf P t = some (e, size, bytes))
    (hs : ev f s = .slice A n cap) (hx : ev f x = .slice B m c) (hnews : RdSl H Z B m news) (hl : news.length = m * size) (h1 : one news = true) (hb : (n + m) * bytes ≤ 140737488355328)
    (hq : q.contains i = false) (hi : Nat.blt i ops.length = true) (hg : wants ops f (ix ops i) = true) {d : Nat} (hd : (ix ops i).dst = some d) (hn : N.ok d = true)
    (h : ∀ A' cap' w', St w0 M w' (.own (.slice A' (n + m) cap') e size (n + m) (xs ++ news) :: H') Z → More H0 Z0 (.own (.slice A' (n + m) cap') e size (n + m) (xs ++ news) :: H') Z → WD P N (SS w0 M H0 Z0) ops q l (up f d (.slice A' (n + m) cap')) w' Q) : WD P N (SS w0 M H0 Z0) ops q (i :: l) f w Q := by
  rcases hnews with ⟨rfl, rfl, rfl⟩ | ⟨b, off, rfl, hnews⟩
  · have hS' := hS.pull hp
    have hcap := (hS'.own_len (List.Mem.head _)).2.2
    have hS2 := hS'.recast (c' := .own (.slice A (n + 0) cap) e size (n + 0) (xs ++ [])) .here (fun h => by simpa using h) (fun b hb => by simpa using hb)
    exact .val hq hi hg hd hn (run_app0 ho hi0 hs hx hcap) ((hM.chunk _).ss hS2) (h A cap w hS2 (hM.chunk _))
  · exact .app hS hp hM ho hi0 hs hx hnews hl h1 hb hq hi hg hd hn h
theorem WDo.callG {fid : FuncId} {xs : List Operand} {ts : Array TypeId} {args : List Value} {R : Value → World → Prop} (ho : (ix ops i).op = .call ⟨.value (.func fid), ⟨xs⟩, ts⟩) (ha : xs.map (ev f) = args)
    (hc : Cal P fid args w R) (hi : Nat.blt i ops.length = true) (hg : wants ops f (ix ops i) = true) {d : Nat} (hd : (ix ops i).dst = some d) (hn : N.ok d = true)
    (h : ∀ v w', R v w' → SS w0 M H0 Z0 w' ∧ WD P N (SS w0 M H0 Z0) ops q l (up f d v) w' Q) : WDo P N (SS w0 M H0 Z0) ops q i l f w Q :=
  .enter hi hg hd hn (run_callOp ho ha hc.ok) hc.calls h
theorem WDo.alloc {t : TypeId} {z : Value} (hS : St w0 M w H Z) (hM : More H0 Z0 H Z) (ho : (ix ops i).op = .alloc t) (hz : tyZero P t = some z) {cs : List Value} (hcs : cellsO z = some cs) (hi : Nat.blt i ops.length = true) (hg : wants ops f (ix ops i) = true) {d : Nat} (hd : (ix ops i).dst = some d) (hn : N.ok d = true)
    (h : ∀ w' b, St w0 M w' (.box b t cs :: H) Z → More H0 Z0 (.box b t cs :: H) Z → WD P N (SS w0 M H0 Z0) ops q l (up f d (.pointer (some ⟨b, 0, none⟩))) w' Q) : WDo P N (SS w0 M H0 Z0) ops q i l f w Q :=
  .val hi hg hd hn (run_allocOp ho hz) ((hM.chunk _).ss (hS.newBox _ _)) (by rw [cellsO_eq hcs]; exact h _ _ (hS.newBox _ _) (hM.chunk _))
end
theorem St.ownSlY {w0 w : World} {M : List Nat} {D H : List Chunk} {Z : List Snap} {α : Type} {enc : α → List Value} {sz : Nat} {hsz : ∀ x, (enc x).length = sz} {e : TypeId} {A : Option Addr} {n cap n' : Nat} {l : List α} (h0 : 0 < sz) (hS : St w0 M w (D ++ H) Z) (hm : Chunk.own (.slice A n cap) e sz n' (l.flatMap enc) ∈ H) :
    SlAt (Cod.flat enc sz hsz) (fun b => b < w.heap.size ∧ b ∉ fps D) w A l :=
  SlAt.ofOwn h0 (hS.holds _ (List.mem_append_right _ hm)) fun g hg => by
    refine ⟨(hS.inb _ (List.mem_append_right _ hm) g (by simp [Chunk.fp, hg])).1, fun hf => ?_⟩
    obtain ⟨c, hc, hb⟩ := mem_fps.1 hf
    exact (List.pairwise_append.1 hS.disj).2.2 c hc _ hm g hb (by simp [Chunk.fp, hg])
theorem St.slY {w0 w wz : World} {M : List Nat} {D H : List Chunk} {Z : List Snap} {α : Type} {c : Cod α} {F : Nat → Prop} {A : Option Addr} {l : List α} (hS : St w0 M w (D ++ H) Z) (hz : Snap.mk wz F ∈ Z) (h : SlAt c F wz A l) : SlAt c (fun b => b < w.heap.size ∧ b ∉ fps D) w A l :=
  (h.loc fun b hb => (hS.snap _ hz b hb).2.1).mono fun b hb => by
    obtain ⟨h1, _, h3⟩ := hS.snap _ hz b hb
    refine ⟨h1, fun hf => ?_⟩
    obtain ⟨d, hd, hbd⟩ := mem_fps.1 hf
    exact h3 d (List.mem_append_left _ hd) hbd
theorem WC.drawLP {P : Program} {N : Fz} {f : Fr} {w w0 : World} {Q : Post} {ops : List Oper} {M : List Nat} {H H' : List Chunk} {Z : List Snap} {id : Nat} (D : List Chunk) (hS : St w0 M w H Z) (hp : Pulls D H H') (q l : List Nat) (t : Pl) (hm : P.follows .mixedOrders = true)
    (hk : (Region.noSelect ops.toArray && ordOk ops.toArray ⟨q, t⟩ (Array.replicate ops.toArray.size false) l && Nat.beq (l.length + t.len) ops.length) = true)
    (h : ∀ w', St w0 M w' (D ++ H') Z → More H' Z (D ++ H') Z → WD P N (SS w0 M H' Z) ops ⟨q, t⟩ l f w' Q) (hok : okR N ops = true := by rfl) : WC P N (.region id ops.toArray true) f w Q := by
  have hS' := hS.pulls hp
  simp only [Bool.and_eq_true] at hk
  exact WC.draw (SS w0 M H' Z) ⟨q, t⟩ l hm hk.1.1 hk.1.2 hk.2 ((More.app (.refl _ _)).ss hS'.drew) (h _ hS'.drew (More.app (.refl _ _))) hok
theorem InL.none (w : World) : InL w [] := ⟨fun c hc => (by cases hc), fun c hc => (by cases hc), .nil⟩
end Go.J

/- What is proved: rows of entries as chunks. Conditions: none. -/
namespace Go.Proofs.YtccfiohagbneaaaGreatDoor
open Go Go.J Go.RowKit
abbrev eC (A : Option Addr) (c : Nat) (s : List Ent) : Chunk := .own (.slice A s.length c) 165 3 s.length (s.flatMap encEnt)
theorem eC_snoc {A : Option Addr} {c : Nat} {s : List Ent} {e : Ent} : Chunk.own (.slice A (s.length + 1) c) 165 3 (s.length + 1) (s.flatMap encEnt ++ encEnt e) = eC A c (s ++ [e]) := by
  unfold eC
  rw [List.flatMap_append, List.length_append]
  rfl
end Go.Proofs.YtccfiohagbneaaaGreatDoor

/- What is proved: what the program's disk answers of itself: whether it has stopped, how many steps it did. Conditions: none. -/
namespace Go.Proofs.YtccfiohagbneaaaGreatDoor
open Go Go.J Go.RowKit
set_option maxHeartbeats 4000000 in
set_option maxRecDepth 100000 in
theorem ddown_c {b mb lb : Nat} {D : Dk} {w0 : World} (h : DkIs b mb lb D w0) : Cal Tryz.prog 26 [.pointer (some ⟨b, 0, none⟩)] w0 (fun v w' => Upd [] w0 w' ∧ v = .bool D.down) := by
  refine Cal.mk' (by kernel_rfl) Tryz.func26 rfl rfl fun hS => ?_
  obtain ⟨_, _, _, hb, hm, hlm⟩ := h
  have hb : w0.heap[b]? = some (.cells ⟨[.map (some mb), .map (some lb), .int .i64 D.steps, .int .i64 D.stamps, .int .i64 D.armed, .bool D.down]⟩ 122 (0, 0)) := hb
  repeat' (first | (show WL _ _ _ _ _ _ _; first | refine WL.pure rfl rfl rfl rfl ?_ | refine WL.nil ?_ | (refine WL.load hS rfl rfl (LdOk.old hb Mm rfl) rfl rfl rfl ?_)) | (show WC _ _ _ _ _ _; first | refine WC.seq ?_ | refine WC.region ?_ | refine WC.ret ?_) | refine seqQ_n ?_)
  exact fin1r rfl rfl ⟨hS.upd, rfl⟩
set_option maxHeartbeats 4000000 in
set_option maxRecDepth 100000 in
theorem dstp_c {b mb lb : Nat} {D : Dk} {w0 : World} (h : DkIs b mb lb D w0) : Cal Tryz.prog 32 [.pointer (some ⟨b, 0, none⟩)] w0 (fun v w' => Upd [] w0 w' ∧ v = .int .i64 D.steps) := by
  refine Cal.mk' (by kernel_rfl) Tryz.func32 rfl rfl fun hS => ?_
  obtain ⟨_, _, _, hb, hm, hlm⟩ := h
  have hb : w0.heap[b]? = some (.cells ⟨[.map (some mb), .map (some lb), .int .i64 D.steps, .int .i64 D.stamps, .int .i64 D.armed, .bool D.down]⟩ 122 (0, 0)) := hb
  repeat' (first | (show WL _ _ _ _ _ _ _; first | refine WL.pure rfl rfl rfl rfl ?_ | refine WL.nil ?_ | (refine WL.load hS rfl rfl (LdOk.old hb Mm rfl) rfl rfl rfl ?_)) | (show WC _ _ _ _ _ _; first | refine WC.seq ?_ | refine WC.region ?_ | refine WC.skip ?_ | refine WC.ret ?_ | refine WC.condF rfl (by with_reducible rfl) ?_) | refine seqQ_n ?_)
  exact fin1r rfl rfl ⟨hS.upd, rfl⟩
end Go.Proofs.YtccfiohagbneaaaGreatDoor

/- What is proved: the walk's rules for calls that may panic, in a region that draws its order. Conditions: as each rule names them. -/
namespace Go.J
open Go Go.RowKit
section
variable {P : Program} {N : Fz} {f : Fr} {w w0 : World} {Q : Post} {ops : List Oper} {S : World → Prop} {q : Qs} {l : List Nat} {i : Nat} {M : List Nat} {H0 H H' D : List Chunk} {Z0 Z : List Snap}
theorem WD.enterP (hq : q.contains i = false) (hi : Nat.blt i ops.length = true) (hg : wants ops f (ix ops i) = true) {d : Nat} (hd : (ix ops i).dst = some d) (hn : N.ok d = true) {fid : FuncId} {args : Array Value} {w' : World}
    (hr : (execOp (ev f) (ix ops i)).run P w = .ok (.enter fid args) w') {R : Value → World → Prop} {X : List PanicEntry → World → Prop} (hc : Calls P fid args w' (RetP R X))
    (h : ∀ v w'', R v w'' → S w'' ∧ WD P N S ops q l (up f d v) w'' Q) (hx : ∀ c w'', X c w'' → Q (.panic c) (fun _ => undef) w'') : WD P N S ops q (i :: l) f w Q := by
  refine .eff hq fun a ha K hK => ?_
  unfold Go.wpOp
  rw [ix_some (by simp only [List.size_toArray]; exact Nat.le_of_ble_eq_true hi)]
  simp only
  rw [if_pos ((wanted_eq ha _).trans hg)]
  refine .inl ?_
  simp only [Oper.wp, ha.eval, hr, Oper.upon]
  refine hc.mono fun e w'' he => ?_
  rcases he with ⟨v, rfl, hR⟩ | ⟨c, rfl, hX⟩
  · obtain ⟨h1, h2⟩ := h v w'' hR
    exact hK _ _ _ (ha.put1 hd hn v) h1 h2
  · exact ⟨ha.defers, ha.pins, hx c w'' hX⟩
theorem WD.callPL {fid : FuncId} {xs : List Operand} {ts : Array TypeId} {args : List Value} {R : Value → World → Prop} {X : List PanicEntry → World → Prop} (hS : St w0 M w H Z) (hp : Pulls D H H') (hM : More H0 Z0 H' Z) (ho : (ix ops i).op = .call ⟨.value (.func fid), ⟨xs⟩, ts⟩) (ha : xs.map (ev f) = args)
    (hc : InL w D → CalP P fid args w R X) (hq : q.contains i = false) (hi : Nat.blt i ops.length = true) (hg : wants ops f (ix ops i) = true) {d : Nat} (hd : (ix ops i).dst = some d) (hn : N.ok d = true)
    (h : ∀ v w', R v w' → ∃ D', MutL w w' D D' ∧ (St w0 M w' (D' ++ H') Z → More H0 Z0 (D' ++ H') Z → WD P N (SS w0 M H0 Z0) ops q l (up f d v) w' Q))
    (hx : ∀ c w', X c w' → (∀ D', MutL w w' D D' → St w0 M w' (D' ++ H') Z) → Q (.panic c) (fun _ => undef) w') : WD P N (SS w0 M H0 Z0) ops q (i :: l) f w Q :=
  have hS' := hS.pulls hp
  .enterP hq hi hg hd hn (run_callOp ho ha (hc hS'.inL).ok) (hc hS'.inL).calls (fun v w' hR => by
    obtain ⟨D', hm, hk⟩ := h v w' hR
    have hS2 := hS'.mutL hm
    exact ⟨(More.app hM).ss hS2, hk hS2 (More.app hM)⟩) fun c w' hX => hx c w' hX fun D' hm => hS'.mutL hm
end
end Go.J

/- What is proved: how a law's arguments that are lists of entries read. Conditions: none. -/
namespace Go.Proofs.YtccfiohagbneaaaGreatDoor
open Go Go.J Go.RowKit
def QEnt (e : Ent) (b : Nat) : Prop := e.path.length + e.data.length + 3 ≤ b
theorem list2S {α : Type} {l : List α} (h : l.length = 2) : ∃ a b, l = [a, b] := by match l, h with | [a, b], _ => exact ⟨a, b, rfl⟩
theorem list3S {α : Type} {l : List α} (h : l.length = 3) : ∃ a b c, l = [a, b, c] := by match l, h with | [a, b, c], _ => exact ⟨a, b, c, rfl⟩
def NodeRd (cs : List Value) (b : Nat) : Prop := ∃ (k : Int) (d : List UInt8), cs = [.int .i64 k, str d] ∧ -9223372036854775808 ≤ k ∧ k ≤ 9223372036854775807 ∧ d.length + 2 ≤ b
set_option maxRecDepth 100000 in
theorem open_node {H : Type} (enc : TypeId × Value → H) (W : World) (fuel : Nat) (cs : List Value) (x : DataW H × List MemPlace) (h : DataW.trod enc Tryz.prog W 0 (fun _ => true) true fuel 94 cs = some x) : NodeRd cs (Rows.uptoBulk x.1) := by
  obtain ⟨xs, n, _, rfl, hlen, hxl, hf⟩ := DataW.trod_struct Tryz.underlying94 h
  obtain ⟨x0, x1, rfl⟩ := list2S hxl
  obtain ⟨c0, c1, rfl⟩ := list2S (hlen.trans (by kernel_rfl))
  obtain ⟨s0, e0, q0⟩ := Opens.int Tryz.underlying3 enc W n [c0] x0 (hf 0 _ rfl)
  obtain ⟨s1, e1, q1⟩ := Opens.str Tryz.underlying9 enc W n [c1] x1 (hf 1 _ rfl)
  have e0 : [c0] = [.int .i64 s0] := e0
  have e1 : [c1] = [str s1] := e1
  simp only [List.cons.injEq, and_true] at e0 e1
  subst e0 e1
  refine ⟨s0, s1, rfl, q0.1, q0.2.1, ?_⟩
  simp [Rows.uptoBulk, Rows.uptoBulkAll] at *
  omega
set_option maxRecDepth 100000 in
theorem open_ent : Opens Tryz.prog 165 cEnt QEnt := by
  intro H enc W fuel cs x h
  obtain ⟨xs, n, _, rfl, hlen, hxl, hf⟩ := DataW.trod_struct Tryz.underlying165 h
  obtain ⟨x0, x1, rfl⟩ := list2S hxl
  obtain ⟨c0, c1, c2, rfl⟩ := list3S (hlen.trans (by kernel_rfl))
  obtain ⟨s0, e0, q0⟩ := Opens.str Tryz.underlying9 enc W n [c0] x0 (hf 0 _ rfl)
  obtain ⟨k, d, e1, _, _, q1⟩ := open_node enc W n [c1, c2] x1 (hf 1 _ rfl)
  have e0 : [c0] = [str s0] := e0
  simp only [List.cons.injEq, and_true] at e0 e1
  obtain ⟨e1, e2⟩ := e1
  subst e0 e1 e2
  refine ⟨⟨s0, k, d⟩, rfl, ?_⟩
  unfold QEnt
  simp [Rows.uptoBulk, Rows.uptoBulkAll] at *
  omega
theorem arg_ents : Arg Tryz.prog 84 (ASl cEnt) (QL QEnt) := Arg.slice Tryz.underlying84 (Opens.slice Tryz.underlying84 (by kernel_rfl) (by decide) open_ent)
theorem ql_each {α : Type} {Q : α → Nat → Prop} {ys : List α} {b : Nat} (h : QL Q ys b) (h1 : ∀ y n, Q y n → 1 ≤ n) : (∀ y ∈ ys, ∃ n, n ≤ b ∧ Q y n) ∧ ys.length ≤ b := by
  obtain ⟨bs, hl, hq, hs⟩ := h
  have hsum : ∀ bs : List Nat, (∀ n ∈ bs, n ≤ bs.sum) := by
    intro bs
    induction bs with
    | nil => intro n hn; cases hn
    | cons a l ih =>
      intro n hn
      rw [List.sum_cons]
      rcases List.mem_cons.1 hn with rfl | hn
      · omega
      · have := ih n hn; omega
  have hcnt : ∀ bs : List Nat, (∀ n ∈ bs, 1 ≤ n) → bs.length ≤ bs.sum := by
    intro bs
    induction bs with
    | nil => intro _; exact Nat.zero_le _
    | cons a l ih =>
      intro hn
      rw [List.sum_cons, List.length_cons]
      have := ih fun n h => hn n (List.mem_cons_of_mem _ h)
      have := hn a (List.mem_cons_self ..)
      omega
  refine ⟨fun y hy => ?_, ?_⟩
  · obtain ⟨i, hi, rfl⟩ := List.getElem_of_mem hy
    have hi' : i < bs.length := by omega
    exact ⟨bs[i], by have := hsum bs _ (List.getElem_mem hi'); omega, hq i hi hi'⟩
  · have := hcnt bs fun n hn => by
      obtain ⟨i, hi, rfl⟩ := List.getElem_of_mem hn
      exact h1 _ _ (hq i (by omega) hi)
    omega
theorem ents_each {y : List Ent} {b : Nat} (q : QL QEnt y b) (hb : b ≤ 1048576) : (∀ e ∈ y, e.path.length ≤ 1048576) ∧ y.length ≤ 1048576 := by
  obtain ⟨e0, l0⟩ := ql_each q fun y n h => (by unfold QEnt at h; omega)
  exact ⟨fun e he => by obtain ⟨n, hn, h⟩ := e0 e he; unfold QEnt at h; omega, by omega⟩
end Go.Proofs.YtccfiohagbneaaaGreatDoor
