/- What is proved: contracts and plain facts that the law leans on (texts put together). Conditions: as each names them. -/
import Derived.Test.YtniacmoniaaolaaDoorM4
set_option linter.unusedSimpArgs false
set_option linter.unusedVariables false
/- What is proved: how the laws' arguments read. Conditions: none. -/
set_option linter.unusedSimpArgs false
set_option linter.unusedVariables false
namespace Go.Proofs.YtniacmoniaaolaaDoor
open Go Go.J Go.RowKit Go.WideShapes Go.ChangeShapes

def QEn4 (e : Ent) (b : Nat) : Prop := e.path.length + e.data.length + 4 ≤ b
theorem lst2 {α : Type} {l : List α} (h : l.length = 2) : ∃ a b, l = [a, b] := by match l, h with | [a, b], _ => exact ⟨a, b, rfl⟩
theorem lst3 {α : Type} {l : List α} (h : l.length = 3) : ∃ a b c, l = [a, b, c] := by match l, h with | [a, b, c], _ => exact ⟨a, b, c, rfl⟩
theorem lst7 {α : Type} {l : List α} (h : l.length = 7) : ∃ a b c d e f g, l = [a, b, c, d, e, f, g] := by match l, h with | [a, b, c, d, e, f, g], _ => exact ⟨a, b, c, d, e, f, g, rfl⟩
def NodR (cs : List Value) (b : Nat) : Prop := ∃ (k : Int) (d : List UInt8), cs = [.int .i64 k, str d] ∧ d.length + 3 ≤ b
set_option maxRecDepth 100000 in
theorem open_nodS {H : Type} (enc : TypeId × Value → H) (W : World) (fuel : Nat) (cs : List Value) (x : DataW H × List MemPlace) (h : DataW.trod enc Tryd.prog W 0 (fun _ => true) true fuel 51 cs = some x) : NodR cs (Rows.uptoBulk x.1) := by
  obtain ⟨xs, n, _, rfl, hlen, hxl, hf⟩ := DataW.trod_struct Tryd.underlying51 h
  obtain ⟨x0, x1, rfl⟩ := lst2 hxl
  obtain ⟨c0, c1, rfl⟩ := lst2 (hlen.trans (by kernel_rfl))
  obtain ⟨s0, e0, q0⟩ := Opens.int Tryd.underlying3 enc W n [c0] x0 (hf 0 _ rfl)
  obtain ⟨s1, e1, q1⟩ := Opens.str Tryd.underlying9 enc W n [c1] x1 (hf 1 _ rfl)
  have e0 : [c0] = [.int .i64 s0] := e0
  have e1 : [c1] = [str s1] := e1
  simp only [List.cons.injEq, and_true] at e0 e1
  subst e0 e1
  refine ⟨s0, s1, rfl, ?_⟩
  have h1 := q0.2.2
  have h2 : s1.length + 1 ≤ Rows.uptoBulk x1.1 := q1
  simp only [Rows.uptoBulk, Rows.uptoBulkAll, List.map_cons, List.map_nil]
  omega
set_option maxRecDepth 100000 in
theorem open_entS : Opens Tryd.prog 53 cEnt QEn4 := by
  intro H enc W fuel cs x h
  obtain ⟨xs, n, _, rfl, hlen, hxl, hf⟩ := DataW.trod_struct Tryd.underlying53 h
  obtain ⟨x0, x1, rfl⟩ := lst2 hxl
  obtain ⟨c0, c1, c2, rfl⟩ := lst3 (hlen.trans (by kernel_rfl))
  obtain ⟨s0, e0, q0⟩ := Opens.str Tryd.underlying9 enc W n [c0] x0 (hf 0 _ rfl)
  obtain ⟨k, d, e1, q1⟩ := open_nodS enc W n [c1, c2] x1 (hf 1 _ rfl)
  have e0 : [c0] = [str s0] := e0
  simp only [List.cons.injEq, and_true] at e0 e1
  obtain ⟨e1, e2⟩ := e1
  subst e0 e1 e2
  refine ⟨⟨s0, k, d⟩, rfl, ?_⟩
  unfold QEn4
  have h2 : s0.length + 1 ≤ Rows.uptoBulk x0.1 := q0
  simp only [Rows.uptoBulk, Rows.uptoBulkAll, List.map_cons, List.map_nil]
  omega
theorem sum_ge {l : List Nat} : ∀ n ∈ l, n ≤ l.sum := by
  induction l with
  | nil => intro n hn; cases hn
  | cons a l ih =>
    intro n hn
    rw [List.sum_cons]
    rcases List.mem_cons.1 hn with rfl | hn
    · omega
    · have := ih n hn; omega
theorem sum_cnt {c : Nat} {l : List Nat} (h : ∀ n ∈ l, c ≤ n) : c * l.length ≤ l.sum := by
  induction l with
  | nil => exact Nat.le_refl _
  | cons a l ih =>
    have h1 := ih fun n hn => h n (List.mem_cons_of_mem _ hn)
    have h2 := h a (List.mem_cons_self ..)
    rw [List.sum_cons, List.length_cons, Nat.mul_succ]
    omega
theorem fit_of {t : List Ent} {b : Nat} (q : QL QEn4 t b) (hb : b ≤ 1048576) : Fit t := by
  obtain ⟨bs, hl, hq, hs⟩ := q
  have h4 : 4 * bs.length ≤ bs.sum := sum_cnt fun n hn => by
    obtain ⟨i, hi, rfl⟩ := List.getElem_of_mem hn
    have := hq i (by omega) hi
    unfold QEn4 at this
    omega
  refine ⟨by omega, fun e he => ?_⟩
  obtain ⟨i, hi, rfl⟩ := List.getElem_of_mem he
  have h1 := hq i hi (by omega)
  have h2 := sum_ge _ (List.getElem_mem (show i < bs.length by omega))
  unfold QEn4 at h1
  omega
def QCf (c : Cf) (b : Nat) : Prop := (-9223372036854775808 ≤ c.choice ∧ c.choice ≤ 9223372036854775807) ∧ ∃ b1 b2, QL QEn4 c.hub b1 ∧ QL QEn4 c.side b2 ∧ c.path.length + c.merged.length + c.given.length + b1 + b2 + 4 ≤ b
set_option maxRecDepth 100000 in
theorem open_cf : Opens Tryd.prog 25 cCf QCf := by
  intro H enc W fuel cs x h
  obtain ⟨xs, n, _, rfl, hlen, hxl, hf⟩ := DataW.trod_struct Tryd.underlying25 h
  obtain ⟨x0, x1, x2, x3, x4, x5, x6, rfl⟩ := lst7 hxl
  obtain ⟨d0, d1, d2, d3, d4, d5, d6, rfl⟩ := lst7 (hlen.trans (by kernel_rfl))
  obtain ⟨s0, e0, q0⟩ := Opens.str Tryd.underlying9 enc W n [d0] x0 (hf 0 _ rfl)
  obtain ⟨ys, ⟨A, ca, e1, hca, hA⟩, q1⟩ := Opens.slice Tryd.underlying23 (by kernel_rfl) (by decide) open_entS enc W n [d1] x1 (hf 1 _ rfl)
  obtain ⟨zs, ⟨B, cb, e2, hcb, hB⟩, q2⟩ := Opens.slice Tryd.underlying23 (by kernel_rfl) (by decide) open_entS enc W n [d2] x2 (hf 2 _ rfl)
  obtain ⟨s3, e3, q3⟩ := Opens.str Tryd.underlying9 enc W n [d3] x3 (hf 3 _ rfl)
  have h4 := hf 4 _ rfl
  change DataW.trod enc Tryd.prog W 0 _ true n 4 [d4] = some x4 at h4
  obtain ⟨s4, e4, rfl⟩ := DataW.trod_bool Tryd.underlying4 h4
  obtain ⟨s5, e5, q5⟩ := Opens.int Tryd.underlying3 enc W n [d5] x5 (hf 5 _ rfl)
  obtain ⟨s6, e6, q6⟩ := Opens.str Tryd.underlying9 enc W n [d6] x6 (hf 6 _ rfl)
  have e0 : [d0] = [str s0] := e0
  have e3 : [d3] = [str s3] := e3
  have e5 : [d5] = [.int .i64 s5] := e5
  have e6 : [d6] = [str s6] := e6
  simp only [List.cons.injEq, and_true] at e0 e1 e2 e3 e4 e5 e6
  subst e0 e1 e2 e3 e4 e5 e6
  refine ⟨⟨s0, ys, zs, s3, s4, s5, s6⟩, ⟨A, ca, B, cb, rfl, hca, hcb, hA, hB⟩, ⟨q5.1, q5.2.1⟩, _, _, q1, q2, ?_⟩
  have k0 : s0.length + 1 ≤ Rows.uptoBulk x0.1 := q0
  have k3 : s3.length + 1 ≤ Rows.uptoBulk x3.1 := q3
  have k6 : s6.length + 1 ≤ Rows.uptoBulk x6.1 := q6
  simp only [Rows.uptoBulk, Rows.uptoBulkAll, List.map_cons, List.map_nil]
  omega
theorem arg_cfs : Arg Tryd.prog 22 (ASl cCf) (QL QCf) := Arg.slice Tryd.underlying22 (Opens.slice Tryd.underlying22 (by kernel_rfl) (by decide) open_cf)
theorem cfs_fit {l : List Cf} {b : Nat} (q : QL QCf l b) (hb : b ≤ 1048576) : (∀ c ∈ l, FitC c ∧ (-9223372036854775808 ≤ c.choice ∧ c.choice ≤ 9223372036854775807)) ∧ l.length ≤ 262144 := by
  obtain ⟨bs, hl, hq, hs⟩ := q
  have h4 : 4 * bs.length ≤ bs.sum := sum_cnt fun n hn => by
    obtain ⟨i, hi, rfl⟩ := List.getElem_of_mem hn
    obtain ⟨_, b1, b2, _, _, h⟩ := hq i (by omega) hi
    omega
  refine ⟨fun c hc => ?_, by omega⟩
  obtain ⟨i, hi, rfl⟩ := List.getElem_of_mem hc
  obtain ⟨hch, b1, b2, q1, q2, h1⟩ := hq i hi (by omega)
  have h2 := sum_ge _ (List.getElem_mem (show i < bs.length by omega))
  exact ⟨⟨by omega, fit_of q1 (by omega), fit_of q2 (by omega)⟩, hch⟩
/-! ## three trees -/
structure T3 where
  a : List Ent
  b : List Ent
  c : List Ent
instance : Inhabited T3 := ⟨⟨[], [], []⟩⟩
def cT3 : Cod T3 where
  sz := 3
  rd F w cs t := ∃ A0 c0 A1 c1 A2 c2, cs = [.slice A0 t.a.length c0, .slice A1 t.b.length c1, .slice A2 t.c.length c2] ∧ (t.a.length ≤ c0 ∧ t.b.length ≤ c1 ∧ t.c.length ≤ c2) ∧ SlAt cEnt F w A0 t.a ∧ SlAt cEnt F w A1 t.b ∧ SlAt cEnt F w A2 t.c
  len := fun ⟨_, _, _, _, _, _, e, _⟩ => by rw [e]; rfl
  loc := fun ⟨A0, c0, A1, c1, A2, c2, e, h1, h2, h3, h4⟩ hs => ⟨A0, c0, A1, c1, A2, c2, e, h1, h2.loc hs, h3.loc hs, h4.loc hs⟩
  mono := fun ⟨A0, c0, A1, c1, A2, c2, e, h1, h2, h3, h4⟩ hs => ⟨A0, c0, A1, c1, A2, c2, e, h1, h2.mono hs, h3.mono hs, h4.mono hs⟩
def QT3 (t : T3) (b : Nat) : Prop := ∃ b0 b1 b2, QL QEn4 t.a b0 ∧ QL QEn4 t.b b1 ∧ QL QEn4 t.c b2 ∧ b0 + b1 + b2 ≤ b
set_option maxRecDepth 100000 in
theorem open_t3 : Opens Tryd.prog 36 cT3 QT3 := by
  intro H enc W fuel cs x h
  obtain ⟨xs, m, _, rfl, hlen, hxl, hf⟩ := DataW.trod_array Tryd.underlying36 h
  obtain ⟨x0, x1, x2, rfl⟩ := lst3 hxl
  obtain ⟨d0, d1, d2, rfl⟩ := lst3 (hlen.trans (by kernel_rfl))
  have h0 := hf 0 (by decide)
  have h1 := hf 1 (by decide)
  have h2 := hf 2 (by decide)
  change DataW.trod enc Tryd.prog W 0 _ true m 23 [d0] = some x0 at h0
  change DataW.trod enc Tryd.prog W 0 _ true m 23 [d1] = some x1 at h1
  change DataW.trod enc Tryd.prog W 0 _ true m 23 [d2] = some x2 at h2
  obtain ⟨ys, ⟨A0, c0, e0, hc0, hA0⟩, q0⟩ := Opens.slice Tryd.underlying23 (by kernel_rfl) (by decide) open_entS enc W m _ _ h0
  obtain ⟨zs, ⟨A1, c1, e1, hc1, hA1⟩, q1⟩ := Opens.slice Tryd.underlying23 (by kernel_rfl) (by decide) open_entS enc W m _ _ h1
  obtain ⟨us, ⟨A2, c2, e2, hc2, hA2⟩, q2⟩ := Opens.slice Tryd.underlying23 (by kernel_rfl) (by decide) open_entS enc W m _ _ h2
  simp only [List.cons.injEq, and_true] at e0 e1 e2
  subst e0 e1 e2
  refine ⟨⟨ys, zs, us⟩, ⟨A0, c0, A1, c1, A2, c2, rfl, ⟨hc0, hc1, hc2⟩, hA0, hA1, hA2⟩, _, _, _, q0, q1, q2, ?_⟩
  simp only [Rows.uptoBulk, Rows.uptoBulkAll, List.map_cons, List.map_nil]
  omega
theorem okWide_arr {P : Program} {w : World} {r : Reach} {base : Nat} {t e : TypeId} {n : Nat} {v : Value} (ht : P.underlying t = some (.array n e)) (h : Value.okWide P w r base t v) : ∃ cs, v = .agg cs ∧ cs.size = P.cellsOf t := by
  simp only [Value.okWide, ht] at h
  obtain ⟨cs, h1, h2, _⟩ := h
  exact ⟨cs, h1, h2⟩
theorem Arg.arr {α : Type} {P : Program} {t e : TypeId} {n : Nat} {c : Cod α} {Q : α → Nat → Prop} (ht : P.underlying t = some (.array n e)) (ho : Opens P t c Q) : Arg P t (AAgg c) Q := by
  intro H enc W base v d p hk hd
  obtain ⟨cs, rfl, _⟩ := okWide_arr ht hk
  obtain ⟨fuel, hf⟩ := hd
  obtain ⟨y, hy, hq⟩ := ho enc W fuel _ _ hf
  exact ⟨y, ⟨cs.toList, by cases cs; rfl, hy⟩, hq⟩
theorem arg_t3 : Arg Tryd.prog 36 (AAgg cT3) QT3 := Arg.arr Tryd.underlying36 open_t3
end Go.Proofs.YtniacmoniaaolaaDoor

/- What is proved: that the laws' awake answers true. Conditions: none. -/
set_option linter.unusedSimpArgs false
set_option linter.unusedVariables false
namespace Go.Proofs.YtniacmoniaaolaaDoor
open Go Go.J Go.RowKit

def awH : List Ent := [⟨[97], 2, [49]⟩]
def awS : List Ent := [⟨[97], 2, [50]⟩]
def awC : Cf := ⟨[97], awH, awS, [], false, 0, []⟩
def awD : Cf := ⟨[97], awH, awS, [], false, 2, []⟩
theorem aw_tree : checkT awS = 0 := checkT_zero.2 ⟨by decide, fun i h => by
  have hi : i = 0 := by
    have : awS.length = 1 := rfl
    omega
  subst hi
  exact ⟨(by decide : checkE [97] 5 = 0), (by decide : wholeE 2 [50] = true), (by decide : (2 : Int) ≠ 0), fun j hj => (by omega), fun h => absurd (by decide : parentE [97] = []) h⟩⟩
theorem aw_repl {t : List Ent} (h : restE t [97] = []) : replE t [97] awS = some awS := by
  unfold replE
  rw [h]
  have e : sortR ([] ++ awS) = awS := rfl
  rw [e, if_neg]
  rintro (h1 | ⟨x, hx, h1⟩ | h1)
  · exact h1 (by decide)
  · rw [List.mem_singleton.1 hx] at h1
    exact absurd h1 (by decide)
  · exact h1 aw_tree
theorem aw_resolve : resolveE [awD] awH awS [] = ⟨awS, awS, awS, [], [[97]], []⟩ := by
  have h : settleE awH awS [] awD = some (awS, awS, awS) := by
    unfold settleE
    rw [if_pos ⟨by decide, by decide⟩]
    have e : tgtE awD = awS := rfl
    rw [e, show awD.path = [97] from rfl, aw_repl (t := awH) (by decide), aw_repl (t := awS) (by decide), aw_repl (t := []) rfl]
  show stepO ⟨awH, awS, [], [], [], []⟩ awD = _
  unfold stepO
  rw [if_neg (by decide)]
  dsimp only
  rw [h]
  rfl
theorem awFit : Fit awH ∧ Fit awS ∧ Fit [] := ⟨⟨by decide, fun e he => by rw [List.mem_singleton.1 he]; decide⟩, ⟨by decide, fun e he => by rw [List.mem_singleton.1 he]; decide⟩, ⟨by decide, fun e he => (by cases he)⟩⟩
theorem awCho {v : Value} {w w' : World} (h : ChoIs [awC] [97] 2 [] v w w') : ∃ AO oc ps fp, v = .tuple #[.slice AO 1 oc, .int .i64 0] ∧ ps.map Cp.c = [awD] ∧ MutL w w' [] [.own (.slice AO 1 oc) 25 7 1 (cps ps), innF ps fp] := by
  have hi : idxF [awC] [97] = some 0 := rfl
  have hm : mayC [awC] 0 2 [] = true := rfl
  rcases h with ⟨e, _⟩ | ⟨i, e, e2, _⟩ | ⟨i, e, _, h⟩
  · rw [hi] at e; cases e
  · rw [hi] at e
    obtain rfl := Option.some.inj e
    rw [hm] at e2; cases e2
  · rw [hi] at e
    obtain rfl := Option.some.inj e
    exact h
section
variable {w0 w : World} {M : List Nat} {H : List Chunk} {Z : List Snap} {hb sb cb : Nat}
theorem awCf (hS : St w0 M w H Z) (h1 : Chunk.own (.slice (some ⟨cb, 0, none⟩) 1 1) 25 7 1 (cps [⟨awC, some ⟨hb, 0, none⟩, 1, some ⟨sb, 0, none⟩, 1⟩]) ∈ H) (h2 : eC (some ⟨hb, 0, none⟩) 1 awH ∈ H) (h3 : eC (some ⟨sb, 0, none⟩) 1 awS ∈ H) : SlAt cCf (Old w) w (some ⟨cb, 0, none⟩) [awC] := by
  have hrow : RowAt w 25 7 (.slice (some ⟨cb, 0, none⟩) 1 1) 1 (cps [⟨awC, some ⟨hb, 0, none⟩, 1, some ⟨sb, 0, none⟩, 1⟩]) := hS.holds _ h1
  refine cps_sl hrow (fun g hg => (hS.inb _ h1 g (by simp [Chunk.fp, hg])).1) fun p hp => ?_
  rw [List.mem_singleton.1 hp]
  exact ⟨Nat.le_refl _, Nat.le_refl _, St.ownSl (sz := 3) (enc := encEnt) (hsz := fun _ => rfl) (l := awH) (by decide) hS h2, St.ownSl (sz := 3) (enc := encEnt) (hsz := fun _ => rfl) (l := awS) (by decide) hS h3⟩
end
set_option maxHeartbeats 16000000 in
set_option maxRecDepth 100000 in
theorem sawake_c (w0 : World) : Cal Tryd.prog 8 [] w0 (fun v w' => Upd [] w0 w' ∧ v = .bool true) := by
  refine Cal.mk' (by kernel_rfl) Tryd.func8 rfl rfl fun hS => ?_
  obtain ⟨hf0, hf1, hf2⟩ := awFit
  have hcz : ∀ c ∈ [awC], c.hub.length ≤ 1048576 ∧ c.side.length ≤ 1048576 := fun c hc => by rw [List.mem_singleton.1 hc]; exact ⟨by decide, by decide⟩
  have hfc : ∀ c ∈ [awD], FitC c := fun c hc => by rw [List.mem_singleton.1 hc]; exact ⟨by decide, hf0, hf1⟩
  have hrs := aw_resolve
  have hm1 : True := trivial
  repeat' (first
    | (show WL _ _ _ _ _ _ _; first
      | refine WL.pure rfl rfl rfl rfl ?_
      | refine WL.nil ?_
      | refine WL.load hS rfl rfl (LdOk.box (by repeat (first | exact List.Mem.head _ | apply List.Mem.tail)) rfl) rfl rfl rfl ?_
      | (clear hm1; refine WL.slit (t := 23) hS rfl rfl rfl rfl rfl ?_; intro w hb hS; replace hS := hS.boxRow (n := 1) (size := 3) .here rfl (by decide))
      | (refine WL.slit (t := 23) hS rfl rfl rfl rfl rfl ?_; intro w sb hS; replace hS := hS.boxRow (n := 1) (size := 3) .here rfl (by decide))
      | (refine WL.slit (t := 22) hS rfl rfl rfl rfl rfl ?_; intro w cb hS; replace hS := hS.boxRow (n := 1) (size := 7) .here rfl (by decide))
      | (refine WL.callL (D := []) hS .nil rfl rfl (fun hI => choose_c [awC] [97] 2 [] (awCf hS (by repeat (first | exact List.Mem.head _ | apply List.Mem.tail)) (by repeat (first | exact List.Mem.head _ | apply List.Mem.tail)) (by repeat (first | exact List.Mem.head _ | apply List.Mem.tail))) (by decide) (by decide) hcz) rfl rfl rfl ?_; rintro v w hch hS; obtain ⟨AO, oc, ps, fp, rfl, hps, hmu⟩ := awCho hch; replace hS := hS _ hmu; clear hmu hch)
      | (refine WL.callL (D := []) hS .nil rfl rfl (fun hI => resolve_c [awD] awH awS [] (A2 := none) (c2 := 0) (hps ▸ hS.cfsSl (ps := ps) (fp := fp) (by repeat (first | exact List.Mem.head _ | apply List.Mem.tail)) (by repeat (first | exact List.Mem.head _ | apply List.Mem.tail))) (by decide) hfc (St.ownSl (sz := 3) (enc := encEnt) (hsz := fun _ => rfl) (l := awH) (by decide) hS (by repeat (first | exact List.Mem.head _ | apply List.Mem.tail))) (St.ownSl (sz := 3) (enc := encEnt) (hsz := fun _ => rfl) (l := awS) (by decide) hS (by repeat (first | exact List.Mem.head _ | apply List.Mem.tail))) (fun k hk => absurd hk (Nat.not_lt_zero _)) hf0 hf1 hf2 hrs) rfl rfl rfl ?_; rintro v w ⟨B0, e0, B1, e1, B2, e2, AR, cr, AD, cd, AS, cs, ps2, fp2, rfl, hps2, hmu⟩ hS; replace hS := hS _ hmu; clear hmu)
      | (refine WL.indexArr (j := 0) rfl rfl rfl rfl (by decide) rfl rfl rfl ?_)
      | (refine WL.indexArr (j := 2) rfl rfl rfl rfl (by decide) rfl rfl rfl ?_)
      | (refine WL.calls hS rfl rfl (rsameD_c awS awS (A := B0) (St.ownSl (sz := 3) (enc := encEnt) (hsz := fun _ => rfl) (l := awS) (by decide) hS (by repeat (first | exact List.Mem.head _ | apply List.Mem.tail))) (St.ownSl (sz := 3) (enc := encEnt) (hsz := fun _ => rfl) (l := awS) (by decide) hS (by repeat (first | exact List.Mem.head _ | apply List.Mem.tail))) (by decide) (by decide)) rfl rfl rfl ?_; rintro v w rfl hS; rw [decide_eq_true rfl])
      | (refine WL.calls hS rfl rfl (rsameD_c awS awS (A := B2) (St.ownSl (sz := 3) (enc := encEnt) (hsz := fun _ => rfl) (l := awS) (by decide) hS (by repeat (first | exact List.Mem.head _ | apply List.Mem.tail))) (St.ownSl (sz := 3) (enc := encEnt) (hsz := fun _ => rfl) (l := awS) (by decide) hS (by repeat (first | exact List.Mem.head _ | apply List.Mem.tail))) (by decide) (by decide)) rfl rfl rfl ?_; rintro v w rfl hS; rw [decide_eq_true rfl])
      | (refine WL.store hS rfl rfl rfl (by repeat (first | exact StB.here rfl | apply StB.there)) rfl rfl rfl ?_; intro w hS)
      | (refine WL.alloc hS rfl rfl rfl rfl rfl rfl ?_; intro w b hS)
      | refine WL.build rfl rfl rfl rfl rfl ?_)
    | (show WC _ _ _ _ _ _; first
      | refine WC.seq ?_
      | refine WC.region ?_
      | refine WC.ret ?_)
    | refine seqQ_n ?_)
  exact fin1r rfl rfl ⟨hS.upd, rfl⟩
end Go.Proofs.YtniacmoniaaolaaDoor

/- What is proved: the law SessionLater answers true. Conditions: the statement's own bound on the bulk. -/
set_option linter.unusedSimpArgs false
set_option linter.unusedVariables false
namespace Go.Proofs.YtniacmoniaaolaaDoor
open Go Go.J Go.RowKit

variable {w0 : World}
theorem cf_cps {F : Nat → Prop} {w : World} {A : Option Addr} {l : List Cf} (h : SlAt cCf F w A l) : ∃ ps : List Cp, ps.map Cp.c = l ∧ SlAt cCp F w A ps ∧ ∀ p ∈ ps, p.c.hub.length ≤ p.ca ∧ p.c.side.length ≤ p.cb ∧ SlAt cEnt F w p.A p.c.hub ∧ SlAt cEnt F w p.B p.c.side := by
  have hx : ∀ n, n ≤ l.length → ∃ ps : List Cp, ps.map Cp.c = l.take n ∧ SlAt cCp F w A ps ∧ ∀ p ∈ ps, p.c.hub.length ≤ p.ca ∧ p.c.side.length ≤ p.cb ∧ SlAt cEnt F w p.A p.c.hub ∧ SlAt cEnt F w p.B p.c.side := by
    intro n
    induction n with
    | zero => exact fun _ => ⟨[], rfl, fun k hk => absurd hk (Nat.not_lt_zero _), fun p hp => (by cases hp)⟩
    | succ n ih =>
      intro hn
      obtain ⟨ps, h1, h2, h3⟩ := ih (by omega)
      obtain ⟨b, o, es, hA, hF, hr, A1, c1, B1, d1, hes, k1, k2, k3, k4⟩ := h n (by omega)
      have hpl : ps.length = n := by
        have := congrArg List.length h1
        rw [List.length_map, List.length_take] at this
        omega
      refine ⟨ps ++ [⟨l[n], A1, c1, B1, d1⟩], by rw [List.map_append, h1, List.take_succ_eq_append_getElem (show n < l.length by omega)]; rfl, fun k hk => ?_, fun p hp => ?_⟩
      · rw [List.length_append] at hk
        by_cases hkn : k < ps.length
        · obtain ⟨b', o', es', a1, a2, a3, a4⟩ := h2 k hkn
          exact ⟨b', o', es', a1, a2, a3, by rw [List.getElem_append_left hkn]; exact a4⟩
        · have hk2 : k = n := by have : [(⟨l[n], A1, c1, B1, d1⟩ : Cp)].length = 1 := rfl; omega
          subst hk2
          refine ⟨b, o, es, hA, hF, hr, ?_⟩
          rw [List.getElem_append_right (by omega)]
          simp only [hpl, Nat.sub_self, List.getElem_cons_zero]
          exact hes
      · rcases List.mem_append.1 hp with hp | hp
        · exact h3 p hp
        · rw [List.mem_singleton.1 hp]
          exact ⟨k1, k2, k3, k4⟩
  obtain ⟨ps, h1, h2, h3⟩ := hx l.length (Nat.le_refl _)
  rw [List.take_length] at h1
  exact ⟨ps, h1, h2, h3⟩
/-! ## nothing chosen -/
def zC (c : Cf) : Cf := { c with choice := 0 }
def zP (p : Cp) : Cp := { p with c := zC p.c }
theorem z_set {ps : List Cp} {k : Nat} (h : k < ps.length) : ((ps.take k).map zP ++ ps.drop k)[k]? = some ps[k] ∧ ((ps.take k).map zP ++ ps.drop k).set k (zP ps[k]) = (ps.take (k + 1)).map zP ++ ps.drop (k + 1) := by
  have hl : ((ps.take k).map zP).length = k := by rw [List.length_map, List.length_take]; omega
  constructor
  · rw [List.getElem?_append_right (by omega), hl, Nat.sub_self, List.drop_eq_getElem_cons h]
    rfl
  · rw [List.set_append_right _ _ (by omega), hl, Nat.sub_self, List.drop_eq_getElem_cons h, List.take_succ_eq_append_getElem h, List.map_append, List.append_assoc]
    rfl
theorem resolve_zero (l : List Cf) (h : ∀ c ∈ l, c.choice = 0) (t0 t1 t2 : List Ent) : ∀ k, k ≤ l.length → resolveE (l.take k) t0 t1 t2 = ⟨t0, t1, t2, l.take k, [], []⟩
  | 0, _ => rfl
  | k + 1, hk => by
    rw [resolve_take l (show k < l.length by omega), resolve_zero l h t0 t1 t2 k (by omega), List.take_succ_eq_append_getElem (show k < l.length by omega)]
    unfold stepO
    rw [if_pos (h _ (List.getElem_mem _))]
theorem resolve_later {l : List Cf} (t0 t1 t2 : List Ent) : resolveE (l.map zC) t0 t1 t2 = ⟨t0, t1, t2, l.map zC, [], []⟩ := by
  have := resolve_zero (l.map zC) (fun c hc => by obtain ⟨x, _, rfl⟩ := List.mem_map.1 hc; rfl) t0 t1 t2 _ (Nat.le_refl _)
  rwa [List.take_length] at this
/-! ## are all three trees? -/
def tOk (t0 t1 t2 : List Ent) : Prop := checkT t0 = 0 ∧ checkT t1 = 0 ∧ checkT t2 = 0
set_option maxHeartbeats 8000000 in
set_option maxRecDepth 100000 in
theorem trees_c (t0 t1 t2 : List Ent) (r : Bool) {A0 A1 A2 : Option Addr} {c0 c1 c2 : Nat} (hT0 : SlAt cEnt (Old w0) w0 A0 t0) (hT1 : SlAt cEnt (Old w0) w0 A1 t1) (hT2 : SlAt cEnt (Old w0) w0 A2 t2) (hf0 : Fit t0) (hf1 : Fit t1) (hf2 : Fit t2) (hc : t0.length ≤ c0 ∧ t1.length ≤ c1 ∧ t2.length ≤ c2) (hr : r = true ↔ tOk t0 t1 t2) :
    Cal Tryd.prog 11 [.agg ⟨[.slice A0 t0.length c0, .slice A1 t1.length c1, .slice A2 t2.length c2]⟩] w0 (fun v w' => Upd [] w0 w' ∧ v = .bool r) := by
  refine Cal.mk' (by kernel_rfl) Tryd.func11 rfl rfl fun hS => ?_
  have hq0 := fun (w : World) (h : SlAt cEnt (Old w) w A0 t0) => rtcheck_c t0 (cap := c0) h hc.1 (by have := hf0.len; omega) hf0.path
  have hq1 := fun (w : World) (h : SlAt cEnt (Old w) w A1 t1) => rtcheck_c t1 (cap := c1) h hc.2.1 (by have := hf1.len; omega) hf1.path
  have hq2 := fun (w : World) (h : SlAt cEnt (Old w) w A2 t2) => rtcheck_c t2 (cap := c2) h hc.2.2 (by have := hf2.len; omega) hf2.path
  unfold tOk at hr
  generalize checkT t0 = k0 at *
  generalize checkT t1 = k1 at *
  generalize checkT t2 = k2 at *
  have hv : ∀ b : Bool, (b = true ↔ k0 = 0 ∧ k1 = 0 ∧ k2 = 0) → Value.bool b = Value.bool r := fun b hb => by
    congr 1
    cases b <;> cases r <;> simp_all
  by_cases e0 : k0 = 0
  rotate_left
  · repeat' (first
      | (show WL _ _ _ _ _ _ _; first
        | refine WL.pure rfl rfl rfl rfl ?_
        | refine WL.nil ?_
        | refine WL.load hS rfl rfl (LdOk.box (by repeat (first | exact List.Mem.head _ | apply List.Mem.tail)) rfl) rfl rfl rfl ?_
        | (refine WL.indexArr (j := 0) rfl rfl rfl rfl (by decide) rfl rfl rfl ?_)
        | (refine WL.calls hS rfl rfl (hq0 _ (hS.slO (by repeat (first | exact List.Mem.head _ | apply List.Mem.tail)) hT0)) rfl rfl rfl ?_; rintro v w rfl hS)
        | (refine WL.box hS rfl rfl rfl rfl rfl ?_; intro w b hS)
        | refine WL.skip rfl rfl rfl ?_
        | ((fail_if_success (refine WL.wanted rfl ?_)); refine WL.guard rfl rfl rfl (fun h => ?_) (fun h => ?_) <;> (try simp only [Classical.not_not, Bool.not_eq_true', Bool.not_eq_false', Bool.not_eq_eq_eq_not, Bool.not_true, Bool.not_false, beq_iff_eq, beq_eq_false_iff_ne, ne_eq, decide_eq_decide, decide_eq_true_eq, decide_eq_false_iff_not, Bool.and_eq_true, Bool.or_eq_true, Bool.and_eq_false_iff, Bool.or_eq_false_iff] at h) <;> (try (exfalso; first | omega | contradiction))))
      | (show WC _ _ _ _ _ _; first
        | refine WC.seq ?_
        | refine WC.region ?_
        | refine WC.ret ?_)
      | refine seqQ_n ?_)
    exact fin1r rfl rfl ⟨hS.upd, hv _ (by simp [e0])⟩
  by_cases e1 : k1 = 0
  rotate_left
  · repeat' (first
      | (show WL _ _ _ _ _ _ _; first
        | refine WL.pure rfl rfl rfl rfl ?_
        | refine WL.nil ?_
        | refine WL.load hS rfl rfl (LdOk.box (by repeat (first | exact List.Mem.head _ | apply List.Mem.tail)) rfl) rfl rfl rfl ?_
        | (refine WL.indexArr (j := 0) rfl rfl rfl rfl (by decide) rfl rfl rfl ?_)
        | (refine WL.indexArr (j := 1) rfl rfl rfl rfl (by decide) rfl rfl rfl ?_)
        | (refine WL.calls hS rfl rfl (hq0 _ (hS.slO (by repeat (first | exact List.Mem.head _ | apply List.Mem.tail)) hT0)) rfl rfl rfl ?_; rintro v w rfl hS)
        | (refine WL.calls hS rfl rfl (hq1 _ (hS.slO (by repeat (first | exact List.Mem.head _ | apply List.Mem.tail)) hT1)) rfl rfl rfl ?_; rintro v w rfl hS)
        | (refine WL.box hS rfl rfl rfl rfl rfl ?_; intro w b hS)
        | refine WL.skip rfl rfl rfl ?_
        | ((fail_if_success (refine WL.wanted rfl ?_)); refine WL.guard rfl rfl rfl (fun h => ?_) (fun h => ?_) <;> (try simp only [Classical.not_not, Bool.not_eq_true', Bool.not_eq_false', Bool.not_eq_eq_eq_not, Bool.not_true, Bool.not_false, beq_iff_eq, beq_eq_false_iff_ne, ne_eq, decide_eq_decide, decide_eq_true_eq, decide_eq_false_iff_not, Bool.and_eq_true, Bool.or_eq_true, Bool.and_eq_false_iff, Bool.or_eq_false_iff] at h) <;> (try (exfalso; first | omega | contradiction))))
      | (show WC _ _ _ _ _ _; first
        | refine WC.seq ?_
        | refine WC.region ?_
        | refine WC.ret ?_)
      | refine seqQ_n ?_)
    exact fin1r rfl rfl ⟨hS.upd, hv _ (by simp [e1])⟩
  repeat' (first
    | (show WL _ _ _ _ _ _ _; first
      | refine WL.pure rfl rfl rfl rfl ?_
      | refine WL.nil ?_
      | refine WL.load hS rfl rfl (LdOk.box (by repeat (first | exact List.Mem.head _ | apply List.Mem.tail)) rfl) rfl rfl rfl ?_
      | (refine WL.indexArr (j := 0) rfl rfl rfl rfl (by decide) rfl rfl rfl ?_)
      | (refine WL.indexArr (j := 1) rfl rfl rfl rfl (by decide) rfl rfl rfl ?_)
      | (refine WL.indexArr (j := 2) rfl rfl rfl rfl (by decide) rfl rfl rfl ?_)
      | (refine WL.calls hS rfl rfl (hq0 _ (hS.slO (by repeat (first | exact List.Mem.head _ | apply List.Mem.tail)) hT0)) rfl rfl rfl ?_; rintro v w rfl hS)
      | (refine WL.calls hS rfl rfl (hq1 _ (hS.slO (by repeat (first | exact List.Mem.head _ | apply List.Mem.tail)) hT1)) rfl rfl rfl ?_; rintro v w rfl hS)
      | (refine WL.calls hS rfl rfl (hq2 _ (hS.slO (by repeat (first | exact List.Mem.head _ | apply List.Mem.tail)) hT2)) rfl rfl rfl ?_; rintro v w rfl hS)
      | (refine WL.box hS rfl rfl rfl rfl rfl ?_; intro w b hS)
      | ((fail_if_success (refine WL.wanted rfl ?_)); refine WL.guard rfl rfl rfl (fun h => ?_) (fun h => ?_) <;> (try simp only [Classical.not_not, Bool.not_eq_true', Bool.not_eq_false', Bool.not_eq_eq_eq_not, Bool.not_true, Bool.not_false, beq_iff_eq, beq_eq_false_iff_ne, ne_eq, decide_eq_decide, decide_eq_true_eq, decide_eq_false_iff_not, Bool.and_eq_true, Bool.or_eq_true, Bool.and_eq_false_iff, Bool.or_eq_false_iff] at h) <;> (try (exfalso; first | omega | contradiction))))
    | (show WC _ _ _ _ _ _; first
      | refine WC.seq ?_
      | refine WC.region ?_
      | refine WC.ret ?_)
    | refine seqQ_n ?_)
  exact fin1r rfl rfl ⟨hS.upd, hv _ (by simp [e0, e1])⟩
theorem later_sl {w w1 wz : World} {M : List Nat} {H : List Chunk} {Z : List Snap} {F : Nat → Prop} {e : TypeId} {A : Option Addr} {n cap n' : Nat} {ps : List Cp} (hS : St w1 M w H Z) (hz : Snap.mk wz F ∈ Z) (h1 : Chunk.own (.slice A n cap) e 7 n' (cps ps) ∈ H) (hin : ∀ p ∈ ps, p.c.hub.length ≤ p.ca ∧ p.c.side.length ≤ p.cb ∧ SlAt cEnt F wz p.A p.c.hub ∧ SlAt cEnt F wz p.B p.c.side) : SlAt cCf (Old w) w A (ps.map Cp.c) := by
  have hrow : RowAt w e 7 (.slice A n cap) n' (cps ps) := hS.holds _ h1
  refine cps_sl hrow (fun g hg => (hS.inb _ h1 g (by simp [Chunk.fp, hg])).1) fun p hp => ?_
  obtain ⟨k1, k2, k3, k4⟩ := hin p hp
  exact ⟨k1, k2, hS.slO hz k3, hS.slO hz k4⟩
set_option maxHeartbeats 64000000 in
set_option maxRecDepth 100000 in
theorem sessionLater_c (l : List Cf) (t0 t1 t2 : List Ent) {A A0 A1 A2 : Option Addr} {cap c0 c1 c2 : Nat} (hA : SlAt cCf (Old w0) w0 A l) (hl : l.length ≤ 1048576) (hc : ∀ c ∈ l, FitC c) (hT0 : SlAt cEnt (Old w0) w0 A0 t0) (hT1 : SlAt cEnt (Old w0) w0 A1 t1) (hT2 : SlAt cEnt (Old w0) w0 A2 t2) (hf0 : Fit t0) (hf1 : Fit t1) (hf2 : Fit t2) (hcap : t0.length ≤ c0 ∧ t1.length ≤ c1 ∧ t2.length ≤ c2) :
    Cal Tryd.prog 5 [.slice A l.length cap, .agg ⟨[.slice A0 t0.length c0, .slice A1 t1.length c1, .slice A2 t2.length c2]⟩] w0 (fun v w' => Upd [] w0 w' ∧ v = .bool true) := by
  refine Cal.mk' (by kernel_rfl) Tryd.func5 rfl rfl fun hS => ?_
  by_cases ht : tOk t0 t1 t2
  rotate_left
  · have htr := fun (w : World) (h0 : SlAt cEnt (Old w) w A0 t0) (h1 : SlAt cEnt (Old w) w A1 t1) (h2 : SlAt cEnt (Old w) w A2 t2) => trees_c t0 t1 t2 false h0 h1 h2 hf0 hf1 hf2 hcap (by simp [ht])
    repeat' (first
      | (show WL _ _ _ _ _ _ _; first
        | refine WL.pure rfl rfl rfl rfl ?_
        | refine WL.nil ?_
        | refine WL.load hS rfl rfl (LdOk.box (by repeat (first | exact List.Mem.head _ | apply List.Mem.tail)) rfl) rfl rfl rfl ?_
        | (refine WL.calls hS rfl rfl (sawake_c _) rfl rfl rfl ?_; rintro v w rfl hS)
        | (refine WL.calls hS rfl rfl (htr _ (hS.slO (by repeat (first | exact List.Mem.head _ | apply List.Mem.tail)) hT0) (hS.slO (by repeat (first | exact List.Mem.head _ | apply List.Mem.tail)) hT1) (hS.slO (by repeat (first | exact List.Mem.head _ | apply List.Mem.tail)) hT2)) rfl rfl rfl ?_; rintro v w rfl hS)
        | (refine WL.box hS rfl rfl rfl rfl rfl ?_; intro w b hS)
        | refine WL.skip rfl rfl rfl ?_)
      | (show WC _ _ _ _ _ _; first
        | refine WC.seq ?_
        | refine WC.region ?_
        | refine WC.ret ?_
        | refine WC.condT rfl (by with_reducible rfl) ?_)
      | refine seqQ_n ?_
      | refine seqQ_r ?_)
    exact fin1r rfl rfl ⟨hS.upd, rfl⟩
  have htr := fun (w : World) (h0 : SlAt cEnt (Old w) w A0 t0) (h1 : SlAt cEnt (Old w) w A1 t1) (h2 : SlAt cEnt (Old w) w A2 t2) => trees_c t0 t1 t2 true h0 h1 h2 hf0 hf1 hf2 hcap (by simp [ht])
  by_cases h40 : l.length ≤ 40
  rotate_left
  · repeat' (first
      | (show WL _ _ _ _ _ _ _; first
        | refine WL.pure rfl rfl rfl rfl ?_
        | refine WL.nil ?_
        | refine WL.load hS rfl rfl (LdOk.box (by repeat (first | exact List.Mem.head _ | apply List.Mem.tail)) rfl) rfl rfl rfl ?_
        | (refine WL.calls hS rfl rfl (sawake_c _) rfl rfl rfl ?_; rintro v w rfl hS)
        | (refine WL.calls hS rfl rfl (htr _ (hS.slO (by repeat (first | exact List.Mem.head _ | apply List.Mem.tail)) hT0) (hS.slO (by repeat (first | exact List.Mem.head _ | apply List.Mem.tail)) hT1) (hS.slO (by repeat (first | exact List.Mem.head _ | apply List.Mem.tail)) hT2)) rfl rfl rfl ?_; rintro v w rfl hS)
        | (refine WL.box hS rfl rfl rfl rfl rfl ?_; intro w b hS))
      | (show WC _ _ _ _ _ _; first
        | refine WC.seq ?_
        | refine WC.region ?_
        | refine WC.ret ?_
        | refine WC.condT rfl (decide_eq_true (by first | with_reducible assumption | omega)) ?_)
      | refine seqQ_n ?_
      | refine seqQ_r ?_)
    exact fin1r rfl rfl ⟨hS.upd, rfl⟩
  obtain ⟨ps, hps, hP, hpi⟩ := cf_cps hA
  have hpl : ps.length = l.length := by rw [← hps, List.length_map]
  have hz0 : 0 + ps.length = ps.length := Nat.zero_add _
  have hone := cps_one ps
  have hg0 := hf0.len
  have hg1 := hf1.len
  have hg2 := hf2.len
  clear ht hcap
  repeat' (first
    | (show WL _ _ _ _ _ _ _; first
      | refine WL.pure rfl rfl rfl rfl ?_
      | refine WL.nil ?_
      | refine WL.load hS rfl rfl (LdOk.box (by repeat (first | exact List.Mem.head _ | apply List.Mem.tail)) rfl) rfl rfl rfl ?_
      | (refine WL.box (t := 36) hS rfl rfl rfl rfl rfl ?_; intro w pb hS)
      | (refine WL.calls hS rfl rfl (sawake_c _) rfl rfl rfl ?_; rintro v w rfl hS)
      | (refine WL.calls hS rfl rfl (htr _ (hS.slO (by repeat (first | exact List.Mem.head _ | apply List.Mem.tail)) hT0) (hS.slO (by repeat (first | exact List.Mem.head _ | apply List.Mem.tail)) hT1) (hS.slO (by repeat (first | exact List.Mem.head _ | apply List.Mem.tail)) hT2)) rfl rfl rfl ?_; rintro v w rfl hS)
      | (refine WL.slit (t := 22) hS rfl rfl rfl rfl rfl ?_; intro w ob hS; have hS := hS.boxRow (n := 0) (size := 7) .here rfl (Nat.zero_le _))
      | (refine WL.appSl (sz := 7) (enc := encCp) (hsz := fun _ => rfl) (ys := ps) hS rfl rfl rfl (congrArg (fun n => Value.slice A n cap) hpl.symm) hP (by repeat (first | exact List.Mem.head _ | apply List.Mem.tail)) (by decide) hone (fun A cap => by repeat (first | exact Repl.here | apply Repl.there)) (by omega) rfl rfl rfl ?_; intro AL cl w hS; rw [hz0] at hS ⊢))
    | (show WC _ _ _ _ _ _; first
      | refine WC.seq ?_
      | refine WC.region ?_
      | refine WC.block ?_
      | refine WC.skip ?_
      | refine WC.condF rfl (decide_eq_false (by first | with_reducible assumption | omega)) ?_)
    | refine seqQ_n ?_)
  refine WC.loop (σ := Nat) [0, 3, 5] (fun k => [(6, .int .i64 (k : Int))])
    (fun k w => k ≤ ps.length ∧ St w0 [] w [.own (.slice AL ps.length cl) 25 7 ps.length (cps ((ps.take k).map zP ++ ps.drop k)), .box pb 36 [.slice A0 t0.length c0, .slice A1 t1.length c1, .slice A2 t2.length c2]] [⟨w0, Old w0⟩]) (fun k => ps.length - k) 0 ⟨Nat.zero_le _, hS.droplast2 (by repeat (first | exact Pulls.nil | (apply Pulls.cons; focus (repeat (first | exact Pull.here | apply Pull.there)))))⟩ ⟨rfl, trivial⟩ ?_
  repeat (clear hS)
  rintro k g w ⟨hk, hS⟩
  show WC _ _ _ (lf _ [(6, .int .i64 (k : Int))] _ _) _ _
  by_cases hlt : k < ps.length
  · obtain ⟨og, oo, rfl⟩ := hS.own_addr (A := AL) (n := ps.length) (by repeat (first | exact List.Mem.head _ | apply List.Mem.tail)) (by omega)
    have e1 := (cps_set (z_set hlt).1 0 []).1.trans (congrArg cps (z_set hlt).2)
    have hqc : (cps ((ps.take k).map zP ++ ps.drop k)).length = ps.length * 7 := by rw [cps_len, List.length_append, List.length_map, ← List.length_append, List.take_append_drop]
    clear htr hc hA
    repeat' (first
      | (show WL _ _ _ _ _ _ _; first
        | refine WL.pure rfl rfl rfl rfl ?_
        | refine WL.nil ?_
        | refine WL.add rfl rfl rfl (by omega) rfl rfl rfl ?_
        | (refine WL.storeOwn (off := k * 7 + 5) (vs := [.int .i64 0]) hS rfl rfl rfl (by repeat (first | exact Repl.here | apply Repl.there)) (by rw [hqc]; show k * 7 + 5 + 1 ≤ _; omega) rfl rfl rfl rfl ?_; intro w hS; simp only [List.length_singleton] at hS; rw [e1] at hS)
        | refine WL.index rfl rfl rfl rfl (by first | with_reducible assumption | omega) rfl rfl rfl rfl ?_)
      | (show WC _ _ _ _ _ _; first
        | refine WC.seq ?_
        | refine WC.region ?_
        | refine WC.block ?_
        | refine WC.skip ?_
        | refine WC.condT rfl (decide_eq_true (by first | with_reducible assumption | omega)) ?_)
      | refine seqQ_n ?_
      | refine blkQ_n ?_)
    exact rndQ_n (k + 1) ⟨by omega, hS.droplast2 (by repeat (first | exact Pulls.nil | (apply Pulls.cons; focus (repeat (first | exact Pull.here | apply Pull.there)))))⟩ (by show ps.length - (k + 1) < ps.length - k; omega) ⟨vint (by omega), trivial⟩ ⟨rfl, rfl, rfl, trivial⟩
  have hke : k = ps.length := by omega
  subst hke
  have hq : (ps.take ps.length).map zP ++ ps.drop ps.length = ps.map zP := by rw [List.take_length, List.drop_length, List.append_nil]
  rw [hq] at hS
  have hpz : (ps.map zP).map Cp.c = l.map zC := by rw [← hps, List.map_map, List.map_map]; rfl
  have hin : ∀ p ∈ ps.map zP, p.c.hub.length ≤ p.ca ∧ p.c.side.length ≤ p.cb ∧ SlAt cEnt (Old w0) w0 p.A p.c.hub ∧ SlAt cEnt (Old w0) w0 p.B p.c.side := fun p hp => by
    obtain ⟨q, hq, rfl⟩ := List.mem_map.1 hp
    exact hpi q hq
  have hcz : ∀ c ∈ l.map zC, FitC c := fun c hc2 => by
    obtain ⟨q, hq, rfl⟩ := List.mem_map.1 hc2
    exact ⟨(hc q hq).path, (hc q hq).hub, (hc q hq).side⟩
  have hL1 : (l.map zC).length = ps.length := by rw [List.length_map, hpl]
  have hr1 := fun (w : World) (h : SlAt cCf (Old w) w AL (l.map zC)) (h0 : SlAt cEnt (Old w) w A0 t0) (h1 : SlAt cEnt (Old w) w A1 t1) (h2 : SlAt cEnt (Old w) w A2 t2) => resolve_c (cap := cl) (c0 := c0) (c1 := c1) (c2 := c2) (l.map zC) t0 t1 t2 h (by rw [hL1]; omega) hcz h0 h1 h2 hf0 hf1 hf2 (resolve_later t0 t1 t2)
  rw [hL1] at hr1
  rcases hR : resolveE l t0 t1 t2 with ⟨u0, u1, u2, rest, done, stale⟩
  have hfo := resolve_fit hf0 hf1 hf2 hc l.length (Nat.le_refl _)
  rw [List.take_length, hR] at hfo
  obtain ⟨_, _, _, hrl, hdl, hsl⟩ := hfo
  dsimp only at hrl hdl hsl
  have hr2 := fun (w : World) (h : SlAt cCf (Old w) w A l) (h0 : SlAt cEnt (Old w) w A0 t0) (h1 : SlAt cEnt (Old w) w A1 t1) (h2 : SlAt cEnt (Old w) w A2 t2) => resolve_c (cap := cap) (c0 := c0) (c1 := c1) (c2 := c2) l t0 t1 t2 h hl hc h0 h1 h2 hf0 hf1 hf2 hR
  have hsm := fun (w : World) {AR : Option Addr} {cr : Nat} (h1 : SlAt cCf (Old w) w AR (l.map zC)) (h2 : SlAt cCf (Old w) w AL (l.map zC)) => rsameCf_c (ca := cr) (cb := cl) (l.map zC) h1 h2 (by rw [hL1]; omega) (fun c hc2 => by have := (hcz c hc2).hub.len; have := (hcz c hc2).side.len; omega)
  rw [hL1] at hsm
  clear hlt hk htr hq hcz hc hR hpi hP hone hps
  repeat' (first
    | (show WL _ _ _ _ _ _ _; first
      | refine WL.pure rfl rfl rfl rfl ?_
      | refine WL.nil ?_
      | refine WL.load hS rfl rfl (LdOk.box (by repeat (first | exact List.Mem.head _ | apply List.Mem.tail)) rfl) rfl rfl rfl ?_
      | refine WL.add rfl rfl rfl (by omega) rfl rfl rfl ?_
      | (refine WL.callL (D := []) hS .nil rfl rfl (fun hI => hr1 _ (hpz ▸ later_sl hS (by repeat (first | exact List.Mem.head _ | apply List.Mem.tail)) (by repeat (first | exact List.Mem.head _ | apply List.Mem.tail)) hin) (hS.slO (by repeat (first | exact List.Mem.head _ | apply List.Mem.tail)) hT0) (hS.slO (by repeat (first | exact List.Mem.head _ | apply List.Mem.tail)) hT1) (hS.slO (by repeat (first | exact List.Mem.head _ | apply List.Mem.tail)) hT2)) rfl rfl rfl ?_; rintro v w ⟨B0, e0, B1, e1, B2, e2, AR, cr, AD, cd, AS, cs, ps2, fp2, rfl, hps2, hmu⟩ hS; replace hS := hS _ hmu; clear hmu hr1)
      | (refine WL.callL (D := []) hS .nil rfl rfl (fun hI => hr2 _ (hS.slO (by repeat (first | exact List.Mem.head _ | apply List.Mem.tail)) hA) (hS.slO (by repeat (first | exact List.Mem.head _ | apply List.Mem.tail)) hT0) (hS.slO (by repeat (first | exact List.Mem.head _ | apply List.Mem.tail)) hT1) (hS.slO (by repeat (first | exact List.Mem.head _ | apply List.Mem.tail)) hT2)) rfl rfl rfl ?_; rintro v w ⟨G0, g0, G1, g1, G2, g2, AR2, cr2, AD2, cd2, AS2, cs2, ps3, fp3, rfl, hps3, hmu⟩ hS; replace hS := hS _ hmu; clear hmu hr2)
      | (refine WL.calls hS rfl rfl (hsm _ (hps2 ▸ hS.cfsSl (ps := ps2) (fp := fp2) (by repeat (first | exact List.Mem.head _ | apply List.Mem.tail)) (by repeat (first | exact List.Mem.head _ | apply List.Mem.tail))) (hpz ▸ later_sl hS (by repeat (first | exact List.Mem.head _ | apply List.Mem.tail)) (by repeat (first | exact List.Mem.head _ | apply List.Mem.tail)) hin)) rfl rfl rfl ?_; rintro v w rfl hS)
      | (refine WL.add (a := 0) (b := 0) rfl rfl rfl (by decide) rfl rfl rfl ?_)
      | (refine WL.store hS rfl rfl rfl (by repeat (first | exact StB.here rfl | apply StB.there)) rfl rfl rfl ?_; intro w hS)
      | (refine WL.alloc hS rfl rfl rfl rfl rfl rfl ?_; intro w b hS)
      | ((fail_if_success (refine WL.wanted rfl ?_)); refine WL.guard rfl rfl rfl (fun h => ?_) (fun h => ?_) <;> (try simp only [Classical.not_not, Bool.not_eq_true', Bool.not_eq_false', Bool.not_eq_eq_eq_not, Bool.not_true, Bool.not_false, beq_iff_eq, beq_eq_false_iff_ne, ne_eq, decide_eq_decide, decide_eq_true_eq, decide_eq_false_iff_not, Bool.and_eq_true, Bool.or_eq_true, Bool.and_eq_false_iff, Bool.or_eq_false_iff] at h) <;> (try (exfalso; first | omega | contradiction))))
    | (show WC _ _ _ _ _ _; first
      | refine WC.seq ?_
      | refine WC.region ?_
      | refine WC.block ?_
      | refine WC.skip ?_
      | refine WC.exit ?_
      | refine WC.ret ?_
      | refine WC.rounds 4 ?_
      | (show WC _ _ (Code.region _ (List.toArray [_, _, _, _, _, _, _, _, _]) true) _ _ _; refine WC.drawS hS [0,1,2,3,4,5,6,8] [0,1,2,3,4,5,6,7,8] (by kernel_rfl) (by kernel_rfl) ?_; clear hS; intro w hS hM)
      | refine WC.condT rfl (by decide) ?_
      | refine WC.condF rfl (by decide) ?_
      | refine WC.condF rfl (decide_eq_false (by first | with_reducible assumption | omega)) ?_)
    | (show WD _ _ _ _ _ _ _ _ _; first
      | refine WD.pure rfl rfl rfl rfl rfl ?_
      | refine WD.nil ?_
      | refine WD.load rfl rfl (LdOk.box (by repeat (first | exact List.Mem.head _ | apply List.Mem.tail)) rfl) rfl rfl rfl rfl ?_
      | (refine WD.indexArr (j := 0) rfl rfl rfl rfl (by decide) rfl rfl rfl rfl ?_)
      | (refine WD.indexArr (j := 1) rfl rfl rfl rfl (by decide) rfl rfl rfl rfl ?_)
      | (refine WD.indexArr (j := 2) rfl rfl rfl rfl (by decide) rfl rfl rfl rfl ?_)
      | (refine WD.calls hS hM rfl rfl (rsameD_c t0 t0 (A := B0) (St.ownSl (sz := 3) (enc := encEnt) (hsz := fun _ => rfl) (l := t0) (by decide) hS (by repeat (first | exact List.Mem.head _ | apply List.Mem.tail))) (hS.slO (by repeat (first | exact List.Mem.head _ | apply List.Mem.tail)) hT0) (by omega) (by omega)) rfl rfl rfl rfl rfl ?_; clear hS; rintro v w rfl hS; rw [decide_eq_true rfl])
      | (refine WD.calls hS hM rfl rfl (rsameD_c t1 t1 (A := B1) (St.ownSl (sz := 3) (enc := encEnt) (hsz := fun _ => rfl) (l := t1) (by decide) hS (by repeat (first | exact List.Mem.head _ | apply List.Mem.tail))) (hS.slO (by repeat (first | exact List.Mem.head _ | apply List.Mem.tail)) hT1) (by omega) (by omega)) rfl rfl rfl rfl rfl ?_; clear hS; rintro v w rfl hS; rw [decide_eq_true rfl])
      | (refine WD.calls hS hM rfl rfl (rsameD_c t2 t2 (A := B2) (St.ownSl (sz := 3) (enc := encEnt) (hsz := fun _ => rfl) (l := t2) (by decide) hS (by repeat (first | exact List.Mem.head _ | apply List.Mem.tail))) (hS.slO (by repeat (first | exact List.Mem.head _ | apply List.Mem.tail)) hT2) (by omega) (by omega)) rfl rfl rfl rfl rfl ?_; clear hS; rintro v w rfl hS; rw [decide_eq_true rfl]))
    | refine seqQ_n ?_
    | refine blkQ_n ?_
    | refine seqQ_x ?_
    | refine blkQ_hit rfl ?_
    | refine rndQ_x ?_
    | refine rdQ_n ?_
    | refine rdQ_x ?_)
  exact fin1r rfl rfl ⟨hS.upd, congrArg Value.bool (decide_eq_true (by omega))⟩
end Go.Proofs.YtniacmoniaaolaaDoor

/- What is proved: the key of SessionLater: the law answers true. Conditions: the statement's own bound on the bulk. -/
set_option linter.unusedSimpArgs false
set_option linter.unusedVariables false
namespace Go.Proofs.YtniacmoniaaolaaDoor
open Go Go.J Go.RowKit
theorem sessionLater.key_sessionLater (W : World) (v0 v1 : Value) (y0 : List Cf) (y1 : T3) (b0 b1 : Nat) (h0 : ASl cCf W v0 y0) (h1 : AAgg cT3 W v1 y1) (q0 : QL QCf y0 b0) (q1 : QT3 y1 b1) (hb : b0 + b1 ≤ 1048576) :
    Cal Tryd.prog 5 [v0, v1] W (fun v W' => Upd [] W W' ∧ v = .bool true) := by
  obtain ⟨A0, c0, rfl, k0, h0⟩ := h0
  obtain ⟨cs, rfl, B0, e0, B1, e1, B2, e2, rfl, hcap, g0, g1, g2⟩ := h1
  obtain ⟨z1, z2⟩ := cfs_fit q0 (by omega)
  obtain ⟨x0, x1, x2, r0, r1, r2, hx⟩ := q1
  exact sessionLater_c y0 y1.a y1.b y1.c h0 (by omega) (fun c hc => (z1 c hc).1) g0 g1 g2 (fit_of r0 (by omega)) (fit_of r1 (by omega)) (fit_of r2 (by omega)) hcap
end Go.Proofs.YtniacmoniaaolaaDoor

/- What is proved: what Choose of reference 23 answers. Conditions: lists of bounded length. -/
set_option linter.unusedSimpArgs false
set_option linter.unusedVariables false
namespace Go.Proofs.YtniacmoniaaolaaDoor
open Go Go.J Go.RowKit

variable {w0 : World}
theorem may_cases {l : List Cf} {i : Nat} (hil : i < l.length) (choice : Int) (given : List UInt8) : (mayC l i choice given = false ∧ (choice < 0 ∨ (0 ≤ choice ∧ 4 < choice) ∨ (0 ≤ choice ∧ choice ≤ 4 ∧ 4096 < given.length) ∨ (0 ≤ choice ∧ choice < 4 ∧ given.length ≤ 4096 ∧ given ≠ []) ∨ (choice = 3 ∧ given = [] ∧ l[i].text = false))) ∨
      (mayC l i choice given = true ∧ ((choice = 4 ∧ given.length ≤ 4096) ∨ (0 ≤ choice ∧ choice < 3 ∧ given = []) ∨ (choice = 3 ∧ given = [] ∧ l[i].text = true))) := by
  rw [mayC_at hil]
  generalize l[i].text = tx
  by_cases h1 : choice < 0
  · exact .inl ⟨by rw [decide_eq_false (show ¬ (0 ≤ choice ∧ choice ≤ 4) by omega)]; rfl, .inl h1⟩
  by_cases h2 : 4 < choice
  · exact .inl ⟨by rw [decide_eq_false (show ¬ (0 ≤ choice ∧ choice ≤ 4) by omega)]; rfl, .inr (.inl ⟨by omega, h2⟩)⟩
  rw [decide_eq_true (show 0 ≤ choice ∧ choice ≤ 4 by omega)]
  by_cases h3 : 4096 < given.length
  · exact .inl ⟨by rw [decide_eq_false (show ¬ given.length ≤ 4096 by omega)]; rfl, .inr (.inr (.inl ⟨by omega, by omega, h3⟩))⟩
  rw [decide_eq_true (show given.length ≤ 4096 by omega)]
  by_cases h4 : choice = 4
  · subst h4
    exact .inr ⟨rfl, .inl ⟨rfl, by omega⟩⟩
  rw [decide_eq_false h4]
  by_cases h5 : given = []
  · rw [decide_eq_true h5]
    by_cases h6 : choice = 3
    · subst h6
      cases tx
      · exact .inl ⟨rfl, .inr (.inr (.inr (.inr ⟨rfl, h5, rfl⟩)))⟩
      · exact .inr ⟨rfl, .inr (.inr ⟨rfl, h5, rfl⟩)⟩
    · rw [decide_eq_false h6]
      exact .inr ⟨rfl, .inr (.inl ⟨by omega, by omega, h5⟩)⟩
  · rw [decide_eq_false h5]
    exact .inl ⟨rfl, .inr (.inr (.inr (.inl ⟨by omega, by omega, by omega, h5⟩)))⟩
/-- the first place at a path, found from behind -/
def RevIs (l : List Cf) (p : List UInt8) (j : Nat) (a : Int) : Prop := (a = -1 ∧ ∀ i (h : i < l.length), j ≤ i → l[i].path ≠ p) ∨ ∃ k, ∃ h : k < l.length, a = (k : Int) ∧ j ≤ k ∧ l[k].path = p ∧ ∀ i (h : i < l.length), j ≤ i → i < k → l[i].path ≠ p
theorem RevIs.start (l : List Cf) (p : List UInt8) : RevIs l p l.length (-1) := .inl ⟨rfl, fun i h hj => absurd h (by omega)⟩
theorem RevIs.yes {l : List Cf} {p : List UInt8} {m : Nat} (h : m < l.length) (e : l[m].path = p) : RevIs l p m (m : Int) := .inr ⟨m, h, rfl, Nat.le_refl _, e, fun i h h1 h2 => absurd h1 (by omega)⟩
theorem RevIs.no {l : List Cf} {p : List UInt8} {m : Nat} {a : Int} (hr : RevIs l p (m + 1) a) (h : m < l.length) (e : l[m].path ≠ p) : RevIs l p m a := by
  rcases hr with ⟨h1, h2⟩ | ⟨k, hk, h1, h2, h3, h4⟩
  · refine .inl ⟨h1, fun i hi hj => ?_⟩
    by_cases hm : i = m
    · subst hm; exact e
    · exact h2 i hi (by omega)
  · refine .inr ⟨k, hk, h1, by omega, h3, fun i hi hj hik => ?_⟩
    by_cases hm : i = m
    · subst hm; exact e
    · exact h4 i hi (by omega) hik
theorem RevIs.done {l : List Cf} {p : List UInt8} {a : Int} (hr : RevIs l p 0 a) : a = idxV (idxF l p) := by
  rcases hr with ⟨h1, h2⟩ | ⟨k, hk, h1, _, h3, h4⟩
  · rw [idxF_none fun c hc => by
      obtain ⟨i, hi, rfl⟩ := List.getElem_of_mem hc
      exact h2 i hi (Nat.zero_le _)]
    exact h1
  · rw [idxF_some hk h3 fun j hj => h4 j (by omega) (Nat.zero_le _) hj]
    exact h1
/-- a conflict chosen in a row of conflicts -/
def setP (ps : List Cp) (i : Nat) (choice : Int) (given : List UInt8) : List Cp := ps.set i { ps[i]! with c := { ps[i]!.c with choice := choice, given := given } }
theorem setP_map {ps : List Cp} {l : List Cf} (h : ps.map Cp.c = l) {i : Nat} (hil : i < l.length) (x : Int) (g : List UInt8) : ps[i]? = some ps[i]! ∧ (setP ps i x g).map Cp.c = setC l i x g := by
  have hl2 : i < ps.length := by have := congrArg List.length h; rw [List.length_map] at this; omega
  have e1 : ps[i]! = ps[i] := getElem!_pos ps i hl2
  unfold setP
  rw [e1]
  refine ⟨List.getElem?_eq_getElem hl2, ?_⟩
  have e2 : (ps[i]).c = l[i] := by
    have := congrArg (fun q => q[i]?) h
    rw [List.getElem?_map, List.getElem?_eq_getElem hl2, List.getElem?_eq_getElem hil] at this
    exact Option.some.inj this
  unfold setC
  rw [List.map_set, h, List.getElem?_eq_getElem hil]
  show l.set i { ps[i].c with choice := x, given := g } = _
  rw [e2]
  rfl
theorem setP_in {ps : List Cp} {i : Nat} {x : Int} {g : List UInt8} {F : Nat → Prop} {w : World} (hi : i < ps.length) (h : ∀ p ∈ ps, p.c.hub.length ≤ p.ca ∧ p.c.side.length ≤ p.cb ∧ SlAt cEnt F w p.A p.c.hub ∧ SlAt cEnt F w p.B p.c.side) : ∀ p ∈ setP ps i x g, p.c.hub.length ≤ p.ca ∧ p.c.side.length ≤ p.cb ∧ SlAt cEnt F w p.A p.c.hub ∧ SlAt cEnt F w p.B p.c.side := fun p hp => by
  rcases List.mem_or_eq_of_mem_set hp with hp | rfl
  · exact h p hp
  · have e1 : ps[i]! = ps[i] := getElem!_pos ps i hi
    rw [e1]
    exact h ps[i] (List.getElem_mem hi)
set_option maxHeartbeats 32000000 in
set_option maxRecDepth 100000 in
theorem rchoose_c (l : List Cf) (ps : List Cp) (p : List UInt8) (choice : Int) (given : List UInt8) {A : Option Addr} {cap : Nat} (hps : ps.map Cp.c = l) (hA : SlAt cCf (Old w0) w0 A l) (hP : SlAt cCp (Old w0) w0 A ps) (hl : l.length ≤ 1048576) (hg : given.length ≤ 1048576) :
    Cal Tryd.prog 7 [.slice A l.length cap, str p, .int .i64 choice, str given] w0 (fun v w' => Upd [] w0 w' ∧ ((idxF l p = none ∧ v = .tuple #[.slice none 0 0, .int .i64 11]) ∨ (∃ i, idxF l p = some i ∧ mayC l i choice given = false ∧ v = .tuple #[.slice none 0 0, .int .i64 1]) ∨
      ∃ i, idxF l p = some i ∧ mayC l i choice given = true ∧ ∃ AO oc, v = .tuple #[.slice AO l.length oc, .int .i64 0] ∧ New w0 w' (.own (.slice AO l.length oc) 25 7 l.length (cps (setP ps i choice given))))) := by
  refine Cal.mk' (by kernel_rfl) Tryd.func7 rfl rfl fun hS => ?_
  have hst := RevIs.start l p
  repeat' (first
    | (show WL _ _ _ _ _ _ _; first
      | refine WL.pure rfl rfl rfl rfl ?_
      | refine WL.nil ?_
      | refine WL.sub rfl rfl rfl (by omega) rfl rfl rfl ?_)
    | (show WC _ _ _ _ _ _; first
      | refine WC.seq ?_
      | refine WC.region ?_
      | refine WC.block ?_)
    | refine seqQ_n ?_)
  refine WC.loop (σ := Nat × Int × Int) [0, 1, 2, 3] (fun (j, x, a) => [(10, .int .i64 a), (11, .int .i64 x)]) (fun (j, x, a) w => (j ≤ l.length ∧ x = (j : Int) - 1 ∧ RevIs l p j a) ∧ St w0 [] w [] [⟨w0, Old w0⟩]) (fun (j, _, _) => j) (l.length, (l.length : Int) - 1, -1) ⟨⟨Nat.le_refl _, rfl, hst⟩, hS⟩ ⟨rfl, rfl, trivial⟩ ?_
  clear hS hst
  rintro ⟨j, x, a⟩ g w ⟨⟨hj, hx, hr⟩, hS⟩
  show WC _ _ _ (lf _ [(10, .int .i64 a), (11, .int .i64 x)] _ _) _ _
  rcases j with _ | m
  rotate_left
  · obtain rfl : x = (m : Int) := by omega
    have hm : m < l.length := by omega
    obtain ⟨ga, go, es, rfl, hF, hrr, A1, c1, B1, d1, hes, _, _, _, _⟩ := hA.at_ hm
    subst hes
    replace hrr : w0.rangeAt ga (go + m * 7) (encCp ⟨l[m], A1, c1, B1, d1⟩) := hrr
    have hyes := fun h => RevIs.yes (p := p) hm h
    have hnot := fun h => hr.no hm h
    generalize l[m] = c at *
    obtain ⟨xpath, xhub, xside, xmerged, xtext, xchoice, xgiven⟩ := c
    unfold encCp at hrr
    dsimp only at hrr hyes hnot
    clear hr hA hP hx
    by_cases he : xpath = p
    · replace hyes := hyes he
      subst he
      clear hnot
      repeat' (first
        | (show WL _ _ _ _ _ _ _; first
          | refine WL.pure rfl rfl rfl rfl ?_
          | refine WL.nil ?_
          | refine WL.sub rfl rfl rfl (by omega) rfl rfl rfl ?_
          | (refine WL.load hS rfl rfl (LdOk.snap (off := 0) hF hrr (by repeat (first | exact List.Mem.head _ | apply List.Mem.tail)) rfl) rfl rfl rfl ?_)
          | refine WL.index rfl rfl rfl rfl (by first | with_reducible assumption | omega) rfl rfl rfl rfl ?_)
        | (show WC _ _ _ _ _ _; first
          | refine WC.seq ?_
          | refine WC.region ?_
          | refine WC.block ?_
          | refine WC.skip ?_
          | refine WC.condT rfl (decide_eq_true (by first | with_reducible assumption | omega)) ?_
          | refine WC.condT rfl (by first | (simp; done) | (simp; omega)) ?_)
        | refine seqQ_n ?_
        | refine blkQ_n ?_)
      exact rndQ_n (m, (m : Int) - 1, (m : Int)) ⟨⟨by omega, rfl, hyes⟩, hS⟩ (by show m < m + 1; omega) ⟨rfl, rfl, trivial⟩ ⟨rfl, rfl, rfl, rfl, trivial⟩
    · replace hnot := hnot he
      clear hyes
      repeat' (first
        | (show WL _ _ _ _ _ _ _; first
          | refine WL.pure rfl rfl rfl rfl ?_
          | refine WL.nil ?_
          | refine WL.sub rfl rfl rfl (by omega) rfl rfl rfl ?_
          | (refine WL.load hS rfl rfl (LdOk.snap (off := 0) hF hrr (by repeat (first | exact List.Mem.head _ | apply List.Mem.tail)) rfl) rfl rfl rfl ?_)
          | refine WL.index rfl rfl rfl rfl (by first | with_reducible assumption | omega) rfl rfl rfl rfl ?_)
        | (show WC _ _ _ _ _ _; first
          | refine WC.seq ?_
          | refine WC.region ?_
          | refine WC.block ?_
          | refine WC.skip ?_
          | refine WC.condF rfl (by first | (simp [he]; done) | fail) ?_
          | refine WC.condT rfl (decide_eq_true (by first | with_reducible assumption | omega)) ?_)
        | refine seqQ_n ?_
        | refine blkQ_n ?_)
      exact rndQ_n (m, (m : Int) - 1, a) ⟨⟨by omega, rfl, hnot⟩, hS⟩ (by show m < m + 1; omega) ⟨rfl, rfl, trivial⟩ ⟨rfl, rfl, rfl, rfl, trivial⟩
  obtain rfl : x = -1 := by simpa using hx
  obtain rfl := hr.done
  clear hr hx hj
  rcases idxF_cases l p with ⟨hix, _⟩ | ⟨i, hil, hix, _, _⟩
  · rw [hix]
    simp only [idxV]
    repeat' (first
      | (show WL _ _ _ _ _ _ _; first
        | refine WL.pure rfl rfl rfl rfl ?_
        | refine WL.nil ?_)
      | (show WC _ _ _ _ _ _; first
        | refine WC.seq ?_
        | refine WC.region ?_
        | refine WC.exit ?_
        | refine WC.ret ?_
        | refine WC.condT rfl (by decide) ?_
        | refine WC.condF rfl (by decide) ?_)
      | refine seqQ_n ?_
      | refine seqQ_x ?_
      | refine seqQ_r ?_
      | refine blkQ_hit rfl ?_
      | refine rndQ_x ?_)
    exact fin2r rfl rfl rfl ⟨hS.upd, .inl ⟨by first | rfl | trivial, rfl⟩⟩
  rw [hix]
  simp only [idxV]
  obtain ⟨ga, go, es, hAA, hF, hrr, A1, c1, B1, d1, hes, _, _, _, _⟩ := hA.at_ hil
  subst hes hAA
  replace hrr : w0.rangeAt ga (go + i * 7) (encCp ⟨l[i], A1, c1, B1, d1⟩) := hrr
  have hcases := may_cases hil choice given
  have hpl : ps.length = l.length := by rw [← hps, List.length_map]
  have hgt := (setP_map hps hil choice given).1
  generalize l[i] = ci at *
  obtain ⟨xpath, xhub, xside, xmerged, xtext, xchoice, xgiven⟩ := ci
  unfold encCp at hrr
  dsimp only at hrr hcases
  rcases hcases with ⟨hm, hcs⟩ | ⟨hm, hcs⟩
  · rcases hcs with h1 | ⟨h1, h2⟩ | ⟨h1, h2, h3⟩ | ⟨h1, h2, h3, h4⟩ | ⟨rfl, rfl, rfl⟩
    all_goals
      repeat' (first
        | (show WL _ _ _ _ _ _ _; first
          | refine WL.pure rfl rfl rfl rfl ?_
          | refine WL.nil ?_
          | (refine WL.load hS rfl rfl (LdOk.snap (off := 4) hF hrr (by repeat (first | exact List.Mem.head _ | apply List.Mem.tail)) rfl) rfl rfl rfl ?_)
          | refine WL.index rfl rfl rfl rfl (by first | with_reducible assumption | omega) rfl rfl rfl rfl ?_
          | refine WL.skip rfl rfl rfl ?_
          | ((fail_if_success (refine WL.wanted rfl ?_)); refine WL.guard rfl rfl rfl (fun h => ?_) (fun h => ?_) <;> (try simp only [Classical.not_not, Bool.not_eq_true', Bool.not_eq_false', Bool.not_eq_eq_eq_not, Bool.not_true, Bool.not_false, beq_iff_eq, beq_eq_false_iff_ne, ne_eq, decide_eq_decide, decide_eq_true_eq, decide_eq_false_iff_not, Bool.and_eq_true, Bool.or_eq_true, Bool.and_eq_false_iff, Bool.or_eq_false_iff] at h) <;> (try (exfalso; first | omega | contradiction))))
        | (show WC _ _ _ _ _ _; first
          | refine WC.seq ?_
          | refine WC.region ?_
          | refine WC.skip ?_
          | refine WC.exit ?_
          | refine WC.ret ?_
          | refine WC.condT rfl (by first | (simp [h4]; done) | fail) ?_
          | refine WC.condT rfl (by with_reducible rfl) ?_
          | refine WC.condT rfl (by decide) ?_
          | refine WC.condF rfl (by decide) ?_
          | refine WC.condF rfl (decide_eq_false (by first | with_reducible assumption | omega)) ?_)
        | refine seqQ_n ?_
        | refine seqQ_x ?_
        | refine seqQ_r ?_
        | refine blkQ_hit rfl ?_
        | refine rndQ_x ?_)
      exact fin2r rfl rfl rfl ⟨hS.upd, .inr (.inl ⟨i, by first | rfl | trivial, hm, rfl⟩)⟩
  · have hz0 : 0 + ps.length = ps.length := Nat.zero_add _
    have hone := cps_one ps
    have hil2 : i < ps.length := by omega
    have hpc := cps_len ps
    have hsp : ∀ x g, setP ps i x g = ps.set i { ps[i]! with c := { ps[i]!.c with choice := x, given := g } } := fun _ _ => rfl
    generalize ps[i]! = q at *
    have e1 := fun (x : Int) => (cps_set hgt x []).1
    have hq2 := fun (x : Int) => (show (ps.set i { q with c := { q.c with choice := x } })[i]? = some { q with c := { q.c with choice := x } } from by rw [List.getElem?_set_self hil2])
    have hpc2 := fun (x : Int) => cps_len (ps.set i { q with c := { q.c with choice := x } })
    simp only [List.length_set] at hpc2
    have e2 := fun (x : Int) (g : List UInt8) => (cps_set (hq2 x) 0 g).2
    simp only [List.set_set] at e2
    clear hA hgt hq2
    rcases hcs with ⟨rfl, h2⟩ | ⟨h1, h2, rfl⟩ | ⟨rfl, rfl, rfl⟩
    all_goals
      repeat' (first
        | (show WL _ _ _ _ _ _ _; first
          | refine WL.pure rfl rfl rfl rfl ?_
          | refine WL.nil ?_
          | (refine WL.load hS rfl rfl (LdOk.snap (off := 4) hF hrr (by repeat (first | exact List.Mem.head _ | apply List.Mem.tail)) rfl) rfl rfl rfl ?_)
          | (refine WL.slit (t := 22) hS rfl rfl rfl rfl rfl ?_; intro w ob hS; have hS := hS.boxRow (n := 0) (size := 7) .here rfl (Nat.zero_le _))
          | (refine WL.appSl (sz := 7) (enc := encCp) (hsz := fun _ => rfl) (ys := ps) hS rfl rfl rfl (congrArg (fun n => Value.slice _ n cap) hpl.symm) hP (by repeat (first | exact List.Mem.head _ | apply List.Mem.tail)) (by decide) hone (fun A cap => by repeat (first | exact Repl.here | apply Repl.there)) (by omega) rfl rfl rfl ?_; intro AL cl w hS; rw [hz0] at hS ⊢; replace hS : St w0 [] w (.own (.slice AL ps.length cl) 25 7 ps.length (cps ps) :: _) _ := hS; obtain ⟨og, oo, rfl⟩ := hS.own_addr (A := AL) (n := ps.length) (List.Mem.head _) (by omega))
          | (refine WL.storeOwn (off := i * 7 + 5) hS rfl rfl rfl (by repeat (first | exact Repl.here | apply Repl.there)) (by rw [hpc]; show i * 7 + 5 + 1 ≤ _; omega) rfl rfl rfl rfl ?_; intro w hS; simp only [List.length_singleton] at hS; rw [e1] at hS)
          | (refine WL.storeOwn (off := i * 7 + 6) hS rfl rfl rfl (by repeat (first | exact Repl.here | apply Repl.there)) (by rw [hpc2]; show i * 7 + 6 + 1 ≤ _; omega) rfl rfl rfl rfl ?_; intro w hS; simp only [List.length_singleton] at hS; rw [e2] at hS)
          | refine WL.index rfl rfl rfl rfl (by first | with_reducible assumption | omega) rfl rfl rfl rfl ?_
          | refine WL.skip rfl rfl rfl ?_
          | ((fail_if_success (refine WL.wanted rfl ?_)); refine WL.guard rfl rfl rfl (fun h => ?_) (fun h => ?_) <;> (try simp only [Classical.not_not, Bool.not_eq_true', Bool.not_eq_false', Bool.not_eq_eq_eq_not, Bool.not_true, Bool.not_false, beq_iff_eq, beq_eq_false_iff_ne, ne_eq, decide_eq_decide, decide_eq_true_eq, decide_eq_false_iff_not, Bool.and_eq_true, Bool.or_eq_true, Bool.and_eq_false_iff, Bool.or_eq_false_iff] at h) <;> (try (exfalso; first | omega | contradiction))))
        | (show WC _ _ _ _ _ _; first
          | refine WC.seq ?_
          | refine WC.region ?_
          | refine WC.skip ?_
          | refine WC.exit ?_
          | refine WC.ret ?_
          | refine WC.condF rfl (by with_reducible rfl) ?_
          | refine WC.condF rfl (by decide) ?_
          | refine WC.condF rfl (decide_eq_false (by first | with_reducible assumption | omega)) ?_)
        | refine seqQ_n ?_
        | refine seqQ_x ?_
        | refine blkQ_hit rfl ?_
        | refine rndQ_x ?_)
      rw [hpl] at hS
      exact fin2r rfl rfl rfl ⟨hS.upd, .inr (.inr ⟨i, by first | rfl | trivial, hm, some ⟨og, oo, none⟩, cl, by rw [hpl], by rw [hsp]; exact hS.newOf (by repeat (first | exact List.Mem.head _ | apply List.Mem.tail))⟩)⟩
end Go.Proofs.YtniacmoniaaolaaDoor

/- What is proved: the law SessionChooses answers true. Conditions: the statement's own bound on the bulk. -/
set_option linter.unusedSimpArgs false
set_option linter.unusedVariables false
namespace Go.Proofs.YtniacmoniaaolaaDoor
open Go Go.J Go.RowKit

def spB : List UInt8 := [115, 112, 97, 114, 101]
def spCf : Cf := ⟨spB, [], [], [], false, 0, []⟩
def spP : Cp := ⟨spCf, none, 0, none, 0⟩
/-- what Choose answers, by definition -/
def chooseO (l : List Cf) (p : List UInt8) (choice : Int) (given : List UInt8) : Int × List Cf := match idxF l p with
  | none => (11, [])
  | some i => if mayC l i choice given then (0, setC l i choice given) else (1, [])
theorem setC_len (l : List Cf) (i : Nat) (choice : Int) (given : List UInt8) : (setC l i choice given).length = l.length := by unfold setC; rw [List.length_set]
theorem chooseO_len (l : List Cf) (p : List UInt8) (choice : Int) (given : List UInt8) : (chooseO l p choice given).2.length ≤ l.length := by
  unfold chooseO
  split
  · exact Nat.zero_le _
  · split
    · rw [setC_len]; exact Nat.le_refl _
    · exact Nat.zero_le _
theorem chooseO_mem {l : List Cf} {p : List UInt8} {choice : Int} {given : List UInt8} {Q : Cf → Prop} (h : ∀ c ∈ l, Q c) (hq : ∀ c, Q c → Q { c with choice := choice, given := given }) : ∀ c ∈ (chooseO l p choice given).2, Q c := by
  unfold chooseO
  split
  · intro c hc; cases hc
  · rename_i i hi
    split
    · intro c hc
      rcases List.mem_or_eq_of_mem_set hc with hc | rfl
      · exact h c hc
      · rcases idxF_cases l p with ⟨h1, _⟩ | ⟨k, hk, h1, _⟩
        · rw [hi] at h1; cases h1
        · rw [hi] at h1
          obtain rfl := Option.some.inj h1
          rw [List.getElem?_eq_getElem hk]
          exact hq _ (h _ (List.getElem_mem hk))
    · intro c hc; cases hc
theorem MutL.nilCf {w w' : World} (h : MutL w w' [] []) : MutL w w' [] [.own (.slice none 0 0) 25 7 0 (cps []), innF [] []] := by
  have hr : (Chunk.own (.slice none 0 0) 25 7 0 (cps [])).holds w' := RowAt.of_owns (World.ownsRow_nil w' 0 _ _)
  have hS : St w [] w' [] [] := ⟨by simpa [fps] using h.upd, fun c hc => (by cases hc), fun c hc => (by cases hc), .nil, fun z hz => (by cases hz)⟩
  have hS2 : St w (fps []) w' [Chunk.own (.slice none 0 0) 25 7 0 [], innF [] []] [] := hS.cfNil.nilRow 25 7
  exact hS2.mutLp (.cons .here (.cons .here .nil))
theorem choU {l : List Cf} {p : List UInt8} {choice : Int} {given : List UInt8} {v : Value} {w w' : World} {ec : Int} {La : List Cf} (hO : chooseO l p choice given = (ec, La)) (h : ChoIs l p choice given v w w') : ∃ AO oc ps fp, v = .tuple #[.slice AO La.length oc, .int .i64 ec] ∧ ps.map Cp.c = La ∧ MutL w w' [] [.own (.slice AO La.length oc) 25 7 La.length (cps ps), innF ps fp] := by
  unfold chooseO at hO
  rcases h with ⟨e, rfl, hm⟩ | ⟨i, e, e2, rfl, hm⟩ | ⟨i, e, e2, AO, oc, ps, fp, rfl, hps, hm⟩
  · rw [e] at hO
    simp only [Prod.mk.injEq] at hO
    obtain ⟨rfl, rfl⟩ := hO
    exact ⟨none, 0, [], [], rfl, rfl, MutL.nilCf hm⟩
  · rw [e] at hO
    simp only [e2, Prod.mk.injEq, Bool.false_eq_true, if_false] at hO
    obtain ⟨rfl, rfl⟩ := hO
    exact ⟨none, 0, [], [], rfl, rfl, MutL.nilCf hm⟩
  · rw [e] at hO
    simp only [e2, if_true, Prod.mk.injEq] at hO
    obtain ⟨rfl, rfl⟩ := hO
    rw [setC_len]
    exact ⟨AO, oc, ps, fp, rfl, hps, hm⟩
/-! ## rows for Apart -/
abbrev Q3 := Cp × Rw × List Ent
def zsOf (qs : List Q3) : List (Rw × List Ent) := qs.flatMap fun q => [(⟨q.1.A, q.1.c.hub.length, q.1.ca⟩, q.1.c.hub), (⟨q.1.B, q.1.c.side.length, q.1.cb⟩, q.1.c.side), (q.2.1, q.2.2)]
theorem zs_len (qs : List Q3) : (zsOf qs).length = 3 * qs.length := by
  induction qs with
  | nil => rfl
  | cons q l ih => show (_ :: _ :: _ :: zsOf l).length = _; simp only [List.length_cons, ih]; omega
theorem mark_zs (mk : Nat → Ent) {zs : List (Rw × List Ent)} (h : ∀ z ∈ zs, z.2.length = z.1.n) : MarkIs encEnt 53 3 mk (zs.map Prod.fst) (zs.map fun z => ownRw encEnt 53 3 z.1 z.2) 0 := by
  refine ⟨by rw [List.length_map, List.length_map], fun j hj => ?_⟩
  rw [List.length_map] at hj
  refine ⟨(zs[j]).2, ?_, ?_, fun h => absurd h (Nat.not_lt_zero _)⟩
  · rw [List.getElem_map]; exact h _ (List.getElem_mem hj)
  · rw [List.getElem?_map, List.getElem?_eq_getElem hj, List.getElem_map]
    rfl
theorem zs_perm (qs : List Q3) : ((qs.map Prod.fst).flatMap inF ++ qs.map fun q => ownRw encEnt 53 3 q.2.1 q.2.2).Perm ((zsOf qs).map fun z => ownRw encEnt 53 3 z.1 z.2) := by
  induction qs with
  | nil => exact .refl _
  | cons q l ih =>
    show ((eC q.1.A q.1.ca q.1.c.hub :: eC q.1.B q.1.cb q.1.c.side :: (l.map Prod.fst).flatMap inF) ++ (ownRw encEnt 53 3 q.2.1 q.2.2 :: l.map fun q => ownRw encEnt 53 3 q.2.1 q.2.2)).Perm (eC q.1.A q.1.ca q.1.c.hub :: eC q.1.B q.1.cb q.1.c.side :: ownRw encEnt 53 3 q.2.1 q.2.2 :: (zsOf l).map fun z => ownRw encEnt 53 3 z.1 z.2)
    refine .cons _ (.cons _ ?_)
    exact List.perm_middle.trans (.cons _ ih)
theorem pulls_pre : ∀ (D H : List Chunk), Pulls D (D ++ H) H
  | [], H => .nil
  | c :: D, H => .cons .here (pulls_pre D H)
theorem inF_take (psa : List Cp) (i : Nat) : psa.flatMap inF = (psa.take i).flatMap inF ++ (psa.drop i).flatMap inF := by rw [← List.flatMap_append, List.take_append_drop]
theorem set7 {vs c : List Value} {k n : Nat} (hc : c.length = 7) (hv : vs.length = n * 7) (hk : k < n) : (vs.take (k * 7) ++ c ++ vs.drop (k * 7 + c.length)).length = n * 7 := by
  rw [List.length_append, List.length_append, List.length_take, List.length_drop, hc, hv]
  omega
theorem pulls_mid (X : Chunk) : ∀ D : List Chunk, Pulls D (X :: D) [X]
  | [] => .nil
  | c :: D => .cons (.there .here) (pulls_mid X D)
abbrev copC (qs : List Q3) (fp : List Nat) : Chunk := objC (fun D => D = qs.map fun q => ownRw encEnt 53 3 q.2.1 q.2.2) fp
section
variable {w0 w : World} {M : List Nat} {H : List Chunk} {Z : List Snap} {qs : List Q3} {x : Q3} {fp : List Nat}
theorem _root_.Go.J.St.copNil (hS : St w0 M w H Z) : St w0 M w (copC [] [] :: H) Z := St.objClose (D := []) (φ := fun D => D = ([] : List Q3).map fun q => ownRw encEnt 53 3 q.2.1 q.2.2) hS rfl
theorem _root_.Go.J.St.copPush (hS : St w0 M w (copC qs fp :: ownRw encEnt 53 3 x.2.1 x.2.2 :: H) Z) : ∃ fp', St w0 M w (copC (qs ++ [x]) fp' :: H) Z := by
  obtain ⟨D, hD, _, hS⟩ := hS.objOpen
  subst hD
  have e : (qs.map fun q => ownRw encEnt 53 3 q.2.1 q.2.2) ++ (ownRw encEnt 53 3 x.2.1 x.2.2 :: H) = ((qs ++ [x]).map fun q => ownRw encEnt 53 3 q.2.1 q.2.2) ++ H := by simp
  rw [e] at hS
  exact ⟨_, hS.objClose (φ := fun D => D = (qs ++ [x]).map fun q => ownRw encEnt 53 3 q.2.1 q.2.2) rfl⟩
end
theorem rchU {l : List Cf} {ps : List Cp} {p : List UInt8} {choice : Int} {given : List UInt8} {v : Value} {w w' wz : World} {F : Nat → Prop} {ec : Int} {La : List Cf} (hO : chooseO l p choice given = (ec, La)) (hps : ps.map Cp.c = l) (hpi : ∀ p ∈ ps, p.c.hub.length ≤ p.ca ∧ p.c.side.length ≤ p.cb ∧ SlAt cEnt F wz p.A p.c.hub ∧ SlAt cEnt F wz p.B p.c.side)
    (h : (idxF l p = none ∧ v = .tuple #[.slice none 0 0, .int .i64 11]) ∨ (∃ i, idxF l p = some i ∧ mayC l i choice given = false ∧ v = .tuple #[.slice none 0 0, .int .i64 1]) ∨
      ∃ i, idxF l p = some i ∧ mayC l i choice given = true ∧ ∃ AO oc, v = .tuple #[.slice AO l.length oc, .int .i64 0] ∧ New w w' (.own (.slice AO l.length oc) 25 7 l.length (cps (setP ps i choice given)))) :
    ∃ BO bc psb, v = .tuple #[.slice BO La.length bc, .int .i64 ec] ∧ psb.map Cp.c = La ∧ (∀ p ∈ psb, p.c.hub.length ≤ p.ca ∧ p.c.side.length ≤ p.cb ∧ SlAt cEnt F wz p.A p.c.hub ∧ SlAt cEnt F wz p.B p.c.side) ∧ New w w' (.own (.slice BO La.length bc) 25 7 La.length (cps psb)) := by
  unfold chooseO at hO
  have hnil : New w w' (.own (.slice none 0 0) 25 7 0 (cps [])) := ⟨RowAt.of_owns (World.ownsRow_nil w' 0 _ _), fun b hb => by simp [Chunk.fp, Value.ownBlock] at hb⟩
  rcases h with ⟨e, rfl⟩ | ⟨i, e, e2, rfl⟩ | ⟨i, e, e2, AO, oc, rfl, hn⟩
  · rw [e] at hO
    simp only [Prod.mk.injEq] at hO
    obtain ⟨rfl, rfl⟩ := hO
    exact ⟨none, 0, [], rfl, rfl, fun q hq => (by cases hq), hnil⟩
  · rw [e] at hO
    simp only [e2, Prod.mk.injEq, Bool.false_eq_true, if_false] at hO
    obtain ⟨rfl, rfl⟩ := hO
    exact ⟨none, 0, [], rfl, rfl, fun q hq => (by cases hq), hnil⟩
  · rw [e] at hO
    simp only [e2, if_true, Prod.mk.injEq] at hO
    obtain ⟨rfl, rfl⟩ := hO
    have hil : i < l.length := by
      rcases idxF_cases l p with ⟨h1, _⟩ | ⟨k, hk, h1, _⟩
      · rw [e] at h1; cases h1
      · rw [e] at h1
        obtain rfl := Option.some.inj h1
        exact hk
    have hi2 : i < ps.length := by rw [← hps, List.length_map] at hil; exact hil
    rw [setC_len]
    exact ⟨AO, oc, _, rfl, (setP_map hps hil choice given).2, setP_in hi2 hpi, hn⟩
theorem cps_at {ps : List Cp} {i : Nat} (h : i < ps.length) {k : Nat} (hk : k < 7) : (cps ps)[i * 7 + k]? = (encCp ps[i])[k]? := flat_get (sz := 7) (enc := encCp) (fun _ => rfl) ps h hk
set_option maxHeartbeats 64000000 in
set_option maxRecDepth 100000 in
theorem sessionChooses_c (l : List Cf) (p : List UInt8) (choice : Int) (given : List UInt8) {A : Option Addr} {cap : Nat} {w0 : World} (hA : SlAt cCf (Old w0) w0 A l) (hl : l.length ≤ 262144) (hc : ∀ c ∈ l, FitC c) (hg : given.length ≤ 1048576) :
    Cal Tryd.prog 3 [.slice A l.length cap, str p, .int .i64 choice, str given] w0 (fun v w' => Upd [] w0 w' ∧ v = .bool true) := by
  refine Cal.mk' (by kernel_rfl) Tryd.func3 rfl rfl fun hS => ?_
  obtain ⟨ps, hps, hP, hpi⟩ := cf_cps hA
  have hpl : ps.length = l.length := by rw [← hps, List.length_map]
  have hz0 : 0 + ps.length = ps.length := Nat.zero_add _
  have hone := cps_one ps
  have hcz : ∀ c ∈ l, c.hub.length ≤ 1048576 ∧ c.side.length ≤ 1048576 := fun c h => by have := (hc c h).hub.len; have := (hc c h).side.len; omega
  have hcp : cps ps ++ [str spB, .slice none 0 0, .slice none 0 0, str [], .bool false, .int .i64 0, str []] = cps (ps ++ [spP]) := cps_snoc ps spP
  have hmx : (ps ++ [spP]).map Cp.c = l ++ [spCf] := by rw [List.map_append, hps]; rfl
  have hinx : ∀ q ∈ ps ++ [spP], q.c.hub.length ≤ q.ca ∧ q.c.side.length ≤ q.cb ∧ SlAt cEnt (Old w0) w0 q.A q.c.hub ∧ SlAt cEnt (Old w0) w0 q.B q.c.side := fun q hq => by
    rcases List.mem_append.1 hq with hq | hq
    · exact hpi q hq
    · rw [List.mem_singleton.1 hq]
      exact ⟨Nat.le_refl _, Nat.le_refl _, fun k hk => absurd hk (Nat.not_lt_zero _), fun k hk => absurd hk (Nat.not_lt_zero _)⟩
  have hspare : (cps (ps ++ [spP]))[l.length * 7 + 0]? = some (str spB) := by
    rw [← hpl, cps_at (by rw [List.length_append]; exact Nat.lt_succ_self _) (by decide), List.getElem_append_right (Nat.le_refl _)]
    simp only [Nat.sub_self, List.getElem_cons_zero]
    rfl
  rcases hO : chooseO l p choice given with ⟨ec, La⟩
  have hLl : La.length ≤ l.length := by have := chooseO_len l p choice given; rw [hO] at this; exact this
  have hLz : ∀ c ∈ La, c.hub.length ≤ 1048576 ∧ c.side.length ≤ 1048576 := by have := chooseO_mem (p := p) (choice := choice) (given := given) hcz (fun c h => h); rw [hO] at this; exact this
  have hcl : ∀ c ∈ l, c.hub.length ≤ 1048576 := fun c h => (hcz c h).1
  have hch := fun (w : World) {A' : Option Addr} {c' : Nat} (h : SlAt cCf (Old w) w A' l) => choose_c (cap := c') l p choice given h (by omega) hg hcz
  have hrc := fun (w : World) (h : SlAt cCf (Old w) w A l) (h2 : SlAt cCp (Old w) w A ps) => rchoose_c (cap := cap) l ps p choice given hps h h2 (by omega) hg
  have hs1 := fun (w : World) {A1 A2 : Option Addr} {k1 k2 : Nat} (h1 : SlAt cCf (Old w) w A1 La) (h2 : SlAt cCf (Old w) w A2 La) => rsameCf_c (ca := k1) (cb := k2) La h1 h2 (by omega) hLz
  have hs2 := fun (w : World) {A1 A2 : Option Addr} {k1 k2 : Nat} (h1 : SlAt cCf (Old w) w A1 l) (h2 : SlAt cCf (Old w) w A2 l) => rsameCf_c (ca := k1) (cb := k2) l h1 h2 (by omega) hcz
  have hro := fun {v : Value} {w w' : World} => rchU (v := v) (w := w) (w' := w') hO hps hpi
  clear hc
  repeat' (first
    | (show WL _ _ _ _ _ _ _; first
      | refine WL.pure rfl rfl rfl rfl ?_
      | refine WL.nil ?_
      | (refine WL.slit (t := 22) hS rfl rfl rfl rfl rfl ?_; intro w ob hS; replace hS := hS.boxRow (n := 0) (size := 7) .here rfl (Nat.zero_le _))
      | (refine WL.appSl (sz := 7) (enc := encCp) (hsz := fun _ => rfl) (ys := ps) hS rfl rfl rfl (congrArg (fun n => Value.slice A n cap) hpl.symm) hP (by repeat (first | exact List.Mem.head _ | apply List.Mem.tail)) (by decide) hone (fun A cap => by repeat (first | exact Repl.here | apply Repl.there)) (by omega) rfl rfl rfl ?_; intro AL cl w hS)
      | (refine WL.app hS rfl rfl rfl rfl (RdOk.box (by repeat (first | exact List.Mem.head _ | apply List.Mem.tail))) rfl rfl (fun A cap => by repeat (first | exact Repl.here | apply Repl.there)) (by omega) rfl rfl rfl ?_; intro A4 ci w hS; obtain ⟨ag, ao, rfl⟩ := hS.own_addr (A := A4) (by repeat (first | exact List.Mem.head _ | apply List.Mem.tail)) (by omega); have hci := (hS.own_len (A := some ⟨ag, ao, none⟩) (by repeat (first | exact List.Mem.head _ | apply List.Mem.tail))).2.2)
      | (refine WL.highV rfl rfl rfl rfl (by omega) rfl rfl rfl ?_)
      | refine WL.build rfl rfl rfl rfl rfl ?_
      | (refine WL.slit hS rfl rfl rfl rfl rfl ?_; intro w b hS))
    | (show WC _ _ _ _ _ _; first
      | refine WC.seq ?_
      | refine WC.region ?_)
    | refine seqQ_n ?_)
  replace hS := hS.droplast2 (D := [.own (.slice (some ⟨ag, ao, none⟩) (0 + ps.length + 1) ci) 25 7 (0 + ps.length + 1) (cps ps ++ [str spB, .slice none 0 0, .slice none 0 0, str [], .bool false, .int .i64 0, str []])]) (by repeat (first | exact Pulls.nil | (apply Pulls.cons; focus (repeat (first | exact Pull.here | apply Pull.there)))))
  rw [hz0, hcp, hpl] at hS
  rw [hz0, hpl] at hci
  have hin2 := fun {w : World} {H : List Chunk} {Z : List Snap} (hS : St w0 [] w H Z) (hz : Snap.mk w0 (Old w0) ∈ Z) (h1 : .own (.slice (some ⟨ag, ao, none⟩) (l.length + 1) ci) 25 7 (l.length + 1) (cps (ps ++ [spP])) ∈ H) => (show SlAt cCf (Old w) w (some ⟨ag, ao, none⟩) l from SlAt.pre (ys := [spCf]) (hmx ▸ later_sl (ps := ps ++ [spP]) hS hz h1 hinx))
  clear hmx hinx hcp hz0
  repeat' (first
    | (show WL _ _ _ _ _ _ _; first
      | refine WL.pure rfl rfl rfl rfl ?_
      | refine WL.nil ?_
      | refine WL.add rfl rfl rfl (by omega) rfl rfl rfl ?_
      | (refine WL.callL (D := []) hS .nil rfl rfl (fun hI => hch _ (hin2 hS (by repeat (first | exact List.Mem.head _ | apply List.Mem.tail)) (by repeat (first | exact List.Mem.head _ | apply List.Mem.tail)))) rfl rfl rfl ?_; rintro v w hr hS; obtain ⟨AO, oc, psa, fpa, rfl, hpa, hmu⟩ := choU hO hr; replace hS := hS _ hmu; clear hmu hr)
      | (refine WL.callG rfl rfl (hrc _ (hS.slO (by repeat (first | exact List.Mem.head _ | apply List.Mem.tail)) hA) (hS.slO (by repeat (first | exact List.Mem.head _ | apply List.Mem.tail)) hP)) rfl rfl rfl ?_; rintro v w ⟨hu, hr⟩; obtain ⟨BO, bc, psb, rfl, hpb, hib, hn⟩ := hro hr; replace hS := hS.new hu hn; clear hu hn hr)
      | (refine WL.calls hS rfl rfl (sawake_c _) rfl rfl rfl ?_; rintro v w rfl hS)
      | (refine WL.calls hS rfl rfl (hs1 _ (hpa ▸ hS.cfsSl (ps := psa) (fp := fpa) (by repeat (first | exact List.Mem.head _ | apply List.Mem.tail)) (by repeat (first | exact List.Mem.head _ | apply List.Mem.tail))) (hpb ▸ later_sl (ps := psb) hS (by repeat (first | exact List.Mem.head _ | apply List.Mem.tail)) (by repeat (first | exact List.Mem.head _ | apply List.Mem.tail)) hib)) rfl rfl rfl ?_; rintro v w rfl hS)
      | (refine WL.calls hS rfl rfl (hs2 _ (hin2 hS (by repeat (first | exact List.Mem.head _ | apply List.Mem.tail)) (by repeat (first | exact List.Mem.head _ | apply List.Mem.tail))) (hS.slO (by repeat (first | exact List.Mem.head _ | apply List.Mem.tail)) hA)) rfl rfl rfl ?_; rintro v w rfl hS)
      | (refine WL.highV (j := l.length + 1) rfl rfl rfl rfl (by omega) rfl rfl rfl ?_)
      | (refine WL.load hS rfl rfl (LdOk.ownAt (off := l.length * 7 + 0) (by repeat (first | exact List.Mem.head _ | apply List.Mem.tail)) rfl ⟨_, rfl⟩ hspare rfl) rfl rfl rfl ?_)
      | refine WL.index rfl rfl rfl rfl (by first | with_reducible assumption | omega) rfl rfl rfl rfl ?_
      | ((fail_if_success (refine WL.wanted rfl ?_)); refine WL.guard rfl rfl rfl (fun h => ?_) (fun h => ?_) <;> (try simp only [Classical.not_not, Bool.not_eq_true', Bool.not_eq_false', Bool.not_eq_eq_eq_not, Bool.not_true, Bool.not_false, beq_iff_eq, beq_eq_false_iff_ne, ne_eq, decide_eq_decide, decide_eq_true_eq, decide_eq_false_iff_not, Bool.and_eq_true, Bool.or_eq_true, Bool.and_eq_false_iff, Bool.or_eq_false_iff] at h) <;> (try (exfalso; first | omega | contradiction))))
    | (show WC _ _ _ _ _ _; first
      | refine WC.seq ?_
      | refine WC.region ?_
      | refine WC.block ?_
      | refine WC.skip ?_
      | refine WC.condF rfl (by decide) ?_)
    | refine seqQ_n ?_)
  have hpal : psa.length = La.length := by rw [← hpa, List.length_map]
  replace hS := ((hS.nilRow 23 1).copNil).droplast2 (D := [.own (.slice none 0 0) 23 1 0 [], copC [] [], .own (.slice AO La.length oc) 25 7 La.length (cps psa), innF psa fpa, .own (.slice (some ⟨ag, ao, none⟩) (l.length + 1) ci) 25 7 (l.length + 1) (cps (ps ++ [spP]))]) (by repeat (first | exact Pulls.nil | (apply Pulls.cons; focus (repeat (first | exact Pull.here | apply Pull.there)))))
  clear hch hrc hs1 hro hspare hpb hib hO hpi hP hone hcz hps
  refine WC.loop (σ := Nat × List Q3 × Option Addr × Nat × List Nat) [0, 9, 10] (fun (i, qs, OL, ol, fpc) => [(14, .slice OL (3 * i) ol), (15, .int .i64 (i : Int))])
    (fun (i, qs, OL, ol, fpc) w => ((i ≤ La.length ∧ i ≤ 6) ∧ qs.map Prod.fst = psa.take i ∧ ∀ q ∈ qs, q.2.2.length = q.2.1.n ∧ q.2.1.n ≤ 1048576) ∧ St w0 [] w [.own (.slice OL (3 * i) ol) 23 1 (3 * i) (((zsOf qs).map Prod.fst).flatMap encRw), copC qs fpc, .own (.slice AO La.length oc) 25 7 La.length (cps psa), innF psa fpa, .own (.slice (some ⟨ag, ao, none⟩) (l.length + 1) ci) 25 7 (l.length + 1) (cps (ps ++ [spP]))] [⟨w0, Old w0⟩]) (fun (i, _) => La.length - i) (0, [], none, 0, [])
    ⟨⟨⟨Nat.zero_le _, Nat.zero_le _⟩, rfl, fun q hq => (by cases hq)⟩, hS⟩ ⟨rfl, rfl, trivial⟩ ?_
  repeat (clear hS)
  rintro ⟨i, qs, OL, ol, fpc⟩ g w ⟨⟨⟨hi, hi6⟩, hqm, hqs⟩, hS⟩
  show WC _ _ _ (lf _ [(14, .slice OL (3 * i) ol), (15, .int .i64 (i : Int))] _ _) _ _
  by_cases hlt : i < La.length ∧ i < 6
  · obtain ⟨hlt, hl6⟩ := hlt
    obtain ⟨ga, go, es, rfl, hF, hr, X1, x1, Y1, y1, hes, _, _, hs3, _⟩ := hA.at_ (k := i) (by omega)
    subst hes
    replace hr : w0.rangeAt ga (go + i * 7) (encCp ⟨l[i], X1, x1, Y1, y1⟩) := hr
    have hfi := (hcl _ (List.getElem_mem (show i < l.length by omega)))
    obtain ⟨og, oo, rfl⟩ := hS.own_addr (A := AO) (n := La.length) (by repeat (first | exact List.Mem.head _ | apply List.Mem.tail)) (by omega)
    have hq1 := cps_at (ps := psa) (i := i) (by omega) (k := 1) (by decide)
    have hq2 := cps_at (ps := psa) (i := i) (by omega) (k := 2) (by decide)
    have hqn : ∀ x : Rw × List Ent, (qs ++ [((psa[i]'(by omega)), x)]).map Prod.fst = psa.take (i + 1) := fun x => by rw [List.map_append, hqm, List.take_succ_eq_append_getElem (by omega)]; rfl
    generalize psa[i]'(by omega) = q at *
    generalize l[i] = c at *
    obtain ⟨⟨qp, qh, qsd, qm, qt, qc, qg⟩, QA, qa, QB, qb⟩ := q
    obtain ⟨ep, eh, es, em, et, ec2, eg⟩ := c
    unfold encCp at hr hq1 hq2
    dsimp only at hr hq1 hq2 hfi hs3
    replace hq1 : (cps psa)[i * 7 + 1]? = some (.slice QA qh.length qa) := hq1
    replace hq2 : (cps psa)[i * 7 + 2]? = some (.slice QB qsd.length qb) := hq2
    have hone := ents_ones eh
    have hzs : ∀ (A5 : Option Addr) (c5 : Nat), ((zsOf qs).map Prod.fst).flatMap encRw ++ [.slice QA qh.length qa, .slice QB qsd.length qb, .slice A5 eh.length c5] = ((zsOf (qs ++ [((⟨⟨qp, qh, qsd, qm, qt, qc, qg⟩, QA, qa, QB, qb⟩ : Cp), (⟨A5, eh.length, c5⟩ : Rw), eh)])).map Prod.fst).flatMap encRw := fun A5 c5 => by
      unfold zsOf
      rw [List.flatMap_append, List.map_append, List.flatMap_append]
      rfl
    have hz1 : 0 + eh.length = eh.length := Nat.zero_add _
    clear hs2 hin2 hA hpa hqm hLz
    repeat' (first
      | (show WL _ _ _ _ _ _ _; first
        | refine WL.pure rfl rfl rfl rfl ?_
        | refine WL.nil ?_
        | refine WL.add rfl rfl rfl (by omega) rfl rfl rfl ?_
        | ((fail_if_success (refine WL.wanted rfl ?_)); refine WL.guard rfl rfl rfl (fun h => ?_) (fun h => ?_) <;> (try simp only [Classical.not_not, Bool.not_eq_true', Bool.not_eq_false', Bool.not_eq_eq_eq_not, Bool.not_true, Bool.not_false, beq_iff_eq, beq_eq_false_iff_ne, ne_eq, decide_eq_decide, decide_eq_true_eq, decide_eq_false_iff_not, Bool.and_eq_true, Bool.or_eq_true, Bool.and_eq_false_iff, Bool.or_eq_false_iff] at h) <;> (try (exfalso; first | omega | contradiction))))
      | (show WC _ _ _ _ _ _; first
        | refine WC.seq ?_
        | refine WC.region ?_
        | refine WC.block ?_
        | refine WC.skip ?_
        | (show WC _ _ (Code.region _ (List.toArray [_, _, _, _, _, _, _, _, _, _, _, _, _, _, _, _, _, _, _, _, _]) true) _ _ _; refine WC.drawL [.own (.slice OL (3 * i) ol) 23 1 (3 * i) (((zsOf qs).map Prod.fst).flatMap encRw)] hS (by repeat (first | exact Pulls.nil | (apply Pulls.cons; focus (repeat (first | exact Pull.here | apply Pull.there))))) [0,1,2,3,4,5,6,7,8,9,10,12,13,14,15,16,20] [0,1,2,3,4,5,6,7,8,9,10,12,13,14,15,16,11,17,18,19,20] (by kernel_rfl) (by kernel_rfl) ?_; clear hS; intro w hS hM)
        | refine WC.condT rfl (decide_eq_true (by first | with_reducible assumption | omega)) ?_)
      | (show WD _ _ _ _ _ _ _ _ _; first
        | refine WD.pure rfl rfl rfl rfl rfl ?_
        | refine WD.nil ?_
        | (refine WD.load rfl rfl (LdOk.ownAt (off := i * 7 + 1) (by repeat (first | exact List.Mem.head _ | apply List.Mem.tail)) rfl ⟨_, rfl⟩ hq1 rfl) rfl rfl rfl rfl ?_)
        | (refine WD.load rfl rfl (LdOk.ownAt (off := i * 7 + 2) (by repeat (first | exact List.Mem.head _ | apply List.Mem.tail)) rfl ⟨_, rfl⟩ hq2 rfl) rfl rfl rfl rfl ?_)
        | (refine WD.load rfl rfl (LdOk.snap (off := 1) hF hr (by repeat (first | exact List.Mem.head _ | apply List.Mem.tail)) rfl) rfl rfl rfl rfl ?_)
        | (refine WD.slit0 (size := 3) hS hM rfl rfl rfl rfl rfl rfl rfl ?_; clear hS hM; intro w ob hS hM)
        | (refine WD.appSl (sz := 3) (enc := encEnt) (hsz := fun _ => rfl) (ys := eh) hS (by repeat (first | exact Pull.here | apply Pull.there)) (by repeat (first | exact More.refl _ _ | refine More.chunk ?_ _)) rfl rfl rfl rfl hs3 (by repeat (first | exact List.Mem.head _ | apply List.Mem.tail)) (by decide) hone (by omega) rfl rfl rfl rfl rfl ?_; clear hS hM; intro A5 c5 w hS hM)
        | (refine WD.slit (t := 33) hS hM rfl rfl rfl rfl rfl rfl rfl ?_; clear hS hM; intro w rb hS hM)
        | (refine WD.app (size := 1) hS (by repeat (first | exact Pull.here | apply Pull.there)) (by repeat (first | exact More.refl _ _ | refine More.chunk ?_ _)) rfl rfl rfl rfl (RdOk.box (by repeat (first | exact List.Mem.head _ | apply List.Mem.tail))) rfl rfl (by omega) rfl rfl rfl rfl rfl ?_; clear hS hM; intro A6 c6 w hS hM)
        | refine WD.index rfl rfl rfl rfl (by first | with_reducible assumption | omega) rfl rfl rfl rfl rfl ?_)
      | refine seqQ_n ?_
      | refine blkQ_n ?_)
    replace hS := hS.droplast2 (D := [copC qs fpc, .own (.slice A5 (0 + eh.length) c5) 53 3 (0 + eh.length) (eh.flatMap encEnt), .own (.slice A6 (3 * i + 3) c6) 23 1 (3 * i + 3) (((zsOf qs).map Prod.fst).flatMap encRw ++ [.slice QA qh.length qa, .slice QB qsd.length qb, .slice A5 (0 + eh.length) c5]), .own (.slice (some ⟨og, oo, none⟩) La.length oc) 25 7 La.length (cps psa), innF psa fpa, .own (.slice (some ⟨ag, ao, none⟩) (l.length + 1) ci) 25 7 (l.length + 1) (cps (ps ++ [spP]))]) (by repeat (first | exact Pulls.nil | (apply Pulls.cons; focus (repeat (first | exact Pull.here | apply Pull.there)))))
    rw [hz1, hzs] at hS
    obtain ⟨fpd, hS2⟩ := St.copPush (x := ((⟨⟨qp, qh, qsd, qm, qt, qc, qg⟩, QA, qa, QB, qb⟩ : Cp), (⟨A5, eh.length, c5⟩ : Rw), eh)) hS
    exact rndQ_n (i + 1, qs ++ [((⟨⟨qp, qh, qsd, qm, qt, qc, qg⟩, QA, qa, QB, qb⟩ : Cp), (⟨A5, eh.length, c5⟩ : Rw), eh)], A6, c6, fpd) ⟨⟨⟨by omega, by omega⟩, hqn _, fun q hq => by
      rcases List.mem_append.1 hq with hq | hq
      · exact hqs q hq
      · rw [List.mem_singleton.1 hq]
        exact ⟨rfl, hfi⟩⟩, hS2.droplast2 (by repeat (first | exact Pulls.nil | (apply Pulls.cons; focus (repeat (first | exact Pull.here | apply Pull.there)))))⟩ (by show La.length - (i + 1) < La.length - i; omega) ⟨rfl, vint (by omega), trivial⟩ ⟨rfl, rfl, rfl, trivial⟩
  have hge : La.length ≤ i ∨ (i < La.length ∧ 6 ≤ i) := by omega
  have hvl := cps_len psa
  rw [hpal] at hvl
  have hqln : qs.length = i := by have := congrArg List.length hqm; rw [List.length_map, List.length_take] at this; omega
  have hlen : ((zsOf qs).map Prod.fst).length = 3 * i := by rw [List.length_map, zs_len, hqln]
  have hzl : ∀ z ∈ zsOf qs, z.2.length = z.1.n := fun z hz => by
    obtain ⟨q, hq, hz⟩ := List.mem_flatMap.1 hz
    simp only [List.mem_cons, List.not_mem_nil, or_false] at hz
    rcases hz with rfl | rfl | rfl
    · rfl
    · rfl
    · exact (hqs q hq).1
  have hzr : ∀ r ∈ (zsOf qs).map Prod.fst, r.n ≤ 1048576 := fun r hr => by
    obtain ⟨z, hz, rfl⟩ := List.mem_map.1 hr
    obtain ⟨q, hq, hz⟩ := List.mem_flatMap.1 hz
    have hqa : q.1.c ∈ La := by
      have : q.1 ∈ psa.take i := by rw [← hqm]; exact List.mem_map.2 ⟨q, hq, rfl⟩
      rw [← hpa]
      exact List.mem_map.2 ⟨_, List.mem_of_mem_take this, rfl⟩
    simp only [List.mem_cons, List.not_mem_nil, or_false] at hz
    rcases hz with rfl | rfl | rfl
    · exact (hLz _ hqa).1
    · exact (hLz _ hqa).2
    · exact (hqs q hq).2
  have hap := fun (w : World) (hi : InL w (Chunk.own (.slice OL ((zsOf qs).map Prod.fst).length ol) 23 1 ((zsOf qs).map Prod.fst).length (((zsOf qs).map Prod.fst).flatMap encRw) :: (zsOf qs).map fun z => ownRw encEnt 53 3 z.1 z.2)) => rapart_c ((zsOf qs).map Prod.fst) ((zsOf qs).map fun z => ownRw encEnt 53 3 z.1 z.2) (OA := OL) (oc := ol) hi (mark_zs mE hzl) (by rw [hlen]; omega) hzr
  rw [hlen] at hap
  have hpm : ∀ L : List Chunk, ((qs.map fun q => ownRw encEnt 53 3 q.2.1 q.2.2) ++ (psa.flatMap inF ++ L)).Perm (L ++ (((zsOf qs).map fun z => ownRw encEnt 53 3 z.1 z.2) ++ (psa.drop i).flatMap inF)) := fun L => by
    rw [inF_take psa i, ← hqm]
    have h3 := zs_perm qs
    generalize (qs.map fun q => ownRw encEnt 53 3 q.2.1 q.2.2) = C at *
    generalize (qs.map Prod.fst).flatMap inF = T at *
    generalize (psa.drop i).flatMap inF = Dp at *
    have h1 : (C ++ ((T ++ Dp) ++ L)).Perm (L ++ (C ++ (T ++ Dp))) := by rw [← List.append_assoc]; exact List.perm_append_comm
    have h2 : (C ++ (T ++ Dp)).Perm ((T ++ C) ++ Dp) := by rw [← List.append_assoc]; exact List.perm_append_comm.append_right Dp
    exact h1.trans ((h2.trans (h3.append_right Dp)).append_left L)
  generalize ((zsOf qs).map fun z => ownRw encEnt 53 3 z.1 z.2) = ZS at *
  clear hlt hzl hzr hlen hqln hqm hqs hLz
  rcases hge with h1 | ⟨h1, h2⟩
  all_goals
    repeat' (first
      | (show WL _ _ _ _ _ _ _; first
        | refine WL.pure rfl rfl rfl rfl ?_
        | refine WL.nil ?_
        | refine WL.skip rfl rfl rfl ?_
        | ((fail_if_success (refine WL.wanted rfl ?_)); refine WL.guard rfl rfl rfl (fun h => ?_) (fun h => ?_) <;> (try simp only [Classical.not_not, Bool.not_eq_true', Bool.not_eq_false', Bool.not_eq_eq_eq_not, Bool.not_true, Bool.not_false, beq_iff_eq, beq_eq_false_iff_ne, ne_eq, decide_eq_decide, decide_eq_true_eq, decide_eq_false_iff_not, Bool.and_eq_true, Bool.or_eq_true, Bool.and_eq_false_iff, Bool.or_eq_false_iff] at h) <;> (try (exfalso; first | omega | contradiction))))
      | (show WC _ _ _ _ _ _; first
        | refine WC.seq ?_
        | refine WC.region ?_
        | refine WC.block ?_
        | refine WC.exit ?_
        | refine WC.condF rfl (by with_reducible rfl) ?_
        | refine WC.condF rfl (decide_eq_false (by first | with_reducible assumption | omega)) ?_)
      | refine seqQ_n ?_
      | refine seqQ_x ?_
      | refine blkQ_hit rfl ?_
      | refine rndQ_x ?_)
    refine WC.loop (σ := Nat × List Value) [0, 9, 10, 14] (fun (k, _) => [(16, .int .i64 (k : Int))])
      (fun (k, vs) w => (k ≤ La.length ∧ vs.length = La.length * 7) ∧ St w0 [] w [.own (.slice AO La.length oc) 25 7 La.length vs, .own (.slice OL (3 * i) ol) 23 1 (3 * i) (((zsOf qs).map Prod.fst).flatMap encRw), copC qs fpc, innF psa fpa, .own (.slice (some ⟨ag, ao, none⟩) (l.length + 1) ci) 25 7 (l.length + 1) (cps (ps ++ [spP]))] [⟨w0, Old w0⟩]) (fun (k, _) => La.length - k) (0, cps psa) ⟨⟨Nat.zero_le _, hvl⟩, hS.droplast2 (by repeat (first | exact Pulls.nil | (apply Pulls.cons; focus (repeat (first | exact Pull.here | apply Pull.there)))))⟩ ⟨rfl, trivial⟩ ?_
    repeat (clear hS)
    rintro ⟨k, vs⟩ g2 w ⟨⟨hk, hvs⟩, hS⟩
    show WC _ _ _ (lf _ [(16, .int .i64 (k : Int))] _ _) _ _
    by_cases hlt : k < La.length
    · obtain ⟨og, oo, rfl⟩ := hS.own_addr (A := AO) (n := La.length) (by repeat (first | exact List.Mem.head _ | apply List.Mem.tail)) (by omega)
      clear hap hpm hs2 hin2 hA
      repeat' (first
        | (show WL _ _ _ _ _ _ _; first
          | refine WL.pure rfl rfl rfl rfl ?_
          | refine WL.nil ?_
          | refine WL.add rfl rfl rfl (by omega) rfl rfl rfl ?_
          | (refine WL.storeOwn (off := k * 7) (vs := [str [120], .slice none 0 0, .slice none 0 0, str [], .bool false, .int .i64 0, str []]) hS rfl rfl rfl (by repeat (first | exact Repl.here | apply Repl.there)) (by rw [hvs]; show k * 7 + 7 ≤ _; omega) rfl rfl rfl rfl ?_; intro w hS)
          | refine WL.index rfl rfl rfl rfl (by first | with_reducible assumption | omega) rfl rfl rfl rfl ?_
          | refine WL.build rfl rfl rfl rfl rfl ?_)
        | (show WC _ _ _ _ _ _; first
          | refine WC.seq ?_
          | refine WC.region ?_
          | refine WC.block ?_
          | refine WC.skip ?_
          | refine WC.condT rfl (decide_eq_true (by first | with_reducible assumption | omega)) ?_)
        | refine seqQ_n ?_
        | refine blkQ_n ?_)
      exact rndQ_n (k + 1, vs.take (k * 7) ++ [str [120], .slice none 0 0, .slice none 0 0, str [], .bool false, .int .i64 0, str []] ++ vs.drop (k * 7 + ([str [120], .slice none 0 0, .slice none 0 0, str [], .bool false, .int .i64 0, str []] : List Value).length)) ⟨⟨by omega, set7 rfl hvs hlt⟩, hS.droplast2 (by repeat (first | exact Pulls.nil | (apply Pulls.cons; focus (repeat (first | exact Pull.here | apply Pull.there)))))⟩ (by show La.length - (k + 1) < La.length - k; omega) ⟨vint (by omega), trivial⟩ ⟨rfl, rfl, rfl, rfl, trivial⟩
    · replace hS := hS.droplast2 (D := [innF psa fpa, copC qs fpc, .own (.slice OL (3 * i) ol) 23 1 (3 * i) (((zsOf qs).map Prod.fst).flatMap encRw), .own (.slice (some ⟨ag, ao, none⟩) (l.length + 1) ci) 25 7 (l.length + 1) (cps (ps ++ [spP]))]) (by repeat (first | exact Pulls.nil | (apply Pulls.cons; focus (repeat (first | exact Pull.here | apply Pull.there)))))
      obtain ⟨D1, hD1, _, hS1⟩ := hS.objOpen
      subst hD1
      obtain ⟨D2, hD2, _, hS2⟩ := (hS1.perm List.perm_middle).objOpen
      subst hD2
      replace hS := (hS2.perm (hpm _)).droplast2 (D := .own (.slice OL (3 * i) ol) 23 1 (3 * i) (((zsOf qs).map Prod.fst).flatMap encRw) :: .own (.slice (some ⟨ag, ao, none⟩) (l.length + 1) ci) 25 7 (l.length + 1) (cps (ps ++ [spP])) :: ZS) (.cons .here (.cons .here (pulls_pre _ _)))
      clear hS1 hS2 hpm
      repeat' (first
        | (show WL _ _ _ _ _ _ _; first
          | refine WL.pure rfl rfl rfl rfl ?_
          | refine WL.nil ?_
          | (refine WL.calls hS rfl rfl (hs2 _ (hin2 hS (by repeat (first | exact List.Mem.head _ | apply List.Mem.tail)) (List.Mem.tail _ (List.Mem.head _))) (hS.slO (by repeat (first | exact List.Mem.head _ | apply List.Mem.tail)) hA)) rfl rfl rfl ?_; rintro v w rfl hS)
          | (refine WL.callL (D := .own (.slice OL (3 * i) ol) 23 1 (3 * i) (((zsOf qs).map Prod.fst).flatMap encRw) :: ZS) hS (.cons .here (pulls_mid _ _)) rfl rfl (fun hI => hap _ hI) rfl rfl rfl ?_; rintro v w ⟨rfl, hmu⟩ hS; replace hS := hS _ hmu; clear hmu))
        | (show WC _ _ _ _ _ _; first
          | refine WC.seq ?_
          | refine WC.region ?_
          | refine WC.exit ?_
          | refine WC.ret ?_
          | refine WC.condF rfl (decide_eq_false (by first | with_reducible assumption | omega)) ?_)
        | refine seqQ_n ?_
        | refine seqQ_x ?_
        | refine blkQ_hit rfl ?_
        | refine rndQ_x ?_)
      exact fin1r rfl rfl ⟨hS.upd, rfl⟩
end Go.Proofs.YtniacmoniaaolaaDoor

/- What is proved: the key of SessionChooses: the law answers true. Conditions: the statement's own bound on the bulk. -/
set_option linter.unusedSimpArgs false
set_option linter.unusedVariables false
namespace Go.Proofs.YtniacmoniaaolaaDoor
open Go Go.J Go.RowKit
theorem sessionChooses.key_sessionChooses (W : World) (v0 v1 v2 v3 : Value) (y0 : List Cf) (y1 : List UInt8) (y2 : Int) (y3 : List UInt8) (b0 b1 b2 b3 : Nat) (h0 : ASl cCf W v0 y0) (h1 : AStr W v1 y1) (h2 : AInt W v2 y2) (h3 : AStr W v3 y3) (q0 : QL QCf y0 b0) (q1 : QStr y1 b1) (q2 : QInt y2 b2) (q3 : QStr y3 b3) (hb : b0 + b1 + b2 + b3 ≤ 1048576) :
    Cal Tryd.prog 3 [v0, v1, v2, v3] W (fun v W' => Upd [] W W' ∧ v = .bool true) := by
  obtain ⟨A0, c0, rfl, k0, h0⟩ := h0
  have h1 : v1 = str y1 := h1
  have h2 : v2 = .int .i64 y2 := h2
  have h3 : v3 = str y3 := h3
  subst h1 h2 h3
  obtain ⟨z1, z2⟩ := cfs_fit q0 (by omega)
  have hg : y3.length + 1 ≤ b3 := q3
  exact sessionChooses_c y0 y1 y2 y3 h0 z2 (fun c hc => (z1 c hc).1) (by omega)
end Go.Proofs.YtniacmoniaaolaaDoor
