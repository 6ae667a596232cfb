/- What is proved: contracts and plain facts that the law leans on (texts put together). Conditions: as each names them. -/
import Derived.Test.YtniacmoniaaolaaDoorM4
set_option linter.unusedSimpArgs false
set_option linter.unusedVariables false
/- What is proved: how the laws' arguments read. Conditions: none. -/
set_option linter.unusedSimpArgs false
set_option linter.unusedVariables false
namespace Go.Proofs.YtniacmoniaaolaaDoor
open Go Go.J Go.RowKit Go.WideShapes Go.ChangeShapes

def QEn4 (e : Ent) (b : Nat) : Prop := e.path.length + e.data.length + 4 ≤ b
theorem lst2 {α : Type} {l : List α} (h : l.length = 2) : ∃ a b, l = [a, b] := by match l, h with | [a, b], _ => exact ⟨a, b, rfl⟩
theorem lst3 {α : Type} {l : List α} (h : l.length = 3) : ∃ a b c, l = [a, b, c] := by match l, h with | [a, b, c], _ => exact ⟨a, b, c, rfl⟩
theorem lst7 {α : Type} {l : List α} (h : l.length = 7) : ∃ a b c d e f g, l = [a, b, c, d, e, f, g] := by match l, h with | [a, b, c, d, e, f, g], _ => exact ⟨a, b, c, d, e, f, g, rfl⟩
def NodR (cs : List Value) (b : Nat) : Prop := ∃ (k : Int) (d : List UInt8), cs = [.int .i64 k, str d] ∧ d.length + 3 ≤ b
set_option maxRecDepth 100000 in
theorem open_nodS {H : Type} (enc : TypeId × Value → H) (W : World) (fuel : Nat) (cs : List Value) (x : DataW H × List MemPlace) (h : DataW.trod enc Tryd.prog W 0 (fun _ => true) true fuel 51 cs = some x) : NodR cs (Rows.uptoBulk x.1) := by
  obtain ⟨xs, n, _, rfl, hlen, hxl, hf⟩ := DataW.trod_struct Tryd.underlying51 h
  obtain ⟨x0, x1, rfl⟩ := lst2 hxl
  obtain ⟨c0, c1, rfl⟩ := lst2 (hlen.trans (by kernel_rfl))
  obtain ⟨s0, e0, q0⟩ := Opens.int Tryd.underlying3 enc W n [c0] x0 (hf 0 _ rfl)
  obtain ⟨s1, e1, q1⟩ := Opens.str Tryd.underlying9 enc W n [c1] x1 (hf 1 _ rfl)
  have e0 : [c0] = [.int .i64 s0] := e0
  have e1 : [c1] = [str s1] := e1
  simp only [List.cons.injEq, and_true] at e0 e1
  subst e0 e1
  refine ⟨s0, s1, rfl, ?_⟩
  have h1 := q0.2.2
  have h2 : s1.length + 1 ≤ Rows.uptoBulk x1.1 := q1
  simp only [Rows.uptoBulk, Rows.uptoBulkAll, List.map_cons, List.map_nil]
  omega
set_option maxRecDepth 100000 in
theorem open_entS : Opens Tryd.prog 53 cEnt QEn4 := by
  intro H enc W fuel cs x h
  obtain ⟨xs, n, _, rfl, hlen, hxl, hf⟩ := DataW.trod_struct Tryd.underlying53 h
  obtain ⟨x0, x1, rfl⟩ := lst2 hxl
  obtain ⟨c0, c1, c2, rfl⟩ := lst3 (hlen.trans (by kernel_rfl))
  obtain ⟨s0, e0, q0⟩ := Opens.str Tryd.underlying9 enc W n [c0] x0 (hf 0 _ rfl)
  obtain ⟨k, d, e1, q1⟩ := open_nodS enc W n [c1, c2] x1 (hf 1 _ rfl)
  have e0 : [c0] = [str s0] := e0
  simp only [List.cons.injEq, and_true] at e0 e1
  obtain ⟨e1, e2⟩ := e1
  subst e0 e1 e2
  refine ⟨⟨s0, k, d⟩, rfl, ?_⟩
  unfold QEn4
  have h2 : s0.length + 1 ≤ Rows.uptoBulk x0.1 := q0
  simp only [Rows.uptoBulk, Rows.uptoBulkAll, List.map_cons, List.map_nil]
  omega
theorem sum_ge {l : List Nat} : ∀ n ∈ l, n ≤ l.sum := by
  induction l with
  | nil => intro n hn; cases hn
  | cons a l ih =>
    intro n hn
    rw [List.sum_cons]
    rcases List.mem_cons.1 hn with rfl | hn
    · omega
    · have := ih n hn; omega
theorem sum_cnt {c : Nat} {l : List Nat} (h : ∀ n ∈ l, c ≤ n) : c * l.length ≤ l.sum := by
  induction l with
  | nil => exact Nat.le_refl _
  | cons a l ih =>
    have h1 := ih fun n hn => h n (List.mem_cons_of_mem _ hn)
    have h2 := h a (List.mem_cons_self ..)
    rw [List.sum_cons, List.length_cons, Nat.mul_succ]
    omega
theorem fit_of {t : List Ent} {b : Nat} (q : QL QEn4 t b) (hb : b ≤ 1048576) : Fit t := by
  obtain ⟨bs, hl, hq, hs⟩ := q
  have h4 : 4 * bs.length ≤ bs.sum := sum_cnt fun n hn => by
    obtain ⟨i, hi, rfl⟩ := List.getElem_of_mem hn
    have := hq i (by omega) hi
    unfold QEn4 at this
    omega
  refine ⟨by omega, fun e he => ?_⟩
  obtain ⟨i, hi, rfl⟩ := List.getElem_of_mem he
  have h1 := hq i hi (by omega)
  have h2 := sum_ge _ (List.getElem_mem (show i < bs.length by omega))
  unfold QEn4 at h1
  omega
def QCf (c : Cf) (b : Nat) : Prop := (-9223372036854775808 ≤ c.choice ∧ c.choice ≤ 9223372036854775807) ∧ ∃ b1 b2, QL QEn4 c.hub b1 ∧ QL QEn4 c.side b2 ∧ c.path.length + c.merged.length + c.given.length + b1 + b2 + 4 ≤ b
set_option maxRecDepth 100000 in
theorem open_cf : Opens Tryd.prog 25 cCf QCf := by
  intro H enc W fuel cs x h
  obtain ⟨xs, n, _, rfl, hlen, hxl, hf⟩ := DataW.trod_struct Tryd.underlying25 h
  obtain ⟨x0, x1, x2, x3, x4, x5, x6, rfl⟩ := lst7 hxl
  obtain ⟨d0, d1, d2, d3, d4, d5, d6, rfl⟩ := lst7 (hlen.trans (by kernel_rfl))
  obtain ⟨s0, e0, q0⟩ := Opens.str Tryd.underlying9 enc W n [d0] x0 (hf 0 _ rfl)
  obtain ⟨ys, ⟨A, ca, e1, hca, hA⟩, q1⟩ := Opens.slice Tryd.underlying23 (by kernel_rfl) (by decide) open_entS enc W n [d1] x1 (hf 1 _ rfl)
  obtain ⟨zs, ⟨B, cb, e2, hcb, hB⟩, q2⟩ := Opens.slice Tryd.underlying23 (by kernel_rfl) (by decide) open_entS enc W n [d2] x2 (hf 2 _ rfl)
  obtain ⟨s3, e3, q3⟩ := Opens.str Tryd.underlying9 enc W n [d3] x3 (hf 3 _ rfl)
  have h4 := hf 4 _ rfl
  change DataW.trod enc Tryd.prog W 0 _ true n 4 [d4] = some x4 at h4
  obtain ⟨s4, e4, rfl⟩ := DataW.trod_bool Tryd.underlying4 h4
  obtain ⟨s5, e5, q5⟩ := Opens.int Tryd.underlying3 enc W n [d5] x5 (hf 5 _ rfl)
  obtain ⟨s6, e6, q6⟩ := Opens.str Tryd.underlying9 enc W n [d6] x6 (hf 6 _ rfl)
  have e0 : [d0] = [str s0] := e0
  have e3 : [d3] = [str s3] := e3
  have e5 : [d5] = [.int .i64 s5] := e5
  have e6 : [d6] = [str s6] := e6
  simp only [List.cons.injEq, and_true] at e0 e1 e2 e3 e4 e5 e6
  subst e0 e1 e2 e3 e4 e5 e6
  refine ⟨⟨s0, ys, zs, s3, s4, s5, s6⟩, ⟨A, ca, B, cb, rfl, hca, hcb, hA, hB⟩, ⟨q5.1, q5.2.1⟩, _, _, q1, q2, ?_⟩
  have k0 : s0.length + 1 ≤ Rows.uptoBulk x0.1 := q0
  have k3 : s3.length + 1 ≤ Rows.uptoBulk x3.1 := q3
  have k6 : s6.length + 1 ≤ Rows.uptoBulk x6.1 := q6
  simp only [Rows.uptoBulk, Rows.uptoBulkAll, List.map_cons, List.map_nil]
  omega
theorem arg_cfs : Arg Tryd.prog 22 (ASl cCf) (QL QCf) := Arg.slice Tryd.underlying22 (Opens.slice Tryd.underlying22 (by kernel_rfl) (by decide) open_cf)
theorem cfs_fit {l : List Cf} {b : Nat} (q : QL QCf l b) (hb : b ≤ 1048576) : (∀ c ∈ l, FitC c ∧ (-9223372036854775808 ≤ c.choice ∧ c.choice ≤ 9223372036854775807)) ∧ l.length ≤ 262144 := by
  obtain ⟨bs, hl, hq, hs⟩ := q
  have h4 : 4 * bs.length ≤ bs.sum := sum_cnt fun n hn => by
    obtain ⟨i, hi, rfl⟩ := List.getElem_of_mem hn
    obtain ⟨_, b1, b2, _, _, h⟩ := hq i (by omega) hi
    omega
  refine ⟨fun c hc => ?_, by omega⟩
  obtain ⟨i, hi, rfl⟩ := List.getElem_of_mem hc
  obtain ⟨hch, b1, b2, q1, q2, h1⟩ := hq i hi (by omega)
  have h2 := sum_ge _ (List.getElem_mem (show i < bs.length by omega))
  exact ⟨⟨by omega, fit_of q1 (by omega), fit_of q2 (by omega)⟩, hch⟩
/-! ## three trees -/
structure T3 where
  a : List Ent
  b : List Ent
  c : List Ent
instance : Inhabited T3 := ⟨⟨[], [], []⟩⟩
def cT3 : Cod T3 where
  sz := 3
  rd F w cs t := ∃ A0 c0 A1 c1 A2 c2, cs = [.slice A0 t.a.length c0, .slice A1 t.b.length c1, .slice A2 t.c.length c2] ∧ (t.a.length ≤ c0 ∧ t.b.length ≤ c1 ∧ t.c.length ≤ c2) ∧ SlAt cEnt F w A0 t.a ∧ SlAt cEnt F w A1 t.b ∧ SlAt cEnt F w A2 t.c
  len := fun ⟨_, _, _, _, _, _, e, _⟩ => by rw [e]; rfl
  loc := fun ⟨A0, c0, A1, c1, A2, c2, e, h1, h2, h3, h4⟩ hs => ⟨A0, c0, A1, c1, A2, c2, e, h1, h2.loc hs, h3.loc hs, h4.loc hs⟩
  mono := fun ⟨A0, c0, A1, c1, A2, c2, e, h1, h2, h3, h4⟩ hs => ⟨A0, c0, A1, c1, A2, c2, e, h1, h2.mono hs, h3.mono hs, h4.mono hs⟩
def QT3 (t : T3) (b : Nat) : Prop := ∃ b0 b1 b2, QL QEn4 t.a b0 ∧ QL QEn4 t.b b1 ∧ QL QEn4 t.c b2 ∧ b0 + b1 + b2 ≤ b
set_option maxRecDepth 100000 in
theorem open_t3 : Opens Tryd.prog 36 cT3 QT3 := by
  intro H enc W fuel cs x h
  obtain ⟨xs, m, _, rfl, hlen, hxl, hf⟩ := DataW.trod_array Tryd.underlying36 h
  obtain ⟨x0, x1, x2, rfl⟩ := lst3 hxl
  obtain ⟨d0, d1, d2, rfl⟩ := lst3 (hlen.trans (by kernel_rfl))
  have h0 := hf 0 (by decide)
  have h1 := hf 1 (by decide)
  have h2 := hf 2 (by decide)
  change DataW.trod enc Tryd.prog W 0 _ true m 23 [d0] = some x0 at h0
  change DataW.trod enc Tryd.prog W 0 _ true m 23 [d1] = some x1 at h1
  change DataW.trod enc Tryd.prog W 0 _ true m 23 [d2] = some x2 at h2
  obtain ⟨ys, ⟨A0, c0, e0, hc0, hA0⟩, q0⟩ := Opens.slice Tryd.underlying23 (by kernel_rfl) (by decide) open_entS enc W m _ _ h0
  obtain ⟨zs, ⟨A1, c1, e1, hc1, hA1⟩, q1⟩ := Opens.slice Tryd.underlying23 (by kernel_rfl) (by decide) open_entS enc W m _ _ h1
  obtain ⟨us, ⟨A2, c2, e2, hc2, hA2⟩, q2⟩ := Opens.slice Tryd.underlying23 (by kernel_rfl) (by decide) open_entS enc W m _ _ h2
  simp only [List.cons.injEq, and_true] at e0 e1 e2
  subst e0 e1 e2
  refine ⟨⟨ys, zs, us⟩, ⟨A0, c0, A1, c1, A2, c2, rfl, ⟨hc0, hc1, hc2⟩, hA0, hA1, hA2⟩, _, _, _, q0, q1, q2, ?_⟩
  simp only [Rows.uptoBulk, Rows.uptoBulkAll, List.map_cons, List.map_nil]
  omega
theorem okWide_arr {P : Program} {w : World} {r : Reach} {base : Nat} {t e : TypeId} {n : Nat} {v : Value} (ht : P.underlying t = some (.array n e)) (h : Value.okWide P w r base t v) : ∃ cs, v = .agg cs ∧ cs.size = P.cellsOf t := by
  simp only [Value.okWide, ht] at h
  obtain ⟨cs, h1, h2, _⟩ := h
  exact ⟨cs, h1, h2⟩
theorem Arg.arr {α : Type} {P : Program} {t e : TypeId} {n : Nat} {c : Cod α} {Q : α → Nat → Prop} (ht : P.underlying t = some (.array n e)) (ho : Opens P t c Q) : Arg P t (AAgg c) Q := by
  intro H enc W base v d p hk hd
  obtain ⟨cs, rfl, _⟩ := okWide_arr ht hk
  obtain ⟨fuel, hf⟩ := hd
  obtain ⟨y, hy, hq⟩ := ho enc W fuel _ _ hf
  exact ⟨y, ⟨cs.toList, by cases cs; rfl, hy⟩, hq⟩
theorem arg_t3 : Arg Tryd.prog 36 (AAgg cT3) QT3 := Arg.arr Tryd.underlying36 open_t3
end Go.Proofs.YtniacmoniaaolaaDoor

/- What is proved: that the laws' awake answers true. Conditions: none. -/
set_option linter.unusedSimpArgs false
set_option linter.unusedVariables false
namespace Go.Proofs.YtniacmoniaaolaaDoor
open Go Go.J Go.RowKit

def awH : List Ent := [⟨[97], 2, [49]⟩]
def awS : List Ent := [⟨[97], 2, [50]⟩]
def awC : Cf := ⟨[97], awH, awS, [], false, 0, []⟩
def awD : Cf := ⟨[97], awH, awS, [], false, 2, []⟩
theorem aw_tree : checkT awS = 0 := checkT_zero.2 ⟨by decide, fun i h => by
  have hi : i = 0 := by
    have : awS.length = 1 := rfl
    omega
  subst hi
  exact ⟨(by decide : checkE [97] 5 = 0), (by decide : wholeE 2 [50] = true), (by decide : (2 : Int) ≠ 0), fun j hj => (by omega), fun h => absurd (by decide : parentE [97] = []) h⟩⟩
theorem aw_repl {t : List Ent} (h : restE t [97] = []) : replE t [97] awS = some awS := by
  unfold replE
  rw [h]
  have e : sortR ([] ++ awS) = awS := rfl
  rw [e, if_neg]
  rintro (h1 | ⟨x, hx, h1⟩ | h1)
  · exact h1 (by decide)
  · rw [List.mem_singleton.1 hx] at h1
    exact absurd h1 (by decide)
  · exact h1 aw_tree
theorem aw_resolve : resolveE [awD] awH awS [] = ⟨awS, awS, awS, [], [[97]], []⟩ := by
  have h : settleE awH awS [] awD = some (awS, awS, awS) := by
    unfold settleE
    rw [if_pos ⟨by decide, by decide⟩]
    have e : tgtE awD = awS := rfl
    rw [e, show awD.path = [97] from rfl, aw_repl (t := awH) (by decide), aw_repl (t := awS) (by decide), aw_repl (t := []) rfl]
  show stepO ⟨awH, awS, [], [], [], []⟩ awD = _
  unfold stepO
  rw [if_neg (by decide)]
  dsimp only
  rw [h]
  rfl
theorem awFit : Fit awH ∧ Fit awS ∧ Fit [] := ⟨⟨by decide, fun e he => by rw [List.mem_singleton.1 he]; decide⟩, ⟨by decide, fun e he => by rw [List.mem_singleton.1 he]; decide⟩, ⟨by decide, fun e he => (by cases he)⟩⟩
theorem awCho {v : Value} {w w' : World} (h : ChoIs [awC] [97] 2 [] v w w') : ∃ AO oc ps fp, v = .tuple #[.slice AO 1 oc, .int .i64 0] ∧ ps.map Cp.c = [awD] ∧ MutL w w' [] [.own (.slice AO 1 oc) 25 7 1 (cps ps), innF ps fp] := by
  have hi : idxF [awC] [97] = some 0 := rfl
  have hm : mayC [awC] 0 2 [] = true := rfl
  rcases h with ⟨e, _⟩ | ⟨i, e, e2, _⟩ | ⟨i, e, _, h⟩
  · rw [hi] at e; cases e
  · rw [hi] at e
    obtain rfl := Option.some.inj e
    rw [hm] at e2; cases e2
  · rw [hi] at e
    obtain rfl := Option.some.inj e
    exact h
section
variable {w0 w : World} {M : List Nat} {H : List Chunk} {Z : List Snap} {hb sb cb : Nat}
theorem awCf (hS : St w0 M w H Z) (h1 : Chunk.own (.slice (some ⟨cb, 0, none⟩) 1 1) 25 7 1 (cps [⟨awC, some ⟨hb, 0, none⟩, 1, some ⟨sb, 0, none⟩, 1⟩]) ∈ H) (h2 : eC (some ⟨hb, 0, none⟩) 1 awH ∈ H) (h3 : eC (some ⟨sb, 0, none⟩) 1 awS ∈ H) : SlAt cCf (Old w) w (some ⟨cb, 0, none⟩) [awC] := by
  have hrow : RowAt w 25 7 (.slice (some ⟨cb, 0, none⟩) 1 1) 1 (cps [⟨awC, some ⟨hb, 0, none⟩, 1, some ⟨sb, 0, none⟩, 1⟩]) := hS.holds _ h1
  refine cps_sl hrow (fun g hg => (hS.inb _ h1 g (by simp [Chunk.fp, hg])).1) fun p hp => ?_
  rw [List.mem_singleton.1 hp]
  exact ⟨Nat.le_refl _, Nat.le_refl _, St.ownSl (sz := 3) (enc := encEnt) (hsz := fun _ => rfl) (l := awH) (by decide) hS h2, St.ownSl (sz := 3) (enc := encEnt) (hsz := fun _ => rfl) (l := awS) (by decide) hS h3⟩
end
set_option maxHeartbeats 16000000 in
set_option maxRecDepth 100000 in
theorem sawake_c (w0 : World) : Cal Tryd.prog 8 [] w0 (fun v w' => Upd [] w0 w' ∧ v = .bool true) := by
  refine Cal.mk' (by kernel_rfl) Tryd.func8 rfl rfl fun hS => ?_
  obtain ⟨hf0, hf1, hf2⟩ := awFit
  have hcz : ∀ c ∈ [awC], c.hub.length ≤ 1048576 ∧ c.side.length ≤ 1048576 := fun c hc => by rw [List.mem_singleton.1 hc]; exact ⟨by decide, by decide⟩
  have hfc : ∀ c ∈ [awD], FitC c := fun c hc => by rw [List.mem_singleton.1 hc]; exact ⟨by decide, hf0, hf1⟩
  have hrs := aw_resolve
  have hm1 : True := trivial
  repeat' (first
    | (show WL _ _ _ _ _ _ _; first
      | refine WL.pure rfl rfl rfl rfl ?_
      | refine WL.nil ?_
      | refine WL.load hS rfl rfl (LdOk.box (by repeat (first | exact List.Mem.head _ | apply List.Mem.tail)) rfl) rfl rfl rfl ?_
      | (clear hm1; refine WL.slit (t := 23) hS rfl rfl rfl rfl rfl ?_; intro w hb hS; replace hS := hS.boxRow (n := 1) (size := 3) .here rfl (by decide))
      | (refine WL.slit (t := 23) hS rfl rfl rfl rfl rfl ?_; intro w sb hS; replace hS := hS.boxRow (n := 1) (size := 3) .here rfl (by decide))
      | (refine WL.slit (t := 22) hS rfl rfl rfl rfl rfl ?_; intro w cb hS; replace hS := hS.boxRow (n := 1) (size := 7) .here rfl (by decide))
      | (refine WL.callL (D := []) hS .nil rfl rfl (fun hI => choose_c [awC] [97] 2 [] (awCf hS (by repeat (first | exact List.Mem.head _ | apply List.Mem.tail)) (by repeat (first | exact List.Mem.head _ | apply List.Mem.tail)) (by repeat (first | exact List.Mem.head _ | apply List.Mem.tail))) (by decide) (by decide) hcz) rfl rfl rfl ?_; rintro v w hch hS; obtain ⟨AO, oc, ps, fp, rfl, hps, hmu⟩ := awCho hch; replace hS := hS _ hmu; clear hmu hch)
      | (refine WL.callL (D := []) hS .nil rfl rfl (fun hI => resolve_c [awD] awH awS [] (A2 := none) (c2 := 0) (hps ▸ hS.cfsSl (ps := ps) (fp := fp) (by repeat (first | exact List.Mem.head _ | apply List.Mem.tail)) (by repeat (first | exact List.Mem.head _ | apply List.Mem.tail))) (by decide) hfc (St.ownSl (sz := 3) (enc := encEnt) (hsz := fun _ => rfl) (l := awH) (by decide) hS (by repeat (first | exact List.Mem.head _ | apply List.Mem.tail))) (St.ownSl (sz := 3) (enc := encEnt) (hsz := fun _ => rfl) (l := awS) (by decide) hS (by repeat (first | exact List.Mem.head _ | apply List.Mem.tail))) (fun k hk => absurd hk (Nat.not_lt_zero _)) hf0 hf1 hf2 hrs) rfl rfl rfl ?_; rintro v w ⟨B0, e0, B1, e1, B2, e2, AR, cr, AD, cd, AS, cs, ps2, fp2, rfl, hps2, hmu⟩ hS; replace hS := hS _ hmu; clear hmu)
      | (refine WL.indexArr (j := 0) rfl rfl rfl rfl (by decide) rfl rfl rfl ?_)
      | (refine WL.indexArr (j := 2) rfl rfl rfl rfl (by decide) rfl rfl rfl ?_)
      | (refine WL.calls hS rfl rfl (rsameD_c awS awS (A := B0) (St.ownSl (sz := 3) (enc := encEnt) (hsz := fun _ => rfl) (l := awS) (by decide) hS (by repeat (first | exact List.Mem.head _ | apply List.Mem.tail))) (St.ownSl (sz := 3) (enc := encEnt) (hsz := fun _ => rfl) (l := awS) (by decide) hS (by repeat (first | exact List.Mem.head _ | apply List.Mem.tail))) (by decide) (by decide)) rfl rfl rfl ?_; rintro v w rfl hS; rw [decide_eq_true rfl])
      | (refine WL.calls hS rfl rfl (rsameD_c awS awS (A := B2) (St.ownSl (sz := 3) (enc := encEnt) (hsz := fun _ => rfl) (l := awS) (by decide) hS (by repeat (first | exact List.Mem.head _ | apply List.Mem.tail))) (St.ownSl (sz := 3) (enc := encEnt) (hsz := fun _ => rfl) (l := awS) (by decide) hS (by repeat (first | exact List.Mem.head _ | apply List.Mem.tail))) (by decide) (by decide)) rfl rfl rfl ?_; rintro v w rfl hS; rw [decide_eq_true rfl])
      | (refine WL.store hS rfl rfl rfl (by repeat (first | exact StB.here rfl | apply StB.there)) rfl rfl rfl ?_; intro w hS)
      | (refine WL.alloc hS rfl rfl rfl rfl rfl rfl ?_; intro w b hS)
      | refine WL.build rfl rfl rfl rfl rfl ?_)
    | (show WC _ _ _ _ _ _; first
      | refine WC.seq ?_
      | refine WC.region ?_
      | refine WC.ret ?_)
    | refine seqQ_n ?_)
  exact fin1r rfl rfl ⟨hS.upd, rfl⟩
end Go.Proofs.YtniacmoniaaolaaDoor

/- What is proved: the law SessionLater answers true. Conditions: the statement's own bound on the bulk. -/
set_option linter.unusedSimpArgs false
set_option linter.unusedVariables false
namespace Go.Proofs.YtniacmoniaaolaaDoor
open Go Go.J Go.RowKit

variable {w0 : World}
theorem cf_cps {F : Nat → Prop} {w : World} {A : Option Addr} {l : List Cf} (h : SlAt cCf F w A l) : ∃ ps : List Cp, ps.map Cp.c = l ∧ SlAt cCp F w A ps ∧ ∀ p ∈ ps, p.c.hub.length ≤ p.ca ∧ p.c.side.length ≤ p.cb ∧ SlAt cEnt F w p.A p.c.hub ∧ SlAt cEnt F w p.B p.c.side := by
  have hx : ∀ n, n ≤ l.length → ∃ ps : List Cp, ps.map Cp.c = l.take n ∧ SlAt cCp F w A ps ∧ ∀ p ∈ ps, p.c.hub.length ≤ p.ca ∧ p.c.side.length ≤ p.cb ∧ SlAt cEnt F w p.A p.c.hub ∧ SlAt cEnt F w p.B p.c.side := by
    intro n
    induction n with
    | zero => exact fun _ => ⟨[], rfl, fun k hk => absurd hk (Nat.not_lt_zero _), fun p hp => (by cases hp)⟩
    | succ n ih =>
      intro hn
      obtain ⟨ps, h1, h2, h3⟩ := ih (by omega)
      obtain ⟨b, o, es, hA, hF, hr, A1, c1, B1, d1, hes, k1, k2, k3, k4⟩ := h n (by omega)
      have hpl : ps.length = n := by
        have := congrArg List.length h1
        rw [List.length_map, List.length_take] at this
        omega
      refine ⟨ps ++ [⟨l[n], A1, c1, B1, d1⟩], by rw [List.map_append, h1, List.take_succ_eq_append_getElem (show n < l.length by omega)]; rfl, fun k hk => ?_, fun p hp => ?_⟩
      · rw [List.length_append] at hk
        by_cases hkn : k < ps.length
        · obtain ⟨b', o', es', a1, a2, a3, a4⟩ := h2 k hkn
          exact ⟨b', o', es', a1, a2, a3, by rw [List.getElem_append_left hkn]; exact a4⟩
        · have hk2 : k = n := by have : [(⟨l[n], A1, c1, B1, d1⟩ : Cp)].length = 1 := rfl; omega
          subst hk2
          refine ⟨b, o, es, hA, hF, hr, ?_⟩
          rw [List.getElem_append_right (by omega)]
          simp only [hpl, Nat.sub_self, List.getElem_cons_zero]
          exact hes
      · rcases List.mem_append.1 hp with hp | hp
        · exact h3 p hp
        · rw [List.mem_singleton.1 hp]
          exact ⟨k1, k2, k3, k4⟩
  obtain ⟨ps, h1, h2, h3⟩ := hx l.length (Nat.le_refl _)
  rw [List.take_length] at h1
  exact ⟨ps, h1, h2, h3⟩
/-! ## nothing chosen -/
def zC (c : Cf) : Cf := { c with choice := 0 }
def zP (p : Cp) : Cp := { p with c := zC p.c }
theorem z_set {ps : List Cp} {k : Nat} (h : k < ps.length) : ((ps.take k).map zP ++ ps.drop k)[k]? = some ps[k] ∧ ((ps.take k).map zP ++ ps.drop k).set k (zP ps[k]) = (ps.take (k + 1)).map zP ++ ps.drop (k + 1) := by
  have hl : ((ps.take k).map zP).length = k := by rw [List.length_map, List.length_take]; omega
  constructor
  · rw [List.getElem?_append_right (by omega), hl, Nat.sub_self, List.drop_eq_getElem_cons h]
    rfl
  · rw [List.set_append_right _ _ (by omega), hl, Nat.sub_self, List.drop_eq_getElem_cons h, List.take_succ_eq_append_getElem h, List.map_append, List.append_assoc]
    rfl
theorem resolve_zero (l : List Cf) (h : ∀ c ∈ l, c.choice = 0) (t0 t1 t2 : List Ent) : ∀ k, k ≤ l.length → resolveE (l.take k) t0 t1 t2 = ⟨t0, t1, t2, l.take k, [], []⟩
  | 0, _ => rfl
  | k + 1, hk => by
    rw [resolve_take l (show k < l.length by omega), resolve_zero l h t0 t1 t2 k (by omega), List.take_succ_eq_append_getElem (show k < l.length by omega)]
    unfold stepO
    rw [if_pos (h _ (List.getElem_mem _))]
theorem resolve_later {l : List Cf} (t0 t1 t2 : List Ent) : resolveE (l.map zC) t0 t1 t2 = ⟨t0, t1, t2, l.map zC, [], []⟩ := by
  have := resolve_zero (l.map zC) (fun c hc => by obtain ⟨x, _, rfl⟩ := List.mem_map.1 hc; rfl) t0 t1 t2 _ (Nat.le_refl _)
  rwa [List.take_length] at this
/-! ## are all three trees? -/
def tOk (t0 t1 t2 : List Ent) : Prop := checkT t0 = 0 ∧ checkT t1 = 0 ∧ checkT t2 = 0
set_option maxHeartbeats 8000000 in
set_option maxRecDepth 100000 in
theorem trees_c (t0 t1 t2 : List Ent) (r : Bool) {A0 A1 A2 : Option Addr} {c0 c1 c2 : Nat} (hT0 : SlAt cEnt (Old w0) w0 A0 t0) (hT1 : SlAt cEnt (Old w0) w0 A1 t1) (hT2 : SlAt cEnt (Old w0) w0 A2 t2) (hf0 : Fit t0) (hf1 : Fit t1) (hf2 : Fit t2) (hc : t0.length ≤ c0 ∧ t1.length ≤ c1 ∧ t2.length ≤ c2) (hr : r = true ↔ tOk t0 t1 t2) :
    Cal Tryd.prog 11 [.agg ⟨[.slice A0 t0.length c0, .slice A1 t1.length c1, .slice A2 t2.length c2]⟩] w0 (fun v w' => Upd [] w0 w' ∧ v = .bool r) := by
  refine Cal.mk' (by kernel_rfl) Tryd.func11 rfl rfl fun hS => ?_
  have hq0 := fun (w : World) (h : SlAt cEnt (Old w) w A0 t0) => rtcheck_c t0 (cap := c0) h hc.1 (by have := hf0.len; omega) hf0.path
  have hq1 := fun (w : World) (h : SlAt cEnt (Old w) w A1 t1) => rtcheck_c t1 (cap := c1) h hc.2.1 (by have := hf1.len; omega) hf1.path
  have hq2 := fun (w : World) (h : SlAt cEnt (Old w) w A2 t2) => rtcheck_c t2 (cap := c2) h hc.2.2 (by have := hf2.len; omega) hf2.path
  unfold tOk at hr
  generalize checkT t0 = k0 at *
  generalize checkT t1 = k1 at *
  generalize checkT t2 = k2 at *
  have hv : ∀ b : Bool, (b = true ↔ k0 = 0 ∧ k1 = 0 ∧ k2 = 0) → Value.bool b = Value.bool r := fun b hb => by
    congr 1
    cases b <;> cases r <;> simp_all
  by_cases e0 : k0 = 0
  rotate_left
  · repeat' (first
      | (show WL _ _ _ _ _ _ _; first
        | refine WL.pure rfl rfl rfl rfl ?_
        | refine WL.nil ?_
        | refine WL.load hS rfl rfl (LdOk.box (by repeat (first | exact List.Mem.head _ | apply List.Mem.tail)) rfl) rfl rfl rfl ?_
        | (refine WL.indexArr (j := 0) rfl rfl rfl rfl (by decide) rfl rfl rfl ?_)
        | (refine WL.calls hS rfl rfl (hq0 _ (hS.slO (by repeat (first | exact List.Mem.head _ | apply List.Mem.tail)) hT0)) rfl rfl rfl ?_; rintro v w rfl hS)
        | (refine WL.box hS rfl rfl rfl rfl rfl ?_; intro w b hS)
        | refine WL.skip rfl rfl rfl ?_
        | ((fail_if_success (refine WL.wanted rfl ?_)); refine WL.guard rfl rfl rfl (fun h => ?_) (fun h => ?_) <;> (try simp only [Classical.not_not, Bool.not_eq_true', Bool.not_eq_false', Bool.not_eq_eq_eq_not, Bool.not_true, Bool.not_false, beq_iff_eq, beq_eq_false_iff_ne, ne_eq, decide_eq_decide, decide_eq_true_eq, decide_eq_false_iff_not, Bool.and_eq_true, Bool.or_eq_true, Bool.and_eq_false_iff, Bool.or_eq_false_iff] at h) <;> (try (exfalso; first | omega | contradiction))))
      | (show WC _ _ _ _ _ _; first
        | refine WC.seq ?_
        | refine WC.region ?_
        | refine WC.ret ?_)
      | refine seqQ_n ?_)
    exact fin1r rfl rfl ⟨hS.upd, hv _ (by simp [e0])⟩
  by_cases e1 : k1 = 0
  rotate_left
  · repeat' (first
      | (show WL _ _ _ _ _ _ _; first
        | refine WL.pure rfl rfl rfl rfl ?_
        | refine WL.nil ?_
        | refine WL.load hS rfl rfl (LdOk.box (by repeat (first | exact List.Mem.head _ | apply List.Mem.tail)) rfl) rfl rfl rfl ?_
        | (refine WL.indexArr (j := 0) rfl rfl rfl rfl (by decide) rfl rfl rfl ?_)
        | (refine WL.indexArr (j := 1) rfl rfl rfl rfl (by decide) rfl rfl rfl ?_)
        | (refine WL.calls hS rfl rfl (hq0 _ (hS.slO (by repeat (first | exact List.Mem.head _ | apply List.Mem.tail)) hT0)) rfl rfl rfl ?_; rintro v w rfl hS)
        | (refine WL.calls hS rfl rfl (hq1 _ (hS.slO (by repeat (first | exact List.Mem.head _ | apply List.Mem.tail)) hT1)) rfl rfl rfl ?_; rintro v w rfl hS)
        | (refine WL.box hS rfl rfl rfl rfl rfl ?_; intro w b hS)
        | refine WL.skip rfl rfl rfl ?_
        | ((fail_if_success (refine WL.wanted rfl ?_)); refine WL.guard rfl rfl rfl (fun h => ?_) (fun h => ?_) <;> (try simp only [Classical.not_not, Bool.not_eq_true', Bool.not_eq_false', Bool.not_eq_eq_eq_not, Bool.not_true, Bool.not_false, beq_iff_eq, beq_eq_false_iff_ne, ne_eq, decide_eq_decide, decide_eq_true_eq, decide_eq_false_iff_not, Bool.and_eq_true, Bool.or_eq_true, Bool.and_eq_false_iff, Bool.or_eq_false_iff] at h) <;> (try (exfalso; first | omega | contradiction))))
      | (show WC _ _ _ _ _ _; first
        | refine WC.seq ?_
        | refine WC.region ?_
        | refine WC.ret ?_)
      | refine seqQ_n ?_)
    exact fin1r rfl rfl ⟨hS.upd, hv _ (by simp [e1])⟩
  repeat' (first
    | (show WL _ _ _ _ _ _ _; first
      | refine WL.pure rfl rfl rfl rfl ?_
      | refine WL.nil ?_
      | refine WL.load hS rfl rfl (LdOk.box (by repeat (first | exact List.Mem.head _ | apply List.Mem.tail)) rfl) rfl rfl rfl ?_
      | (refine WL.indexArr (j := 0) rfl rfl rfl rfl (by decide) rfl rfl rfl ?_)
      | (refine WL.indexArr (j := 1) rfl rfl rfl rfl (by decide) rfl rfl rfl ?_)
      | (refine WL.indexArr (j := 2) rfl rfl rfl rfl (by decide) rfl rfl rfl ?_)
      | (refine WL.calls hS rfl rfl (hq0 _ (hS.slO (by repeat (first | exact List.Mem.head _ | apply List.Mem.tail)) hT0)) rfl rfl rfl ?_; rintro v w rfl hS)
      | (refine WL.calls hS rfl rfl (hq1 _ (hS.slO (by repeat (first | exact List.Mem.head _ | apply List.Mem.tail)) hT1)) rfl rfl rfl ?_; rintro v w rfl hS)
      | (refine WL.calls hS rfl rfl (hq2 _ (hS.slO (by repeat (first | exact List.Mem.head _ | apply List.Mem.tail)) hT2)) rfl rfl rfl ?_; rintro v w rfl hS)
      | (refine WL.box hS rfl rfl rfl rfl rfl ?_; intro w b hS)
      | ((fail_if_success (refine WL.wanted rfl ?_)); refine WL.guard rfl rfl rfl (fun h => ?_) (fun h => ?_) <;> (try simp only [Classical.not_not, Bool.not_eq_true', Bool.not_eq_false', Bool.not_eq_eq_eq_not, Bool.not_true, Bool.not_false, beq_iff_eq, beq_eq_false_iff_ne, ne_eq, decide_eq_decide, decide_eq_true_eq, decide_eq_false_iff_not, Bool.and_eq_true, Bool.or_eq_true, Bool.and_eq_false_iff, Bool.or_eq_false_iff] at h) <;> (try (exfalso; first | omega | contradiction))))
    | (show WC _ _ _ _ _ _; first
      | refine WC.seq ?_
      | refine WC.region ?_
      | refine WC.ret ?_)
    | refine seqQ_n ?_)
  exact fin1r rfl rfl ⟨hS.upd, hv _ (by simp [e0, e1])⟩
theorem later_sl {w w1 wz : World} {M : List Nat} {H : List Chunk} {Z : List Snap} {F : Nat → Prop} {e : TypeId} {A : Option Addr} {n cap n' : Nat} {ps : List Cp} (hS : St w1 M w H Z) (hz : Snap.mk wz F ∈ Z) (h1 : Chunk.own (.slice A n cap) e 7 n' (cps ps) ∈ H) (hin : ∀ p ∈ ps, p.c.hub.length ≤ p.ca ∧ p.c.side.length ≤ p.cb ∧ SlAt cEnt F wz p.A p.c.hub ∧ SlAt cEnt F wz p.B p.c.side) : SlAt cCf (Old w) w A (ps.map Cp.c) := by
  have hrow : RowAt w e 7 (.slice A n cap) n' (cps ps) := hS.holds _ h1
  refine cps_sl hrow (fun g hg => (hS.inb _ h1 g (by simp [Chunk.fp, hg])).1) fun p hp => ?_
  obtain ⟨k1, k2, k3, k4⟩ := hin p hp
  exact ⟨k1, k2, hS.slO hz k3, hS.slO hz k4⟩
set_option maxHeartbeats 64000000 in
set_option maxRecDepth 100000 in
theorem sessionLater_c (l : List Cf) (t0 t1 t2 : List Ent) {A A0 A1 A2 : Option Addr} {cap c0 c1 c2 : Nat} (hA : SlAt cCf (Old w0) w0 A l) (hl : l.length ≤ 1048576) (hc : ∀ c ∈ l, FitC c) (hT0 : SlAt cEnt (Old w0) w0 A0 t0) (hT1 : SlAt cEnt (Old w0) w0 A1 t1) (hT2 : SlAt cEnt (Old w0) w0 A2 t2) (hf0 : Fit t0) (hf1 : Fit t1) (hf2 : Fit t2) (hcap : t0.length ≤ c0 ∧ t1.length ≤ c1 ∧ t2.length ≤ c2) :
    Cal Tryd.prog 5 [.slice A l.length cap, .agg ⟨[.slice A0 t0.length c0, .slice A1 t1.length c1, .slice A2 t2.length c2]⟩] w0 (fun v w' => Upd [] w0 w' ∧ v = .bool true) := by
  refine Cal.mk' (by kernel_rfl) Tryd.func5 rfl rfl fun hS => ?_
  by_cases ht : tOk t0 t1 t2
  rotate_left
  · have htr := fun (w : World) (h0 : SlAt cEnt (Old w) w A0 t0) (h1 : SlAt cEnt (Old w) w A1 t1) (h2 : SlAt cEnt (Old w) w A2 t2) => trees_c t0 t1 t2 false h0 h1 h2 hf0 hf1 hf2 hcap (by simp [ht])
    repeat' (first
      | (show WL _ _ _ _ _ _ _; first
        | refine WL.pure rfl rfl rfl rfl ?_
        | refine WL.nil ?_
        | refine WL.load hS rfl rfl (LdOk.box (by repeat (first | exact List.Mem.head _ | apply List.Mem.tail)) rfl) rfl rfl rfl ?_
        | (refine WL.calls hS rfl rfl (sawake_c _) rfl rfl rfl ?_; rintro v w rfl hS)
        | (refine WL.calls hS rfl rfl (htr _ (hS.slO (by repeat (first | exact List.Mem.head _ | apply List.Mem.tail)) hT0) (hS.slO (by repeat (first | exact List.Mem.head _ | apply List.Mem.tail)) hT1) (hS.slO (by repeat (first | exact List.Mem.head _ | apply List.Mem.tail)) hT2)) rfl rfl rfl ?_; rintro v w rfl hS)
        | (refine WL.box hS rfl rfl rfl rfl rfl ?_; intro w b hS)
        | refine WL.skip rfl rfl rfl ?_)
      | (show WC _ _ _ _ _ _; first
        | refine WC.seq ?_
        | refine WC.region ?_
        | refine WC.ret ?_
        | refine WC.condT rfl (by with_reducible rfl) ?_)
      | refine seqQ_n ?_
      | refine seqQ_r ?_)
    exact fin1r rfl rfl ⟨hS.upd, rfl⟩
  have htr := fun (w : World) (h0 : SlAt cEnt (Old w) w A0 t0) (h1 : SlAt cEnt (Old w) w A1 t1) (h2 : SlAt cEnt (Old w) w A2 t2) => trees_c t0 t1 t2 true h0 h1 h2 hf0 hf1 hf2 hcap (by simp [ht])
  by_cases h40 : l.length ≤ 40
  rotate_left
  · repeat' (first
      | (show WL _ _ _ _ _ _ _; first
        | refine WL.pure rfl rfl rfl rfl ?_
        | refine WL.nil ?_
        | refine WL.load hS rfl rfl (LdOk.box (by repeat (first | exact List.Mem.head _ | apply List.Mem.tail)) rfl) rfl rfl rfl ?_
        | (refine WL.calls hS rfl rfl (sawake_c _) rfl rfl rfl ?_; rintro v w rfl hS)
        | (refine WL.calls hS rfl rfl (htr _ (hS.slO (by repeat (first | exact List.Mem.head _ | apply List.Mem.tail)) hT0) (hS.slO (by repeat (first | exact List.Mem.head _ | apply List.Mem.tail)) hT1) (hS.slO (by repeat (first | exact List.Mem.head _ | apply List.Mem.tail)) hT2)) rfl rfl rfl ?_; rintro v w rfl hS)
        | (refine WL.box hS rfl rfl rfl rfl rfl ?_; intro w b hS))
      | (show WC _ _ _ _ _ _; first
        | refine WC.seq ?_
        | refine WC.region ?_
        | refine WC.ret ?_
        | refine WC.condT rfl (decide_eq_true (by first | with_reducible assumption | omega)) ?_)
      | refine seqQ_n ?_
      | refine seqQ_r ?_)
    exact fin1r rfl rfl ⟨hS.upd, rfl⟩
  obtain ⟨ps, hps, hP, hpi⟩ := cf_cps hA
  have hpl : ps.length = l.length := by rw [← hps, List.length_map]
  have hz0 : 0 + ps.length = ps.length := Nat.zero_add _
  have hone := cps_one ps
  have hg0 := hf0.len
  have hg1 := hf1.len
  have hg2 := hf2.len
  clear ht hcap
  repeat' (first
    | (show WL _ _ _ _ _ _ _; first
      | refine WL.pure rfl rfl rfl rfl ?_
      | refine WL.nil ?_
      | refine WL.load hS rfl rfl (LdOk.box (by repeat (first | exact List.Mem.head _ | apply List.Mem.tail)) rfl) rfl rfl rfl ?_
      | (refine WL.box (t := 36) hS rfl rfl rfl rfl rfl ?_; intro w pb hS)
      | (refine WL.calls hS rfl rfl (sawake_c _) rfl rfl rfl ?_; rintro v w rfl hS)
      | (refine WL.calls hS rfl rfl (htr _ (hS.slO (by repeat (first | exact List.Mem.head _ | apply List.Mem.tail)) hT0) (hS.slO (by repeat (first | exact List.Mem.head _ | apply List.Mem.tail)) hT1) (hS.slO (by repeat (first | exact List.Mem.head _ | apply List.Mem.tail)) hT2)) rfl rfl rfl ?_; rintro v w rfl hS)
      | (refine WL.slit (t := 22) hS rfl rfl rfl rfl rfl ?_; intro w ob hS; have hS := hS.boxRow (n := 0) (size := 7) .here rfl (Nat.zero_le _))
      | (refine WL.appSl (sz := 7) (enc := encCp) (hsz := fun _ => rfl) (ys := ps) hS rfl rfl rfl (congrArg (fun n => Value.slice A n cap) hpl.symm) hP (by repeat (first | exact List.Mem.head _ | apply List.Mem.tail)) (by decide) hone (fun A cap => by repeat (first | exact Repl.here | apply Repl.there)) (by omega) rfl rfl rfl ?_; intro AL cl w hS; rw [hz0] at hS ⊢))
    | (show WC _ _ _ _ _ _; first
      | refine WC.seq ?_
      | refine WC.region ?_
      | refine WC.block ?_
      | refine WC.skip ?_
      | refine WC.condF rfl (decide_eq_false (by first | with_reducible assumption | omega)) ?_)
    | refine seqQ_n ?_)
  refine WC.loop (σ := Nat) [0, 3, 5] (fun k => [(6, .int .i64 (k : Int))])
    (fun k w => k ≤ ps.length ∧ St w0 [] w [.own (.slice AL ps.length cl) 25 7 ps.length (cps ((ps.take k).map zP ++ ps.drop k)), .box pb 36 [.slice A0 t0.length c0, .slice A1 t1.length c1, .slice A2 t2.length c2]] [⟨w0, Old w0⟩]) (fun k => ps.length - k) 0 ⟨Nat.zero_le _, hS.droplast2 (by repeat (first | exact Pulls.nil | (apply Pulls.cons; focus (repeat (first | exact Pull.here | apply Pull.there)))))⟩ ⟨rfl, trivial⟩ ?_
  repeat (clear hS)
  rintro k g w ⟨hk, hS⟩
  show WC _ _ _ (lf _ [(6, .int .i64 (k : Int))] _ _) _ _
  by_cases hlt : k < ps.length
  · obtain ⟨og, oo, rfl⟩ := hS.own_addr (A := AL) (n := ps.length) (by repeat (first | exact List.Mem.head _ | apply List.Mem.tail)) (by omega)
    have e1 := (cps_set (z_set hlt).1 0 []).1.trans (congrArg cps (z_set hlt).2)
    have hqc : (cps ((ps.take k).map zP ++ ps.drop k)).length = ps.length * 7 := by rw [cps_len, List.length_append, List.length_map, ← List.length_append, List.take_append_drop]
    clear htr hc hA
    repeat' (first
      | (show WL _ _ _ _ _ _ _; first
        | refine WL.pure rfl rfl rfl rfl ?_
        | refine WL.nil ?_
        | refine WL.add rfl rfl rfl (by omega) rfl rfl rfl ?_
        | (refine WL.storeOwn (off := k * 7 + 5) (vs := [.int .i64 0]) hS rfl rfl rfl (by repeat (first | exact Repl.here | apply Repl.there)) (by rw [hqc]; show k * 7 + 5 + 1 ≤ _; omega) rfl rfl rfl rfl ?_; intro w hS; simp only [List.length_singleton] at hS; rw [e1] at hS)
        | refine WL.index rfl rfl rfl rfl (by first | with_reducible assumption | omega) rfl rfl rfl rfl ?_)
      | (show WC _ _ _ _ _ _; first
        | refine WC.seq ?_
        | refine WC.region ?_
        | refine WC.block ?_
        | refine WC.skip ?_
        | refine WC.condT rfl (decide_eq_true (by first | with_reducible assumption | omega)) ?_)
      | refine seqQ_n ?_
      | refine blkQ_n ?_)
    exact rndQ_n (k + 1) ⟨by omega, hS.droplast2 (by repeat (first | exact Pulls.nil | (apply Pulls.cons; focus (repeat (first | exact Pull.here | apply Pull.there)))))⟩ (by show ps.length - (k + 1) < ps.length - k; omega) ⟨vint (by omega), trivial⟩ ⟨rfl, rfl, rfl, trivial⟩
  have hke : k = ps.length := by omega
  subst hke
  have hq : (ps.take ps.length).map zP ++ ps.drop ps.length = ps.map zP := by rw [List.take_length, List.drop_length, List.append_nil]
  rw [hq] at hS
  have hpz : (ps.map zP).map Cp.c = l.map zC := by rw [← hps, List.map_map, List.map_map]; rfl
  have hin : ∀ p ∈ ps.map zP, p.c.hub.length ≤ p.ca ∧ p.c.side.length ≤ p.cb ∧ SlAt cEnt (Old w0) w0 p.A p.c.hub ∧ SlAt cEnt (Old w0) w0 p.B p.c.side := fun p hp => by
    obtain ⟨q, hq, rfl⟩ := List.mem_map.1 hp
    exact hpi q hq
  have hcz : ∀ c ∈ l.map zC, FitC c := fun c hc2 => by
    obtain ⟨q, hq, rfl⟩ := List.mem_map.1 hc2
    exact ⟨(hc q hq).path, (hc q hq).hub, (hc q hq).side⟩
  have hL1 : (l.map zC).length = ps.length := by rw [List.length_map, hpl]
  have hr1 := fun (w : World) (h : SlAt cCf (Old w) w AL (l.map zC)) (h0 : SlAt cEnt (Old w) w A0 t0) (h1 : SlAt cEnt (Old w) w A1 t1) (h2 : SlAt cEnt (Old w) w A2 t2) => resolve_c (cap := cl) (c0 := c0) (c1 := c1) (c2 := c2) (l.map zC) t0 t1 t2 h (by rw [hL1]; omega) hcz h0 h1 h2 hf0 hf1 hf2 (resolve_later t0 t1 t2)
  rw [hL1] at hr1
  rcases hR : resolveE l t0 t1 t2 with ⟨u0, u1, u2, rest, done, stale⟩
  have hfo := resolve_fit hf0 hf1 hf2 hc l.length (Nat.le_refl _)
  rw [List.take_length, hR] at hfo
  obtain ⟨_, _, _, hrl, hdl, hsl⟩ := hfo
  dsimp only at hrl hdl hsl
  have hr2 := fun (w : World) (h : SlAt cCf (Old w) w A l) (h0 : SlAt cEnt (Old w) w A0 t0) (h1 : SlAt cEnt (Old w) w A1 t1) (h2 : SlAt cEnt (Old w) w A2 t2) => resolve_c (cap := cap) (c0 := c0) (c1 := c1) (c2 := c2) l t0 t1 t2 h hl hc h0 h1 h2 hf0 hf1 hf2 hR
  have hsm := fun (w : World) {AR : Option Addr} {cr : Nat} (h1 : SlAt cCf (Old w) w AR (l.map zC)) (h2 : SlAt cCf (Old w) w AL (l.map zC)) => rsameCf_c (ca := cr) (cb := cl) (l.map zC) h1 h2 (by rw [hL1]; omega) (fun c hc2 => by have := (hcz c hc2).hub.len; have := (hcz c hc2).side.len; omega)
  rw [hL1] at hsm
  clear hlt hk htr hq hcz hc hR hpi hP hone hps
  repeat' (first
    | (show WL _ _ _ _ _ _ _; first
      | refine WL.pure rfl rfl rfl rfl ?_
      | refine WL.nil ?_
      | refine WL.load hS rfl rfl (LdOk.box (by repeat (first | exact List.Mem.head _ | apply List.Mem.tail)) rfl) rfl rfl rfl ?_
      | refine WL.add rfl rfl rfl (by omega) rfl rfl rfl ?_
      | (refine WL.callL (D := []) hS .nil rfl rfl (fun hI => hr1 _ (hpz ▸ later_sl hS (by repeat (first | exact List.Mem.head _ | apply List.Mem.tail)) (by repeat (first | exact List.Mem.head _ | apply List.Mem.tail)) hin) (hS.slO (by repeat (first | exact List.Mem.head _ | apply List.Mem.tail)) hT0) (hS.slO (by repeat (first | exact List.Mem.head _ | apply List.Mem.tail)) hT1) (hS.slO (by repeat (first | exact List.Mem.head _ | apply List.Mem.tail)) hT2)) rfl rfl rfl ?_; rintro v w ⟨B0, e0, B1, e1, B2, e2, AR, cr, AD, cd, AS, cs, ps2, fp2, rfl, hps2, hmu⟩ hS; replace hS := hS _ hmu; clear hmu hr1)
      | (refine WL.callL (D := []) hS .nil rfl rfl (fun hI => hr2 _ (hS.slO (by repeat (first | exact List.Mem.head _ | apply List.Mem.tail)) hA) (hS.slO (by repeat (first | exact List.Mem.head _ | apply List.Mem.tail)) hT0) (hS.slO (by repeat (first | exact List.Mem.head _ | apply List.Mem.tail)) hT1) (hS.slO (by repeat (first | exact List.Mem.head _ | apply List.Mem.tail)) hT2)) rfl rfl rfl ?_; rintro v w ⟨G0, g0, G1, g1, G2, g2, AR2, cr2, AD2, cd2, AS2, cs2, ps3, fp3, rfl, hps3, hmu⟩ hS; replace hS := hS _ hmu; clear hmu hr2)
      | (refine WL.calls hS rfl rfl (hsm _ (hps2 ▸ hS.cfsSl (ps := ps2) (fp := fp2) (by repeat (first | exact List.Mem.head _ | apply List.Mem.tail)) (by repeat (first | exact List.Mem.head _ | apply List.Mem.tail))) (hpz ▸ later_sl hS (by repeat (first | exact List.Mem.head _ | apply List.Mem.tail)) (by repeat (first | exact List.Mem.head _ | apply List.Mem.tail)) hin)) rfl rfl rfl ?_; rintro v w rfl hS)
      | (refine WL.add (a := 0) (b := 0) rfl rfl rfl (by decide) rfl rfl rfl ?_)
      | (refine WL.store hS rfl rfl rfl (by repeat (first | exact StB.here rfl | apply StB.there)) rfl rfl rfl ?_; intro w hS)
      | (refine WL.alloc hS rfl rfl rfl rfl rfl rfl ?_; intro w b hS)
      | ((fail_if_success (refine WL.wanted rfl ?_)); refine WL.guard rfl rfl rfl (fun h => ?_) (fun h => ?_) <;> (try simp only [Classical.not_not, Bool.not_eq_true', Bool.not_eq_false', Bool.not_eq_eq_eq_not, Bool.not_true, Bool.not_false, beq_iff_eq, beq_eq_false_iff_ne, ne_eq, decide_eq_decide, decide_eq_true_eq, decide_eq_false_iff_not, Bool.and_eq_true, Bool.or_eq_true, Bool.and_eq_false_iff, Bool.or_eq_false_iff] at h) <;> (try (exfalso; first | omega | contradiction))))
    | (show WC _ _ _ _ _ _; first
      | refine WC.seq ?_
      | refine WC.region ?_
      | refine WC.block ?_
      | refine WC.skip ?_
      | refine WC.exit ?_
      | refine WC.ret ?_
      | refine WC.rounds 4 ?_
      | (show WC _ _ (Code.region _ (List.toArray [_, _, _, _, _, _, _, _, _]) true) _ _ _; refine WC.drawS hS [0,1,2,3,4,5,6,8] [0,1,2,3,4,5,6,7,8] (by kernel_rfl) (by kernel_rfl) ?_; clear hS; intro w hS hM)
      | refine WC.condT rfl (by decide) ?_
      | refine WC.condF rfl (by decide) ?_
      | refine WC.condF rfl (decide_eq_false (by first | with_reducible assumption | omega)) ?_)
    | (show WD _ _ _ _ _ _ _ _ _; first
      | refine WD.pure rfl rfl rfl rfl rfl ?_
      | refine WD.nil ?_
      | refine WD.load rfl rfl (LdOk.box (by repeat (first | exact List.Mem.head _ | apply List.Mem.tail)) rfl) rfl rfl rfl rfl ?_
      | (refine WD.indexArr (j := 0) rfl rfl rfl rfl (by decide) rfl rfl rfl rfl ?_)
      | (refine WD.indexArr (j := 1) rfl rfl rfl rfl (by decide) rfl rfl rfl rfl ?_)
      | (refine WD.indexArr (j := 2) rfl rfl rfl rfl (by decide) rfl rfl rfl rfl ?_)
      | (refine WD.calls hS hM rfl rfl (rsameD_c t0 t0 (A := B0) (St.ownSl (sz := 3) (enc := encEnt) (hsz := fun _ => rfl) (l := t0) (by decide) hS (by repeat (first | exact List.Mem.head _ | apply List.Mem.tail))) (hS.slO (by repeat (first | exact List.Mem.head _ | apply List.Mem.tail)) hT0) (by omega) (by omega)) rfl rfl rfl rfl rfl ?_; clear hS; rintro v w rfl hS; rw [decide_eq_true rfl])
      | (refine WD.calls hS hM rfl rfl (rsameD_c t1 t1 (A := B1) (St.ownSl (sz := 3) (enc := encEnt) (hsz := fun _ => rfl) (l := t1) (by decide) hS (by repeat (first | exact List.Mem.head _ | apply List.Mem.tail))) (hS.slO (by repeat (first | exact List.Mem.head _ | apply List.Mem.tail)) hT1) (by omega) (by omega)) rfl rfl rfl rfl rfl ?_; clear hS; rintro v w rfl hS; rw [decide_eq_true rfl])
      | (refine WD.calls hS hM rfl rfl (rsameD_c t2 t2 (A := B2) (St.ownSl (sz := 3) (enc := encEnt) (hsz := fun _ => rfl) (l := t2) (by decide) hS (by repeat (first | exact List.Mem.head _ | apply List.Mem.tail))) (hS.slO (by repeat (first | exact List.Mem.head _ | apply List.Mem.tail)) hT2) (by omega) (by omega)) rfl rfl rfl rfl rfl ?_; clear hS; rintro v w rfl hS; rw [decide_eq_true rfl]))
    | refine seqQ_n ?_
    | refine blkQ_n ?_
    | refine seqQ_x ?_
    | refine blkQ_hit rfl ?_
    | refine rndQ_x ?_
    | refine rdQ_n ?_
    | refine rdQ_x ?_)
  exact fin1r rfl rfl ⟨hS.upd, congrArg Value.bool (decide_eq_true (by omega))⟩
end Go.Proofs.YtniacmoniaaolaaDoor

/- What is proved: what Choose of reference 23 answers. Conditions: lists of bounded length. -/
set_option linter.unusedSimpArgs false
set_option linter.unusedVariables false
namespace Go.Proofs.YtniacmoniaaolaaDoor
open Go Go.J Go.RowKit

variable {w0 : World}
theorem may_cases {l : List Cf} {i : Nat} (hil : i < l.length) (choice : Int) (given : List UInt8) : (mayC l i choice given = false ∧ (choice < 0 ∨ (0 ≤ choice ∧ 4 < choice) ∨ (0 ≤ choice ∧ choice ≤ 4 ∧ 4096 < given.length) ∨ (0 ≤ choice ∧ choice < 4 ∧ given.length ≤ 4096 ∧ given ≠ []) ∨ (choice = 3 ∧ given = [] ∧ l[i].text = false))) ∨
      (mayC l i choice given = true ∧ ((choice = 4 ∧ given.length ≤ 4096) ∨ (0 ≤ choice ∧ choice < 3 ∧ given = []) ∨ (choice = 3 ∧ given = [] ∧ l[i].text = true))) := by
  rw [mayC_at hil]
  generalize l[i].text = tx
  by_cases h1 : choice < 0
  · exact .inl ⟨by rw [decide_eq_false (show ¬ (0 ≤ choice ∧ choice ≤ 4) by omega)]; rfl, .inl h1⟩
  by_cases h2 : 4 < choice
  · exact .inl ⟨by rw [decide_eq_false (show ¬ (0 ≤ choice ∧ choice ≤ 4) by omega)]; rfl, .inr (.inl ⟨by omega, h2⟩)⟩
  rw [decide_eq_true (show 0 ≤ choice ∧ choice ≤ 4 by omega)]
  by_cases h3 : 4096 < given.length
  · exact .inl ⟨by rw [decide_eq_false (show ¬ given.length ≤ 4096 by omega)]; rfl, .inr (.inr (.inl ⟨by omega, by omega, h3⟩))⟩
  rw [decide_eq_true (show given.length ≤ 4096 by omega)]
  by_cases h4 : choice = 4
  · subst h4
    exact .inr ⟨rfl, .inl ⟨rfl, by omega⟩⟩
  rw [decide_eq_false h4]
  by_cases h5 : given = []
  · rw [decide_eq_true h5]
    by_cases h6 : choice = 3
    · subst h6
      cases tx
      · exact .inl ⟨rfl, .inr (.inr (.inr (.inr ⟨rfl, h5, rfl⟩)))⟩
      · exact .inr ⟨rfl, .inr (.inr ⟨rfl, h5, rfl⟩)⟩
    · rw [decide_eq_false h6]
      exact .inr ⟨rfl, .inr (.inl ⟨by omega, by omega, h5⟩)⟩
  · rw [decide_eq_false h5]
    exact .inl ⟨rfl, .inr (.inr (.inr (.inl ⟨by omega, by omega, by omega, h5⟩)))⟩
/-- the first place at a path, found from behind -/
def RevIs (l : List Cf) (p : List UInt8) (j : Nat) (a : Int) : Prop := (a = -1 ∧ ∀ i (h : i < l.length), j ≤ i → l[i].path ≠ p) ∨ ∃ k, ∃ h : k < l.length, a = (k : Int) ∧ j ≤ k ∧ l[k].path = p ∧ ∀ i (h : i < l.length), j ≤ i → i < k → l[i].path ≠ p
theorem RevIs.start (l : List Cf) (p : List UInt8) : RevIs l p l.length (-1) := .inl ⟨rfl, fun i h hj => absurd h (by omega)⟩
theorem RevIs.yes {l : List Cf} {p : List UInt8} {m : Nat} (h : m < l.length) (e : l[m].path = p) : RevIs l p m (m : Int) := .inr ⟨m, h, rfl, Nat.le_refl _, e, fun i h h1 h2 => absurd h1 (by omega)⟩
theorem RevIs.no {l : List Cf} {p : List UInt8} {m : Nat} {a : Int} (hr : RevIs l p (m + 1) a) (h : m < l.length) (e : l[m].path ≠ p) : RevIs l p m a := by
  rcases hr with ⟨h1, h2⟩ | ⟨k, hk, h1, h2, h3, h4⟩
  · refine .inl ⟨h1, fun i hi hj => ?_⟩
    by_cases hm : i = m
    · subst hm; exact e
    · exact h2 i hi (by omega)
  · refine .inr ⟨k, hk, h1, by omega, h3, fun i hi hj hik => ?_⟩
    by_cases hm : i = m
    · subst hm; exact e
    · exact h4 i hi (by omega) hik
theorem RevIs.done {l : List Cf} {p : List UInt8} {a : Int} (hr : RevIs l p 0 a) : a = idxV (idxF l p) := by
  rcases hr with ⟨h1, h2⟩ | ⟨k, hk, h1, _, h3, h4⟩
  · rw [idxF_none fun c hc => by
      obtain ⟨i, hi, rfl⟩ := List.getElem_of_mem hc
      exact h2 i hi (Nat.zero_le _)]
    exact h1
  · rw [idxF_some hk h3 fun j hj => h4 j (by omega) (Nat.zero_le _) hj]
    exact h1
/-- a conflict chosen in a row of conflicts -/
def setP (ps : List Cp) (i : Nat) (choice : Int) (given : List UInt8) : List Cp := ps.set i { ps[i]! with c := { ps[i]!.c with choice := choice, given := given } }
theorem setP_map {ps : List Cp} {l : List Cf} (h : ps.map Cp.c = l) {i : Nat} (hil : i < l.length) (x : Int) (g : List UInt8) : ps[i]? = some ps[i]! ∧ (setP ps i x g).map Cp.c = setC l i x g := by
  have hl2 : i < ps.length := by have := congrArg List.length h; rw [List.length_map] at this; omega
  have e1 : ps[i]! = ps[i] := getElem!_pos ps i hl2
  unfold setP
  rw [e1]
  refine ⟨List.getElem?_eq_getElem hl2, ?_⟩
  have e2 : (ps[i]).c = l[i] := by
    have := congrArg (fun q => q[i]?) h
    rw [List.getElem?_map, List.getElem?_eq_getElem hl2, List.getElem?_eq_getElem hil] at this
    exact Option.some.inj this
  unfold setC
  rw [List.map_set, h, List.getElem?_eq_getElem hil]
  show l.set i { ps[i].c with choice := x, given := g } = _
  rw [e2]
  rfl
theorem setP_in {ps : List Cp} {i : Nat} {x : Int} {g : List UInt8} {F : Nat → Prop} {w : World} (hi : i < ps.length) (h : ∀ p ∈ ps, p.c.hub.length ≤ p.ca ∧ p.c.side.length ≤ p.cb ∧ SlAt cEnt F w p.A p.c.hub ∧ SlAt cEnt F w p.B p.c.side) : ∀ p ∈ setP ps i x g, p.c.hub.length ≤ p.ca ∧ p.c.side.length ≤ p.cb ∧ SlAt cEnt F w p.A p.c.hub ∧ SlAt cEnt F w p.B p.c.side := fun p hp => by
  rcases List.mem_or_eq_of_mem_set hp with hp | rfl
  · exact h p hp
  · have e1 : ps[i]! = ps[i] := getElem!_pos ps i hi
    rw [e1]
    exact h ps[i] (List.getElem_mem hi)
set_option maxHeartbeats 32000000 in
set_option maxRecDepth 100000 in
theorem rchoose_c (l : List Cf) (ps : List Cp) (p : List UInt8) (choice : Int) (given : List UInt8) {A : Option Addr} {cap : Nat} (hps : ps.map Cp.c = l) (hA : SlAt cCf (Old w0) w0 A l) (hP : SlAt cCp (Old w0) w0 A ps) (hl : l.length ≤ 1048576) (hg : given.length ≤ 1048576) :
    Cal Tryd.prog 7 [.slice A l.length cap, str p, .int .i64 choice, str given] w0 (fun v w' => Upd [] w0 w' ∧ ((idxF l p = none ∧ v = .tuple #[.slice none 0 0, .int .i64 11]) ∨ (∃ i, idxF l p = some i ∧ mayC l i choice given = false ∧ v = .tuple #[.slice none 0 0, .int .i64 1]) ∨
      ∃ i, idxF l p = some i ∧ mayC l i choice given = true ∧ ∃ AO oc, v = .tuple #[.slice AO l.length oc, .int .i64 0] ∧ New w0 w' (.own (.slice AO l.length oc) 25 7 l.length (cps (setP ps i choice given))))) := by
  refine Cal.mk' (by kernel_rfl) Tryd.func7 rfl rfl fun hS => ?_
  have hst := RevIs.start l p
  repeat' (first
    | (show WL _ _ _ _ _ _ _; first
      | refine WL.pure rfl rfl rfl rfl ?_
      | refine WL.nil ?_
      | refine WL.sub rfl rfl rfl (by omega) rfl rfl rfl ?_)
    | (show WC _ _ _ _ _ _; first
      | refine WC.seq ?_
      | refine WC.region ?_
      | refine WC.block ?_)
    | refine seqQ_n ?_)
  refine WC.loop (σ := Nat × Int × Int) [0, 1, 2, 3] (fun (j, x, a) => [(10, .int .i64 a), (11, .int .i64 x)]) (fun (j, x, a) w => (j ≤ l.length ∧ x = (j : Int) - 1 ∧ RevIs l p j a) ∧ St w0 [] w [] [⟨w0, Old w0⟩]) (fun (j, _, _) => j) (l.length, (l.length : Int) - 1, -1) ⟨⟨Nat.le_refl _, rfl, hst⟩, hS⟩ ⟨rfl, rfl, trivial⟩ ?_
  clear hS hst
  rintro ⟨j, x, a⟩ g w ⟨⟨hj, hx, hr⟩, hS⟩
  show WC _ _ _ (lf _ [(10, .int .i64 a), (11, .int .i64 x)] _ _) _ _
  rcases j with _ | m
  rotate_left
  · obtain rfl : x = (m : Int) := by omega
    have hm : m < l.length := by omega
    obtain ⟨ga, go, es, rfl, hF, hrr, A1, c1, B1, d1, hes, _, _, _, _⟩ := hA.at_ hm
    subst hes
    replace hrr : w0.rangeAt ga (go + m * 7) (encCp ⟨l[m], A1, c1, B1, d1⟩) := hrr
    have hyes := fun h => RevIs.yes (p := p) hm h
    have hnot := fun h => hr.no hm h
    generalize l[m] = c at *
    obtain ⟨xpath, xhub, xside, xmerged, xtext, xchoice, xgiven⟩ := c
    unfold encCp at hrr
    dsimp only at hrr hyes hnot
    clear hr hA hP hx
    by_cases he : xpath = p
    · replace hyes := hyes he
      subst he
      clear hnot
      repeat' (first
        | (show WL _ _ _ _ _ _ _; first
          | refine WL.pure rfl rfl rfl rfl ?_
          | refine WL.nil ?_
          | refine WL.sub rfl rfl rfl (by omega) rfl rfl rfl ?_
          | (refine WL.load hS rfl rfl (LdOk.snap (off := 0) hF hrr (by repeat (first | exact List.Mem.head _ | apply List.Mem.tail)) rfl) rfl rfl rfl ?_)
          | refine WL.index rfl rfl rfl rfl (by first | with_reducible assumption | omega) rfl rfl rfl rfl ?_)
        | (show WC _ _ _ _ _ _; first
          | refine WC.seq ?_
          | refine WC.region ?_
          | refine WC.block ?_
          | refine WC.skip ?_
          | refine WC.condT rfl (decide_eq_true (by first | with_reducible assumption | omega)) ?_
          | refine WC.condT rfl (by first | (simp; done) | (simp; omega)) ?_)
        | refine seqQ_n ?_
        | refine blkQ_n ?_)
      exact rndQ_n (m, (m : Int) - 1, (m : Int)) ⟨⟨by omega, rfl, hyes⟩, hS⟩ (by show m < m + 1; omega) ⟨rfl, rfl, trivial⟩ ⟨rfl, rfl, rfl, rfl, trivial⟩
    · replace hnot := hnot he
      clear hyes
      repeat' (first
        | (show WL _ _ _ _ _ _ _; first
          | refine WL.pure rfl rfl rfl rfl ?_
          | refine WL.nil ?_
          | refine WL.sub rfl rfl rfl (by omega) rfl rfl rfl ?_
          | (refine WL.load hS rfl rfl (LdOk.snap (off := 0) hF hrr (by repeat (first | exact List.Mem.head _ | apply List.Mem.tail)) rfl) rfl rfl rfl ?_)
          | refine WL.index rfl rfl rfl rfl (by first | with_reducible assumption | omega) rfl rfl rfl rfl ?_)
        | (show WC _ _ _ _ _ _; first
          | refine WC.seq ?_
          | refine WC.region ?_
          | refine WC.block ?_
          | refine WC.skip ?_
          | refine WC.condF rfl (by first | (simp [he]; done) | fail) ?_
          | refine WC.condT rfl (decide_eq_true (by first | with_reducible assumption | omega)) ?_)
        | refine seqQ_n ?_
        | refine blkQ_n ?_)
      exact rndQ_n (m, (m : Int) - 1, a) ⟨⟨by omega, rfl, hnot⟩, hS⟩ (by show m < m + 1; omega) ⟨rfl, rfl, trivial⟩ ⟨rfl, rfl, rfl, rfl, trivial⟩
  obtain rfl : x = -1 := by simpa using hx
  obtain rfl := hr.done
  clear hr hx hj
  rcases idxF_cases l p with ⟨hix, _⟩ | ⟨i, hil, hix, _, _⟩
  · rw [hix]
    simp only [idxV]
    repeat' (first
      | (show WL _ _ _ _ _ _ _; first
        | refine WL.pure rfl rfl rfl rfl ?_
        | refine WL.nil ?_)
      | (show WC _ _ _ _ _ _; first
        | refine WC.seq ?_
        | refine WC.region ?_
        | refine WC.exit ?_
        | refine WC.ret ?_
        | refine WC.condT rfl (by decide) ?_
        | refine WC.condF rfl (by decide) ?_)
      | refine seqQ_n ?_
      | refine seqQ_x ?_
      | refine seqQ_r ?_
      | refine blkQ_hit rfl ?_
      | refine rndQ_x ?_)
    exact fin2r rfl rfl rfl ⟨hS.upd, .inl ⟨by first | rfl | trivial, rfl⟩⟩
  rw [hix]
  simp only [idxV]
  obtain ⟨ga, go, es, hAA, hF, hrr, A1, c1, B1, d1, hes, _, _, _, _⟩ := hA.at_ hil
  subst hes hAA
  replace hrr : w0.rangeAt ga (go + i * 7) (encCp ⟨l[i], A1, c1, B1, d1⟩) := hrr
  have hcases := may_cases hil choice given
  have hpl : ps.length = l.length := by rw [← hps, List.length_map]
  have hgt := (setP_map hps hil choice given).1
  generalize l[i] = ci at *
  obtain ⟨xpath, xhub, xside, xmerged, xtext, xchoice, xgiven⟩ := ci
  unfold encCp at hrr
  dsimp only at hrr hcases
  rcases hcases with ⟨hm, hcs⟩ | ⟨hm, hcs⟩
  · rcases hcs with h1 | ⟨h1, h2⟩ | ⟨h1, h2, h3⟩ | ⟨h1, h2, h3, h4⟩ | ⟨rfl, rfl, rfl⟩
    all_goals
      repeat' (first
        | (show WL _ _ _ _ _ _ _; first
          | refine WL.pure rfl rfl rfl rfl ?_
          | refine WL.nil ?_
          | (refine WL.load hS rfl rfl (LdOk.snap (off := 4) hF hrr (by repeat (first | exact List.Mem.head _ | apply List.Mem.tail)) rfl) rfl rfl rfl ?_)
          | refine WL.index rfl rfl rfl rfl (by first | with_reducible assumption | omega) rfl rfl rfl rfl ?_
          | refine WL.skip rfl rfl rfl ?_
          | ((fail_if_success (refine WL.wanted rfl ?_)); refine WL.guard rfl rfl rfl (fun h => ?_) (fun h => ?_) <;> (try simp only [Classical.not_not, Bool.not_eq_true', Bool.not_eq_false', Bool.not_eq_eq_eq_not, Bool.not_true, Bool.not_false, beq_iff_eq, beq_eq_false_iff_ne, ne_eq, decide_eq_decide, decide_eq_true_eq, decide_eq_false_iff_not, Bool.and_eq_true, Bool.or_eq_true, Bool.and_eq_false_iff, Bool.or_eq_false_iff] at h) <;> (try (exfalso; first | omega | contradiction))))
        | (show WC _ _ _ _ _ _; first
          | refine WC.seq ?_
          | refine WC.region ?_
          | refine WC.skip ?_
          | refine WC.exit ?_
          | refine WC.ret ?_
          | refine WC.condT rfl (by first | (simp [h4]; done) | fail) ?_
          | refine WC.condT rfl (by with_reducible rfl) ?_
          | refine WC.condT rfl (by decide) ?_
          | refine WC.condF rfl (by decide) ?_
          | refine WC.condF rfl (decide_eq_false (by first | with_reducible assumption | omega)) ?_)
        | refine seqQ_n ?_
        | refine seqQ_x ?_
        | refine seqQ_r ?_
        | refine blkQ_hit rfl ?_
        | refine rndQ_x ?_)
      exact fin2r rfl rfl rfl ⟨hS.upd, .inr (.inl ⟨i, by first | rfl | trivial, hm, rfl⟩)⟩
  · have hz0 : 0 + ps.length = ps.length := Nat.zero_add _
    have hone := cps_one ps
    have hil2 : i < ps.length := by omega
    have hpc := cps_len ps
    have hsp : ∀ x g, setP ps i x g = ps.set i { ps[i]! with c := { ps[i]!.c with choice := x, given := g } } := fun _ _ => rfl
    generalize ps[i]! = q at *
    have e1 := fun (x : Int) => (cps_set hgt x []).1
    have hq2 := fun (x : Int) => (show (ps.set i { q with c := { q.c with choice := x } })[i]? = some { q with c := { q.c with choice := x } } from by rw [List.getElem?_set_self hil2])
    have hpc2 := fun (x : Int) => cps_len (ps.set i { q with c := { q.c with choice := x } })
    simp only [List.length_set] at hpc2
    have e2 := fun (x : Int) (g : List UInt8) => (cps_set (hq2 x) 0 g).2
    simp only [List.set_set] at e2
    clear hA hgt hq2
    rcases hcs with ⟨rfl, h2⟩ | ⟨h1, h2, rfl⟩ | ⟨rfl, rfl, rfl⟩
    all_goals
      repeat' (first
        | (show WL _ _ _ _ _ _ _; first
          | refine WL.pure rfl rfl rfl rfl ?_
          | refine WL.nil ?_
          | (refine WL.load hS rfl rfl (LdOk.snap (off := 4) hF hrr (by repeat (first | exact List.Mem.head _ | apply List.Mem.tail)) rfl) rfl rfl rfl ?_)
          | (refine WL.slit (t := 22) hS rfl rfl rfl rfl rfl ?_; intro w ob hS; have hS := hS.boxRow (n := 0) (size := 7) .here rfl (Nat.zero_le _))
          | (refine WL.appSl (sz := 7) (enc := encCp) (hsz := fun _ => rfl) (ys := ps) hS rfl rfl rfl (congrArg (fun n => Value.slice _ n cap) hpl.symm) hP (by repeat (first | exact List.Mem.head _ | apply List.Mem.tail)) (by decide) hone (fun A cap => by repeat (first | exact Repl.here | apply Repl.there)) (by omega) rfl rfl rfl ?_; intro AL cl w hS; rw [hz0] at hS ⊢; replace hS : St w0 [] w (.own (.slice AL ps.length cl) 25 7 ps.length (cps ps) :: _) _ := hS; obtain ⟨og, oo, rfl⟩ := hS.own_addr (A := AL) (n := ps.length) (List.Mem.head _) (by omega))
          | (refine WL.storeOwn (off := i * 7 + 5) hS rfl rfl rfl (by repeat (first | exact Repl.here | apply Repl.there)) (by rw [hpc]; show i * 7 + 5 + 1 ≤ _; omega) rfl rfl rfl rfl ?_; intro w hS; simp only [List.length_singleton] at hS; rw [e1] at hS)
          | (refine WL.storeOwn (off := i * 7 + 6) hS rfl rfl rfl (by repeat (first | exact Repl.here | apply Repl.there)) (by rw [hpc2]; show i * 7 + 6 + 1 ≤ _; omega) rfl rfl rfl rfl ?_; intro w hS; simp only [List.length_singleton] at hS; rw [e2] at hS)
          | refine WL.index rfl rfl rfl rfl (by first | with_reducible assumption | omega) rfl rfl rfl rfl ?_
          | refine WL.skip rfl rfl rfl ?_
          | ((fail_if_success (refine WL.wanted rfl ?_)); refine WL.guard rfl rfl rfl (fun h => ?_) (fun h => ?_) <;> (try simp only [Classical.not_not, Bool.not_eq_true', Bool.not_eq_false', Bool.not_eq_eq_eq_not, Bool.not_true, Bool.not_false, beq_iff_eq, beq_eq_false_iff_ne, ne_eq, decide_eq_decide, decide_eq_true_eq, decide_eq_false_iff_not, Bool.and_eq_true, Bool.or_eq_true, Bool.and_eq_false_iff, Bool.or_eq_false_iff] at h) <;> (try (exfalso; first | omega | contradiction))))
        | (show WC _ _ _ _ _ _; first
          | refine WC.seq ?_
          | refine WC.region ?_
          | refine WC.skip ?_
          | refine WC.exit ?_
          | refine WC.ret ?_
          | refine WC.condF rfl (by with_reducible rfl) ?_
          | refine WC.condF rfl (by decide) ?_
          | refine WC.condF rfl (decide_eq_false (by first | with_reducible assumption | omega)) ?_)
        | refine seqQ_n ?_
        | refine seqQ_x ?_
        | refine blkQ_hit rfl ?_
        | refine rndQ_x ?_)
      rw [hpl] at hS
      exact fin2r rfl rfl rfl ⟨hS.upd, .inr (.inr ⟨i, by first | rfl | trivial, hm, some ⟨og, oo, none⟩, cl, by rw [hpl], by rw [hsp]; exact hS.newOf (by repeat (first | exact List.Mem.head _ | apply List.Mem.tail))⟩)⟩
end Go.Proofs.YtniacmoniaaolaaDoor

/- What is proved: the law SessionChooses answers true. Conditions: the statement's own bound on the bulk. -/
set_option linter.unusedSimpArgs false
set_option linter.unusedVariables false
namespace Go.Proofs.YtniacmoniaaolaaDoor
open Go Go.J Go.RowKit

def spB : List UInt8 := [115, 112, 97, 114, 101]
def spCf : Cf := ⟨spB, [], [], [], false, 0, []⟩
def spP : Cp := ⟨spCf, none, 0, none, 0⟩
/-- what Choose answers, by definition -/
def chooseO (l : List Cf) (p : List UInt8) (choice : Int) (given : List UInt8) : Int × List Cf := match idxF l p with
  | none => (11, [])
  | some i => if mayC l i choice given then (0, setC l i choice given) else (1, [])
theorem setC_len (l : List Cf) (i : Nat) (choice : Int) (given : List UInt8) : (setC l i choice given).length = l.length := by unfold setC; rw [List.length_set]
theorem chooseO_len (l : List Cf) (p : List UInt8) (choice : Int) (given : List UInt8) : (chooseO l p choice given).2.length ≤ l.length := by
  unfold chooseO
  split
  · exact Nat.zero_le _
  · split
    · rw [setC_len]; exact Nat.le_refl _
    · exact Nat.zero_le _
theorem chooseO_mem {l : List Cf} {p : List UInt8} {choice : Int} {given : List UInt8} {Q : Cf → Prop} (h : ∀ c ∈ l, Q c) (hq : ∀ c, Q c → Q { c with choice := choice, given := given }) : ∀ c ∈ (chooseO l p choice given).2, Q c := by
  unfold chooseO
  split
  · intro c hc; cases hc
  · rename_i i hi
    split
    · intro c hc
      rcases List.mem_or_eq_of_mem_set hc with hc | rfl
      · exact h c hc
      · rcases idxF_cases l p with ⟨h1, _⟩ | ⟨k, hk, h1, _⟩
        · rw [hi] at h1; cases h1
        · rw [hi] at h1
          obtain rfl := Option.some.inj h1
          rw [List.getElem?_eq_getElem hk]
          exact hq _ (h _ (List.getElem_mem hk))
    · intro c hc; cases hc
theorem MutL.nilCf {w w' : World} (h : MutL w w' [] []) : MutL w w' [] [.own (.slice none 0 0) 25 7 0 (cps []), innF [] []] := by
  have hr : (Chunk.own (.slice none 0 0) 25 7 0 (cps [])).holds w' := RowAt.of_owns (World.ownsRow_nil w' 0 _ _)
  have hS : St w [] w' [] [] := ⟨by simpa [fps] using h.upd, fun c hc => (by cases hc), fun c hc => (by cases hc), .nil, fun z hz => (by cases hz)⟩
  have hS2 : St w (fps []) w' [Chunk.own (.slice none 0 0) 25 7 0 [], innF [] []] [] := hS.cfNil.nilRow 25 7
  exact hS2.mutLp (.cons .here (.cons .here .nil))
theorem choU {l : List Cf} {p : List UInt8} {choice : Int} {given : List UInt8} {v : Value} {w w' : World} {ec : Int} {La : List Cf} (hO : chooseO l p choice given = (ec, La)) (h : ChoIs l p choice given v w w') : ∃ AO oc ps fp, v = .tuple #[.slice AO La.length oc, .int .i64 ec] ∧ ps.map Cp.c = La ∧ MutL w w' [] [.own (.slice AO La.length oc) 25 7 La.length (cps ps), innF ps fp] := by
  unfold chooseO at hO
  rcases h with ⟨e, rfl, hm⟩ | ⟨i, e, e2, rfl, hm⟩ | ⟨i, e, e2, AO, oc, ps, fp, rfl, hps, hm⟩
  · rw [e] at hO
    simp only [Prod.mk.injEq] at hO
    obtain ⟨rfl, rfl⟩ := hO
    exact ⟨none, 0, [], [], rfl, rfl, MutL.nilCf hm⟩
  · rw [e] at hO
    simp only [e2, Prod.mk.injEq, Bool.false_eq_true, if_false] at hO
    obtain ⟨rfl, rfl⟩ := hO
    exact ⟨none, 0, [], [], rfl, rfl, MutL.nilCf hm⟩
  · rw [e] at hO
    simp only [e2, if_true, Prod.mk.injEq] at hO
    obtain ⟨rfl, rfl⟩ := hO
    rw [setC_len]
    exact ⟨AO, oc, ps, fp, rfl, hps, hm⟩
/-! ## rows for Apart -/
abbrev Q3 := Cp × Rw × List Ent
def zsOf (qs : List Q3) : List (Rw × List Ent) := qs.flatMap fun q => [(⟨q.1.A, q.1.c.hub.length, q.1.ca⟩, q.1.c.hub), (⟨q.1.B, q.1.c.side.length, q.1.cb⟩, q.1.c.side), (q.2.1, q.2.2)]
theorem zs_len (qs : List Q3) : (zsOf qs).length = 3 * qs.length := by
  induction qs with
  | nil => rfl
  | cons q l ih => show (_ :: _ :: _ :: zsOf l).length = _; simp only [List.length_cons, ih]; omega
theorem mark_zs (mk : Nat → Ent) {zs : List (Rw × List Ent)} (h : ∀ z ∈ zs, z.2.length = z.1.n) : MarkIs encEnt 53 3 mk (zs.map Prod.fst) (zs.map fun z => ownRw encEnt 53 3 z.1 z.2) 0 := by
  refine ⟨by rw [List.length_map, List.length_map], fun j hj => ?_⟩
  rw [List.length_map] at hj
  refine ⟨(zs[j]).2, ?_, ?_, fun h => absurd h (Nat.not_lt_zero _)⟩
  · rw [List.getElem_map]; exact h _ (List.getElem_mem hj)
  · rw [List.getElem?_map, List.getElem?_eq_getElem hj, List.getElem_map]
    rfl
theorem zs_perm (qs : List Q3) : ((qs.map Prod.fst).flatMap inF ++ qs.map fun q => ownRw encEnt 53 3 q.2.1 q.2.2).Perm ((zsOf qs).map fun z => ownRw encEnt 53 3 z.1 z.2) := by
  induction qs with
  | nil => exact .refl _
  | cons q l ih =>
    show ((eC q.1.A q.1.ca q.1.c.hub :: eC q.1.B q.1.cb q.1.c.side :: (l.map Prod.fst).flatMap inF) ++ (ownRw encEnt 53 3 q.2.1 q.2.2 :: l.map fun q => ownRw encEnt 53 3 q.2.1 q.2.2)).Perm (eC q.1.A q.1.ca q.1.c.hub :: eC q.1.B q.1.cb q.1.c.side :: ownRw encEnt 53 3 q.2.1 q.2.2 :: (zsOf l).map fun z => ownRw encEnt 53 3 z.1 z.2)
    refine .cons _ (.cons _ ?_)
    exact List.perm_middle.trans (.cons _ ih)
theorem pulls_pre : ∀ (D H : List Chunk), Pulls D (D ++ H) H
  | [], H => .nil
  | c :: D, H => .cons .here (pulls_pre D H)
theorem inF_take (psa : List Cp) (i : Nat) : psa.flatMap inF = (psa.take i).flatMap inF ++ (psa.drop i).flatMap inF := by rw [← List.flatMap_append, List.take_append_drop]
theorem set7 {vs c : List Value} {k n : Nat} (hc : c.length = 7) (hv : vs.length = n * 7) (hk : k < n) : (vs.take (k * 7) ++ c ++ vs.drop (k * 7 + c.length)).length = n * 7 := by
  rw [List.length_append, List.length_append, List.length_take, List.length_drop, hc, hv]
  omega
theorem pulls_mid (X : Chunk) : ∀ D : List Chunk, Pulls D (X :: D) [X]
  | [] => .nil
  | c :: D => .cons (.there .here) (pulls_mid X D)
abbrev copC (qs : List Q3) (fp : List Nat) : Chunk := objC (fun D => D = qs.map fun q => ownRw encEnt 53 3 q.2.1 q.2.2) fp
section
variable {w0 w : World} {M : List Nat} {H : List Chunk} {Z : List Snap} {qs : List Q3} {x : Q3} {fp : List Nat}
theorem _root_.Go.J.St.copNil (hS : St w0 M w H Z) : St w0 M w (copC [] [] :: H) Z := St.objClose (D := []) (φ := fun D => D = ([] : List Q3).map fun q => ownRw encEnt 53 3 q.2.1 q.2.2) hS rfl
theorem _root_.Go.J.St.copPush (hS : St w0 M w (copC qs fp :: ownRw encEnt 53 3 x.2.1 x.2.2 :: H) Z) : ∃ fp', St w0 M w (copC (qs ++ [x]) fp' :: H) Z := by
  obtain ⟨D, hD, _, hS⟩ := hS.objOpen
  subst hD
  have e : (qs.map fun q => ownRw encEnt 53 3 q.2.1 q.2.2) ++ (ownRw encEnt 53 3 x.2.1 x.2.2 :: H) = ((qs ++ [x]).map fun q => ownRw encEnt 53 3 q.2.1 q.2.2) ++ H := by simp
  rw [e] at hS
  exact ⟨_, hS.objClose (φ := fun D => D = (qs ++ [x]).map fun q => ownRw encEnt 53 3 q.2.1 q.2.2) rfl⟩
end
theorem rchU {l : List Cf} {ps : List Cp} {p : List UInt8} {choice : Int} {given : List UInt8} {v : Value} {w w' wz : World} {F : Nat → Prop} {ec : Int} {La : List Cf} (hO : chooseO l p choice given = (ec, La)) (hps : ps.map Cp.c = l) (hpi : ∀ p ∈ ps, p.c.hub.length ≤ p.ca ∧ p.c.side.length ≤ p.cb ∧ SlAt cEnt F wz p.A p.c.hub ∧ SlAt cEnt F wz p.B p.c.side)
    (h : (idxF l p = none ∧ v = .tuple #[.slice none 0 0, .int .i64 11]) ∨ (∃ i, idxF l p = some i ∧ mayC l i choice given = false ∧ v = .tuple #[.slice none 0 0, .int .i64 1]) ∨
      ∃ i, idxF l p = some i ∧ mayC l i choice given = true ∧ ∃ AO oc, v = .tuple #[.slice AO l.length oc, .int .i64 0] ∧ New w w' (.own (.slice AO l.length oc) 25 7 l.length (cps (setP ps i choice given)))) :
    ∃ BO bc psb, v = .tuple #[.slice BO La.length bc, .int .i64 ec] ∧ psb.map Cp.c = La ∧ (∀ p ∈ psb, p.c.hub.length ≤ p.ca ∧ p.c.side.length ≤ p.cb ∧ SlAt cEnt F wz p.A p.c.hub ∧ SlAt cEnt F wz p.B p.c.side) ∧ New w w' (.own (.slice BO La.length bc) 25 7 La.length (cps psb)) := by
  unfold chooseO at hO
  have hnil : New w w' (.own (.slice none 0 0) 25 7 0 (cps [])) := ⟨RowAt.of_owns (World.ownsRow_nil w' 0 _ _), fun b hb => by simp [Chunk.fp, Value.ownBlock] at hb⟩
  rcases h with ⟨e, rfl⟩ | ⟨i, e, e2, rfl⟩ | ⟨i, e, e2, AO, oc, rfl, hn⟩
  · rw [e] at hO
    simp only [Prod.mk.injEq] at hO
    obtain ⟨rfl, rfl⟩ := hO
    exact ⟨none, 0, [], rfl, rfl, fun q hq => (by cases hq), hnil⟩
  · rw [e] at hO
    simp only [e2, Prod.mk.injEq, Bool.false_eq_true, if_false] at hO
    obtain ⟨rfl, rfl⟩ := hO
    exact ⟨none, 0, [], rfl, rfl, fun q hq => (by cases hq), hnil⟩
  · rw [e] at hO
    simp only [e2, if_true, Prod.mk.injEq] at hO
    obtain ⟨rfl, rfl⟩ := hO
    have hil : i < l.length := by
      rcases idxF_cases l p with ⟨h1, _⟩ | ⟨k, hk, h1, _⟩
      · rw [e] at h1; cases h1
      · rw [e] at h1
        obtain rfl := Option.some.inj h1
        exact hk
    have hi2 : i < ps.length := by rw [← hps, List.length_map] at hil; exact hil
    rw [setC_len]
    exact ⟨AO, oc, _, rfl, (setP_map hps hil choice given).2, setP_in hi2 hpi, hn⟩
theorem cps_at {ps : List Cp} {i : Nat} (h : i < ps.length) {k : Nat} (hk : k < 7) : (cps ps)[i * 7 + k]? = (encCp ps[i])[k]? := flat_get (sz := 7) (enc := encCp) (fun _ => rfl) ps h hk
set_option maxHeartbeats 64000000 in
set_option maxRecDepth 100000 in
theorem sessionChooses_c (l : List Cf) (p : List UInt8) (choice : Int) (given : List UInt8) {A : Option Addr} {cap : Nat} {w0 : World} (hA : SlAt cCf (Old w0) w0 A l) (hl : l.length ≤ 262144) (hc : ∀ c ∈ l, FitC c) (hg : given.length ≤ 1048576) :
    Cal Tryd.prog 3 [.slice A l.length cap, str p, .int .i64 choice, str given] w0 (fun v w' => Upd [] w0 w' ∧ v = .bool true) := by
  refine Cal.mk' (by kernel_rfl) Tryd.func3 rfl rfl fun hS => ?_
  obtain ⟨ps, hps, hP, hpi⟩ := cf_cps hA
  have hpl : ps.length = l.length := by rw [← hps, List.length_map]
  have hz0 : 0 + ps.length = ps.length := Nat.zero_add _
  have hone := cps_one ps
  have hcz : ∀ c ∈ l, c.hub.length ≤ 1048576 ∧ c.side.length ≤ 1048576 := fun c h => by have := (hc c h).hub.len; have := (hc c h).side.len; omega
  have hcp : cps ps ++ [str spB, .slice none 0 0, .slice none 0 0, str [], .bool false, .int .i64 0, str []] = cps (ps ++ [spP]) := cps_snoc ps spP
  have hmx : (ps ++ [spP]).map Cp.c = l ++ [spCf] := by rw [List.map_append, hps]; rfl
  have hinx : ∀ q ∈ ps ++ [spP], q.c.hub.length ≤ q.ca ∧ q.c.side.length ≤ q.cb ∧ SlAt cEnt (Old w0) w0 q.A q.c.hub ∧ SlAt cEnt (Old w0) w0 q.B q.c.side := fun q hq => by
    rcases List.mem_append.1 hq with hq | hq
    · exact hpi q hq
    · rw [List.mem_singleton.1 hq]
      exact ⟨Nat.le_refl _, Nat.le_refl _, fun k hk => absurd hk (Nat.not_lt_zero _), fun k hk => absurd hk (Nat.not_lt_zero _)⟩
  have hspare : (cps (ps ++ [spP]))[l.length * 7 + 0]? = some (str spB) := by
    rw [← hpl, cps_at (by rw [List.length_append]; exact Nat.lt_succ_self _) (by decide), List.getElem_append_right (Nat.le_refl _)]
    simp only [Nat.sub_self, List.getElem_cons_zero]
    rfl
  rcases hO : chooseO l p choice given with ⟨ec, La⟩
  have hLl : La.length ≤ l.length := by have := chooseO_len l p choice given; rw [hO] at this; exact this
  have hLz : ∀ c ∈ La, c.hub.length ≤ 1048576 ∧ c.side.length ≤ 1048576 := by have := chooseO_mem (p := p) (choice := choice) (given := given) hcz (fun c h => h); rw [hO] at this; exact this
  have hcl : ∀ c ∈ l, c.hub.length ≤ 1048576 := fun c h => (hcz c h).1
  have hch := fun (w : World) {A' : Option Addr} {c' : Nat} (h : SlAt cCf (Old w) w A' l) => choose_c (cap := c') l p choice given h (by omega) hg hcz
  have hrc := fun (w : World) (h : SlAt cCf (Old w) w A l) (h2 : SlAt cCp (Old w) w A ps) => rchoose_c (cap := cap) l ps p choice given hps h h2 (by omega) hg
  have hs1 := fun (w : World) {A1 A2 : Option Addr} {k1 k2 : Nat} (h1 : SlAt cCf (Old w) w A1 La) (h2 : SlAt cCf (Old w) w A2 La) => rsameCf_c (ca := k1) (cb := k2) La h1 h2 (by omega) hLz
  have hs2 := fun (w : World) {A1 A2 : Option Addr} {k1 k2 : Nat} (h1 : SlAt cCf (Old w) w A1 l) (h2 : SlAt cCf (Old w) w A2 l) => rsameCf_c (ca := k1) (cb := k2) l h1 h2 (by omega) hcz
  have hro := fun {v : Value} {w w' : World} => rchU (v := v) (w := w) (w' := w') hO hps hpi
  clear hc
  repeat' (first
    | (show WL _ _ _ _ _ _ _; first
      | refine WL.pure rfl rfl rfl rfl ?_
      | refine WL.nil ?_
      | (refine WL.slit (t := 22) hS rfl rfl rfl rfl rfl ?_; intro w ob hS; replace hS := hS.boxRow (n := 0) (size := 7) .here rfl (Nat.zero_le _))
      | (refine WL.appSl (sz := 7) (enc := encCp) (hsz := fun _ => rfl) (ys := ps) hS rfl rfl rfl (congrArg (fun n => Value.slice A n cap) hpl.symm) hP (by repeat (first | exact List.Mem.head _ | apply List.Mem.tail)) (by decide) hone (fun A cap => by repeat (first | exact Repl.here | apply Repl.there)) (by omega) rfl rfl rfl ?_; intro AL cl w hS)
      | (refine WL.app hS rfl rfl rfl rfl (RdOk.box (by repeat (first | exact List.Mem.head _ | apply List.Mem.tail))) rfl rfl (fun A cap => by repeat (first | exact Repl.here | apply Repl.there)) (by omega) rfl rfl rfl ?_; intro A4 ci w hS; obtain ⟨ag, ao, rfl⟩ := hS.own_addr (A := A4) (by repeat (first | exact List.Mem.head _ | apply List.Mem.tail)) (by omega); have hci := (hS.own_len (A := some ⟨ag, ao, none⟩) (by repeat (first | exact List.Mem.head _ | apply List.Mem.tail))).2.2)
      | (refine WL.highV rfl rfl rfl rfl (by omega) rfl rfl rfl ?_)
      | refine WL.build rfl rfl rfl rfl rfl ?_
      | (refine WL.slit hS rfl rfl rfl rfl rfl ?_; intro w b hS))
    | (show WC _ _ _ _ _ _; first
      | refine WC.seq ?_
      | refine WC.region ?_)
    | refine seqQ_n ?_)
  replace hS := hS.droplast2 (D := [.own (.slice (some ⟨ag, ao, none⟩) (0 + ps.length + 1) ci) 25 7 (0 + ps.length + 1) (cps ps ++ [str spB, .slice none 0 0, .slice none 0 0, str [], .bool false, .int .i64 0, str []])]) (by repeat (first | exact Pulls.nil | (apply Pulls.cons; focus (repeat (first | exact Pull.here | apply Pull.there)))))
  rw [hz0, hcp, hpl] at hS
  rw [hz0, hpl] at hci
  have hin2 := fun {w : World} {H : List Chunk} {Z : List Snap} (hS : St w0 [] w H Z) (hz : Snap.mk w0 (Old w0) ∈ Z) (h1 : .own (.slice (some ⟨ag, ao, none⟩) (l.length + 1) ci) 25 7 (l.length + 1) (cps (ps ++ [spP])) ∈ H) => (show SlAt cCf (Old w) w (some ⟨ag, ao, none⟩) l from SlAt.pre (ys := [spCf]) (hmx ▸ later_sl (ps := ps ++ [spP]) hS hz h1 hinx))
  clear hmx hinx hcp hz0
  repeat' (first
    | (show WL _ _ _ _ _ _ _; first
      | refine WL.pure rfl rfl rfl rfl ?_
      | refine WL.nil ?_
      | refine WL.add rfl rfl rfl (by omega) rfl rfl rfl ?_
      | (refine WL.callL (D := []) hS .nil rfl rfl (fun hI => hch _ (hin2 hS (by repeat (first | exact List.Mem.head _ | apply List.Mem.tail)) (by repeat (first | exact List.Mem.head _ | apply List.Mem.tail)))) rfl rfl rfl ?_; rintro v w hr hS; obtain ⟨AO, oc, psa, fpa, rfl, hpa, hmu⟩ := choU hO hr; replace hS := hS _ hmu; clear hmu hr)
      | (refine WL.callG rfl rfl (hrc _ (hS.slO (by repeat (first | exact List.Mem.head _ | apply List.Mem.tail)) hA) (hS.slO (by repeat (first | exact List.Mem.head _ | apply List.Mem.tail)) hP)) rfl rfl rfl ?_; rintro v w ⟨hu, hr⟩; obtain ⟨BO, bc, psb, rfl, hpb, hib, hn⟩ := hro hr; replace hS := hS.new hu hn; clear hu hn hr)
      | (refine WL.calls hS rfl rfl (sawake_c _) rfl rfl rfl ?_; rintro v w rfl hS)
      | (refine WL.calls hS rfl rfl (hs1 _ (hpa ▸ hS.cfsSl (ps := psa) (fp := fpa) (by repeat (first | exact List.Mem.head _ | apply List.Mem.tail)) (by repeat (first | exact List.Mem.head _ | apply List.Mem.tail))) (hpb ▸ later_sl (ps := psb) hS (by repeat (first | exact List.Mem.head _ | apply List.Mem.tail)) (by repeat (first | exact List.Mem.head _ | apply List.Mem.tail)) hib)) rfl rfl rfl ?_; rintro v w rfl hS)
      | (refine WL.calls hS rfl rfl (hs2 _ (hin2 hS (by repeat (first | exact List.Mem.head _ | apply List.Mem.tail)) (by repeat (first | exact List.Mem.head _ | apply List.Mem.tail))) (hS.slO (by repeat (first | exact List.Mem.head _ | apply List.Mem.tail)) hA)) rfl rfl rfl ?_; rintro v w rfl hS)
      | (refine WL.highV (j := l.length + 1) rfl rfl rfl rfl (by omega) rfl rfl rfl ?_)
      | (refine WL.load hS rfl rfl (LdOk.ownAt (off := l.length * 7 + 0) (by repeat (first | exact List.Mem.head _ | apply List.Mem.tail)) rfl ⟨_, rfl⟩ hspare rfl) rfl rfl rfl ?_)
      | refine WL.index rfl rfl rfl rfl (by first | with_reducible assumption | omega) rfl rfl rfl rfl ?_
      | ((fail_if_success (refine WL.wanted rfl ?_)); refine WL.guard rfl rfl rfl (fun h => ?_) (fun h => ?_) <;> (try simp only [Classical.not_not, Bool.not_eq_true', Bool.not_eq_false', Bool.not_eq_eq_eq_not, Bool.not_true, Bool.not_false, beq_iff_eq, beq_eq_false_iff_ne, ne_eq, decide_eq_decide, decide_eq_true_eq, decide_eq_false_iff_not, Bool.and_eq_true, Bool.or_eq_true, Bool.and_eq_false_iff, Bool.or_eq_false_iff] at h) <;> (try (exfalso; first | omega | contradiction))))
    | (show WC _ _ _ _ _ _; first
      | refine WC.seq ?_
      | refine WC.region ?_
      | refine WC.block ?_
      | refine WC.skip ?_
      | refine WC.condF rfl (by decide) ?_)
    | refine seqQ_n ?_)
  have hpal : psa.length = La.length := by rw [← hpa, List.length_map]
  replace hS := ((hS.nilRow 23 1).copNil).droplast2 (D := [.own (.slice none 0 0) 23 1 0 [], copC [] [], .own (.slice AO La.length oc) 25 7 La.length (cps psa), innF psa fpa, .own (.slice (some ⟨ag, ao, none⟩) (l.length + 1) ci) 25 7 (l.length + 1) (cps (ps ++ [spP]))]) (by repeat (first | exact Pulls.nil | (apply Pulls.cons; focus (repeat (first | exact Pull.here | apply Pull.there)))))
  clear hch hrc hs1 hro hspare hpb hib hO hpi hP hone hcz hps
  refine WC.loop (σ := Nat × List Q3 × Option Addr × Nat × List Nat) [0, 9, 10] (fun (i, qs, OL, ol, fpc) => [(14, .slice OL (3 * i) ol), (15, .int .i64 (i : Int))])
    (fun (i, qs, OL, ol, fpc) w => ((i ≤ La.length ∧ i ≤ 6) ∧ qs.map Prod.fst = psa.take i ∧ ∀ q ∈ qs, q.2.2.length = q.2.1.n ∧ q.2.1.n ≤ 1048576) ∧ St w0 [] w [.own (.slice OL (3 * i) ol) 23 1 (3 * i) (((zsOf qs).map Prod.fst).flatMap encRw), copC qs fpc, .own (.slice AO La.length oc) 25 7 La.length (cps psa), innF psa fpa, .own (.slice (some ⟨ag, ao, none⟩) (l.length + 1) ci) 25 7 (l.length + 1) (cps (ps ++ [spP]))] [⟨w0, Old w0⟩]) (fun (i, _) => La.length - i) (0, [], none, 0, [])
    ⟨⟨⟨Nat.zero_le _, Nat.zero_le _⟩, rfl, fun q hq => (by cases hq)⟩, hS⟩ ⟨rfl, rfl, trivial⟩ ?_
  repeat (clear hS)
  rintro ⟨i, qs, OL, ol, fpc⟩ g w ⟨⟨⟨hi, hi6⟩, hqm, hqs⟩, hS⟩
  show WC _ _ _ (lf _ [(14, .slice OL (3 * i) ol), (15, .int .i64 (i : Int))] _ _) _ _
  by_cases hlt : i < La.length ∧ i < 6
  · obtain ⟨hlt, hl6⟩ := hlt
    obtain ⟨ga, go, es, rfl, hF, hr, X1, x1, Y1, y1, hes, _, _, hs3, _⟩ := hA.at_ (k := i) (by omega)
    subst hes
    replace hr : w0.rangeAt ga (go + i * 7) (encCp ⟨l[i], X1, x1, Y1, y1⟩) := hr
    have hfi := (hcl _ (List.getElem_mem (show i < l.length by omega)))
    obtain ⟨og, oo, rfl⟩ := hS.own_addr (A := AO) (n := La.length) (by repeat (first | exact List.Mem.head _ | apply List.Mem.tail)) (by omega)
    have hq1 := cps_at (ps := psa) (i := i) (by omega) (k := 1) (by decide)
    have hq2 := cps_at (ps := psa) (i := i) (by omega) (k := 2) (by decide)
    have hqn : ∀ x : Rw × List Ent, (qs ++ [((psa[i]'(by omega)), x)]).map Prod.fst = psa.take (i + 1) := fun x => by rw [List.map_append, hqm, List.take_succ_eq_append_getElem (by omega)]; rfl
    generalize psa[i]'(by omega) = q at *
    generalize l[i] = c at *
    obtain ⟨⟨qp, qh, qsd, qm, qt, qc, qg⟩, QA, qa, QB, qb⟩ := q
    obtain ⟨ep, eh, es, em, et, ec2, eg⟩ := c
    unfold encCp at hr hq1 hq2
    dsimp only at hr hq1 hq2 hfi hs3
    replace hq1 : (cps psa)[i * 7 + 1]? = some (.slice QA qh.length qa) := hq1
    replace hq2 : (cps psa)[i * 7 + 2]? = some (.slice QB qsd.length qb) := hq2
    have hone := ents_ones eh
    have hzs : ∀ (A5 : Option Addr) (c5 : Nat), ((zsOf qs).map Prod.fst).flatMap encRw ++ [.slice QA qh.length qa, .slice QB qsd.length qb, .slice A5 eh.length c5] = ((zsOf (qs ++ [((⟨⟨qp, qh, qsd, qm, qt, qc, qg⟩, QA, qa, QB, qb⟩ : Cp), (⟨A5, eh.length, c5⟩ : Rw), eh)])).map Prod.fst).flatMap encRw := fun A5 c5 => by
      unfold zsOf
      rw [List.flatMap_append, List.map_append, List.flatMap_append]
      rfl
    have hz1 : 0 + eh.length = eh.length := Nat.zero_add _
    clear hs2 hin2 hA hpa hqm hLz
    repeat' (first
      | (show WL _ _ _ _ _ _ _; first
        | refine WL.pure rfl rfl rfl rfl ?_
        | refine WL.nil ?_
        | refine WL.add rfl rfl rfl (by omega) rfl rfl rfl ?_
        | ((fail_if_success (refine WL.wanted rfl ?_)); refine WL.guard rfl rfl rfl (fun h => ?_) (fun h => ?_) <;> (try simp only [Classical.not_not, Bool.not_eq_true', Bool.not_eq_false', Bool.not_eq_eq_eq_not, Bool.not_true, Bool.not_false, beq_iff_eq, beq_eq_false_iff_ne, ne_eq, decide_eq_decide, decide_eq_true_eq, decide_eq_false_iff_not, Bool.and_eq_true, Bool.or_eq_true, Bool.and_eq_false_iff, Bool.or_eq_false_iff] at h) <;> (try (exfalso; first | omega | contradiction))))
      | (show WC _ _ _ _ _ _; first
        | refine WC.seq ?_
        | refine WC.region ?_
        | refine WC.block ?_
        | refine WC.skip ?_
        | (show WC _ _ (Code.region _ (List.toArray [_, _, _, _, _, _, _, _, _, _, _, _, _, _, _, _, _, _, _, _, _]) true) _ _ _; refine WC.drawL [.own (.slice OL (3 * i) ol) 23 1 (3 * i) (((zsOf qs).map Prod.fst).flatMap encRw)] hS (by repeat (first | exact Pulls.nil | (apply Pulls.cons; focus (repeat (first | exact Pull.here | apply Pull.there))))) [0,1,2,3,4,5,6,7,8,9,10,12,13,14,15,16,20] [0,1,2,3,4,5,6,7,8,9,10,12,13,14,15,16,11,17,18,19,20] (by kernel_rfl) (by kernel_rfl) ?_; clear hS; intro w hS hM)
        | refine WC.condT rfl (decide_eq_true (by first | with_reducible assumption | omega)) ?_)
      | (show WD _ _ _ _ _ _ _ _ _; first
        | refine WD.pure rfl rfl rfl rfl rfl ?_
        | refine WD.nil ?_
        | (refine WD.load rfl rfl (LdOk.ownAt (off := i * 7 + 1) (by repeat (first | exact List.Mem.head _ | apply List.Mem.tail)) rfl ⟨_, rfl⟩ hq1 rfl) rfl rfl rfl rfl ?_)
        | (refine WD.load rfl rfl (LdOk.ownAt (off := i * 7 + 2) (by repeat (first | exact List.Mem.head _ | apply List.Mem.tail)) rfl ⟨_, rfl⟩ hq2 rfl) rfl rfl rfl rfl ?_)
        | (refine WD.load rfl rfl (LdOk.snap (off := 1) hF hr (by repeat (first | exact List.Mem.head _ | apply List.Mem.tail)) rfl) rfl rfl rfl rfl ?_)
        | (refine WD.slit0 (size := 3) hS hM rfl rfl rfl rfl rfl rfl rfl ?_; clear hS hM; intro w ob hS hM)
        | (refine WD.appSl (sz := 3) (enc := encEnt) (hsz := fun _ => rfl) (ys := eh) hS (by repeat (first | exact Pull.here | apply Pull.there)) (by repeat (first | exact More.refl _ _ | refine More.chunk ?_ _)) rfl rfl rfl rfl hs3 (by repeat (first | exact List.Mem.head _ | apply List.Mem.tail)) (by decide) hone (by omega) rfl rfl rfl rfl rfl ?_; clear hS hM; intro A5 c5 w hS hM)
        | (refine WD.slit (t := 33) hS hM rfl rfl rfl rfl rfl rfl rfl ?_; clear hS hM; intro w rb hS hM)
        | (refine WD.app (size := 1) hS (by repeat (first | exact Pull.here | apply Pull.there)) (by repeat (first | exact More.refl _ _ | refine More.chunk ?_ _)) rfl rfl rfl rfl (RdOk.box (by repeat (first | exact List.Mem.head _ | apply List.Mem.tail))) rfl rfl (by omega) rfl rfl rfl rfl rfl ?_; clear hS hM; intro A6 c6 w hS hM)
        | refine WD.index rfl rfl rfl rfl (by first | with_reducible assumption | omega) rfl rfl rfl rfl rfl ?_)
      | refine seqQ_n ?_
      | refine blkQ_n ?_)
    replace hS := hS.droplast2 (D := [copC qs fpc, .own (.slice A5 (0 + eh.length) c5) 53 3 (0 + eh.length) (eh.flatMap encEnt), .own (.slice A6 (3 * i + 3) c6) 23 1 (3 * i + 3) (((zsOf qs).map Prod.fst).flatMap encRw ++ [.slice QA qh.length qa, .slice QB qsd.length qb, .slice A5 (0 + eh.length) c5]), .own (.slice (some ⟨og, oo, none⟩) La.length oc) 25 7 La.length (cps psa), innF psa fpa, .own (.slice (some ⟨ag, ao, none⟩) (l.length + 1) ci) 25 7 (l.length + 1) (cps (ps ++ [spP]))]) (by repeat (first | exact Pulls.nil | (apply Pulls.cons; focus (repeat (first | exact Pull.here | apply Pull.there)))))
    rw [hz1, hzs] at hS
    obtain ⟨fpd, hS2⟩ := St.copPush (x := ((⟨⟨qp, qh, qsd, qm, qt, qc, qg⟩, QA, qa, QB, qb⟩ : Cp), (⟨A5, eh.length, c5⟩ : Rw), eh)) hS
    exact rndQ_n (i + 1, qs ++ [((⟨⟨qp, qh, qsd, qm, qt, qc, qg⟩, QA, qa, QB, qb⟩ : Cp), (⟨A5, eh.length, c5⟩ : Rw), eh)], A6, c6, fpd) ⟨⟨⟨by omega, by omega⟩, hqn _, fun q hq => by
      rcases List.mem_append.1 hq with hq | hq
      · exact hqs q hq
      · rw [List.mem_singleton.1 hq]
        exact ⟨rfl, hfi⟩⟩, hS2.droplast2 (by repeat (first | exact Pulls.nil | (apply Pulls.cons; focus (repeat (first | exact Pull.here | apply Pull.there)))))⟩ (by show La.length - (i + 1) < La.length - i; omega) ⟨rfl, vint (by omega), trivial⟩ ⟨rfl, rfl, rfl, trivial⟩
  have hge : La.length ≤ i ∨ (i < La.length ∧ 6 ≤ i) := by omega
  have hvl := cps_len psa
  rw [hpal] at hvl
  have hqln : qs.length = i := by have := congrArg List.length hqm; rw [List.length_map, List.length_take] at this; omega
  have hlen : ((zsOf qs).map Prod.fst).length = 3 * i := by rw [List.length_map, zs_len, hqln]
  have hzl : ∀ z ∈ zsOf qs, z.2.length = z.1.n := fun z hz => by
    obtain ⟨q, hq, hz⟩ := List.mem_flatMap.1 hz
    simp only [List.mem_cons, List.not_mem_nil, or_false] at hz
    rcases hz with rfl | rfl | rfl
    · rfl
    · rfl
    · exact (hqs q hq).1
  have hzr : ∀ r ∈ (zsOf qs).map Prod.fst, r.n ≤ 1048576 := fun r hr => by
    obtain ⟨z, hz, rfl⟩ := List.mem_map.1 hr
    obtain ⟨q, hq, hz⟩ := List.mem_flatMap.1 hz
    have hqa : q.1.c ∈ La := by
      have : q.1 ∈ psa.take i := by rw [← hqm]; exact List.mem_map.2 ⟨q, hq, rfl⟩
      rw [← hpa]
      exact List.mem_map.2 ⟨_, List.mem_of_mem_take this, rfl⟩
    simp only [List.mem_cons, List.not_mem_nil, or_false] at hz
    rcases hz with rfl | rfl | rfl
    · exact (hLz _ hqa).1
    · exact (hLz _ hqa).2
    · exact (hqs q hq).2
  have hap := fun (w : World) (hi : InL w (Chunk.own (.slice OL ((zsOf qs).map Prod.fst).length ol) 23 1 ((zsOf qs).map Prod.fst).length (((zsOf qs).map Prod.fst).flatMap encRw) :: (zsOf qs).map fun z => ownRw encEnt 53 3 z.1 z.2)) => rapart_c ((zsOf qs).map Prod.fst) ((zsOf qs).map fun z => ownRw encEnt 53 3 z.1 z.2) (OA := OL) (oc := ol) hi (mark_zs mE hzl) (by rw [hlen]; omega) hzr
  rw [hlen] at hap
  have hpm : ∀ L : List Chunk, ((qs.map fun q => ownRw encEnt 53 3 q.2.1 q.2.2) ++ (psa.flatMap inF ++ L)).Perm (L ++ (((zsOf qs).map fun z => ownRw encEnt 53 3 z.1 z.2) ++ (psa.drop i).flatMap inF)) := fun L => by
    rw [inF_take psa i, ← hqm]
    have h3 := zs_perm qs
    generalize (qs.map fun q => ownRw encEnt 53 3 q.2.1 q.2.2) = C at *
    generalize (qs.map Prod.fst).flatMap inF = T at *
    generalize (psa.drop i).flatMap inF = Dp at *
    have h1 : (C ++ ((T ++ Dp) ++ L)).Perm (L ++ (C ++ (T ++ Dp))) := by rw [← List.append_assoc]; exact List.perm_append_comm
    have h2 : (C ++ (T ++ Dp)).Perm ((T ++ C) ++ Dp) := by rw [← List.append_assoc]; exact List.perm_append_comm.append_right Dp
    exact h1.trans ((h2.trans (h3.append_right Dp)).append_left L)
  generalize ((zsOf qs).map fun z => ownRw encEnt 53 3 z.1 z.2) = ZS at *
  clear hlt hzl hzr hlen hqln hqm hqs hLz
  rcases hge with h1 | ⟨h1, h2⟩
  all_goals
    repeat' (first
      | (show WL _ _ _ _ _ _ _; first
        | refine WL.pure rfl rfl rfl rfl ?_
        | refine WL.nil ?_
        | refine WL.skip rfl rfl rfl ?_
        | ((fail_if_success (refine WL.wanted rfl ?_)); refine WL.guard rfl rfl rfl (fun h => ?_) (fun h => ?_) <;> (try simp only [Classical.not_not, Bool.not_eq_true', Bool.not_eq_false', Bool.not_eq_eq_eq_not, Bool.not_true, Bool.not_false, beq_iff_eq, beq_eq_false_iff_ne, ne_eq, decide_eq_decide, decide_eq_true_eq, decide_eq_false_iff_not, Bool.and_eq_true, Bool.or_eq_true, Bool.and_eq_false_iff, Bool.or_eq_false_iff] at h) <;> (try (exfalso; first | omega | contradiction))))
      | (show WC _ _ _ _ _ _; first
        | refine WC.seq ?_
        | refine WC.region ?_
        | refine WC.block ?_
        | refine WC.exit ?_
        | refine WC.condF rfl (by with_reducible rfl) ?_
        | refine WC.condF rfl (decide_eq_false (by first | with_reducible assumption | omega)) ?_)
      | refine seqQ_n ?_
      | refine seqQ_x ?_
      | refine blkQ_hit rfl ?_
      | refine rndQ_x ?_)
    refine WC.loop (σ := Nat × List Value) [0, 9, 10, 14] (fun (k, _) => [(16, .int .i64 (k : Int))])
      (fun (k, vs) w => (k ≤ La.length ∧ vs.length = La.length * 7) ∧ St w0 [] w [.own (.slice AO La.length oc) 25 7 La.length vs, .own (.slice OL (3 * i) ol) 23 1 (3 * i) (((zsOf qs).map Prod.fst).flatMap encRw), copC qs fpc, innF psa fpa, .own (.slice (some ⟨ag, ao, none⟩) (l.length + 1) ci) 25 7 (l.length + 1) (cps (ps ++ [spP]))] [⟨w0, Old w0⟩]) (fun (k, _) => La.length - k) (0, cps psa) ⟨⟨Nat.zero_le _, hvl⟩, hS.droplast2 (by repeat (first | exact Pulls.nil | (apply Pulls.cons; focus (repeat (first | exact Pull.here | apply Pull.there)))))⟩ ⟨rfl, trivial⟩ ?_
    repeat (clear hS)
    rintro ⟨k, vs⟩ g2 w ⟨⟨hk, hvs⟩, hS⟩
    show WC _ _ _ (lf _ [(16, .int .i64 (k : Int))] _ _) _ _
    by_cases hlt : k < La.length
    · obtain ⟨og, oo, rfl⟩ := hS.own_addr (A := AO) (n := La.length) (by repeat (first | exact List.Mem.head _ | apply List.Mem.tail)) (by omega)
      clear hap hpm hs2 hin2 hA
      repeat' (first
        | (show WL _ _ _ _ _ _ _; first
          | refine WL.pure rfl rfl rfl rfl ?_
          | refine WL.nil ?_
          | refine WL.add rfl rfl rfl (by omega) rfl rfl rfl ?_
          | (refine WL.storeOwn (off := k * 7) (vs := [str [120], .slice none 0 0, .slice none 0 0, str [], .bool false, .int .i64 0, str []]) hS rfl rfl rfl (by repeat (first | exact Repl.here | apply Repl.there)) (by rw [hvs]; show k * 7 + 7 ≤ _; omega) rfl rfl rfl rfl ?_; intro w hS)
          | refine WL.index rfl rfl rfl rfl (by first | with_reducible assumption | omega) rfl rfl rfl rfl ?_
          | refine WL.build rfl rfl rfl rfl rfl ?_)
        | (show WC _ _ _ _ _ _; first
          | refine WC.seq ?_
          | refine WC.region ?_
          | refine WC.block ?_
          | refine WC.skip ?_
          | refine WC.condT rfl (decide_eq_true (by first | with_reducible assumption | omega)) ?_)
        | refine seqQ_n ?_
        | refine blkQ_n ?_)
      exact rndQ_n (k + 1, vs.take (k * 7) ++ [str [120], .slice none 0 0, .slice none 0 0, str [], .bool false, .int .i64 0, str []] ++ vs.drop (k * 7 + ([str [120], .slice none 0 0, .slice none 0 0, str [], .bool false, .int .i64 0, str []] : List Value).length)) ⟨⟨by omega, set7 rfl hvs hlt⟩, hS.droplast2 (by repeat (first | exact Pulls.nil | (apply Pulls.cons; focus (repeat (first | exact Pull.here | apply Pull.there)))))⟩ (by show La.length - (k + 1) < La.length - k; omega) ⟨vint (by omega), trivial⟩ ⟨rfl, rfl, rfl, rfl, trivial⟩
    · replace hS := hS.droplast2 (D := [innF psa fpa, copC qs fpc, .own (.slice OL (3 * i) ol) 23 1 (3 * i) (((zsOf qs).map Prod.fst).flatMap encRw), .own (.slice (some ⟨ag, ao, none⟩) (l.length + 1) ci) 25 7 (l.length + 1) (cps (ps ++ [spP]))]) (by repeat (first | exact Pulls.nil | (apply Pulls.cons; focus (repeat (first | exact Pull.here | apply Pull.there)))))
      obtain ⟨D1, hD1, _, hS1⟩ := hS.objOpen
      subst hD1
      obtain ⟨D2, hD2, _, hS2⟩ := (hS1.perm List.perm_middle).objOpen
      subst hD2
      replace hS := (hS2.perm (hpm _)).droplast2 (D := .own (.slice OL (3 * i) ol) 23 1 (3 * i) (((zsOf qs).map Prod.fst).flatMap encRw) :: .own (.slice (some ⟨ag, ao, none⟩) (l.length + 1) ci) 25 7 (l.length + 1) (cps (ps ++ [spP])) :: ZS) (.cons .here (.cons .here (pulls_pre _ _)))
      clear hS1 hS2 hpm
      repeat' (first
        | (show WL _ _ _ _ _ _ _; first
          | refine WL.pure rfl rfl rfl rfl ?_
          | refine WL.nil ?_
          | (refine WL.calls hS rfl rfl (hs2 _ (hin2 hS (by repeat (first | exact List.Mem.head _ | apply List.Mem.tail)) (List.Mem.tail _ (List.Mem.head _))) (hS.slO (by repeat (first | exact List.Mem.head _ | apply List.Mem.tail)) hA)) rfl rfl rfl ?_; rintro v w rfl hS)
          | (refine WL.callL (D := .own (.slice OL (3 * i) ol) 23 1 (3 * i) (((zsOf qs).map Prod.fst).flatMap encRw) :: ZS) hS (.cons .here (pulls_mid _ _)) rfl rfl (fun hI => hap _ hI) rfl rfl rfl ?_; rintro v w ⟨rfl, hmu⟩ hS; replace hS := hS _ hmu; clear hmu))
        | (show WC _ _ _ _ _ _; first
          | refine WC.seq ?_
          | refine WC.region ?_
          | refine WC.exit ?_
          | refine WC.ret ?_
          | refine WC.condF rfl (decide_eq_false (by first | with_reducible assumption | omega)) ?_)
        | refine seqQ_n ?_
        | refine seqQ_x ?_
        | refine blkQ_hit rfl ?_
        | refine rndQ_x ?_)
      exact fin1r rfl rfl ⟨hS.upd, rfl⟩
end Go.Proofs.YtniacmoniaaolaaDoor

/- What is proved: what target and Resolve of reference 23 answer. Conditions: conflicts and trees of bounded length. -/
set_option linter.unusedSimpArgs false
set_option linter.unusedVariables false
namespace Go.Proofs.YtniacmoniaaolaaDoor
open Go Go.J Go.RowKit

variable {w0 : World}
set_option maxHeartbeats 8000000 in
set_option maxRecDepth 100000 in
theorem rtarget_c (c : Cf) {A B : Option Addr} {ca cb : Nat} {F : Nat → Prop} (hA : SlAt cEnt F w0 A c.hub) (hB : SlAt cEnt F w0 B c.side) (hF : ∀ k, F k → k < w0.heap.size) :
    Cal Tryd.prog 25 [.agg ⟨encCp ⟨c, A, ca, B, cb⟩⟩] w0 (fun v w' => Upd [] w0 w' ∧ ∃ AS cS, v = .slice AS (tgtE c).length cS ∧ SlAt cEnt (fun k => F k ∨ (w0.heap.size ≤ k ∧ k < w'.heap.size)) w' AS (tgtE c)) := by
  refine Cal.mk' (by kernel_rfl) Tryd.func25 rfl rfl fun hS => ?_
  have htg : tgtE c = if c.choice = 2 then c.side else if c.choice = 3 then [⟨c.path, 2, c.merged⟩] else if c.choice = 4 then [⟨c.path, 2, c.given⟩] else c.hub := rfl
  have hkeep : ∀ {w : World} {H : List Chunk} {AS : Option Addr} {s : List Ent}, St w0 [] w H [⟨w0, Old w0⟩] → SlAt cEnt F w0 AS s → SlAt cEnt (fun k => F k ∨ (w0.heap.size ≤ k ∧ k < w.heap.size)) w AS s := fun {w H AS s} hS h => (h.loc fun b hb => (hS.snap _ (List.Mem.head _) b (hF b hb)).2.1).mono fun b hb => .inl hb
  have hnew : ∀ {w : World} {H : List Chunk} {rb : Nat} {s : Ent}, St w0 [] w H [⟨w0, Old w0⟩] → eC (some ⟨rb, 0, none⟩) 1 [s] ∈ H → SlAt cEnt (fun k => F k ∨ (w0.heap.size ≤ k ∧ k < w.heap.size)) w (some ⟨rb, 0, none⟩) [s] := fun {w H rb s} hS h => by
    refine SlAt.ofOwn (sz := 3) (enc := encEnt) (hsz := fun _ => rfl) (n := 1) (cap := 1) (n' := 1) (e := 53) (by decide) (show RowAt w 53 3 (.slice (some ⟨rb, 0, none⟩) 1 1) 1 ([s].flatMap encEnt) from hS.holds _ h) (fun g hg => .inr ?_)
    have := hS.inb _ h g (by simp [Chunk.fp, hg])
    simp at this
    exact ⟨this.2, this.1⟩
  generalize tgtE c = sub at *
  obtain ⟨p, hub, side, mg, tx, ch, gv⟩ := c
  unfold encCp
  dsimp only at *
  by_cases h2 : ch = 2
  · rw [if_pos h2] at htg
    subst h2 htg
    repeat' (first
      | (show WL _ _ _ _ _ _ _; first
        | refine WL.pure rfl rfl rfl rfl ?_
        | refine WL.nil ?_
        | refine WL.load hS rfl rfl (LdOk.box (by repeat (first | exact List.Mem.head _ | apply List.Mem.tail)) rfl) rfl rfl rfl ?_
        | (refine WL.store hS rfl rfl rfl (by repeat (first | exact StB.here rfl | apply StB.there)) rfl rfl rfl ?_; intro w hS)
        | (refine WL.box hS rfl rfl rfl rfl rfl ?_; intro w b hS)
        | (refine WL.alloc hS rfl rfl rfl rfl rfl rfl ?_; intro w b hS)
        | refine WL.build rfl rfl rfl rfl rfl ?_)
      | (show WC _ _ _ _ _ _; first
        | refine WC.seq ?_
        | refine WC.region ?_
        | refine WC.skip ?_
        | refine WC.ret ?_
        | refine WC.condT rfl (by decide) ?_
        | refine WC.condF rfl (by decide) ?_)
      | refine seqQ_n ?_
      | refine seqQ_r ?_)
    exact fin1r rfl rfl ⟨hS.upd, _, _, rfl, hkeep hS hB⟩
  rw [if_neg h2] at htg
  by_cases h3 : ch = 3
  · rw [if_pos h3] at htg
    subst h3 htg
    repeat' (first
      | (show WL _ _ _ _ _ _ _; first
        | refine WL.pure rfl rfl rfl rfl ?_
        | refine WL.nil ?_
        | refine WL.load hS rfl rfl (LdOk.box (by repeat (first | exact List.Mem.head _ | apply List.Mem.tail)) rfl) rfl rfl rfl ?_
        | (refine WL.slit (t := 23) hS rfl rfl rfl rfl rfl ?_; intro w rb hS; replace hS := hS.boxRow (n := 1) (size := 3) .here rfl (by decide))
        | (refine WL.store hS rfl rfl rfl (by repeat (first | exact StB.here rfl | apply StB.there)) rfl rfl rfl ?_; intro w hS)
        | (refine WL.box hS rfl rfl rfl rfl rfl ?_; intro w b hS)
        | (refine WL.alloc hS rfl rfl rfl rfl rfl rfl ?_; intro w b hS)
        | refine WL.skip rfl rfl rfl ?_
        | refine WL.build rfl rfl rfl rfl rfl ?_)
      | (show WC _ _ _ _ _ _; first
        | refine WC.seq ?_
        | refine WC.region ?_
        | refine WC.skip ?_
        | refine WC.ret ?_
        | refine WC.condT rfl (by with_reducible rfl) ?_
        | refine WC.condT rfl (by decide) ?_
        | refine WC.condF rfl (by decide) ?_)
      | refine seqQ_n ?_
      | refine seqQ_r ?_)
    exact fin1r rfl rfl ⟨hS.upd, _, _, rfl, hnew hS (by repeat (first | exact List.Mem.head _ | apply List.Mem.tail))⟩
  rw [if_neg h3] at htg
  by_cases h4 : ch = 4
  · rw [if_pos h4] at htg
    subst h4 htg
    repeat' (first
      | (show WL _ _ _ _ _ _ _; first
        | refine WL.pure rfl rfl rfl rfl ?_
        | refine WL.nil ?_
        | refine WL.load hS rfl rfl (LdOk.box (by repeat (first | exact List.Mem.head _ | apply List.Mem.tail)) rfl) rfl rfl rfl ?_
        | (refine WL.slit (t := 23) hS rfl rfl rfl rfl rfl ?_; intro w rb hS; replace hS := hS.boxRow (n := 1) (size := 3) .here rfl (by decide))
        | (refine WL.store hS rfl rfl rfl (by repeat (first | exact StB.here rfl | apply StB.there)) rfl rfl rfl ?_; intro w hS)
        | (refine WL.box hS rfl rfl rfl rfl rfl ?_; intro w b hS)
        | (refine WL.alloc hS rfl rfl rfl rfl rfl rfl ?_; intro w b hS)
        | refine WL.build rfl rfl rfl rfl rfl ?_)
      | (show WC _ _ _ _ _ _; first
        | refine WC.seq ?_
        | refine WC.region ?_
        | refine WC.skip ?_
        | refine WC.ret ?_
        | refine WC.condT rfl (by decide) ?_
        | refine WC.condF rfl (by decide) ?_)
      | refine seqQ_n ?_
      | refine seqQ_r ?_)
    exact fin1r rfl rfl ⟨hS.upd, _, _, rfl, hnew hS (by repeat (first | exact List.Mem.head _ | apply List.Mem.tail))⟩
  rw [if_neg h4] at htg
  subst htg
  repeat' (first
    | (show WL _ _ _ _ _ _ _; first
      | refine WL.pure rfl rfl rfl rfl ?_
      | refine WL.nil ?_
      | refine WL.load hS rfl rfl (LdOk.box (by repeat (first | exact List.Mem.head _ | apply List.Mem.tail)) rfl) rfl rfl rfl ?_
      | (refine WL.store hS rfl rfl rfl (by repeat (first | exact StB.here rfl | apply StB.there)) rfl rfl rfl ?_; intro w hS)
      | (refine WL.box hS rfl rfl rfl rfl rfl ?_; intro w b hS)
      | (refine WL.alloc hS rfl rfl rfl rfl rfl rfl ?_; intro w b hS)
      | refine WL.build rfl rfl rfl rfl rfl ?_
      | ((fail_if_success (refine WL.wanted rfl ?_)); refine WL.guard rfl rfl rfl (fun h => ?_) (fun h => ?_) <;> (try simp only [Classical.not_not, Bool.not_eq_true', Bool.not_eq_false', Bool.not_eq_eq_eq_not, Bool.not_true, Bool.not_false, beq_iff_eq, beq_eq_false_iff_ne, ne_eq, decide_eq_decide, decide_eq_true_eq, decide_eq_false_iff_not, Bool.and_eq_true, Bool.or_eq_true, Bool.and_eq_false_iff, Bool.or_eq_false_iff] at h) <;> (try (exfalso; first | omega | contradiction))))
    | (show WC _ _ _ _ _ _; first
      | refine WC.seq ?_
      | refine WC.region ?_
      | refine WC.skip ?_
      | refine WC.ret ?_
      | refine WC.condF rfl (decide_eq_false (by first | with_reducible assumption | omega)) ?_
      | (refine WC.cond rfl (fun h => ?_) (fun h => ?_) <;> (try simp only [Classical.not_not, Bool.not_eq_true', Bool.not_eq_false', Bool.not_eq_eq_eq_not, Bool.not_true, Bool.not_false, beq_iff_eq, beq_eq_false_iff_ne, ne_eq, decide_eq_decide, decide_eq_true_eq, decide_eq_false_iff_not, Bool.and_eq_true, Bool.or_eq_true, Bool.and_eq_false_iff, Bool.or_eq_false_iff] at h) <;> (try (exfalso; first | omega | contradiction))))
    | refine seqQ_n ?_
    | refine seqQ_r ?_)
  all_goals exact fin1r rfl rfl ⟨hS.upd, _, _, rfl, hkeep hS hA⟩
theorem _root_.Go.J.St.addZ {w0 w wz : World} {M : List Nat} {H : List Chunk} {Z : List Snap} {F F' : Nat → Prop} (hS : St w0 M w H Z) (hz : Snap.mk wz F ∈ Z) (hF : ∀ k, F' k → F k) : St w0 M w H (⟨wz, F'⟩ :: Z) :=
  ⟨hS.upd, hS.holds, hS.inb, hS.disj, fun z hzm b hb => by
    rcases List.mem_cons.1 hzm with rfl | hzm
    · exact hS.snap _ hz b (hF b hb)
    · exact hS.snap z hzm b hb⟩
set_option maxHeartbeats 64000000 in
set_option maxRecDepth 100000 in
theorem rresolve_c (l : List Cf) (t0 t1 t2 : List Ent) {F : Nat → Prop} {A A0 A1 A2 : Option Addr} {cap c0 c1 c2 : Nat} (hF : ∀ k, F k → k < w0.heap.size) (hA : SlAt cCf F w0 A l) (hl : l.length ≤ 1048576) (hc : ∀ c ∈ l, FitC c) (hT0 : SlAt cEnt F w0 A0 t0) (hT1 : SlAt cEnt F w0 A1 t1) (hT2 : SlAt cEnt F w0 A2 t2) (hf0 : Fit t0) (hf1 : Fit t1) (hf2 : Fit t2)
    {u0 u1 u2 : List Ent} {rest : List Cf} {done stale : List (List UInt8)} (hR : resolveE l t0 t1 t2 = ⟨u0, u1, u2, rest, done, stale⟩) :
    Cal Tryd.prog 14 [.slice A l.length cap, .agg ⟨[.slice A0 t0.length c0, .slice A1 t1.length c1, .slice A2 t2.length c2]⟩] w0 (fun v w' => Upd [] w0 w' ∧ ∃ G B0 e0 B1 e1 B2 e2 AR cr AD cd AS cs, v = .agg ⟨[.slice B0 u0.length e0, .slice B1 u1.length e1, .slice B2 u2.length e2, .slice AR rest.length cr, .slice AD done.length cd, .slice AS stale.length cs]⟩ ∧
      (∀ k, G k → (F k ∨ w0.heap.size ≤ k) ∧ k < w'.heap.size) ∧ SlAt cEnt G w' B0 u0 ∧ SlAt cEnt G w' B1 u1 ∧ SlAt cEnt G w' B2 u2 ∧ SlAt cCf G w' AR rest ∧ SlAt cStr G w' AD done ∧ SlAt cStr G w' AS stale) := by
  refine Cal.mk' (by kernel_rfl) Tryd.func14 rfl rfl fun hS => ?_
  replace hS : St w0 [] w0 [] [⟨w0, F⟩, ⟨w0, F⟩, ⟨w0, Old w0⟩] := (hS.addZ (List.Mem.head _) hF).addZ (List.Mem.head _) (fun k h => h)
  have hfit := resolve_fit hf0 hf1 hf2 hc
  have hown : ∀ {w : World} {H : List Chunk} {Z : List Snap} {e : TypeId} {sz : Nat} {A : Option Addr} {n cap n' : Nat} {xs : List Value}, St w0 [] w H Z → Chunk.own (.slice A n cap) e sz n' xs ∈ H → ∀ g, (Value.slice A n cap).ownBlock = some g → (F g ∨ w0.heap.size ≤ g) ∧ g < w.heap.size := fun {w H Z e sz A n cap n' xs} hS h g hg => by
    have := hS.inb _ h g (by simp [Chunk.fp, hg])
    simp at this
    exact ⟨.inr this.2, this.1⟩
  have hm1 : True := trivial
  repeat' (first
    | (show WL _ _ _ _ _ _ _; first
      | refine WL.pure rfl rfl rfl rfl ?_
      | refine WL.nil ?_
      | refine WL.load hS rfl rfl (LdOk.box (by repeat (first | exact List.Mem.head _ | apply List.Mem.tail)) rfl) rfl rfl rfl ?_
      | (clear hm1; refine WL.alloc (t := 43) hS rfl rfl rfl rfl rfl rfl ?_; intro w zb hS)
      | (refine WL.alloc (t := 43) hS rfl rfl rfl rfl rfl rfl ?_; intro w qb hS)
      | (refine WL.store hS rfl rfl rfl (by repeat (first | exact StB.here rfl | apply StB.there)) rfl rfl rfl ?_; intro w hS)
      | (refine WL.box hS rfl rfl rfl rfl rfl ?_; intro w b hS)
      | refine WL.build rfl rfl rfl rfl rfl ?_)
    | (show WC _ _ _ _ _ _; first
      | refine WC.seq ?_
      | refine WC.region ?_
      | refine WC.block ?_)
    | refine seqQ_n ?_)
  replace hS := (((hS.nilRow 25 7).nilRow 9 1).nilRow 9 1)
  clear hf0 hf1 hf2
  refine WC.loop (σ := Nat) [0, 4, 5] (fun k => [(6, .int .i64 (k : Int))])
    (fun k w => ∃ v0 v1 v2 rst dn stl B0 e0 B1 e1 B2 e2 AR cr AD cd AS cs ps wz Fz, (k ≤ l.length ∧ resolveE (l.take k) t0 t1 t2 = ⟨v0, v1, v2, rst, dn, stl⟩ ∧ ps.map Cp.c = rst ∧ (∀ p ∈ ps, p.c.hub.length ≤ p.ca ∧ p.c.side.length ≤ p.cb ∧ SlAt cEnt F w0 p.A p.c.hub ∧ SlAt cEnt F w0 p.B p.c.side) ∧ (SlAt cEnt Fz wz B0 v0 ∧ SlAt cEnt Fz wz B1 v1 ∧ SlAt cEnt Fz wz B2 v2) ∧ ∀ k, Fz k → F k ∨ w0.heap.size ≤ k) ∧ St w0 [] w [.box zb 43 [.slice none 0 0, .slice none 0 0, .slice none 0 0, .slice none 0 0, .slice none 0 0, .slice none 0 0], .box qb 43 [.slice B0 v0.length e0, .slice B1 v1.length e1, .slice B2 v2.length e2, .slice AR rst.length cr, .slice AD dn.length cd, .slice AS stl.length cs], cC AR cr ps rst.length, sC AD cd dn, sC AS cs stl] [⟨wz, Fz⟩, ⟨w0, F⟩, ⟨w0, Old w0⟩]) (fun k => l.length - k) 0
    ⟨t0, t1, t2, [], [], [], A0, c0, A1, c1, A2, c2, none, 0, none, 0, none, 0, [], w0, F, ⟨Nat.zero_le _, rfl, rfl, fun p hp => (by cases hp), ⟨hT0, hT1, hT2⟩, fun k h => .inl h⟩, hS.droplast2 (by repeat (first | exact Pulls.nil | (apply Pulls.cons; focus (repeat (first | exact Pull.here | apply Pull.there)))))⟩ ⟨rfl, trivial⟩ ?_
  clear hS hT0 hT1 hT2
  rintro k g w ⟨v0, v1, v2, rst, dn, stl, B0, e0, B1, e1, B2, e2, AR, cr, AD, cd, AS, cs, ps, wz, Fz, ⟨hk, hre, hps, hpi, ⟨hB0, hB1, hB2⟩, hFz⟩, hS⟩
  show WC _ _ _ (lf _ [(6, .int .i64 (k : Int))] _ _) _ _
  have hfo := hfit k hk
  rw [hre] at hfo
  obtain ⟨hf0, hf1, hf2, hrl, hdl, hsl⟩ := hfo
  dsimp only at hf0 hf1 hf2 hrl hdl hsl
  by_cases hlt : k < l.length
  rotate_left
  · have hke : k = l.length := by omega
    rw [hke, List.take_length, hR] at hre
    simp only [Oc.mk.injEq] at hre
    obtain ⟨rfl, rfl, rfl, rfl, rfl, rfl⟩ := hre
    clear hfit hc hA
    repeat' (first
      | (show WL _ _ _ _ _ _ _; first
        | refine WL.pure rfl rfl rfl rfl ?_
        | refine WL.nil ?_
        | refine WL.load hS rfl rfl (LdOk.box (by repeat (first | exact List.Mem.head _ | apply List.Mem.tail)) rfl) rfl rfl rfl ?_
        | (refine WL.store hS rfl rfl rfl (by repeat (first | exact StB.here rfl | apply StB.there)) rfl rfl rfl ?_; intro w hS))
      | (show WC _ _ _ _ _ _; first
        | refine WC.seq ?_
        | refine WC.region ?_
        | refine WC.exit ?_
        | refine WC.ret ?_
        | refine WC.condF rfl (decide_eq_false (by first | with_reducible assumption | omega)) ?_)
      | refine seqQ_n ?_
      | refine seqQ_x ?_
      | refine blkQ_hit rfl ?_
      | refine rndQ_x ?_)
    refine finC1r hS rfl rfl (LdOk.box (by repeat (first | exact List.Mem.head _ | apply List.Mem.tail)) rfl) ⟨hS.upd, fun k => (F k ∨ w0.heap.size ≤ k) ∧ k < w.heap.size, B0, e0, B1, e1, B2, e2, AR, cr, AD, cd, AS, cs, rfl, fun k h => h, ?_, ?_, ?_, ?_, ?_, ?_⟩
    · exact (hS.sl (List.Mem.head _) hB0).mono fun b hb => ⟨hFz b hb, (hS.snap _ (List.Mem.head _) b hb).1⟩
    · exact (hS.sl (List.Mem.head _) hB1).mono fun b hb => ⟨hFz b hb, (hS.snap _ (List.Mem.head _) b hb).1⟩
    · exact (hS.sl (List.Mem.head _) hB2).mono fun b hb => ⟨hFz b hb, (hS.snap _ (List.Mem.head _) b hb).1⟩
    · rw [← hps]
      refine cps_sl (show RowAt w 25 7 (.slice AR rest.length cr) rest.length (cps ps) from hS.holds (.own (.slice AR rest.length cr) 25 7 rest.length (cps ps)) (by repeat (first | exact List.Mem.head _ | apply List.Mem.tail))) (hown hS (by repeat (first | exact List.Mem.head _ | apply List.Mem.tail))) fun p hp => ?_
      · obtain ⟨h1, h2, h3, h4⟩ := hpi p hp
        have hmo : ∀ b, F b → (F b ∨ w0.heap.size ≤ b) ∧ b < w.heap.size := fun b hb => ⟨.inl hb, (hS.snap ⟨w0, F⟩ (.tail _ (.head _)) b hb).1⟩
        exact ⟨h1, h2, (hS.sl (z := ⟨w0, F⟩) (.tail _ (.head _)) h3).mono hmo, (hS.sl (z := ⟨w0, F⟩) (.tail _ (.head _)) h4).mono hmo⟩
    · exact SlAt.ofOwn (sz := 1) (enc := fun s => [str s]) (hsz := fun _ => rfl) (by decide) (show RowAt w 9 1 (.slice AD done.length cd) done.length (strs done) from hS.holds (sC AD cd done) (by repeat (first | exact List.Mem.head _ | apply List.Mem.tail))) (hown hS (by repeat (first | exact List.Mem.head _ | apply List.Mem.tail)))
    · exact SlAt.ofOwn (sz := 1) (enc := fun s => [str s]) (hsz := fun _ => rfl) (by decide) (show RowAt w 9 1 (.slice AS stale.length cs) stale.length (strs stale) from hS.holds (sC AS cs stale) (by repeat (first | exact List.Mem.head _ | apply List.Mem.tail))) (hown hS (by repeat (first | exact List.Mem.head _ | apply List.Mem.tail)))
  obtain ⟨ga, go, es, rfl, hFx, hr, X2, x2, Y2, y2, hes, hx2, hy2, hs1, hs2⟩ := hA.at_ hlt
  subst hes
  replace hr : w0.rangeAt ga (go + k * 7) (encCp ⟨l[k], X2, x2, Y2, y2⟩) := hr
  have hfc := hc _ (List.getElem_mem hlt)
  have hst := resolve_take l hlt t0 t1 t2
  rw [hre] at hst
  generalize l[k] = c at *
  have hpn : (ps ++ [(⟨c, X2, x2, Y2, y2⟩ : Cp)]).map Cp.c = rst ++ [c] := by rw [List.map_append, hps]; rfl
  have hpi2 : ∀ p ∈ ps ++ [(⟨c, X2, x2, Y2, y2⟩ : Cp)], p.c.hub.length ≤ p.ca ∧ p.c.side.length ≤ p.cb ∧ SlAt cEnt F w0 p.A p.c.hub ∧ SlAt cEnt F w0 p.B p.c.side := fun p hp => by
    rcases List.mem_append.1 hp with hp | hp
    · exact hpi p hp
    · rw [List.mem_singleton.1 hp]
      exact ⟨hx2, hy2, hs1, hs2⟩
  have hz1 := hfc.hub.len
  have hz2 := hfc.side.len
  have hsl := hfc.tgt
  have hse : settleE v0 v1 v2 c = if subE v0 c.path = c.hub ∧ subE v1 c.path = c.side then (match replE v0 c.path (tgtE c), replE v1 c.path (tgtE c), replE v2 c.path (tgtE c) with
    | some a, some b, some d => some (a, b, d)
    | _, _, _ => none) else none := rfl
  obtain ⟨hp, -, -⟩ := hfc
  unfold stepO at hst
  obtain ⟨ep, eh, es, em, et, ec, eg⟩ := c
  unfold encCp at hr
  dsimp only at hr hs1 hs2 hz1 hz2 hst hse hp
  clear hR hre hA hc hfit hx2 hy2
  have hln : rst.length + 1 = (rst ++ [(⟨ep, eh, es, em, et, ec, eg⟩ : Cf)]).length := by rw [List.length_append]; rfl
  have hsn : stl.length + 1 = (stl ++ [ep]).length := by rw [List.length_append]; rfl
  have hdn : dn.length + 1 = (dn ++ [ep]).length := by rw [List.length_append]; rfl
  by_cases hc0 : ec = 0
  · rw [if_pos hc0] at hst
    subst hc0
    clear hse hsl
    repeat' (first
      | (show WL _ _ _ _ _ _ _; first
        | refine WL.pure rfl rfl rfl rfl ?_
        | refine WL.nil ?_
        | refine WL.load hS rfl rfl (LdOk.box (by repeat (first | exact List.Mem.head _ | apply List.Mem.tail)) rfl) rfl rfl rfl ?_
        | refine WL.add rfl rfl rfl (by omega) rfl rfl rfl ?_
        | (refine WL.load hS rfl rfl (LdOk.snap0 hFx hr (by repeat (first | exact List.Mem.head _ | apply List.Mem.tail)) rfl) rfl rfl rfl ?_)
        | (refine WL.app (n := rst.length) (size := 7) hS rfl rfl rfl rfl (RdOk.box (by repeat (first | exact List.Mem.head _ | apply List.Mem.tail))) rfl rfl (fun A cap => by repeat (first | exact Repl.here | apply Repl.there)) (by omega) rfl rfl rfl ?_; intro A3 cap3 w hS)
        | (refine WL.store hS rfl rfl rfl (by repeat (first | exact StB.here rfl | apply StB.there)) rfl rfl rfl ?_; intro w hS)
        | (refine WL.alloc hS rfl rfl rfl rfl rfl rfl ?_; intro w b hS)
        | refine WL.index rfl rfl rfl rfl (by first | with_reducible assumption | omega) rfl rfl rfl rfl ?_
        | (refine WL.slit hS rfl rfl rfl rfl rfl ?_; intro w b hS))
      | (show WC _ _ _ _ _ _; first
        | refine WC.seq ?_
        | refine WC.region ?_
        | refine WC.block ?_
        | refine WC.skip ?_
        | refine WC.exit ?_
        | refine WC.condT rfl (by decide) ?_
        | refine WC.condT rfl (decide_eq_true (by first | with_reducible assumption | omega)) ?_)
      | refine seqQ_n ?_
      | refine seqQ_x ?_
      | refine blkQ_hit rfl ?_)
    replace hS := hS.droplast2 (D := [.box zb 43 [.slice none 0 0, .slice none 0 0, .slice none 0 0, .slice none 0 0, .slice none 0 0, .slice none 0 0], .box qb 43 [.slice B0 v0.length e0, .slice B1 v1.length e1, .slice B2 v2.length e2, .slice A3 (rst.length + 1) cap3, .slice AD dn.length cd, .slice AS stl.length cs], .own (.slice A3 (rst.length + 1) cap3) 25 7 (rst.length + 1) (cps ps ++ encCp ⟨⟨ep, eh, es, em, et, 0, eg⟩, X2, x2, Y2, y2⟩), sC AD cd dn, sC AS cs stl]) (by repeat (first | exact Pulls.nil | (apply Pulls.cons; focus (repeat (first | exact Pull.here | apply Pull.there)))))
    rw [cps_snoc, hln] at hS
    exact rndQ_n (k + 1) ⟨v0, v1, v2, _, dn, stl, B0, e0, B1, e1, B2, e2, A3, cap3, AD, cd, AS, cs, _, wz, Fz, ⟨by omega, hst, hpn, hpi2, ⟨hB0, hB1, hB2⟩, hFz⟩, hS⟩ (by show l.length - (k + 1) < l.length - k; omega) ⟨vint (by omega), trivial⟩ ⟨rfl, rfl, rfl, trivial⟩
  rw [if_neg hc0] at hst
  have hl0 := hf0.len
  have hl1 := hf1.len
  have hl2 := hf2.len
  have hx0 := subE_len v0 ep
  have hx1 := subE_len v1 ep
  by_cases hq0 : subE v0 ep = eh
  rotate_left
  · have hd0 := decide_eq_false hq0
    rw [hse.trans (if_neg fun h => hq0 h.1)] at hst
    dsimp only at hst
    clear hse hsl hq0
    repeat' (first
      | (show WL _ _ _ _ _ _ _; first
        | refine WL.pure rfl rfl rfl rfl ?_
        | refine WL.nil ?_
        | refine WL.load hS rfl rfl (LdOk.box (by repeat (first | exact List.Mem.head _ | apply List.Mem.tail)) rfl) rfl rfl rfl ?_
        | refine WL.add rfl rfl rfl (by omega) rfl rfl rfl ?_
        | (refine WL.load hS rfl rfl (LdOk.snap0 hFx hr (by repeat (first | exact List.Mem.head _ | apply List.Mem.tail)) rfl) rfl rfl rfl ?_)
        | (refine WL.app (n := rst.length) (size := 7) hS rfl rfl rfl rfl (RdOk.box (by repeat (first | exact List.Mem.head _ | apply List.Mem.tail))) rfl rfl (fun A cap => by repeat (first | exact Repl.here | apply Repl.there)) (by omega) rfl rfl rfl ?_; intro A3 cap3 w hS)
        | (refine WL.app (n := stl.length) (size := 1) hS rfl rfl rfl rfl (RdOk.box (by repeat (first | exact List.Mem.head _ | apply List.Mem.tail))) rfl rfl (fun A cap => by repeat (first | exact Repl.here | apply Repl.there)) (by omega) rfl rfl rfl ?_; intro A4 cap4 w hS)
        | (refine WL.store hS rfl rfl rfl (by repeat (first | exact StB.here rfl | apply StB.there)) rfl rfl rfl ?_; intro w hS)
        | (refine WL.alloc hS rfl rfl rfl rfl rfl rfl ?_; intro w b hS)
        | refine WL.index rfl rfl rfl rfl (by first | with_reducible assumption | omega) rfl rfl rfl rfl ?_
        | (refine WL.slit hS rfl rfl rfl rfl rfl ?_; intro w b hS))
      | (show WC _ _ _ _ _ _; first
        | refine WC.seq ?_
        | refine WC.region ?_
        | refine WC.block ?_
        | refine WC.skip ?_
        | refine WC.exit ?_
        | (show WC _ _ (Code.region _ (List.toArray [_, _, _, _, _, _, _, _, _, _, _, _, _, _, _, _, _, _, _, _, _]) true) _ _ _; refine WC.drawS hS [0,1,2,3,4,6,7,9,10,11,12,13,14,16,17,19,20] [0,1,2,3,4,6,7,5,8,9,10,11,12,13,14,16,17,15,18,19,20] (by kernel_rfl) (by kernel_rfl) ?_; clear hS; intro w hS hM)
        | (show WC _ _ (Code.loop (Code.seq (Code.seq (Code.region 11 _ _) _) _)) _ _ _; refine WC.rounds 4 ?_)
        | refine WC.condF rfl (by with_reducible rfl) ?_
        | refine WC.condT rfl (by decide) ?_
        | refine WC.condT rfl (decide_eq_true (by first | with_reducible assumption | omega)) ?_
        | refine WC.condF rfl (decide_eq_false (by first | with_reducible assumption | omega)) ?_)
      | (show WD _ _ _ _ _ _ _ _ _; first
        | refine WD.pure rfl rfl rfl rfl rfl ?_
        | refine WD.nil ?_
        | refine WD.load rfl rfl (LdOk.box (by repeat (first | exact List.Mem.head _ | apply List.Mem.tail)) rfl) rfl rfl rfl rfl ?_
        | (refine WD.indexArr (j := 0) rfl rfl rfl rfl (by decide) rfl rfl rfl rfl ?_)
        | (refine WD.callG rfl rfl (rsub_c v0 ep (hS.slO (by repeat (first | exact List.Mem.head _ | apply List.Mem.tail)) hB0) (by omega) hp hf0.path) rfl rfl rfl rfl rfl ?_; rintro v w ⟨hu, A6, c6, rfl, hn⟩; have hS := hS.new hu hn; clear hu hn; have hM := hM.new hS; refine ⟨hM.ss hS, ?_⟩)
        | (refine WD.calls hS hM rfl rfl (rsameD_c (subE v0 ep) eh (St.ownSl (sz := 3) (enc := encEnt) (hsz := fun _ => rfl) (l := subE v0 ep) (by decide) hS (by repeat (first | exact List.Mem.head _ | apply List.Mem.tail))) (hS.slO (z := ⟨w0, F⟩) (by repeat (first | exact List.Mem.head _ | apply List.Mem.tail)) hs1) (by omega) (by omega)) rfl rfl rfl rfl rfl ?_; clear hS; rintro v w rfl hS; rw [hd0])
        | refine WD.pass rfl rfl rfl rfl ?_
        | refine WD.skip rfl rfl rfl rfl rfl (hM.ss hS) ?_)
      | refine seqQ_n ?_
      | refine seqQ_x ?_
      | refine blkQ_hit rfl ?_
      | refine rdQ_x ?_)
    (replace hS := hS.droplast2 (D := [.box zb 43 [.slice none 0 0, .slice none 0 0, .slice none 0 0, .slice none 0 0, .slice none 0 0, .slice none 0 0], .box qb 43 [.slice B0 v0.length e0, .slice B1 v1.length e1, .slice B2 v2.length e2, .slice A3 (rst.length + 1) cap3, .slice AD dn.length cd, .slice A4 (stl.length + 1) cap4], .own (.slice A3 (rst.length + 1) cap3) 25 7 (rst.length + 1) (cps ps ++ encCp (⟨⟨ep, eh, es, em, et, ec, eg⟩, X2, x2, Y2, y2⟩ : Cp)), sC AD cd dn, .own (.slice A4 (stl.length + 1) cap4) 9 1 (stl.length + 1) (strs stl ++ [str ep])]) (by repeat (first | exact Pulls.nil | (apply Pulls.cons; focus (repeat (first | exact Pull.here | apply Pull.there))))); rw [cps_snoc, strs_snoc, hln, hsn] at hS; exact rndQ_n (k + 1) ⟨v0, v1, v2, _, dn, _, B0, e0, B1, e1, B2, e2, A3, cap3, AD, cd, A4, cap4, _, wz, Fz, ⟨by omega, hst, hpn, hpi2, ⟨hB0, hB1, hB2⟩, hFz⟩, hS⟩ (by show l.length - (k + 1) < l.length - k; omega) ⟨vint (by omega), trivial⟩ ⟨rfl, rfl, rfl, trivial⟩)
  have hd0 := decide_eq_true hq0
  by_cases hq1 : subE v1 ep = es
  rotate_left
  · have hd1 := decide_eq_false hq1
    rw [hse.trans (if_neg fun h => hq1 h.2)] at hst
    dsimp only at hst
    clear hse hsl hq0 hq1
    repeat' (first
      | (show WL _ _ _ _ _ _ _; first
        | refine WL.pure rfl rfl rfl rfl ?_
        | refine WL.nil ?_
        | refine WL.load hS rfl rfl (LdOk.box (by repeat (first | exact List.Mem.head _ | apply List.Mem.tail)) rfl) rfl rfl rfl ?_
        | refine WL.add rfl rfl rfl (by omega) rfl rfl rfl ?_
        | (refine WL.load hS rfl rfl (LdOk.snap0 hFx hr (by repeat (first | exact List.Mem.head _ | apply List.Mem.tail)) rfl) rfl rfl rfl ?_)
        | (refine WL.app (n := rst.length) (size := 7) hS rfl rfl rfl rfl (RdOk.box (by repeat (first | exact List.Mem.head _ | apply List.Mem.tail))) rfl rfl (fun A cap => by repeat (first | exact Repl.here | apply Repl.there)) (by omega) rfl rfl rfl ?_; intro A3 cap3 w hS)
        | (refine WL.app (n := stl.length) (size := 1) hS rfl rfl rfl rfl (RdOk.box (by repeat (first | exact List.Mem.head _ | apply List.Mem.tail))) rfl rfl (fun A cap => by repeat (first | exact Repl.here | apply Repl.there)) (by omega) rfl rfl rfl ?_; intro A4 cap4 w hS)
        | (refine WL.store hS rfl rfl rfl (by repeat (first | exact StB.here rfl | apply StB.there)) rfl rfl rfl ?_; intro w hS)
        | (refine WL.alloc hS rfl rfl rfl rfl rfl rfl ?_; intro w b hS)
        | refine WL.index rfl rfl rfl rfl (by first | with_reducible assumption | omega) rfl rfl rfl rfl ?_
        | (refine WL.slit hS rfl rfl rfl rfl rfl ?_; intro w b hS))
      | (show WC _ _ _ _ _ _; first
        | refine WC.seq ?_
        | refine WC.region ?_
        | refine WC.block ?_
        | refine WC.skip ?_
        | refine WC.exit ?_
        | (show WC _ _ (Code.region _ (List.toArray [_, _, _, _, _, _, _, _, _, _, _, _, _, _, _, _, _, _, _, _, _]) true) _ _ _; refine WC.drawS hS [0,1,2,3,4,6,7,9,10,11,12,13,14,16,17,19,20] [0,1,2,3,4,6,7,5,8,9,10,11,12,13,14,16,17,15,18,19,20] (by kernel_rfl) (by kernel_rfl) ?_; clear hS; intro w hS hM)
        | (show WC _ _ (Code.loop (Code.seq (Code.seq (Code.region 11 _ _) _) _)) _ _ _; refine WC.rounds 4 ?_)
        | refine WC.condF rfl (by with_reducible rfl) ?_
        | refine WC.condT rfl (by decide) ?_
        | refine WC.condT rfl (decide_eq_true (by first | with_reducible assumption | omega)) ?_
        | refine WC.condF rfl (decide_eq_false (by first | with_reducible assumption | omega)) ?_)
      | (show WD _ _ _ _ _ _ _ _ _; first
        | refine WD.pure rfl rfl rfl rfl rfl ?_
        | refine WD.nil ?_
        | refine WD.load rfl rfl (LdOk.box (by repeat (first | exact List.Mem.head _ | apply List.Mem.tail)) rfl) rfl rfl rfl rfl ?_
        | (refine WD.indexArr (j := 0) rfl rfl rfl rfl (by decide) rfl rfl rfl rfl ?_)
        | (refine WD.indexArr (j := 1) rfl rfl rfl rfl (by decide) rfl rfl rfl rfl ?_)
        | (refine WD.callG rfl rfl (rsub_c v0 ep (hS.slO (by repeat (first | exact List.Mem.head _ | apply List.Mem.tail)) hB0) (by omega) hp hf0.path) rfl rfl rfl rfl rfl ?_; rintro v w ⟨hu, A6, c6, rfl, hn⟩; have hS := hS.new hu hn; clear hu hn; have hM := hM.new hS; refine ⟨hM.ss hS, ?_⟩)
        | (refine WD.calls hS hM rfl rfl (rsameD_c (subE v0 ep) eh (St.ownSl (sz := 3) (enc := encEnt) (hsz := fun _ => rfl) (l := subE v0 ep) (by decide) hS (by repeat (first | exact List.Mem.head _ | apply List.Mem.tail))) (hS.slO (z := ⟨w0, F⟩) (by repeat (first | exact List.Mem.head _ | apply List.Mem.tail)) hs1) (by omega) (by omega)) rfl rfl rfl rfl rfl ?_; clear hS; rintro v w rfl hS; rw [hd0])
        | (refine WD.callG rfl rfl (rsub_c v1 ep (hS.slO (by repeat (first | exact List.Mem.head _ | apply List.Mem.tail)) hB1) (by omega) hp hf1.path) rfl rfl rfl rfl rfl ?_; rintro v w ⟨hu, A7, c7, rfl, hn⟩; have hS := hS.new hu hn; clear hu hn; have hM := hM.new hS; refine ⟨hM.ss hS, ?_⟩)
        | (refine WD.calls hS hM rfl rfl (rsameD_c (subE v1 ep) es (St.ownSl (sz := 3) (enc := encEnt) (hsz := fun _ => rfl) (l := subE v1 ep) (by decide) hS (by repeat (first | exact List.Mem.head _ | apply List.Mem.tail))) (hS.slO (z := ⟨w0, F⟩) (by repeat (first | exact List.Mem.head _ | apply List.Mem.tail)) hs2) (by omega) (by omega)) rfl rfl rfl rfl rfl ?_; clear hS; rintro v w rfl hS; rw [hd1]))
      | refine seqQ_n ?_
      | refine seqQ_x ?_
      | refine blkQ_hit rfl ?_
      | refine rdQ_x ?_)
    (replace hS := hS.droplast2 (D := [.box zb 43 [.slice none 0 0, .slice none 0 0, .slice none 0 0, .slice none 0 0, .slice none 0 0, .slice none 0 0], .box qb 43 [.slice B0 v0.length e0, .slice B1 v1.length e1, .slice B2 v2.length e2, .slice A3 (rst.length + 1) cap3, .slice AD dn.length cd, .slice A4 (stl.length + 1) cap4], .own (.slice A3 (rst.length + 1) cap3) 25 7 (rst.length + 1) (cps ps ++ encCp (⟨⟨ep, eh, es, em, et, ec, eg⟩, X2, x2, Y2, y2⟩ : Cp)), sC AD cd dn, .own (.slice A4 (stl.length + 1) cap4) 9 1 (stl.length + 1) (strs stl ++ [str ep])]) (by repeat (first | exact Pulls.nil | (apply Pulls.cons; focus (repeat (first | exact Pull.here | apply Pull.there))))); rw [cps_snoc, strs_snoc, hln, hsn] at hS; exact rndQ_n (k + 1) ⟨v0, v1, v2, _, dn, _, B0, e0, B1, e1, B2, e2, A3, cap3, AD, cd, A4, cap4, _, wz, Fz, ⟨by omega, hst, hpn, hpi2, ⟨hB0, hB1, hB2⟩, hFz⟩, hS⟩ (by show l.length - (k + 1) < l.length - k; omega) ⟨vint (by omega), trivial⟩ ⟨rfl, rfl, rfl, trivial⟩)
  have hd1 := decide_eq_true hq1
  rw [if_pos ⟨hq0, hq1⟩] at hse
  clear hq0 hq1
  have hrp := fun (w : World) {AT AS : Option Addr} {cT cS : Nat} (t : List Ent) (ha : SlAt cEnt (Old w) w AT t) (hf : Fit t) (hb : SlAt cEnt (Old w) w AS (tgtE ⟨ep, eh, es, em, et, ec, eg⟩)) => rrepl_c t ep _ (ca := cT) (cb := cS) ha hb (by have := hf.len; omega) (by have := hsl.len; omega) hp hf.path hsl.path
  clear hsl
  cases hr0 : replE v0 ep (tgtE ⟨ep, eh, es, em, et, ec, eg⟩) with
  | none =>
    rw [hr0] at hse
    dsimp only at hse
    rw [hse] at hst
    dsimp only at hst
    clear hse
    repeat' (first
      | (show WL _ _ _ _ _ _ _; first
        | refine WL.pure rfl rfl rfl rfl ?_
        | refine WL.nil ?_
        | refine WL.load hS rfl rfl (LdOk.box (by repeat (first | exact List.Mem.head _ | apply List.Mem.tail)) rfl) rfl rfl rfl ?_
        | refine WL.add rfl rfl rfl (by omega) rfl rfl rfl ?_
        | (refine WL.load hS rfl rfl (LdOk.snap0 hFx hr (by repeat (first | exact List.Mem.head _ | apply List.Mem.tail)) rfl) rfl rfl rfl ?_)
        | (refine WL.indexArr (j := 0) rfl rfl rfl rfl (by decide) rfl rfl rfl ?_)
        | (refine WL.app (n := rst.length) (size := 7) hS rfl rfl rfl rfl (RdOk.box (by repeat (first | exact List.Mem.head _ | apply List.Mem.tail))) rfl rfl (fun A cap => by repeat (first | exact Repl.here | apply Repl.there)) (by omega) rfl rfl rfl ?_; intro A3 cap3 w hS)
        | (refine WL.app (n := stl.length) (size := 1) hS rfl rfl rfl rfl (RdOk.box (by repeat (first | exact List.Mem.head _ | apply List.Mem.tail))) rfl rfl (fun A cap => by repeat (first | exact Repl.here | apply Repl.there)) (by omega) rfl rfl rfl ?_; intro A4 cap4 w hS)
        | (refine WL.store hS rfl rfl rfl (by repeat (first | exact StB.here rfl | apply StB.there)) rfl rfl rfl ?_; intro w hS)
        | (refine WL.alloc hS rfl rfl rfl rfl rfl rfl ?_; intro w b hS)
        | refine WL.index rfl rfl rfl rfl (by first | with_reducible assumption | omega) rfl rfl rfl rfl ?_
        | (refine WL.slit hS rfl rfl rfl rfl rfl ?_; intro w b hS))
      | (show WC _ _ _ _ _ _; first
        | refine WC.seq ?_
        | refine WC.region ?_
        | refine WC.block ?_
        | refine WC.skip ?_
        | refine WC.exit ?_
        | (show WC _ _ (Code.region _ (List.toArray [_, _, _, _, _, _, _, _, _, _, _, _, _, _, _, _, _, _, _, _, _]) true) _ _ _; refine WC.drawS hS [0,1,2,3,4,6,7,9,10,11,12,13,14,16,17,19,20] [0,1,2,3,4,6,7,5,8,9,10,11,12,13,14,16,17,15,18,19,20] (by kernel_rfl) (by kernel_rfl) ?_; clear hS; intro w hS hM)
        | (show WC _ _ (Code.loop (Code.seq (Code.seq (Code.region 11 _ _) _) _)) _ _ _; refine WC.rounds 4 ?_)
        | (show WC _ _ (Code.region _ (List.toArray [_, _, _, _, _, _, _, _, _, _, _, _, _, _]) true) _ _ _; refine WC.drawS hS [0,1,2,3,4,5,6,9,10,11,12,13] [0,1,2,3,4,5,6,7,8,9,10,11,12,13] (by kernel_rfl) (by kernel_rfl) ?_; clear hS; intro w hS hM)
        | refine WC.condT rfl (by first | (simp [hee]; done) | fail) ?_
        | refine WC.condT rfl (by with_reducible rfl) ?_
        | refine WC.condT rfl (decide_eq_true (by first | with_reducible assumption | omega)) ?_
        | refine WC.condF rfl (decide_eq_false (by first | with_reducible assumption | omega)) ?_)
      | (show WD _ _ _ _ _ _ _ _ _; first
        | refine WD.pure rfl rfl rfl rfl rfl ?_
        | refine WD.nil ?_
        | refine WD.load rfl rfl (LdOk.box (by repeat (first | exact List.Mem.head _ | apply List.Mem.tail)) rfl) rfl rfl rfl rfl ?_
        | (refine WD.indexArr (j := 0) rfl rfl rfl rfl (by decide) rfl rfl rfl rfl ?_)
        | (refine WD.indexArr (j := 1) rfl rfl rfl rfl (by decide) rfl rfl rfl rfl ?_)
        | (refine WD.callG rfl rfl (rsub_c v0 ep (hS.slO (by repeat (first | exact List.Mem.head _ | apply List.Mem.tail)) hB0) (by omega) hp hf0.path) rfl rfl rfl rfl rfl ?_; rintro v w ⟨hu, A6, c6, rfl, hn⟩; have hS := hS.new hu hn; clear hu hn; have hM := hM.new hS; refine ⟨hM.ss hS, ?_⟩)
        | (refine WD.calls hS hM rfl rfl (rsameD_c (subE v0 ep) eh (St.ownSl (sz := 3) (enc := encEnt) (hsz := fun _ => rfl) (l := subE v0 ep) (by decide) hS (by repeat (first | exact List.Mem.head _ | apply List.Mem.tail))) (hS.slO (z := ⟨w0, F⟩) (by repeat (first | exact List.Mem.head _ | apply List.Mem.tail)) hs1) (by omega) (by omega)) rfl rfl rfl rfl rfl ?_; clear hS; rintro v w rfl hS; rw [hd0])
        | (refine WD.callG rfl rfl (rsub_c v1 ep (hS.slO (by repeat (first | exact List.Mem.head _ | apply List.Mem.tail)) hB1) (by omega) hp hf1.path) rfl rfl rfl rfl rfl ?_; rintro v w ⟨hu, A7, c7, rfl, hn⟩; have hS := hS.new hu hn; clear hu hn; have hM := hM.new hS; refine ⟨hM.ss hS, ?_⟩)
        | (refine WD.calls hS hM rfl rfl (rsameD_c (subE v1 ep) es (St.ownSl (sz := 3) (enc := encEnt) (hsz := fun _ => rfl) (l := subE v1 ep) (by decide) hS (by repeat (first | exact List.Mem.head _ | apply List.Mem.tail))) (hS.slO (z := ⟨w0, F⟩) (by repeat (first | exact List.Mem.head _ | apply List.Mem.tail)) hs2) (by omega) (by omega)) rfl rfl rfl rfl rfl ?_; clear hS; rintro v w rfl hS; rw [hd1])
        | (refine WD.callG rfl rfl (rtarget_c ⟨ep, eh, es, em, et, ec, eg⟩ (ca := x2) (cb := y2) (hS.slO (z := ⟨w0, F⟩) (by repeat (first | exact List.Mem.head _ | apply List.Mem.tail)) hs1) (hS.slO (z := ⟨w0, F⟩) (by repeat (first | exact List.Mem.head _ | apply List.Mem.tail)) hs2) (fun k h => h)) rfl rfl rfl rfl rfl ?_; rintro v w ⟨hu, AT, cT, rfl, hsub⟩; have hsb := hsub.mono (F' := Old w) (fun k hk => hk.elim (fun h => Nat.lt_of_lt_of_le h hu.size) fun h => h.2); have hS := hS.upd0 hu; clear hu hsub; refine ⟨hM.ss hS, ?_⟩)
        | (refine WD.callG rfl rfl (hrp _ v0 (hS.slO (by repeat (first | exact List.Mem.head _ | apply List.Mem.tail)) hB0) hf0 hsb) rfl rfl rfl rfl rfl ?_; rintro v w ⟨hu, hres⟩; rw [hr0] at hres; first | (obtain ⟨G0, g0, rfl, hn⟩ := hres.yes; have hS := hS.new hu hn; clear hu hn hres hsb; have hM := hM.new hS; refine ⟨hM.ss hS, ?_⟩) | (obtain ⟨ee, hee, rfl⟩ := hres.no; have hS := hS.upd0 hu; clear hu hres hsb; refine ⟨hM.ss hS, ?_⟩)))
      | refine seqQ_n ?_
      | refine blkQ_n ?_
      | refine seqQ_x ?_
      | refine blkQ_hit rfl ?_
      | refine rdQ_n ?_
      | refine rdQ_x ?_)
    (replace hS := hS.droplast2 (D := [.box zb 43 [.slice none 0 0, .slice none 0 0, .slice none 0 0, .slice none 0 0, .slice none 0 0, .slice none 0 0], .box qb 43 [.slice B0 v0.length e0, .slice B1 v1.length e1, .slice B2 v2.length e2, .slice A3 (rst.length + 1) cap3, .slice AD dn.length cd, .slice A4 (stl.length + 1) cap4], .own (.slice A3 (rst.length + 1) cap3) 25 7 (rst.length + 1) (cps ps ++ encCp (⟨⟨ep, eh, es, em, et, ec, eg⟩, X2, x2, Y2, y2⟩ : Cp)), sC AD cd dn, .own (.slice A4 (stl.length + 1) cap4) 9 1 (stl.length + 1) (strs stl ++ [str ep])]) (by repeat (first | exact Pulls.nil | (apply Pulls.cons; focus (repeat (first | exact Pull.here | apply Pull.there))))); rw [cps_snoc, strs_snoc, hln, hsn] at hS; exact rndQ_n (k + 1) ⟨v0, v1, v2, _, dn, _, B0, e0, B1, e1, B2, e2, A3, cap3, AD, cd, A4, cap4, _, wz, Fz, ⟨by omega, hst, hpn, hpi2, ⟨hB0, hB1, hB2⟩, hFz⟩, hS⟩ (by show l.length - (k + 1) < l.length - k; omega) ⟨vint (by omega), trivial⟩ ⟨rfl, rfl, rfl, trivial⟩)
  | some a =>
  cases hr1 : replE v1 ep (tgtE ⟨ep, eh, es, em, et, ec, eg⟩) with
  | none =>
    rw [hr0, hr1] at hse
    dsimp only at hse
    rw [hse] at hst
    dsimp only at hst
    clear hse
    repeat' (first
      | (show WL _ _ _ _ _ _ _; first
        | refine WL.pure rfl rfl rfl rfl ?_
        | refine WL.nil ?_
        | refine WL.load hS rfl rfl (LdOk.box (by repeat (first | exact List.Mem.head _ | apply List.Mem.tail)) rfl) rfl rfl rfl ?_
        | refine WL.add rfl rfl rfl (by omega) rfl rfl rfl ?_
        | (refine WL.load hS rfl rfl (LdOk.snap0 hFx hr (by repeat (first | exact List.Mem.head _ | apply List.Mem.tail)) rfl) rfl rfl rfl ?_)
        | (refine WL.indexArr (j := 0) rfl rfl rfl rfl (by decide) rfl rfl rfl ?_)
        | (refine WL.indexArr (j := 1) rfl rfl rfl rfl (by decide) rfl rfl rfl ?_)
        | (refine WL.app (n := rst.length) (size := 7) hS rfl rfl rfl rfl (RdOk.box (by repeat (first | exact List.Mem.head _ | apply List.Mem.tail))) rfl rfl (fun A cap => by repeat (first | exact Repl.here | apply Repl.there)) (by omega) rfl rfl rfl ?_; intro A3 cap3 w hS)
        | (refine WL.app (n := stl.length) (size := 1) hS rfl rfl rfl rfl (RdOk.box (by repeat (first | exact List.Mem.head _ | apply List.Mem.tail))) rfl rfl (fun A cap => by repeat (first | exact Repl.here | apply Repl.there)) (by omega) rfl rfl rfl ?_; intro A4 cap4 w hS)
        | (refine WL.store hS rfl rfl rfl (by repeat (first | exact StB.here rfl | apply StB.there)) rfl rfl rfl ?_; intro w hS)
        | (refine WL.alloc hS rfl rfl rfl rfl rfl rfl ?_; intro w b hS)
        | refine WL.index rfl rfl rfl rfl (by first | with_reducible assumption | omega) rfl rfl rfl rfl ?_
        | (refine WL.slit hS rfl rfl rfl rfl rfl ?_; intro w b hS))
      | (show WC _ _ _ _ _ _; first
        | refine WC.seq ?_
        | refine WC.region ?_
        | refine WC.block ?_
        | refine WC.skip ?_
        | refine WC.exit ?_
        | (show WC _ _ (Code.region _ (List.toArray [_, _, _, _, _, _, _, _, _, _, _, _, _, _, _, _, _, _, _, _, _]) true) _ _ _; refine WC.drawS hS [0,1,2,3,4,6,7,9,10,11,12,13,14,16,17,19,20] [0,1,2,3,4,6,7,5,8,9,10,11,12,13,14,16,17,15,18,19,20] (by kernel_rfl) (by kernel_rfl) ?_; clear hS; intro w hS hM)
        | (show WC _ _ (Code.loop (Code.seq (Code.seq (Code.region 11 _ _) _) _)) _ _ _; refine WC.rounds 4 ?_)
        | (show WC _ _ (Code.region _ (List.toArray [_, _, _, _, _, _, _, _, _, _, _, _, _, _]) true) _ _ _; refine WC.drawS hS [0,1,2,3,4,5,6,9,10,11,12,13] [0,1,2,3,4,5,6,7,8,9,10,11,12,13] (by kernel_rfl) (by kernel_rfl) ?_; clear hS; intro w hS hM)
        | refine WC.condT rfl (by first | (simp [hee]; done) | fail) ?_
        | refine WC.condT rfl (by with_reducible rfl) ?_
        | refine WC.condT rfl (by decide) ?_
        | refine WC.condT rfl (decide_eq_true (by first | with_reducible assumption | omega)) ?_
        | refine WC.condF rfl (decide_eq_false (by first | with_reducible assumption | omega)) ?_)
      | (show WD _ _ _ _ _ _ _ _ _; first
        | refine WD.pure rfl rfl rfl rfl rfl ?_
        | refine WD.nil ?_
        | refine WD.load rfl rfl (LdOk.box (by repeat (first | exact List.Mem.head _ | apply List.Mem.tail)) rfl) rfl rfl rfl rfl ?_
        | (refine WD.indexArr (j := 0) rfl rfl rfl rfl (by decide) rfl rfl rfl rfl ?_)
        | (refine WD.indexArr (j := 1) rfl rfl rfl rfl (by decide) rfl rfl rfl rfl ?_)
        | (refine WD.callG rfl rfl (rsub_c v0 ep (hS.slO (by repeat (first | exact List.Mem.head _ | apply List.Mem.tail)) hB0) (by omega) hp hf0.path) rfl rfl rfl rfl rfl ?_; rintro v w ⟨hu, A6, c6, rfl, hn⟩; have hS := hS.new hu hn; clear hu hn; have hM := hM.new hS; refine ⟨hM.ss hS, ?_⟩)
        | (refine WD.calls hS hM rfl rfl (rsameD_c (subE v0 ep) eh (St.ownSl (sz := 3) (enc := encEnt) (hsz := fun _ => rfl) (l := subE v0 ep) (by decide) hS (by repeat (first | exact List.Mem.head _ | apply List.Mem.tail))) (hS.slO (z := ⟨w0, F⟩) (by repeat (first | exact List.Mem.head _ | apply List.Mem.tail)) hs1) (by omega) (by omega)) rfl rfl rfl rfl rfl ?_; clear hS; rintro v w rfl hS; rw [hd0])
        | (refine WD.callG rfl rfl (rsub_c v1 ep (hS.slO (by repeat (first | exact List.Mem.head _ | apply List.Mem.tail)) hB1) (by omega) hp hf1.path) rfl rfl rfl rfl rfl ?_; rintro v w ⟨hu, A7, c7, rfl, hn⟩; have hS := hS.new hu hn; clear hu hn; have hM := hM.new hS; refine ⟨hM.ss hS, ?_⟩)
        | (refine WD.calls hS hM rfl rfl (rsameD_c (subE v1 ep) es (St.ownSl (sz := 3) (enc := encEnt) (hsz := fun _ => rfl) (l := subE v1 ep) (by decide) hS (by repeat (first | exact List.Mem.head _ | apply List.Mem.tail))) (hS.slO (z := ⟨w0, F⟩) (by repeat (first | exact List.Mem.head _ | apply List.Mem.tail)) hs2) (by omega) (by omega)) rfl rfl rfl rfl rfl ?_; clear hS; rintro v w rfl hS; rw [hd1])
        | (refine WD.callG rfl rfl (rtarget_c ⟨ep, eh, es, em, et, ec, eg⟩ (ca := x2) (cb := y2) (hS.slO (z := ⟨w0, F⟩) (by repeat (first | exact List.Mem.head _ | apply List.Mem.tail)) hs1) (hS.slO (z := ⟨w0, F⟩) (by repeat (first | exact List.Mem.head _ | apply List.Mem.tail)) hs2) (fun k h => h)) rfl rfl rfl rfl rfl ?_; rintro v w ⟨hu, AT, cT, rfl, hsub⟩; have hsb := hsub.mono (F' := Old w) (fun k hk => hk.elim (fun h => Nat.lt_of_lt_of_le h hu.size) fun h => h.2); have hS := hS.upd0 hu; clear hu hsub; refine ⟨hM.ss hS, ?_⟩)
        | (refine WD.callG rfl rfl (hrp _ v0 (hS.slO (by repeat (first | exact List.Mem.head _ | apply List.Mem.tail)) hB0) hf0 hsb) rfl rfl rfl rfl rfl ?_; rintro v w ⟨hu, hres⟩; rw [hr0] at hres; first | (obtain ⟨G0, g0, rfl, hn⟩ := hres.yes; have hS := hS.new hu hn; clear hu hn hres hsb; have hM := hM.new hS; refine ⟨hM.ss hS, ?_⟩) | (obtain ⟨ee, hee, rfl⟩ := hres.no; have hS := hS.upd0 hu; clear hu hres hsb; refine ⟨hM.ss hS, ?_⟩))
        | (refine WD.callG rfl rfl (hrp _ v1 (hS.slO (by repeat (first | exact List.Mem.head _ | apply List.Mem.tail)) hB1) hf1 hsb) rfl rfl rfl rfl rfl ?_; rintro v w ⟨hu, hres⟩; rw [hr1] at hres; first | (obtain ⟨G1, g1, rfl, hn⟩ := hres.yes; have hS := hS.new hu hn; clear hu hn hres hsb; have hM := hM.new hS; refine ⟨hM.ss hS, ?_⟩) | (obtain ⟨ee, hee, rfl⟩ := hres.no; have hS := hS.upd0 hu; clear hu hres hsb; refine ⟨hM.ss hS, ?_⟩)))
      | refine seqQ_n ?_
      | refine blkQ_n ?_
      | refine seqQ_x ?_
      | refine blkQ_hit rfl ?_
      | refine rdQ_n ?_
      | refine rdQ_x ?_)
    (replace hS := hS.droplast2 (D := [.box zb 43 [.slice none 0 0, .slice none 0 0, .slice none 0 0, .slice none 0 0, .slice none 0 0, .slice none 0 0], .box qb 43 [.slice B0 v0.length e0, .slice B1 v1.length e1, .slice B2 v2.length e2, .slice A3 (rst.length + 1) cap3, .slice AD dn.length cd, .slice A4 (stl.length + 1) cap4], .own (.slice A3 (rst.length + 1) cap3) 25 7 (rst.length + 1) (cps ps ++ encCp (⟨⟨ep, eh, es, em, et, ec, eg⟩, X2, x2, Y2, y2⟩ : Cp)), sC AD cd dn, .own (.slice A4 (stl.length + 1) cap4) 9 1 (stl.length + 1) (strs stl ++ [str ep])]) (by repeat (first | exact Pulls.nil | (apply Pulls.cons; focus (repeat (first | exact Pull.here | apply Pull.there))))); rw [cps_snoc, strs_snoc, hln, hsn] at hS; exact rndQ_n (k + 1) ⟨v0, v1, v2, _, dn, _, B0, e0, B1, e1, B2, e2, A3, cap3, AD, cd, A4, cap4, _, wz, Fz, ⟨by omega, hst, hpn, hpi2, ⟨hB0, hB1, hB2⟩, hFz⟩, hS⟩ (by show l.length - (k + 1) < l.length - k; omega) ⟨vint (by omega), trivial⟩ ⟨rfl, rfl, rfl, trivial⟩)
  | some b' =>
  cases hr2 : replE v2 ep (tgtE ⟨ep, eh, es, em, et, ec, eg⟩) with
  | none =>
    rw [hr0, hr1, hr2] at hse
    dsimp only at hse
    rw [hse] at hst
    dsimp only at hst
    clear hse
    repeat' (first
      | (show WL _ _ _ _ _ _ _; first
        | refine WL.pure rfl rfl rfl rfl ?_
        | refine WL.nil ?_
        | refine WL.load hS rfl rfl (LdOk.box (by repeat (first | exact List.Mem.head _ | apply List.Mem.tail)) rfl) rfl rfl rfl ?_
        | refine WL.add rfl rfl rfl (by omega) rfl rfl rfl ?_
        | (refine WL.load hS rfl rfl (LdOk.snap0 hFx hr (by repeat (first | exact List.Mem.head _ | apply List.Mem.tail)) rfl) rfl rfl rfl ?_)
        | (refine WL.indexArr (j := 0) rfl rfl rfl rfl (by decide) rfl rfl rfl ?_)
        | (refine WL.indexArr (j := 1) rfl rfl rfl rfl (by decide) rfl rfl rfl ?_)
        | (refine WL.indexArr (j := 2) rfl rfl rfl rfl (by decide) rfl rfl rfl ?_)
        | (refine WL.app (n := rst.length) (size := 7) hS rfl rfl rfl rfl (RdOk.box (by repeat (first | exact List.Mem.head _ | apply List.Mem.tail))) rfl rfl (fun A cap => by repeat (first | exact Repl.here | apply Repl.there)) (by omega) rfl rfl rfl ?_; intro A3 cap3 w hS)
        | (refine WL.app (n := stl.length) (size := 1) hS rfl rfl rfl rfl (RdOk.box (by repeat (first | exact List.Mem.head _ | apply List.Mem.tail))) rfl rfl (fun A cap => by repeat (first | exact Repl.here | apply Repl.there)) (by omega) rfl rfl rfl ?_; intro A4 cap4 w hS)
        | (refine WL.store hS rfl rfl rfl (by repeat (first | exact StB.here rfl | apply StB.there)) rfl rfl rfl ?_; intro w hS)
        | (refine WL.alloc hS rfl rfl rfl rfl rfl rfl ?_; intro w b hS)
        | refine WL.index rfl rfl rfl rfl (by first | with_reducible assumption | omega) rfl rfl rfl rfl ?_
        | refine WL.skip rfl rfl rfl ?_
        | (refine WL.slit hS rfl rfl rfl rfl rfl ?_; intro w b hS))
      | (show WC _ _ _ _ _ _; first
        | refine WC.seq ?_
        | refine WC.region ?_
        | refine WC.block ?_
        | refine WC.skip ?_
        | refine WC.exit ?_
        | (show WC _ _ (Code.region _ (List.toArray [_, _, _, _, _, _, _, _, _, _, _, _, _, _, _, _, _, _, _, _, _]) true) _ _ _; refine WC.drawS hS [0,1,2,3,4,6,7,9,10,11,12,13,14,16,17,19,20] [0,1,2,3,4,6,7,5,8,9,10,11,12,13,14,16,17,15,18,19,20] (by kernel_rfl) (by kernel_rfl) ?_; clear hS; intro w hS hM)
        | (show WC _ _ (Code.loop (Code.seq (Code.seq (Code.region 11 _ _) _) _)) _ _ _; refine WC.rounds 4 ?_)
        | (show WC _ _ (Code.region _ (List.toArray [_, _, _, _, _, _, _, _, _, _, _, _, _, _]) true) _ _ _; refine WC.drawS hS [0,1,2,3,4,5,6,9,10,11,12,13] [0,1,2,3,4,5,6,7,8,9,10,11,12,13] (by kernel_rfl) (by kernel_rfl) ?_; clear hS; intro w hS hM)
        | refine WC.condT rfl (by first | (simp [hee]; done) | fail) ?_
        | refine WC.condT rfl (by with_reducible rfl) ?_
        | refine WC.condF rfl (by with_reducible rfl) ?_
        | refine WC.condT rfl (by decide) ?_
        | refine WC.condT rfl (decide_eq_true (by first | with_reducible assumption | omega)) ?_
        | refine WC.condF rfl (decide_eq_false (by first | with_reducible assumption | omega)) ?_)
      | (show WD _ _ _ _ _ _ _ _ _; first
        | refine WD.pure rfl rfl rfl rfl rfl ?_
        | refine WD.nil ?_
        | refine WD.load rfl rfl (LdOk.box (by repeat (first | exact List.Mem.head _ | apply List.Mem.tail)) rfl) rfl rfl rfl rfl ?_
        | (refine WD.indexArr (j := 0) rfl rfl rfl rfl (by decide) rfl rfl rfl rfl ?_)
        | (refine WD.indexArr (j := 1) rfl rfl rfl rfl (by decide) rfl rfl rfl rfl ?_)
        | (refine WD.indexArr (j := 2) rfl rfl rfl rfl (by decide) rfl rfl rfl rfl ?_)
        | (refine WD.callG rfl rfl (rsub_c v0 ep (hS.slO (by repeat (first | exact List.Mem.head _ | apply List.Mem.tail)) hB0) (by omega) hp hf0.path) rfl rfl rfl rfl rfl ?_; rintro v w ⟨hu, A6, c6, rfl, hn⟩; have hS := hS.new hu hn; clear hu hn; have hM := hM.new hS; refine ⟨hM.ss hS, ?_⟩)
        | (refine WD.calls hS hM rfl rfl (rsameD_c (subE v0 ep) eh (St.ownSl (sz := 3) (enc := encEnt) (hsz := fun _ => rfl) (l := subE v0 ep) (by decide) hS (by repeat (first | exact List.Mem.head _ | apply List.Mem.tail))) (hS.slO (z := ⟨w0, F⟩) (by repeat (first | exact List.Mem.head _ | apply List.Mem.tail)) hs1) (by omega) (by omega)) rfl rfl rfl rfl rfl ?_; clear hS; rintro v w rfl hS; rw [hd0])
        | (refine WD.callG rfl rfl (rsub_c v1 ep (hS.slO (by repeat (first | exact List.Mem.head _ | apply List.Mem.tail)) hB1) (by omega) hp hf1.path) rfl rfl rfl rfl rfl ?_; rintro v w ⟨hu, A7, c7, rfl, hn⟩; have hS := hS.new hu hn; clear hu hn; have hM := hM.new hS; refine ⟨hM.ss hS, ?_⟩)
        | (refine WD.calls hS hM rfl rfl (rsameD_c (subE v1 ep) es (St.ownSl (sz := 3) (enc := encEnt) (hsz := fun _ => rfl) (l := subE v1 ep) (by decide) hS (by repeat (first | exact List.Mem.head _ | apply List.Mem.tail))) (hS.slO (z := ⟨w0, F⟩) (by repeat (first | exact List.Mem.head _ | apply List.Mem.tail)) hs2) (by omega) (by omega)) rfl rfl rfl rfl rfl ?_; clear hS; rintro v w rfl hS; rw [hd1])
        | (refine WD.callG rfl rfl (rtarget_c ⟨ep, eh, es, em, et, ec, eg⟩ (ca := x2) (cb := y2) (hS.slO (z := ⟨w0, F⟩) (by repeat (first | exact List.Mem.head _ | apply List.Mem.tail)) hs1) (hS.slO (z := ⟨w0, F⟩) (by repeat (first | exact List.Mem.head _ | apply List.Mem.tail)) hs2) (fun k h => h)) rfl rfl rfl rfl rfl ?_; rintro v w ⟨hu, AT, cT, rfl, hsub⟩; have hsb := hsub.mono (F' := Old w) (fun k hk => hk.elim (fun h => Nat.lt_of_lt_of_le h hu.size) fun h => h.2); have hS := hS.upd0 hu; clear hu hsub; refine ⟨hM.ss hS, ?_⟩)
        | (refine WD.callG rfl rfl (hrp _ v0 (hS.slO (by repeat (first | exact List.Mem.head _ | apply List.Mem.tail)) hB0) hf0 hsb) rfl rfl rfl rfl rfl ?_; rintro v w ⟨hu, hres⟩; rw [hr0] at hres; first | (obtain ⟨G0, g0, rfl, hn⟩ := hres.yes; have hS := hS.new hu hn; clear hu hn hres hsb; have hM := hM.new hS; refine ⟨hM.ss hS, ?_⟩) | (obtain ⟨ee, hee, rfl⟩ := hres.no; have hS := hS.upd0 hu; clear hu hres hsb; refine ⟨hM.ss hS, ?_⟩))
        | (refine WD.callG rfl rfl (hrp _ v1 (hS.slO (by repeat (first | exact List.Mem.head _ | apply List.Mem.tail)) hB1) hf1 hsb) rfl rfl rfl rfl rfl ?_; rintro v w ⟨hu, hres⟩; rw [hr1] at hres; first | (obtain ⟨G1, g1, rfl, hn⟩ := hres.yes; have hS := hS.new hu hn; clear hu hn hres hsb; have hM := hM.new hS; refine ⟨hM.ss hS, ?_⟩) | (obtain ⟨ee, hee, rfl⟩ := hres.no; have hS := hS.upd0 hu; clear hu hres hsb; refine ⟨hM.ss hS, ?_⟩))
        | (refine WD.callG rfl rfl (hrp _ v2 (hS.slO (by repeat (first | exact List.Mem.head _ | apply List.Mem.tail)) hB2) hf2 hsb) rfl rfl rfl rfl rfl ?_; rintro v w ⟨hu, hres⟩; rw [hr2] at hres; first | (obtain ⟨G2, g2, rfl, hn⟩ := hres.yes; have hS := hS.new hu hn; clear hu hn hres hsb; have hM := hM.new hS; refine ⟨hM.ss hS, ?_⟩) | (obtain ⟨ee, hee, rfl⟩ := hres.no; have hS := hS.upd0 hu; clear hu hres hsb; refine ⟨hM.ss hS, ?_⟩)))
      | refine seqQ_n ?_
      | refine blkQ_n ?_
      | refine seqQ_x ?_
      | refine blkQ_hit rfl ?_
      | refine rdQ_n ?_
      | refine rdQ_x ?_)
    (replace hS := hS.droplast2 (D := [.box zb 43 [.slice none 0 0, .slice none 0 0, .slice none 0 0, .slice none 0 0, .slice none 0 0, .slice none 0 0], .box qb 43 [.slice B0 v0.length e0, .slice B1 v1.length e1, .slice B2 v2.length e2, .slice A3 (rst.length + 1) cap3, .slice AD dn.length cd, .slice A4 (stl.length + 1) cap4], .own (.slice A3 (rst.length + 1) cap3) 25 7 (rst.length + 1) (cps ps ++ encCp (⟨⟨ep, eh, es, em, et, ec, eg⟩, X2, x2, Y2, y2⟩ : Cp)), sC AD cd dn, .own (.slice A4 (stl.length + 1) cap4) 9 1 (stl.length + 1) (strs stl ++ [str ep])]) (by repeat (first | exact Pulls.nil | (apply Pulls.cons; focus (repeat (first | exact Pull.here | apply Pull.there))))); rw [cps_snoc, strs_snoc, hln, hsn] at hS; exact rndQ_n (k + 1) ⟨v0, v1, v2, _, dn, _, B0, e0, B1, e1, B2, e2, A3, cap3, AD, cd, A4, cap4, _, wz, Fz, ⟨by omega, hst, hpn, hpi2, ⟨hB0, hB1, hB2⟩, hFz⟩, hS⟩ (by show l.length - (k + 1) < l.length - k; omega) ⟨vint (by omega), trivial⟩ ⟨rfl, rfl, rfl, trivial⟩)
  | some d =>
    rw [hr0, hr1, hr2] at hse
    dsimp only at hse
    rw [hse] at hst
    dsimp only at hst
    clear hse
    repeat' (first
      | (show WL _ _ _ _ _ _ _; first
        | refine WL.pure rfl rfl rfl rfl ?_
        | refine WL.nil ?_
        | refine WL.load hS rfl rfl (LdOk.box (by repeat (first | exact List.Mem.head _ | apply List.Mem.tail)) rfl) rfl rfl rfl ?_
        | refine WL.add rfl rfl rfl (by omega) rfl rfl rfl ?_
        | (refine WL.load hS rfl rfl (LdOk.snap0 hFx hr (by repeat (first | exact List.Mem.head _ | apply List.Mem.tail)) rfl) rfl rfl rfl ?_)
        | (refine WL.indexArr (j := 0) rfl rfl rfl rfl (by decide) rfl rfl rfl ?_)
        | (refine WL.indexArr (j := 1) rfl rfl rfl rfl (by decide) rfl rfl rfl ?_)
        | (refine WL.indexArr (j := 2) rfl rfl rfl rfl (by decide) rfl rfl rfl ?_)
        | (refine WL.app (n := dn.length) (size := 1) hS rfl rfl rfl rfl (RdOk.box (by repeat (first | exact List.Mem.head _ | apply List.Mem.tail))) rfl rfl (fun A cap => by repeat (first | exact Repl.here | apply Repl.there)) (by omega) rfl rfl rfl ?_; intro A5 cap5 w hS)
        | (refine WL.store hS rfl rfl rfl (by repeat (first | exact StB.here rfl | apply StB.there)) rfl rfl rfl ?_; intro w hS)
        | (refine WL.alloc hS rfl rfl rfl rfl rfl rfl ?_; intro w b hS)
        | refine WL.index rfl rfl rfl rfl (by first | with_reducible assumption | omega) rfl rfl rfl rfl ?_
        | refine WL.skip rfl rfl rfl ?_
        | (refine WL.slit hS rfl rfl rfl rfl rfl ?_; intro w b hS))
      | (show WC _ _ _ _ _ _; first
        | refine WC.seq ?_
        | refine WC.region ?_
        | refine WC.block ?_
        | refine WC.skip ?_
        | refine WC.exit ?_
        | (show WC _ _ (Code.region _ (List.toArray [_, _, _, _, _, _, _, _, _, _, _, _, _, _, _, _, _, _, _, _, _]) true) _ _ _; refine WC.drawS hS [0,1,2,3,4,6,7,9,10,11,12,13,14,16,17,19,20] [0,1,2,3,4,6,7,5,8,9,10,11,12,13,14,16,17,15,18,19,20] (by kernel_rfl) (by kernel_rfl) ?_; clear hS; intro w hS hM)
        | (show WC _ _ (Code.loop (Code.seq (Code.seq (Code.region 11 _ _) _) _)) _ _ _; refine WC.rounds 4 ?_)
        | (show WC _ _ (Code.region _ (List.toArray [_, _, _, _, _, _, _, _, _, _, _, _, _, _]) true) _ _ _; refine WC.drawS hS [0,1,2,3,4,5,6,9,10,11,12,13] [0,1,2,3,4,5,6,7,8,9,10,11,12,13] (by kernel_rfl) (by kernel_rfl) ?_; clear hS; intro w hS hM)
        | refine WC.condT rfl (by with_reducible rfl) ?_
        | refine WC.condF rfl (by with_reducible rfl) ?_
        | refine WC.condT rfl (by decide) ?_
        | refine WC.condF rfl (by decide) ?_
        | refine WC.condT rfl (decide_eq_true (by first | with_reducible assumption | omega)) ?_
        | refine WC.condF rfl (decide_eq_false (by first | with_reducible assumption | omega)) ?_)
      | (show WD _ _ _ _ _ _ _ _ _; first
        | refine WD.pure rfl rfl rfl rfl rfl ?_
        | refine WD.nil ?_
        | refine WD.load rfl rfl (LdOk.box (by repeat (first | exact List.Mem.head _ | apply List.Mem.tail)) rfl) rfl rfl rfl rfl ?_
        | (refine WD.indexArr (j := 0) rfl rfl rfl rfl (by decide) rfl rfl rfl rfl ?_)
        | (refine WD.indexArr (j := 1) rfl rfl rfl rfl (by decide) rfl rfl rfl rfl ?_)
        | (refine WD.indexArr (j := 2) rfl rfl rfl rfl (by decide) rfl rfl rfl rfl ?_)
        | (refine WD.callG rfl rfl (rsub_c v0 ep (hS.slO (by repeat (first | exact List.Mem.head _ | apply List.Mem.tail)) hB0) (by omega) hp hf0.path) rfl rfl rfl rfl rfl ?_; rintro v w ⟨hu, A6, c6, rfl, hn⟩; have hS := hS.new hu hn; clear hu hn; have hM := hM.new hS; refine ⟨hM.ss hS, ?_⟩)
        | (refine WD.calls hS hM rfl rfl (rsameD_c (subE v0 ep) eh (St.ownSl (sz := 3) (enc := encEnt) (hsz := fun _ => rfl) (l := subE v0 ep) (by decide) hS (by repeat (first | exact List.Mem.head _ | apply List.Mem.tail))) (hS.slO (z := ⟨w0, F⟩) (by repeat (first | exact List.Mem.head _ | apply List.Mem.tail)) hs1) (by omega) (by omega)) rfl rfl rfl rfl rfl ?_; clear hS; rintro v w rfl hS; rw [hd0])
        | (refine WD.callG rfl rfl (rsub_c v1 ep (hS.slO (by repeat (first | exact List.Mem.head _ | apply List.Mem.tail)) hB1) (by omega) hp hf1.path) rfl rfl rfl rfl rfl ?_; rintro v w ⟨hu, A7, c7, rfl, hn⟩; have hS := hS.new hu hn; clear hu hn; have hM := hM.new hS; refine ⟨hM.ss hS, ?_⟩)
        | (refine WD.calls hS hM rfl rfl (rsameD_c (subE v1 ep) es (St.ownSl (sz := 3) (enc := encEnt) (hsz := fun _ => rfl) (l := subE v1 ep) (by decide) hS (by repeat (first | exact List.Mem.head _ | apply List.Mem.tail))) (hS.slO (z := ⟨w0, F⟩) (by repeat (first | exact List.Mem.head _ | apply List.Mem.tail)) hs2) (by omega) (by omega)) rfl rfl rfl rfl rfl ?_; clear hS; rintro v w rfl hS; rw [hd1])
        | (refine WD.callG rfl rfl (rtarget_c ⟨ep, eh, es, em, et, ec, eg⟩ (ca := x2) (cb := y2) (hS.slO (z := ⟨w0, F⟩) (by repeat (first | exact List.Mem.head _ | apply List.Mem.tail)) hs1) (hS.slO (z := ⟨w0, F⟩) (by repeat (first | exact List.Mem.head _ | apply List.Mem.tail)) hs2) (fun k h => h)) rfl rfl rfl rfl rfl ?_; rintro v w ⟨hu, AT, cT, rfl, hsub⟩; have hsb := hsub.mono (F' := Old w) (fun k hk => hk.elim (fun h => Nat.lt_of_lt_of_le h hu.size) fun h => h.2); have hS := hS.upd0 hu; clear hu hsub; refine ⟨hM.ss hS, ?_⟩)
        | (refine WD.callG rfl rfl (hrp _ v0 (hS.slO (by repeat (first | exact List.Mem.head _ | apply List.Mem.tail)) hB0) hf0 hsb) rfl rfl rfl rfl rfl ?_; rintro v w ⟨hu, hres⟩; rw [hr0] at hres; first | (obtain ⟨G0, g0, rfl, hn⟩ := hres.yes; have hS := hS.new hu hn; clear hu hn hres hsb; have hM := hM.new hS; refine ⟨hM.ss hS, ?_⟩) | (obtain ⟨ee, hee, rfl⟩ := hres.no; have hS := hS.upd0 hu; clear hu hres hsb; refine ⟨hM.ss hS, ?_⟩))
        | (refine WD.callG rfl rfl (hrp _ v1 (hS.slO (by repeat (first | exact List.Mem.head _ | apply List.Mem.tail)) hB1) hf1 hsb) rfl rfl rfl rfl rfl ?_; rintro v w ⟨hu, hres⟩; rw [hr1] at hres; first | (obtain ⟨G1, g1, rfl, hn⟩ := hres.yes; have hS := hS.new hu hn; clear hu hn hres hsb; have hM := hM.new hS; refine ⟨hM.ss hS, ?_⟩) | (obtain ⟨ee, hee, rfl⟩ := hres.no; have hS := hS.upd0 hu; clear hu hres hsb; refine ⟨hM.ss hS, ?_⟩))
        | (refine WD.callG rfl rfl (hrp _ v2 (hS.slO (by repeat (first | exact List.Mem.head _ | apply List.Mem.tail)) hB2) hf2 hsb) rfl rfl rfl rfl rfl ?_; rintro v w ⟨hu, hres⟩; rw [hr2] at hres; first | (obtain ⟨G2, g2, rfl, hn⟩ := hres.yes; have hS := hS.new hu hn; clear hu hn hres hsb; have hM := hM.new hS; refine ⟨hM.ss hS, ?_⟩) | (obtain ⟨ee, hee, rfl⟩ := hres.no; have hS := hS.upd0 hu; clear hu hres hsb; refine ⟨hM.ss hS, ?_⟩)))
      | refine seqQ_n ?_
      | refine blkQ_n ?_
      | refine seqQ_x ?_
      | refine blkQ_hit rfl ?_
      | refine rdQ_n ?_
      | refine rdQ_x ?_)
    replace hS := hS.droplast2 (D := [eC G0 g0 a, eC G1 g1 b', eC G2 g2 d, .box zb 43 [.slice none 0 0, .slice none 0 0, .slice none 0 0, .slice none 0 0, .slice none 0 0, .slice none 0 0], .box qb 43 [.slice G0 a.length g0, .slice G1 b'.length g1, .slice G2 d.length g2, .slice AR rst.length cr, .slice A5 (dn.length + 1) cap5, .slice AS stl.length cs], cC AR cr ps rst.length, .own (.slice A5 (dn.length + 1) cap5) 9 1 (dn.length + 1) (strs dn ++ [str ep]), sC AS cs stl]) (by repeat (first | exact Pulls.nil | (apply Pulls.cons; focus (repeat (first | exact Pull.here | apply Pull.there)))))
    rw [strs_snoc, hdn] at hS
    have hi0 : ∀ g ∈ (eC G0 g0 a).fp, F g ∨ w0.heap.size ≤ g := fun g hg => .inr ((hS.inb _ (by repeat (first | exact List.Mem.head _ | apply List.Mem.tail)) g hg).2.resolve_right fun h => (by cases h))
    have hi1 : ∀ g ∈ (eC G1 g1 b').fp, F g ∨ w0.heap.size ≤ g := fun g hg => .inr ((hS.inb _ (by repeat (first | exact List.Mem.head _ | apply List.Mem.tail)) g hg).2.resolve_right fun h => (by cases h))
    have hi2 : ∀ g ∈ (eC G2 g2 d).fp, F g ∨ w0.heap.size ≤ g := fun g hg => .inr ((hS.inb _ (by repeat (first | exact List.Mem.head _ | apply List.Mem.tail)) g hg).2.resolve_right fun h => (by cases h))
    obtain ⟨q0, hS0⟩ := hS.keepEnt (List.Mem.head _)
    obtain ⟨q1, hS1⟩ := hS0.keepEnt (List.Mem.head _)
    obtain ⟨q2, hS2⟩ := hS1.keepEnt (List.Mem.head _)
    exact rndQ_n (k + 1) ⟨a, b', d, rst, _, stl, G0, g0, G1, g1, G2, g2, AR, cr, A5, cap5, AS, cs, ps, w, _, ⟨by omega, hst, hps, hpi, ⟨q0.mono fun k h => .inr (.inr h), q1.mono fun k h => .inr h, q2⟩, fun k h => h.elim (hi2 k) fun h => h.elim (hi1 k) fun h => h.elim (hi0 k) (hFz k)⟩, hS2.less fun y hy => (by
      rcases List.mem_cons.1 hy with rfl | hy
      · exact List.Mem.head _
      · exact .tail _ (.tail _ (.tail _ (.tail _ hy))))⟩ (by show l.length - (k + 1) < l.length - k; omega) ⟨vint (by omega), trivial⟩ ⟨rfl, rfl, rfl, trivial⟩
end Go.Proofs.YtniacmoniaaolaaDoor

/- What is proved: the law SessionResolves answers true. Conditions: the statement's own bound on the bulk. -/
set_option linter.unusedSimpArgs false
set_option linter.unusedVariables false
namespace Go.Proofs.YtniacmoniaaolaaDoor
open Go Go.J Go.RowKit

abbrev roC (K : Option Addr) (c : Nat) (t : List Ent) : Chunk := .own (.slice K (t.length + 1) c) 53 3 (t.length + 1) ((t ++ [spareE]).flatMap encEnt)
theorem _root_.Go.J.St.ropLow {w0 w : World} {M : List Nat} {H H' : List Chunk} {Z : List Snap} {g o c : Nat} {t : List Ent} (hS : St w0 M w H Z) (hr : Repl (roC (some ⟨g, o, none⟩) c t) (eC (some ⟨g, o, none⟩) c t) H H') : St w0 M w H' Z :=
  hS.recast hr (fun h => by
    have h2 := RowAt.high (j := t.length) h (Nat.le_succ _)
    rw [List.flatMap_append, List.take_left' (by rw [flat_len (enc := encEnt) (sz := 3) (fun _ => rfl)])] at h2
    exact h2) fun b hb => hb
theorem _root_.Go.J.St.addSnap {w0 w w' wz : World} {M : List Nat} {H : List Chunk} {Z : List Snap} {F G : Nat → Prop} (hS : St w0 M w H Z) (hz : Snap.mk wz F ∈ Z) (hu : Upd [] w w') (hG : ∀ k, G k → (F k ∨ w.heap.size ≤ k) ∧ k < w'.heap.size) : St w0 M w' H (⟨w', G⟩ :: Z) := by
  have h := hS.upd0 hu
  refine ⟨h.upd, h.holds, h.inb, h.disj, fun z hzm b hb => ?_⟩
  rcases List.mem_cons.1 hzm with rfl | hzm
  · obtain ⟨h1, h2⟩ := hG b hb
    refine ⟨h2, rfl, fun c hc hf => ?_⟩
    rcases h1 with h1 | h1
    · exact (hS.snap _ hz b h1).2.2 c hc hf
    · have := (hS.inb c hc b hf).1
      omega
  · exact h.snap z hzm b hb
/-! ## rows for Apart -/
def zsO (z0 : List (Rw × List Ent)) (ps : List Cp) : List (Rw × List Ent) := z0 ++ ps.flatMap fun p => [(⟨p.A, p.c.hub.length, p.ca⟩, p.c.hub), (⟨p.B, p.c.side.length, p.cb⟩, p.c.side)]
theorem zsO_len (z0 : List (Rw × List Ent)) (ps : List Cp) : (zsO z0 ps).length = z0.length + 2 * ps.length := by
  unfold zsO
  rw [List.length_append]
  congr 1
  induction ps with
  | nil => rfl
  | cons p l ih => rw [List.flatMap_cons, List.length_append, ih, List.length_cons]; simp only [List.length_cons, List.length_nil]; omega
theorem zsO_chunks (z0 : List (Rw × List Ent)) (ps : List Cp) : (zsO z0 ps).map (fun z => ownRw encEnt 53 3 z.1 z.2) = z0.map (fun z => ownRw encEnt 53 3 z.1 z.2) ++ ps.flatMap inF := by
  unfold zsO
  rw [List.map_append, List.map_flatMap]
  rfl
theorem zsO_snoc (z0 : List (Rw × List Ent)) (ps : List Cp) (p : Cp) : ((zsO z0 (ps ++ [p])).map Prod.fst).flatMap encRw = ((zsO z0 ps).map Prod.fst).flatMap encRw ++ [.slice p.A p.c.hub.length p.ca, .slice p.B p.c.side.length p.cb] := by
  unfold zsO
  rw [List.flatMap_append, ← List.append_assoc, List.map_append, List.flatMap_append]
  rfl
theorem pulls_skip {X : Chunk} {D H H' : List Chunk} (h : Pulls D H H') : Pulls D (X :: H) (X :: H') := by
  induction h with
  | nil => exact .nil
  | cons h _ ih => exact .cons (.there h) ih
theorem resolve_rest {l : List Cf} (hc : ∀ c ∈ l, FitC c) (t0 t1 t2 : List Ent) : ∀ c ∈ (resolveE l t0 t1 t2).rest, FitC c := by
  have hx : ∀ k, k ≤ l.length → ∀ c ∈ (resolveE (l.take k) t0 t1 t2).rest, FitC c := by
    intro k
    induction k with
    | zero => exact fun _ c h => (by cases h)
    | succ k ih =>
      intro hk c
      rw [resolve_take l (show k < l.length by omega)]
      unfold stepO
      have h1 := ih (by omega)
      have h2 := hc _ (List.getElem_mem (show k < l.length by omega))
      split
      · intro h
        rcases List.mem_append.1 h with h | h
        · exact h1 c h
        · rw [List.mem_singleton.1 h]; exact h2
      · split
        · exact fun h => h1 c h
        · intro h
          rcases List.mem_append.1 h with h | h
          · exact h1 c h
          · rw [List.mem_singleton.1 h]; exact h2
  have := hx l.length (Nat.le_refl _)
  rwa [List.take_length] at this
variable {w0 : World}
set_option maxHeartbeats 64000000 in
set_option maxRecDepth 100000 in
theorem sessionResolves_c (l : List Cf) (t0 t1 t2 : List Ent) {A A0 A1 A2 : Option Addr} {cap c0 c1 c2 : Nat} (hA : SlAt cCf (Old w0) w0 A l) (hl : l.length ≤ 1048576) (hc : ∀ c ∈ l, FitC c) (hT0 : SlAt cEnt (Old w0) w0 A0 t0) (hT1 : SlAt cEnt (Old w0) w0 A1 t1) (hT2 : SlAt cEnt (Old w0) w0 A2 t2) (hf0 : Fit t0) (hf1 : Fit t1) (hf2 : Fit t2) (hcap : t0.length ≤ c0 ∧ t1.length ≤ c1 ∧ t2.length ≤ c2) :
    Cal Tryd.prog 4 [.slice A l.length cap, .agg ⟨[.slice A0 t0.length c0, .slice A1 t1.length c1, .slice A2 t2.length c2]⟩] w0 (fun v w' => Upd [] w0 w' ∧ v = .bool true) := by
  refine Cal.mk' (by kernel_rfl) Tryd.func4 rfl rfl fun hS => ?_
  by_cases ht : tOk t0 t1 t2
  rotate_left
  · have htr := fun (w : World) (h0 : SlAt cEnt (Old w) w A0 t0) (h1 : SlAt cEnt (Old w) w A1 t1) (h2 : SlAt cEnt (Old w) w A2 t2) => trees_c t0 t1 t2 false h0 h1 h2 hf0 hf1 hf2 hcap (by simp [ht])
    repeat' (first
      | (show WL _ _ _ _ _ _ _; first
        | refine WL.pure rfl rfl rfl rfl ?_
        | refine WL.nil ?_
        | refine WL.load hS rfl rfl (LdOk.box (by repeat (first | exact List.Mem.head _ | apply List.Mem.tail)) rfl) rfl rfl rfl ?_
        | (refine WL.calls hS rfl rfl (sawake_c _) rfl rfl rfl ?_; rintro v w rfl hS)
        | (refine WL.calls hS rfl rfl (htr _ (hS.slO (by repeat (first | exact List.Mem.head _ | apply List.Mem.tail)) hT0) (hS.slO (by repeat (first | exact List.Mem.head _ | apply List.Mem.tail)) hT1) (hS.slO (by repeat (first | exact List.Mem.head _ | apply List.Mem.tail)) hT2)) rfl rfl rfl ?_; rintro v w rfl hS)
        | (refine WL.box hS rfl rfl rfl rfl rfl ?_; intro w b hS)
        | refine WL.skip rfl rfl rfl ?_)
      | (show WC _ _ _ _ _ _; first
        | refine WC.seq ?_
        | refine WC.region ?_
        | refine WC.ret ?_
        | refine WC.condT rfl (by with_reducible rfl) ?_)
      | refine seqQ_n ?_
      | refine seqQ_r ?_)
    exact fin1r rfl rfl ⟨hS.upd, rfl⟩
  have htr := fun (w : World) (h0 : SlAt cEnt (Old w) w A0 t0) (h1 : SlAt cEnt (Old w) w A1 t1) (h2 : SlAt cEnt (Old w) w A2 t2) => trees_c t0 t1 t2 true h0 h1 h2 hf0 hf1 hf2 hcap (by simp [ht])
  by_cases h40 : l.length ≤ 40
  rotate_left
  · repeat' (first
      | (show WL _ _ _ _ _ _ _; first
        | refine WL.pure rfl rfl rfl rfl ?_
        | refine WL.nil ?_
        | refine WL.load hS rfl rfl (LdOk.box (by repeat (first | exact List.Mem.head _ | apply List.Mem.tail)) rfl) rfl rfl rfl ?_
        | (refine WL.calls hS rfl rfl (sawake_c _) rfl rfl rfl ?_; rintro v w rfl hS)
        | (refine WL.calls hS rfl rfl (htr _ (hS.slO (by repeat (first | exact List.Mem.head _ | apply List.Mem.tail)) hT0) (hS.slO (by repeat (first | exact List.Mem.head _ | apply List.Mem.tail)) hT1) (hS.slO (by repeat (first | exact List.Mem.head _ | apply List.Mem.tail)) hT2)) rfl rfl rfl ?_; rintro v w rfl hS)
        | (refine WL.box hS rfl rfl rfl rfl rfl ?_; intro w b hS))
      | (show WC _ _ _ _ _ _; first
        | refine WC.seq ?_
        | refine WC.region ?_
        | refine WC.ret ?_
        | refine WC.condT rfl (decide_eq_true (by first | with_reducible assumption | omega)) ?_)
      | refine seqQ_n ?_
      | refine seqQ_r ?_)
    exact fin1r rfl rfl ⟨hS.upd, rfl⟩
  have hg0 := hf0.len
  have hg1 := hf1.len
  have hg2 := hf2.len
  clear ht hcap
  rcases hR : resolveE l t0 t1 t2 with ⟨u0, u1, u2, rest, done, stale⟩
  have hfo := resolve_fit hf0 hf1 hf2 hc l.length (Nat.le_refl _)
  rw [List.take_length, hR] at hfo
  obtain ⟨hv0, hv1, hv2, hrl, hdl, hsl⟩ := hfo
  dsimp only at hrl hdl hsl
  have hm0 : u0.length ≤ 262144 := hv0.len
  have hm1 : u1.length ≤ 262144 := hv1.len
  have hm2 : u2.length ≤ 262144 := hv2.len
  have hrest : ∀ c ∈ rest, c.hub.length ≤ 1048576 ∧ c.side.length ≤ 1048576 := by
    have := resolve_rest hc t0 t1 t2
    rw [hR] at this
    exact fun c h => ⟨by have := (this c h).hub.len; omega, by have := (this c h).side.len; omega⟩
  have hr1 := fun (w : World) {K0 K1 K2 : Option Addr} {k0 k1 k2 : Nat} (h : SlAt cCf (Old w) w A l) (h0 : SlAt cEnt (Old w) w K0 t0) (h1 : SlAt cEnt (Old w) w K1 t1) (h2 : SlAt cEnt (Old w) w K2 t2) => resolve_c (cap := cap) (c0 := k0) (c1 := k1) (c2 := k2) l t0 t1 t2 h hl hc h0 h1 h2 hf0 hf1 hf2 hR
  have hr2 := fun (w : World) (hF : ∀ k, Old w0 k → k < w.heap.size) (h : SlAt cCf (Old w0) w A l) (h0 : SlAt cEnt (Old w0) w A0 t0) (h1 : SlAt cEnt (Old w0) w A1 t1) (h2 : SlAt cEnt (Old w0) w A2 t2) => rresolve_c (cap := cap) (c0 := c0) (c1 := c1) (c2 := c2) l t0 t1 t2 hF h hl hc h0 h1 h2 hf0 hf1 hf2 hR
  have hsm := fun (w : World) {AR XR : Option Addr} {cr xr : Nat} (h1 : SlAt cCf (Old w) w AR rest) (h2 : SlAt cCf (Old w) w XR rest) => rsameCf_c (ca := cr) (cb := xr) rest h1 h2 (by omega) hrest
  clear hR hc hf0 hf1 hf2 hv0 hv1 hv2
  repeat' (first
    | (show WL _ _ _ _ _ _ _; first
      | refine WL.pure rfl rfl rfl rfl ?_
      | refine WL.nil ?_
      | refine WL.load hS rfl rfl (LdOk.box (by repeat (first | exact List.Mem.head _ | apply List.Mem.tail)) rfl) rfl rfl rfl ?_
      | (refine WL.box (t := 36) hS rfl rfl rfl rfl rfl ?_; intro w pb hS)
      | (refine WL.calls hS rfl rfl (sawake_c _) rfl rfl rfl ?_; rintro v w rfl hS)
      | (refine WL.calls hS rfl rfl (htr _ (hS.slO (by repeat (first | exact List.Mem.head _ | apply List.Mem.tail)) hT0) (hS.slO (by repeat (first | exact List.Mem.head _ | apply List.Mem.tail)) hT1) (hS.slO (by repeat (first | exact List.Mem.head _ | apply List.Mem.tail)) hT2)) rfl rfl rfl ?_; rintro v w rfl hS))
    | (show WC _ _ _ _ _ _; first
      | (show WC _ _ (Code.seq (Code.region 3 _ _) _) _ _ _; refine WC.cutS (σ := Nat × (Option Addr × Nat) × (Option Addr × Nat) × (Option Addr × Nat)) [0, 3] (fun (hb, (K0, k0), (K1, k1), (K2, k2)) => [(5, .pointer (some ⟨hb, 0, none⟩))]) (fun (hb, (K0, k0), (K1, k1), (K2, k2)) w => (t0.length + 1 ≤ k0 ∧ t1.length + 1 ≤ k1 ∧ t2.length + 1 ≤ k2) ∧ St w0 [] w [roC K0 k0 t0, roC K1 k1 t1, roC K2 k2 t2, .box hb 36 [.slice K0 t0.length k0, .slice K1 t1.length k1, .slice K2 t2.length k2], .box pb 36 [.slice A0 t0.length c0, .slice A1 t1.length c1, .slice A2 t2.length c2]] [⟨w0, Old w0⟩]) ?_ ?_)
      | refine WC.seq ?_
      | refine WC.region ?_
      | refine WC.skip ?_
      | refine WC.condF rfl (decide_eq_false (by first | with_reducible assumption | omega)) ?_)
    | refine seqQ_n ?_)
  · refine WC.drawP hS [0,1,3,4,6,7,9] [0,1,3,4,6,7] (.two 2 [] (.two 5 [] (.two 8 [9,10,11] .nil 10 [8,9,11] .nil) 10 [5,8,9,11] .nil) 10 [2,5,8,9,11] .nil) (by kernel_rfl) (by kernel_rfl) ?_
    clear hS
    intro w hS hM
    repeat' (first
      | (show WD _ _ _ _ _ _ _ _ _; first
        | refine WD.nil ?_
        | refine WD.load rfl rfl (LdOk.box (by repeat (first | exact List.Mem.head _ | apply List.Mem.tail)) rfl) rfl rfl rfl rfl ?_
        | (refine WD.indexArr (j := 0) rfl rfl rfl rfl (by decide) rfl rfl rfl rfl ?_)
        | (refine WD.indexArr (j := 1) rfl rfl rfl rfl (by decide) rfl rfl rfl rfl ?_)
        | (refine WD.indexArr (j := 2) rfl rfl rfl rfl (by decide) rfl rfl rfl rfl ?_)
        | (refine WD.fork ?_ ?_)
        | (refine WD.callG rfl rfl (roomy_c t0 (hS.slO (z := ⟨w0, Old w0⟩) (by repeat (first | exact List.Mem.head _ | apply List.Mem.tail)) hT0) (by omega)) rfl rfl rfl rfl rfl ?_; rintro v w ⟨hu, K0, k0, rfl, hk0, hn⟩; have hS := hS.new hu hn; clear hu hn; have hM := hM.new hS; refine ⟨hM.ss hS, ?_⟩)
        | (refine WD.callG rfl rfl (roomy_c t1 (hS.slO (z := ⟨w0, Old w0⟩) (by repeat (first | exact List.Mem.head _ | apply List.Mem.tail)) hT1) (by omega)) rfl rfl rfl rfl rfl ?_; rintro v w ⟨hu, K1, k1, rfl, hk1, hn⟩; have hS := hS.new hu hn; clear hu hn; have hM := hM.new hS; refine ⟨hM.ss hS, ?_⟩)
        | (refine WD.callG rfl rfl (roomy_c t2 (hS.slO (z := ⟨w0, Old w0⟩) (by repeat (first | exact List.Mem.head _ | apply List.Mem.tail)) hT2) (by omega)) rfl rfl rfl rfl rfl ?_; rintro v w ⟨hu, K2, k2, rfl, hk2, hn⟩; have hS := hS.new hu hn; clear hu hn; have hM := hM.new hS; refine ⟨hM.ss hS, ?_⟩)
        | (refine WD.alloc (t := 36) hS hM rfl rfl rfl rfl rfl rfl rfl rfl ?_; clear hS hM; intro w hb hS hM)
        | (refine WD.store hS rfl rfl rfl (by repeat (first | exact StB.here rfl | apply StB.there)) rfl (by repeat (first | exact More.refl _ _ | refine More.chunk ?_ _)) rfl rfl rfl rfl ?_; clear hS hM; intro w hS hM)
        | refine WD.build rfl rfl rfl rfl rfl rfl ?_)
      | (refine WDo.callG rfl rfl (roomy_c t0 (hS.slO (z := ⟨w0, Old w0⟩) (by repeat (first | exact List.Mem.head _ | apply List.Mem.tail)) hT0) (by omega)) rfl rfl rfl rfl ?_; rintro v w ⟨hu, K0, k0, rfl, hk0, hn⟩; have hS := hS.new hu hn; clear hu hn; have hM := hM.new hS; refine ⟨hM.ss hS, ?_⟩)
      | (refine WDo.callG rfl rfl (roomy_c t1 (hS.slO (z := ⟨w0, Old w0⟩) (by repeat (first | exact List.Mem.head _ | apply List.Mem.tail)) hT1) (by omega)) rfl rfl rfl rfl ?_; rintro v w ⟨hu, K1, k1, rfl, hk1, hn⟩; have hS := hS.new hu hn; clear hu hn; have hM := hM.new hS; refine ⟨hM.ss hS, ?_⟩)
      | (refine WDo.callG rfl rfl (roomy_c t2 (hS.slO (z := ⟨w0, Old w0⟩) (by repeat (first | exact List.Mem.head _ | apply List.Mem.tail)) hT2) (by omega)) rfl rfl rfl rfl ?_; rintro v w ⟨hu, K2, k2, rfl, hk2, hn⟩; have hS := hS.new hu hn; clear hu hn; have hM := hM.new hS; refine ⟨hM.ss hS, ?_⟩)
      | (refine WDo.alloc (t := 36) hS hM rfl rfl rfl rfl rfl rfl rfl ?_; clear hS hM; intro w hb hS hM))
    all_goals exact endQ_n (hb, (K0, k0), (K1, k1), (K2, k2)) ⟨⟨hk0, hk1, hk2⟩, hS.droplast2 (by repeat (first | exact Pulls.nil | (apply Pulls.cons; focus (repeat (first | exact Pull.here | apply Pull.there)))))⟩ ⟨rfl, trivial⟩ ⟨rfl, rfl, trivial⟩
  repeat (clear hS)
  rintro ⟨hb, ⟨K0, k0⟩, ⟨K1, k1⟩, ⟨K2, k2⟩⟩ g w ⟨⟨hk0, hk1, hk2⟩, hS⟩
  show WC _ _ _ (lf _ [(5, .pointer (some ⟨hb, 0, none⟩))] _ _) _ _
  obtain ⟨g0, o0, rfl⟩ := hS.own_addr (A := K0) (n := t0.length + 1) (by repeat (first | exact List.Mem.head _ | apply List.Mem.tail)) (by omega)
  obtain ⟨g1, o1, rfl⟩ := hS.own_addr (A := K1) (n := t1.length + 1) (by repeat (first | exact List.Mem.head _ | apply List.Mem.tail)) (by omega)
  obtain ⟨g2, o2, rfl⟩ := hS.own_addr (A := K2) (n := t2.length + 1) (by repeat (first | exact List.Mem.head _ | apply List.Mem.tail)) (by omega)
  clear htr
  repeat' (first
    | (show WL _ _ _ _ _ _ _; first
      | refine WL.pure rfl rfl rfl rfl ?_
      | refine WL.nil ?_
      | refine WL.load hS rfl rfl (LdOk.box (by repeat (first | exact List.Mem.head _ | apply List.Mem.tail)) rfl) rfl rfl rfl ?_
      | refine WL.add rfl rfl rfl (by omega) rfl rfl rfl ?_
      | (refine WL.callL (D := []) hS .nil rfl rfl (fun hI => hr1 _ (hS.slO (z := ⟨w0, Old w0⟩) (by repeat (first | exact List.Mem.head _ | apply List.Mem.tail)) hA) (SlAt.pre (St.ownSl (A := some ⟨g0, o0, none⟩) (n := t0.length + 1) (n' := t0.length + 1) (cap := k0) (sz := 3) (enc := encEnt) (hsz := fun _ => rfl) (l := t0 ++ [spareE]) (by decide) hS (by repeat (first | exact List.Mem.head _ | apply List.Mem.tail)))) (SlAt.pre (St.ownSl (A := some ⟨g1, o1, none⟩) (n := t1.length + 1) (n' := t1.length + 1) (cap := k1) (sz := 3) (enc := encEnt) (hsz := fun _ => rfl) (l := t1 ++ [spareE]) (by decide) hS (by repeat (first | exact List.Mem.head _ | apply List.Mem.tail)))) (SlAt.pre (St.ownSl (A := some ⟨g2, o2, none⟩) (n := t2.length + 1) (n' := t2.length + 1) (cap := k2) (sz := 3) (enc := encEnt) (hsz := fun _ => rfl) (l := t2 ++ [spareE]) (by decide) hS (by repeat (first | exact List.Mem.head _ | apply List.Mem.tail))))) rfl rfl rfl ?_; rintro v w ⟨B0, e0, B1, e1, B2, e2, AR, cr, AD, cd, AS, cs, ps, fp, rfl, hps, hmu⟩ hS; replace hS := hS _ hmu; clear hmu hr1)
      | (refine WL.callG rfl rfl (hr2 _ (fun k h => Nat.lt_of_lt_of_le h hS.upd.size) (hS.sl (z := ⟨w0, Old w0⟩) (by repeat (first | exact List.Mem.head _ | apply List.Mem.tail)) hA) (hS.sl (z := ⟨w0, Old w0⟩) (by repeat (first | exact List.Mem.head _ | apply List.Mem.tail)) hT0) (hS.sl (z := ⟨w0, Old w0⟩) (by repeat (first | exact List.Mem.head _ | apply List.Mem.tail)) hT1) (hS.sl (z := ⟨w0, Old w0⟩) (by repeat (first | exact List.Mem.head _ | apply List.Mem.tail)) hT2)) rfl rfl rfl ?_; rintro v wq ⟨hu, G, C0, d0, C1, d1, C2, d2, XR, xr, XD, xd, XS, xs, rfl, hG, hC0, hC1, hC2, hCR, hCD, hCS⟩; replace hS := hS.addSnap (F := Old w0) (wz := w0) (by repeat (first | exact List.Mem.head _ | apply List.Mem.tail)) hu hG; clear hu hG hr2)
      | (refine WL.alloc (t := 41) hS rfl rfl rfl rfl rfl rfl ?_; intro w qb hS)
      | (refine WL.calls hS rfl rfl (hsm _ (hps ▸ hS.cfsSl (ps := ps) (fp := fp) (by repeat (first | exact List.Mem.head _ | apply List.Mem.tail)) (by repeat (first | exact List.Mem.head _ | apply List.Mem.tail))) (hS.slO (z := ⟨wq, G⟩) (by repeat (first | exact List.Mem.head _ | apply List.Mem.tail)) hCR)) rfl rfl rfl ?_; rintro v w rfl hS)
      | (refine WL.calls hS rfl rfl (same_c done done (St.ownSl (A := AD) (n := done.length) (n' := done.length) (cap := cd) (sz := 1) (enc := fun s => [str s]) (hsz := fun _ => rfl) (l := done) (by decide) hS (by repeat (first | exact List.Mem.head _ | apply List.Mem.tail))) (hS.slO (z := ⟨wq, G⟩) (by repeat (first | exact List.Mem.head _ | apply List.Mem.tail)) hCD) (by omega)) rfl rfl rfl ?_; rintro v w rfl hS; rw [decide_eq_true rfl])
      | (refine WL.calls hS rfl rfl (same_c stale stale (St.ownSl (A := AS) (n := stale.length) (n' := stale.length) (cap := cs) (sz := 1) (enc := fun s => [str s]) (hsz := fun _ => rfl) (l := stale) (by decide) hS (by repeat (first | exact List.Mem.head _ | apply List.Mem.tail))) (hS.slO (z := ⟨wq, G⟩) (by repeat (first | exact List.Mem.head _ | apply List.Mem.tail)) hCS) (by omega)) rfl rfl rfl ?_; rintro v w rfl hS; rw [decide_eq_true rfl])
      | (refine WL.indexArr (j := 0) rfl rfl rfl rfl (by decide) rfl rfl rfl ?_)
      | (refine WL.indexArr (j := 1) rfl rfl rfl rfl (by decide) rfl rfl rfl ?_)
      | (refine WL.indexArr (j := 2) rfl rfl rfl rfl (by decide) rfl rfl rfl ?_)
      | (refine WL.slit (t := 33) hS rfl rfl rfl rfl rfl ?_; intro w rb hS; replace hS := hS.boxRow (n := 6) (size := 1) .here rfl (by decide))
      | (refine WL.store hS rfl rfl rfl (by repeat (first | exact StB.here rfl | apply StB.there)) rfl rfl rfl ?_; intro w hS)
      | (refine WL.alloc hS rfl rfl rfl rfl rfl rfl ?_; intro w b hS))
    | (show WC _ _ _ _ _ _; first
      | refine WC.seq ?_
      | refine WC.region ?_
      | refine WC.block ?_
      | refine WC.skip ?_
      | refine WC.exit ?_
      | (show WC _ _ (Code.loop (Code.seq (Code.seq (Code.region 7 _ _) _) _)) _ _ _; refine WC.rounds 4 ?_)
      | (show WC _ _ (Code.region _ (List.toArray [_, _, _, _, _, _, _, _, _, _, _, _, _, _, _, _, _, _, _, _]) true) _ _ _; refine WC.drawS hS [0,1,2,3,4,5,6,7,9,10,11,12,13,14,15,16,18,19] [0,1,2,3,4,5,6,7,8,9,10,11,12,13,14,15,16,17,18,19] (by kernel_rfl) (by kernel_rfl) ?_; clear hS; intro w hS hM)
      | refine WC.condT rfl (by decide) ?_
      | refine WC.condF rfl (by decide) ?_)
    | (show WD _ _ _ _ _ _ _ _ _; first
      | refine WD.pure rfl rfl rfl rfl rfl ?_
      | refine WD.nil ?_
      | refine WD.load rfl rfl (LdOk.box (by repeat (first | exact List.Mem.head _ | apply List.Mem.tail)) rfl) rfl rfl rfl rfl ?_
      | (refine WD.indexArr (j := 0) rfl rfl rfl rfl (by decide) rfl rfl rfl rfl ?_)
      | (refine WD.indexArr (j := 1) rfl rfl rfl rfl (by decide) rfl rfl rfl rfl ?_)
      | (refine WD.indexArr (j := 2) rfl rfl rfl rfl (by decide) rfl rfl rfl rfl ?_)
      | (refine WD.calls hS hM rfl rfl (rsameD_c u0 u0 (St.ownSl (A := B0) (n := u0.length) (n' := u0.length) (cap := e0) (sz := 3) (enc := encEnt) (hsz := fun _ => rfl) (l := u0) (by decide) hS (by repeat (first | exact List.Mem.head _ | apply List.Mem.tail))) (hS.slO (z := ⟨wq, G⟩) (by repeat (first | exact List.Mem.head _ | apply List.Mem.tail)) hC0) (by omega) (by omega)) rfl rfl rfl rfl rfl ?_; clear hS; rintro v w rfl hS; rw [decide_eq_true rfl])
      | (refine WD.calls hS hM rfl rfl (held_c t0 (St.ownSl (A := some ⟨g0, o0, none⟩) (n := t0.length + 1) (n' := t0.length + 1) (cap := k0) (sz := 3) (enc := encEnt) (hsz := fun _ => rfl) (l := t0 ++ [spareE]) (by decide) hS (by repeat (first | exact List.Mem.head _ | apply List.Mem.tail))) (hS.slO (z := ⟨w0, Old w0⟩) (by repeat (first | exact List.Mem.head _ | apply List.Mem.tail)) hT0) (by omega) (by omega)) rfl rfl rfl rfl rfl ?_; clear hS; rintro v w rfl hS)
      | (refine WD.calls hS hM rfl rfl (rsameD_c u1 u1 (St.ownSl (A := B1) (n := u1.length) (n' := u1.length) (cap := e1) (sz := 3) (enc := encEnt) (hsz := fun _ => rfl) (l := u1) (by decide) hS (by repeat (first | exact List.Mem.head _ | apply List.Mem.tail))) (hS.slO (z := ⟨wq, G⟩) (by repeat (first | exact List.Mem.head _ | apply List.Mem.tail)) hC1) (by omega) (by omega)) rfl rfl rfl rfl rfl ?_; clear hS; rintro v w rfl hS; rw [decide_eq_true rfl])
      | (refine WD.calls hS hM rfl rfl (held_c t1 (St.ownSl (A := some ⟨g1, o1, none⟩) (n := t1.length + 1) (n' := t1.length + 1) (cap := k1) (sz := 3) (enc := encEnt) (hsz := fun _ => rfl) (l := t1 ++ [spareE]) (by decide) hS (by repeat (first | exact List.Mem.head _ | apply List.Mem.tail))) (hS.slO (z := ⟨w0, Old w0⟩) (by repeat (first | exact List.Mem.head _ | apply List.Mem.tail)) hT1) (by omega) (by omega)) rfl rfl rfl rfl rfl ?_; clear hS; rintro v w rfl hS)
      | (refine WD.calls hS hM rfl rfl (rsameD_c u2 u2 (St.ownSl (A := B2) (n := u2.length) (n' := u2.length) (cap := e2) (sz := 3) (enc := encEnt) (hsz := fun _ => rfl) (l := u2) (by decide) hS (by repeat (first | exact List.Mem.head _ | apply List.Mem.tail))) (hS.slO (z := ⟨wq, G⟩) (by repeat (first | exact List.Mem.head _ | apply List.Mem.tail)) hC2) (by omega) (by omega)) rfl rfl rfl rfl rfl ?_; clear hS; rintro v w rfl hS; rw [decide_eq_true rfl])
      | (refine WD.calls hS hM rfl rfl (held_c t2 (St.ownSl (A := some ⟨g2, o2, none⟩) (n := t2.length + 1) (n' := t2.length + 1) (cap := k2) (sz := 3) (enc := encEnt) (hsz := fun _ => rfl) (l := t2 ++ [spareE]) (by decide) hS (by repeat (first | exact List.Mem.head _ | apply List.Mem.tail))) (hS.slO (z := ⟨w0, Old w0⟩) (by repeat (first | exact List.Mem.head _ | apply List.Mem.tail)) hT2) (by omega) (by omega)) rfl rfl rfl rfl rfl ?_; clear hS; rintro v w rfl hS))
    | refine seqQ_n ?_
    | refine blkQ_n ?_
    | refine seqQ_x ?_
    | refine blkQ_hit rfl ?_
    | refine rdQ_n ?_
    | refine rdQ_x ?_)
  obtain ⟨z6, hz6⟩ : ∃ z : List (Rw × List Ent), z = [((⟨B0, u0.length, e0⟩ : Rw), u0), (⟨B1, u1.length, e1⟩, u1), (⟨B2, u2.length, e2⟩, u2), (⟨some ⟨g0, o0, none⟩, t0.length, k0⟩, t0), (⟨some ⟨g1, o1, none⟩, t1.length, k1⟩, t1), (⟨some ⟨g2, o2, none⟩, t2.length, k2⟩, t2)] := ⟨_, rfl⟩
  have h60 : ([.slice B0 u0.length e0, .slice B1 u1.length e1, .slice B2 u2.length e2, .slice (some ⟨g0, o0, none⟩) t0.length k0, .slice (some ⟨g1, o1, none⟩) t1.length k1, .slice (some ⟨g2, o2, none⟩) t2.length k2] : List Value) = ((zsO z6 (ps.take 0)).map Prod.fst).flatMap encRw := by rw [hz6]; rfl
  replace hS := hS.droplast2 (D := [.own (.slice (some ⟨rb, 0, none⟩) 6 6) 23 1 6 [.slice B0 u0.length e0, .slice B1 u1.length e1, .slice B2 u2.length e2, .slice (some ⟨g0, o0, none⟩) t0.length k0, .slice (some ⟨g1, o1, none⟩) t1.length k1, .slice (some ⟨g2, o2, none⟩) t2.length k2], .box qb 41 [.slice B0 u0.length e0, .slice B1 u1.length e1, .slice B2 u2.length e2, .slice AR rest.length cr, .slice AD done.length cd, .slice AS stale.length cs], eC B0 e0 u0, eC B1 e1 u1, eC B2 e2 u2, cC AR cr ps rest.length, innF ps fp, roC (some ⟨g0, o0, none⟩) k0 t0, roC (some ⟨g1, o1, none⟩) k1 t1, roC (some ⟨g2, o2, none⟩) k2 t2]) (by repeat (first | exact Pulls.nil | (apply Pulls.cons; focus (repeat (first | exact Pull.here | apply Pull.there)))))
  rw [h60] at hS
  have hpal : ps.length = rest.length := by rw [← hps, List.length_map]
  refine WC.loop (σ := Nat × Option Addr × Nat) [6] (fun (i, OL, ol) => [(9, .slice OL (6 + 2 * i) ol), (10, .int .i64 (i : Int))])
    (fun (i, OL, ol) w => (i ≤ rest.length ∧ i ≤ 4) ∧ St w0 [] w [.own (.slice OL (6 + 2 * i) ol) 23 1 (6 + 2 * i) (((zsO z6 (ps.take i)).map Prod.fst).flatMap encRw), .box qb 41 [.slice B0 u0.length e0, .slice B1 u1.length e1, .slice B2 u2.length e2, .slice AR rest.length cr, .slice AD done.length cd, .slice AS stale.length cs], eC B0 e0 u0, eC B1 e1 u1, eC B2 e2 u2, cC AR cr ps rest.length, innF ps fp, roC (some ⟨g0, o0, none⟩) k0 t0, roC (some ⟨g1, o1, none⟩) k1 t1, roC (some ⟨g2, o2, none⟩) k2 t2] [⟨wq, G⟩, ⟨w0, Old w0⟩]) (fun (i, _) => rest.length - i) (0, some ⟨rb, 0, none⟩, 6)
    ⟨⟨Nat.zero_le _, Nat.zero_le _⟩, hS⟩ ⟨rfl, rfl, trivial⟩ ?_
  repeat (clear hS)
  clear h60 hC0 hC1 hC2 hCR hCD hCS hsm
  rintro ⟨i, OL, ol⟩ g w ⟨⟨hi, hi4⟩, hS⟩
  show WC _ _ _ (lf _ [(9, .slice OL (6 + 2 * i) ol), (10, .int .i64 (i : Int))] _ _) _ _
  by_cases hlt : i < rest.length ∧ i < 4
  · obtain ⟨hlt, hl4⟩ := hlt
    obtain ⟨og, oo, rfl⟩ := hS.own_addr (A := AR) (n := rest.length) (by repeat (first | exact List.Mem.head _ | apply List.Mem.tail)) (by omega)
    have hq1 := cps_at (ps := ps) (i := i) (by omega) (k := 1) (by decide)
    have hq2 := cps_at (ps := ps) (i := i) (by omega) (k := 2) (by decide)
    have hzs := zsO_snoc z6 (ps.take i) (ps[i]'(by omega))
    rw [← List.take_succ_eq_append_getElem (show i < ps.length by omega)] at hzs
    generalize ps[i]'(by omega) = q at *
    obtain ⟨⟨qp, qh, qsd, qm, qt, qc, qg⟩, QA, ya, QB, yb⟩ := q
    unfold encCp at hq1 hq2
    dsimp only at hq1 hq2 hzs
    replace hq1 : (cps ps)[i * 7 + 1]? = some (.slice QA qh.length ya) := hq1
    replace hq2 : (cps ps)[i * 7 + 2]? = some (.slice QB qsd.length yb) := hq2
    have h62 : 6 + 2 * i + 2 = 6 + 2 * (i + 1) := by omega
    clear hrest hps hz6
    repeat' (first
      | (show WL _ _ _ _ _ _ _; first
        | refine WL.pure rfl rfl rfl rfl ?_
        | refine WL.nil ?_
        | refine WL.load hS rfl rfl (LdOk.box (by repeat (first | exact List.Mem.head _ | apply List.Mem.tail)) rfl) rfl rfl rfl ?_
        | refine WL.add rfl rfl rfl (by omega) rfl rfl rfl ?_
        | ((fail_if_success (refine WL.wanted rfl ?_)); refine WL.guard rfl rfl rfl (fun h => ?_) (fun h => ?_) <;> (try simp only [Classical.not_not, Bool.not_eq_true', Bool.not_eq_false', Bool.not_eq_eq_eq_not, Bool.not_true, Bool.not_false, beq_iff_eq, beq_eq_false_iff_ne, ne_eq, decide_eq_decide, decide_eq_true_eq, decide_eq_false_iff_not, Bool.and_eq_true, Bool.or_eq_true, Bool.and_eq_false_iff, Bool.or_eq_false_iff] at h) <;> (try (exfalso; first | omega | contradiction))))
      | (show WC _ _ _ _ _ _; first
        | refine WC.seq ?_
        | refine WC.region ?_
        | refine WC.block ?_
        | refine WC.skip ?_
        | (show WC _ _ (Code.region _ (List.toArray [_, _, _, _, _, _, _, _, _, _, _, _, _, _, _, _]) true) _ _ _; refine WC.drawL [.own (.slice OL (6 + 2 * i) ol) 23 1 (6 + 2 * i) (((zsO z6 (ps.take i)).map Prod.fst).flatMap encRw)] hS (by repeat (first | exact Pulls.nil | (apply Pulls.cons; focus (repeat (first | exact Pull.here | apply Pull.there))))) [0,1,2,3,4,5,6,7,8,9,10,11,12,15] [0,1,2,3,4,5,6,7,8,9,10,11,12,13,14,15] (by kernel_rfl) (by kernel_rfl) ?_; clear hS; intro w hS hM)
        | refine WC.condT rfl (decide_eq_true (by first | with_reducible assumption | omega)) ?_)
      | (show WD _ _ _ _ _ _ _ _ _; first
        | refine WD.pure rfl rfl rfl rfl rfl ?_
        | refine WD.nil ?_
        | refine WD.load rfl rfl (LdOk.box (by repeat (first | exact List.Mem.head _ | apply List.Mem.tail)) rfl) rfl rfl rfl rfl ?_
        | (refine WD.load rfl rfl (LdOk.ownAt (off := i * 7 + 1) (by repeat (first | exact List.Mem.head _ | apply List.Mem.tail)) rfl ⟨_, rfl⟩ hq1 rfl) rfl rfl rfl rfl ?_)
        | (refine WD.load rfl rfl (LdOk.ownAt (off := i * 7 + 2) (by repeat (first | exact List.Mem.head _ | apply List.Mem.tail)) rfl ⟨_, rfl⟩ hq2 rfl) rfl rfl rfl rfl ?_)
        | (refine WD.slit (t := 33) hS hM rfl rfl rfl rfl rfl rfl rfl ?_; clear hS hM; intro w xb hS hM)
        | (refine WD.app (size := 1) hS (by repeat (first | exact Pull.here | apply Pull.there)) (by repeat (first | exact More.refl _ _ | refine More.chunk ?_ _)) rfl rfl rfl rfl (RdOk.box (by repeat (first | exact List.Mem.head _ | apply List.Mem.tail))) rfl rfl (by omega) rfl rfl rfl rfl rfl ?_; clear hS hM; intro A6 c6 w hS hM)
        | refine WD.index rfl rfl rfl rfl (by first | with_reducible assumption | omega) rfl rfl rfl rfl rfl ?_)
      | refine seqQ_n ?_
      | refine blkQ_n ?_)
    replace hS := hS.droplast2 (D := [.own (.slice A6 (6 + 2 * i + 2) c6) 23 1 (6 + 2 * i + 2) (((zsO z6 (ps.take i)).map Prod.fst).flatMap encRw ++ [.slice QA qh.length ya, .slice QB qsd.length yb]), .box qb 41 [.slice B0 u0.length e0, .slice B1 u1.length e1, .slice B2 u2.length e2, .slice (some ⟨og, oo, none⟩) rest.length cr, .slice AD done.length cd, .slice AS stale.length cs], eC B0 e0 u0, eC B1 e1 u1, eC B2 e2 u2, cC (some ⟨og, oo, none⟩) cr ps rest.length, innF ps fp, roC (some ⟨g0, o0, none⟩) k0 t0, roC (some ⟨g1, o1, none⟩) k1 t1, roC (some ⟨g2, o2, none⟩) k2 t2]) (by repeat (first | exact Pulls.nil | (apply Pulls.cons; focus (repeat (first | exact Pull.here | apply Pull.there)))))
    rw [← hzs, h62] at hS
    exact rndQ_n (i + 1, A6, c6) ⟨⟨by omega, by omega⟩, hS⟩ (by show rest.length - (i + 1) < rest.length - i; omega) ⟨rfl, vint (by omega), trivial⟩ ⟨rfl, trivial⟩
  have hge : rest.length ≤ i ∨ (i < rest.length ∧ 4 ≤ i) := by omega
  have hlen : ((zsO z6 (ps.take i)).map Prod.fst).length = 6 + 2 * i := by
    rw [List.length_map, zsO_len, hz6, List.length_take, Nat.min_eq_left (by omega)]
    rfl
  have hzl : ∀ z ∈ zsO z6 (ps.take i), z.2.length = z.1.n := fun z hz => by
    rcases List.mem_append.1 hz with hz | hz
    · rw [hz6] at hz
      simp only [List.mem_cons, List.not_mem_nil, or_false] at hz
      rcases hz with rfl | rfl | rfl | rfl | rfl | rfl <;> rfl
    · obtain ⟨q, hq, hz⟩ := List.mem_flatMap.1 hz
      simp only [List.mem_cons, List.not_mem_nil, or_false] at hz
      rcases hz with rfl | rfl <;> rfl
  have hzr : ∀ r ∈ (zsO z6 (ps.take i)).map Prod.fst, r.n ≤ 1048576 := fun r hr => by
    obtain ⟨z, hz, rfl⟩ := List.mem_map.1 hr
    rcases List.mem_append.1 hz with hz | hz
    · rw [hz6] at hz
      simp only [List.mem_cons, List.not_mem_nil, or_false] at hz
      rcases hz with rfl | rfl | rfl | rfl | rfl | rfl <;> (dsimp only; omega)
    · obtain ⟨q, hq, hz⟩ := List.mem_flatMap.1 hz
      have hqa : q.c ∈ rest := by rw [← hps]; exact List.mem_map.2 ⟨q, List.mem_of_mem_take hq, rfl⟩
      simp only [List.mem_cons, List.not_mem_nil, or_false] at hz
      rcases hz with rfl | rfl
      · exact (hrest _ hqa).1
      · exact (hrest _ hqa).2
  have hap := fun (w : World) (hi : InL w (Chunk.own (.slice OL ((zsO z6 (ps.take i)).map Prod.fst).length ol) 23 1 ((zsO z6 (ps.take i)).map Prod.fst).length (((zsO z6 (ps.take i)).map Prod.fst).flatMap encRw) :: (zsO z6 (ps.take i)).map fun z => ownRw encEnt 53 3 z.1 z.2)) => rapart_c ((zsO z6 (ps.take i)).map Prod.fst) ((zsO z6 (ps.take i)).map fun z => ownRw encEnt 53 3 z.1 z.2) (OA := OL) (oc := ol) hi (mark_zs mE hzl) (by rw [hlen]; omega) hzr
  rw [hlen] at hap
  replace hS := (((hS.ropLow (g := g0) (o := o0) (c := k0) (t := t0) (by repeat (first | exact Repl.here | apply Repl.there))).ropLow (g := g1) (o := o1) (c := k1) (t := t1) (by repeat (first | exact Repl.here | apply Repl.there))).ropLow (g := g2) (o := o2) (c := k2) (t := t2) (by repeat (first | exact Repl.here | apply Repl.there))).droplast2 (D := [innF ps fp, .box qb 41 [.slice B0 u0.length e0, .slice B1 u1.length e1, .slice B2 u2.length e2, .slice AR rest.length cr, .slice AD done.length cd, .slice AS stale.length cs], .own (.slice OL (6 + 2 * i) ol) 23 1 (6 + 2 * i) (((zsO z6 (ps.take i)).map Prod.fst).flatMap encRw), eC B0 e0 u0, eC B1 e1 u1, eC B2 e2 u2, eC (some ⟨g0, o0, none⟩) k0 t0, eC (some ⟨g1, o1, none⟩) k1 t1, eC (some ⟨g2, o2, none⟩) k2 t2]) (by repeat (first | exact Pulls.nil | (apply Pulls.cons; focus (repeat (first | exact Pull.here | apply Pull.there)))))
  have hpm : ∀ (X : Chunk) (S : List Chunk), (ps.flatMap inF ++ (X :: S)).Perm ((X :: (S ++ (ps.take i).flatMap inF)) ++ (ps.drop i).flatMap inF) := fun X S => by
    rw [inF_take ps i]
    refine List.perm_append_comm.trans ?_
    show (X :: (S ++ ((ps.take i).flatMap inF ++ (ps.drop i).flatMap inF))).Perm (X :: ((S ++ (ps.take i).flatMap inF) ++ (ps.drop i).flatMap inF))
    rw [List.append_assoc]
  have hzc : (zsO z6 (ps.take i)).map (fun z => ownRw encEnt 53 3 z.1 z.2) = [eC B0 e0 u0, eC B1 e1 u1, eC B2 e2 u2, eC (some ⟨g0, o0, none⟩) k0 t0, eC (some ⟨g1, o1, none⟩) k1 t1, eC (some ⟨g2, o2, none⟩) k2 t2] ++ (ps.take i).flatMap inF := by rw [zsO_chunks, hz6]; rfl
  rw [hzc] at hap
  obtain ⟨D1, hD1, _, hS1⟩ := hS.objOpen
  subst hD1
  replace hS := hS1.perm (List.perm_middle.trans ((hpm (.own (.slice OL (6 + 2 * i) ol) 23 1 (6 + 2 * i) (((zsO z6 (ps.take i)).map Prod.fst).flatMap encRw)) [eC B0 e0 u0, eC B1 e1 u1, eC B2 e2 u2, eC (some ⟨g0, o0, none⟩) k0 t0, eC (some ⟨g1, o1, none⟩) k1 t1, eC (some ⟨g2, o2, none⟩) k2 t2]).cons _))
  clear hS1 hpm hlt hzl hzr hlen hz6 hzc hrest hps
  rcases hge with h1 | ⟨h1, h2⟩
  all_goals
    repeat' (first
      | (show WL _ _ _ _ _ _ _; first
        | refine WL.pure rfl rfl rfl rfl ?_
        | refine WL.nil ?_
        | refine WL.load hS rfl rfl (LdOk.box (by repeat (first | exact List.Mem.head _ | apply List.Mem.tail)) rfl) rfl rfl rfl ?_
        | (refine WL.callL (D := .own (.slice OL (6 + 2 * i) ol) 23 1 (6 + 2 * i) (((zsO z6 (ps.take i)).map Prod.fst).flatMap encRw) :: ([eC B0 e0 u0, eC B1 e1 u1, eC B2 e2 u2, eC (some ⟨g0, o0, none⟩) k0 t0, eC (some ⟨g1, o1, none⟩) k1 t1, eC (some ⟨g2, o2, none⟩) k2 t2] ++ (ps.take i).flatMap inF)) hS (pulls_skip (pulls_pre _ _)) rfl rfl (fun hI => hap _ hI) rfl rfl rfl ?_; rintro v w ⟨rfl, hmu⟩ hS; replace hS := hS _ hmu; clear hmu)
        | refine WL.skip rfl rfl rfl ?_
        | ((fail_if_success (refine WL.wanted rfl ?_)); refine WL.guard rfl rfl rfl (fun h => ?_) (fun h => ?_) <;> (try simp only [Classical.not_not, Bool.not_eq_true', Bool.not_eq_false', Bool.not_eq_eq_eq_not, Bool.not_true, Bool.not_false, beq_iff_eq, beq_eq_false_iff_ne, ne_eq, decide_eq_decide, decide_eq_true_eq, decide_eq_false_iff_not, Bool.and_eq_true, Bool.or_eq_true, Bool.and_eq_false_iff, Bool.or_eq_false_iff] at h) <;> (try (exfalso; first | omega | contradiction))))
      | (show WC _ _ _ _ _ _; first
        | refine WC.seq ?_
        | refine WC.region ?_
        | refine WC.exit ?_
        | refine WC.ret ?_
        | refine WC.condF rfl (by with_reducible rfl) ?_
        | refine WC.condF rfl (decide_eq_false (by first | with_reducible assumption | omega)) ?_)
      | refine seqQ_n ?_
      | refine seqQ_x ?_
      | refine blkQ_hit rfl ?_
      | refine rndQ_x ?_)
    exact fin1r rfl rfl ⟨hS.upd, rfl⟩
end Go.Proofs.YtniacmoniaaolaaDoor

/- What is proved: the key of SessionResolves: the law answers true. Conditions: the statement's own bound on the bulk. -/
set_option linter.unusedSimpArgs false
set_option linter.unusedVariables false
namespace Go.Proofs.YtniacmoniaaolaaDoor
open Go Go.J Go.RowKit
theorem sessionResolves.key_sessionResolves (W : World) (v0 v1 : Value) (y0 : List Cf) (y1 : T3) (b0 b1 : Nat) (h0 : ASl cCf W v0 y0) (h1 : AAgg cT3 W v1 y1) (q0 : QL QCf y0 b0) (q1 : QT3 y1 b1) (hb : b0 + b1 ≤ 1048576) :
    Cal Tryd.prog 4 [v0, v1] W (fun v W' => Upd [] W W' ∧ v = .bool true) := by
  obtain ⟨A0, c0, rfl, k0, h0⟩ := h0
  obtain ⟨cs, rfl, B0, e0, B1, e1, B2, e2, rfl, hcap, g0, g1, g2⟩ := h1
  obtain ⟨z1, z2⟩ := cfs_fit q0 (by omega)
  obtain ⟨x0, x1, x2, r0, r1, r2, hx⟩ := q1
  exact sessionResolves_c y0 y1.a y1.b y1.c h0 (by omega) (fun c hc => (z1 c hc).1) g0 g1 g2 (fit_of r0 (by omega)) (fit_of r1 (by omega)) (fit_of r2 (by omega)) hcap
end Go.Proofs.YtniacmoniaaolaaDoor
