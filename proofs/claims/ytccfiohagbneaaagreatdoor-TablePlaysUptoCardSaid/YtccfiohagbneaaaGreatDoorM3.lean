/- What is proved: contracts and plain facts that the law leans on (texts put together). Conditions: as each names them. -/
import Derived.Test.YtccfiohagbneaaaGreatDoorM2
import Derived.Lib.AppendStr
import Derived.Test.YtccfiohagbneaaaGreatDoorRows
import Derived.ProofKit
import Derived.ChangeSame
import Derived.OpenShut
import Derived.Deep.Slices
import Derived.JoinedCond
import Derived.Lib.Bytealg
set_option linter.unusedSimpArgs false
set_option linter.unusedVariables false
set_option linter.unusedSectionVars false
/- What is proved: the walk's rule for a text's bytes put behind a row of bytes of the call's own. Conditions: as the rule names them. -/
namespace Go.J
open Go Go.RowKit
section
variable {P : Program} {N : Fz} {f : Fr} {w w0 : World} {Q : Post} {ops l : List Oper} {o : Oper} {M : List Nat} {H H' : List Chunk} {Z : List Snap} {ρ : Operand → Value}
abbrev ZL (w0 : World) (D : List Chunk) : List Snap := [⟨w0, fun b => b < w0.heap.size ∧ b ∉ fps D⟩]
theorem strCells_mk (s : List UInt8) : Lib.strCells ⟨⟨s⟩⟩ = byteC s := rfl
theorem run_appStr_off (t u ty e : TypeId) (i : TypeInfo) (ht : P.underlying t = some (.slice e)) (hu : P.underlying u = some .string) (hi : P.info? e = some i) (hs1 : i.size = 1)
    (g off sLen sCap : Nat) (cur : List Value) (hg : w.heap[g]? = some (.cells ⟨cur⟩ e (0, 0))) (s : List UInt8) (hroom : sLen + s.length ≤ sCap) (hfit : off + sLen + s.length ≤ cur.length) :
    (Builtin.append_ #[t, u] ty #[.slice (some ⟨g, off, none⟩) sLen sCap, str s]).run P w =
      .ok (.slice (some ⟨g, off, none⟩) (sLen + s.length) sCap) (w.setRow g ⟨cur.take (off + sLen) ++ byteC s ++ cur.drop (off + sLen + s.length)⟩) := by
  have hf := Lib.run_firstCells_string (P := P) w 1 ⟨⟨s⟩⟩
  have hst := run_storeCells_at P g (off + sLen) e (byteC s) 0 ⟨cur⟩ w hg (by simpa [byteC_len] using hfit) (Lib.strCells_oneCell ⟨⟨s⟩⟩)
  rw [strCells_mk, size_mk] at hf
  simp only [Nat.add_zero, byteC_len] at hst
  simp [Builtin.append_, run_underlying ht, run_underlying hu, sizeOf, typeInfo, hi, hs1, Builtin.lenOf, size_mk, hroom, hf, Addr.add_mid, hst]
theorem run_appStr {s x : Operand} {t u e : TypeId} {n cap : Nat} {A : Option Addr} {xs : List Value} {r : List UInt8} (ho : o.op = .call ⟨.builtin .append, ⟨[s, x]⟩, ⟨[t, u]⟩⟩) (hi : appOf P t = some (e, 1, 1)) (hu : isStr P u = true)
    (hs : ρ s = .slice A n cap) (hx : ρ x = str r) (hown : RowAt w e 1 (.slice A n cap) n xs) (hb : n + r.length ≤ 140737488355328) :
    ∃ A' cap' w', (execOp ρ o).run P w = .ok (.value (.slice A' (n + r.length) cap')) w' ∧ RowAt w' e 1 (.slice A' (n + r.length) cap') (n + r.length) (xs ++ byteC r) ∧ Upd (Value.slice A n cap).ownBlock.toList w w' ∧ (∀ g, (Value.slice A' (n + r.length) cap').ownBlock = some g → (Value.slice A n cap).ownBlock = some g ∨ (w.heap.size ≤ g ∧ g < w'.heap.size)) ∧ ((A = none ∨ cap ≠ 0) → (A' = none ∨ cap' ≠ 0)) := by
  obtain ⟨i, z, ht, hinfo, hz, h1s, h1b, hzs, _, _⟩ := appOf_spec hi
  have hu := isStr_eq hu
  have hmx : n + r.length ≤ maxLen := by unfold maxLen; omega
  have hxl : xs.length = n := by simpa using hown.1
  have hlen : (xs ++ byteC r).length = (n + r.length) * 1 := by rw [List.length_append, hxl, byteC_len, Nat.mul_one]
  have run : ∀ v' w', (Builtin.append_ #[t, u] o.type #[.slice A n cap, str r]).run P w = .ok v' w' → (execOp ρ o).run P w = .ok (.value v') w' := fun v' w' hr => by
    unfold execOp
    simp only [ho, resolve, invoke, builtin, Sem.run_bind, Sem.run_pure, Result.andThen_ok, List.map_toArray, List.map_cons, List.map_nil, hs, hx, hr]
  have grown : ∀ old, old < n + r.length → RowAt (w.drew.alloc (.cells (xs.toArray ++ (byteC r).toArray ++ Builtin.zeroCells z.cells (grownCap w (n + r.length) old e - (n + r.length))) e)) e 1
        (.slice (some ⟨w.heap.size, 0, none⟩) (n + r.length) (grownCap w (n + r.length) old e)) (n + r.length) (xs ++ byteC r) := by
    intro old ho
    have hge := grownCap_ge w (n + r.length) old e
    have hcm : grownCap w (n + r.length) old e ≤ maxLen := grownCap_le_maxLen w (n + r.length) old e hmx
    refine ⟨hlen, .inr ⟨w.heap.size, 0, _, (xs.toArray ++ (byteC r).toArray ++ Builtin.zeroCells z.cells (grownCap w (n + r.length) old e - (n + r.length))).toList, rfl, heap_alloc_new w.drew _, hge, hcm, ?_, ?_⟩⟩
    · simp only [Array.length_toList, Array.size_append, List.size_toArray, size_zeroCells, hzs, hxl, byteC_len, Nat.zero_add, Nat.mul_one]
      omega
    · simp only [Array.toList_append, List.append_assoc, List.drop_zero]
      rw [← List.append_assoc, ← hlen]
      exact List.take_left
  have hup : ∀ (fp : List Nat) (ob : Obj), Upd fp w (w.drew.alloc ob) := fun fp ob => (Upd.drew fp w).trans (.alloc _ _ _)
  have hnew : ∀ ob : Obj, ∀ g, (Value.slice (some ⟨w.heap.size, 0, none⟩) (n + r.length) 0).ownBlock = some g → w.heap.size ≤ g ∧ g < (w.drew.alloc ob).heap.size := fun ob g hg => by
    simp only [Value.ownBlock, Option.some.injEq] at hg
    subst hg
    simp
  rcases hown.2 with ⟨h2, rfl⟩ | ⟨g, og, cap0, cur, h2, hgg, hnc, hcm, hcs, htake⟩
  · simp only [Value.slice.injEq] at h2
    obtain ⟨rfl, _, rfl⟩ := h2
    have hx0 : xs = [] := List.eq_nil_of_length_eq_zero hxl
    subst hx0
    by_cases hm : r = []
    · subst hm
      refine ⟨none, 0, w, run _ _ ?_, ⟨by simp [byteC], .inl ⟨rfl, rfl⟩⟩, .refl _ _, fun g hg => by simp [Value.ownBlock] at hg, fun _ => .inl rfl⟩
      have hf := Lib.run_firstCells_string (P := P) w 1 ⟨⟨[]⟩⟩
      rw [strCells_mk, size_mk] at hf
      simp only [List.length_nil] at hf
      simp [Builtin.append_, run_underlying ht, run_underlying hu, sizeOf, typeInfo, hinfo, h1s, Builtin.lenOf, size_mk, hf]
    · have hr0 : 0 < r.length := List.length_pos_iff.2 hm
      have hr := run_append_nil_string (P := P) w t u o.type e i z ht hu hinfo hz ⟨⟨r⟩⟩ (by rw [size_mk]; omega) (by rw [size_mk]; omega) (by rw [h1b, size_mk]; omega)
      have hgr := grown 0 (by omega)
      rw [size_mk] at hr
      simp only [Nat.zero_add, List.nil_append, Array.empty_append] at hgr ⊢
      have e1 : ((⟨⟨r⟩⟩ : ByteArray).data.map fun b => Value.int .u8 b.toNat) = (byteC r).toArray := by
        apply Array.ext'
        simp [byteC]
      rw [e1] at hr
      have hge := grownCap_ge w r.length 0 e
      exact ⟨_, _, _, run _ _ hr, hgr, hup _ _, fun g hg => .inr (hnew _ g hg), fun _ => .inr (by omega)⟩
  · simp only [Value.slice.injEq] at h2
    obtain ⟨rfl, _, rfl⟩ := h2
    by_cases hroom : n + r.length ≤ cap
    · have hfit : og + n + r.length ≤ cur.length := by omega
      have hr := run_appStr_off (P := P) t u o.type e i ht hu hinfo h1s g og n cap cur hgg r hroom hfit
      refine ⟨_, _, _, run _ _ hr, ⟨hlen, .inr ⟨g, og, cap, _, rfl, heap_setRow hgg, hroom, hcm, ?_, ?_⟩⟩, (Upd.setRow _ _ _).mono (by simp [Value.ownBlock]), fun g' hg' => .inl hg', fun h => .inr (by rcases h with h | h; cases h; exact h)⟩
      · simp only [List.length_append, List.length_take, List.length_drop, byteC_len]; omega
      · have h3 := drop_take_app cur (byteC r) og n (by rw [byteC_len]; exact hfit)
        rw [byteC_len] at h3
        rw [Nat.mul_one, h3]
        rw [Nat.mul_one] at htake
        rw [htake]
    · have holds : ∀ j u, xs[j]? = some u → w.cell? ((⟨g, og, none⟩ : Addr).add j) = some u := fun j u hj => by rw [Addr.add_mid]; exact hown.cells j u hj
      have hr := Lib.run_append_grow_string (P := P) w t u o.type e i z ht hu hinfo hz ⟨g, og, none⟩ n cap xs (by rw [h1s]; simpa using hxl) holds ⟨⟨r⟩⟩ (by rw [size_mk]; omega) (by rw [size_mk]; omega) (by rw [h1b, size_mk]; exact growslice_fits (by omega) (by omega))
      rw [size_mk, strCells_mk] at hr
      have hge := grownCap_ge w (n + r.length) cap e
      exact ⟨_, _, _, run _ _ hr, grown cap (by omega), hup _ _, fun g hg => .inr (hnew _ g hg), fun _ => .inr (by omega)⟩
theorem flat_at {α : Type} {enc : α → List Value} {sz : Nat} (hsz : ∀ x, (enc x).length = sz) : ∀ (l : List α) {k : Nat} (h : k < l.length), ((l.flatMap enc).drop (k * sz)).take sz = enc l[k]
  | [], _, h => by simp at h
  | o :: l, 0, h => by
    simp only [List.flatMap_cons, Nat.zero_mul, List.drop_zero, List.getElem_cons_zero]
    rw [List.take_append_of_le_length (by rw [hsz]; exact Nat.le_refl _), List.take_of_length_le (by rw [hsz]; exact Nat.le_refl _)]
  | o :: l, k + 1, h => by
    simp only [List.flatMap_cons, List.getElem_cons_succ]
    rw [List.drop_append, hsz, List.drop_of_length_le (by rw [hsz, Nat.add_mul]; omega), List.nil_append, show (k + 1) * sz - sz = k * sz by rw [Nat.add_mul]; omega]
    exact flat_at hsz l (by simpa using h)
theorem getV_part {ty : TypeId} {cs es : List Value} {off n : Nat} (h0 : tyAgg P ty = some true) (hn : tySize P ty = some n) (hle : off + n ≤ cs.length) (he : (cs.drop off).take n = es) : getV P ty cs off = some (.agg ⟨es⟩) := by
  unfold getV getV0
  rw [h0, hn]
  simp only
  rw [Nat.ble_eq_true_of_le hle]
  simp only [he, nfo, nfv]
theorem LdOk.ownElem {α : Type} {enc : α → List Value} {sz g off n cap n' k : Nat} {e ty : TypeId} {l : List α} (hsz : ∀ x, (enc x).length = sz) (hm : Chunk.own (.slice (some ⟨g, off, none⟩) n cap) e sz n' (l.flatMap enc) ∈ H) (hk : k < l.length) (h0 : tyAgg P ty = some true) (hn : tySize P ty = some sz) :
    LdOk P H Z ty ⟨g, off + k * sz, none⟩ (.agg ⟨enc l[k]⟩) :=
  LdOk.own hm (getV_part h0 hn (by
    rw [flat_len hsz]
    have := Nat.mul_le_mul_right sz (Nat.succ_le_of_lt hk)
    rw [Nat.succ_mul] at this
    exact this) (flat_at hsz l hk))
theorem LdOk.ownElemE {α : Type} {enc : α → List Value} {sz g off n cap n' k : Nat} {e ty : TypeId} {l : List α} {o : α} (hsz : ∀ x, (enc x).length = sz) (hm : Chunk.own (.slice (some ⟨g, off, none⟩) n cap) e sz n' (l.flatMap enc) ∈ H) (hk : l[k]? = some o) (h0 : tyAgg P ty = some true) (hn : tySize P ty = some sz) :
    LdOk P H Z ty ⟨g, off + k * sz, none⟩ (.agg ⟨enc o⟩) := by
  obtain ⟨h1, rfl⟩ := List.getElem?_eq_some_iff.1 hk
  exact LdOk.ownElem hsz hm h1 h0 hn
theorem run_remK {ty ty' : TypeId} {x y : Operand} {k : IntKind} {a b : Int} (ho : o.op = .binOp .rem ty x y ty') (hx : ρ x = .int k a) (hy : ρ y = .int k b) (ha : 0 ≤ a) (hb : 0 < b) (hw : k.wrap (a % b) = a % b) :
    (execOp ρ o).run P w = .ok (.value (.int k (a % b))) w := by
  have h0 : ¬ b = 0 := by omega
  have h1 : (eqGuard .rem ty x y (.int k a) (.int k b)).run P w = .ok () w := by simp [eqGuard]
  have h2 : (binOp .rem ty (.int k a) (.int k b)).run P w = .ok (.int k (a % b)) w := by
    simp [binOp, Op.intDiv, h0, Int.tmod_eq_emod_of_nonneg ha, hw]
  simp only [execOp, ho, hx, hy, Sem.run_bind, h1, h2, Result.andThen_ok]
  rfl
theorem run_quoK {ty ty' : TypeId} {x y : Operand} {k : IntKind} {a b : Int} (ho : o.op = .binOp .quo ty x y ty') (hx : ρ x = .int k a) (hy : ρ y = .int k b) (ha : 0 ≤ a) (hb : 0 < b) (hw : k.wrap (a / b) = a / b) :
    (execOp ρ o).run P w = .ok (.value (.int k (a / b))) w := by
  have h0 : ¬ b = 0 := by omega
  have h1 : (eqGuard .quo ty x y (.int k a) (.int k b)).run P w = .ok () w := by simp [eqGuard]
  have h2 : (binOp .quo ty (.int k a) (.int k b)).run P w = .ok (.int k (a / b)) w := by
    simp [binOp, Op.intDiv, h0, Int.tdiv_eq_ediv_of_nonneg ha, hw]
  simp only [execOp, ho, hx, hy, Sem.run_bind, h1, h2, Result.andThen_ok]
  rfl
theorem WL.remK {ty ty' : TypeId} {x y : Operand} {k : IntKind} {a b : Int} (ho : o.op = .binOp .rem ty x y ty') (hx : ev f x = .int k a) (hy : ev f y = .int k b) (ha : 0 ≤ a) (hb : 0 < b) (hw : k.wrap (a % b) = a % b)
    (hg : wants ops f o = true) {d : Nat} (hd : o.dst = some d) (hn : N.ok d = true) (h : WL P N ops l (up f d (.int k (a % b))) w Q) : WL P N ops (o :: l) f w Q := .val hg hd hn (run_remK ho hx hy ha hb hw) h
theorem WL.quoK {ty ty' : TypeId} {x y : Operand} {k : IntKind} {a b : Int} (ho : o.op = .binOp .quo ty x y ty') (hx : ev f x = .int k a) (hy : ev f y = .int k b) (ha : 0 ≤ a) (hb : 0 < b) (hw : k.wrap (a / b) = a / b)
    (hg : wants ops f o = true) {d : Nat} (hd : o.dst = some d) (hn : N.ok d = true) (h : WL P N ops l (up f d (.int k (a / b))) w Q) : WL P N ops (o :: l) f w Q := .val hg hd hn (run_quoK ho hx hy ha hb hw) h
theorem WL.appStr {s x : Operand} {t u e : TypeId} {n cap : Nat} {A : Option Addr} {xs : List Value} {r : List UInt8} {H' : Option Addr → Nat → List Chunk} (hS : St w0 M w H Z) (ho : o.op = .call ⟨.builtin .append, ⟨[s, x]⟩, ⟨[t, u]⟩⟩) (hi : appOf P t = some (e, 1, 1)) (hu : isStr P u = true)
    (hs : ev f s = .slice A n cap) (hx : ev f x = str r)
    (hr : ∀ A' cap', Repl (.own (.slice A n cap) e 1 n xs) (.own (.slice A' (n + r.length) cap') e 1 (n + r.length) (xs ++ byteC r)) H (H' A' cap')) (hb : n + r.length ≤ 140737488355328)
    (hg : wants ops f o = true) {d : Nat} (hd : o.dst = some d) (hn : N.ok d = true)
    (h : ∀ A' cap' w', ((A = none ∨ cap ≠ 0) → (A' = none ∨ cap' ≠ 0)) → St w0 M w' (H' A' cap') Z → WL P N ops l (up f d (.slice A' (n + r.length) cap')) w' Q) : WL P N ops (o :: l) f w Q := by
  obtain ⟨A', cap', w', hrun, hown', hgr, hat, h1⟩ := run_appStr (P := P) (w := w) ho hi hu hs hx (hS.holds _ (hr none 0).mem) hb
  exact .val hg hd hn hrun (h A' cap' w' h1 (hS.app (hr A' cap') hown' hgr hat))
end
section
variable {P : Program} {N : Fz} {f : Fr} {w w0 : World} {Q : Post} {ops : List Oper} {M : List Nat} {H0 H H' : List Chunk} {Z0 Z : List Snap} {q : Qs} {l : List Nat} {i : Nat}
theorem WD.mdelC0 {t k t2 : TypeId} {z : Value} {x y : Operand} {b : Nat} {m : KV} {s : List UInt8} (hS : St w0 M w (mapC b m :: H) Z) (hM : More H0 Z0 H Z) (ho : (ix ops i).op = .call ⟨.builtin .delete, ⟨[x, y]⟩, ⟨[t, t2]⟩⟩) (ht : mapOf P t = some (k, z)) (hx : ev f x = .map (some b)) (hy : ev f y = str s)
    (hq : q.contains i = false) (hi : Nat.blt i ops.length = true) (hg : wants ops f (ix ops i) = true) (hd : (ix ops i).dst = none) (h : ∀ w', St w0 M w' (mapC b (mdel m s) :: H) Z → WD P N (SS w0 M H0 Z0) ops q l f w' Q) : WD P N (SS w0 M H0 Z0) ops q (i :: l) f w Q := by
  obtain ⟨ob, h1, h2⟩ := run_delete (t2 := t2) (ty := (ix ops i).type) (s := s) ht (hS.holds _ (List.Mem.head _)).1
  have hrun : (execOp (ev f) (ix ops i)).run P w = .ok (.value (.tuple #[])) { w with heap := w.heap.setIfInBounds b ob } := by
    simp [execOp, ho, resolve, invoke, builtin, hx, hy, Sem.run_bind, h1]
  have hS' := hS.setMap .here h2
  refine .eff hq fun a ha K hK => ?_
  unfold Go.wpOp
  rw [ix_some (by simp only [List.size_toArray]; exact Nat.le_of_ble_eq_true hi)]
  simp only
  rw [if_pos ((wanted_eq ha _).trans hg)]
  refine .inl ?_
  simp only [Oper.wp, ha.eval, hrun, Oper.upon]
  exact hK _ _ _ (by rw [hd]; exact ha) (hM.ss hS'.drop) (h _ hS')
theorem WC.drawLV {id : Nat} (D : List Chunk) (hS : St w0 M w H Z) (hp : Pulls D H H') (q l : List Nat) (i : Nat) (l2 : List Nat) (hm : P.follows .mixedOrders = true)
    (hk : (Region.noSelect ops.toArray && ordOk ops.toArray ⟨q, .piv i l2⟩ (Array.replicate ops.toArray.size false) l && Nat.beq (l.length + (l2.length + 1)) ops.length) = true)
    (h : ∀ w', St w0 M w' (D ++ H') Z → More H' Z (D ++ H') Z → WD P N (SS w0 M H' Z) ops ⟨q, .piv i l2⟩ l f w' Q) (hok : okR N ops = true := by rfl) : WC P N (.region id ops.toArray true) f w Q := by
  have hS' := hS.pulls hp
  simp only [Bool.and_eq_true] at hk
  exact WC.draw (SS w0 M H' Z) ⟨q, .piv i l2⟩ l hm hk.1.1 hk.1.2 hk.2 ((More.app (.refl _ _)).ss hS'.drew) (h _ hS'.drew (More.app (.refl _ _))) hok
theorem WD.app {s x : Operand} {t e : TypeId} {size bytes n m cap c b off : Nat} {A : Option Addr} {xs news : List Value} (hS : St w0 M w H Z) (hp : Pull (.own (.slice A n cap) e size n xs) H H') (hM : More H0 Z0 H' Z) (ho : (ix ops i).op = .call ⟨.builtin .append, ⟨[s, x]⟩, ⟨[t, t]⟩⟩) (hi0 : appOf P t = some (e, size, bytes))
    (hs : ev f s = .slice A n cap) (hx : ev f x = .slice (some ⟨b, off, none⟩) m c) (hnews : RdOk H Z b off news) (hl : news.length = m * size) (h1 : one news = true) (hb : (n + m) * bytes ≤ 140737488355328)
    (hq : q.contains i = false) (hi : Nat.blt i ops.length = true) (hg : wants ops f (ix ops i) = true) {d : Nat} (hd : (ix ops i).dst = some d) (hn : N.ok d = true)
    (h : ∀ A' cap' w', St w0 M w' (.own (.slice A' (n + m) cap') e size (n + m) (xs ++ news) :: H') Z → More H0 Z0 (.own (.slice A' (n + m) cap') e size (n + m) (xs ++ news) :: H') Z → WD P N (SS w0 M H0 Z0) ops q l (up f d (.slice A' (n + m) cap')) w' Q) : WD P N (SS w0 M H0 Z0) ops q (i :: l) f w Q := by
  have hS' := hS.pull hp
  obtain ⟨A', cap', w', hrun, hown', hgr, hat⟩ := run_appOp (P := P) (w := w) ho hi0 hs hx (hS'.holds _ (List.Mem.head _)) (hnews.out w0 M w [] [] hS) hl h1 hb
  have hS2 := hS'.app (.here) hown' hgr hat
  exact .val hq hi hg hd hn hrun ((hM.chunk _).ss hS2) (h A' cap' w' hS2 (hM.chunk _))
theorem WD.remK {S : World → Prop} {ty ty' : TypeId} {x y : Operand} {k : IntKind} {a b : Int} (ho : (ix ops i).op = .binOp .rem ty x y ty') (hx : ev f x = .int k a) (hy : ev f y = .int k b) (ha : 0 ≤ a) (hb : 0 < b) (hw : k.wrap (a % b) = a % b)
    (hq : q.contains i = true) (hg : wants ops f (ix ops i) = true) {d : Nat} (hd : (ix ops i).dst = some d) (hn : N.ok d = true) (h : WD P N S ops q l (up f d (.int k (a % b))) w Q) : WD P N S ops q (i :: l) f w Q :=
  .take hq hd hn (.inl ⟨hg, fun _ _ => run_remK ho hx hy ha hb hw⟩) h
theorem WD.quoK {S : World → Prop} {ty ty' : TypeId} {x y : Operand} {k : IntKind} {a b : Int} (ho : (ix ops i).op = .binOp .quo ty x y ty') (hx : ev f x = .int k a) (hy : ev f y = .int k b) (ha : 0 ≤ a) (hb : 0 < b) (hw : k.wrap (a / b) = a / b)
    (hq : q.contains i = true) (hg : wants ops f (ix ops i) = true) {d : Nat} (hd : (ix ops i).dst = some d) (hn : N.ok d = true) (h : WD P N S ops q l (up f d (.int k (a / b))) w Q) : WD P N S ops q (i :: l) f w Q :=
  .take hq hd hn (.inl ⟨hg, fun _ _ => run_quoK ho hx hy ha hb hw⟩) h
end
end Go.J

/- What is proved: plain facts on changes as bytes. Conditions: none. -/
namespace Go.Proofs.YtccfiohagbneaaaGreatDoor
open Go Go.J Go.RowKit
structure Chg where
  key : List UInt8
  val : List UInt8
  gone : Bool
def Chg0 : Chg := ⟨[], [], false⟩
def cellsChg (o : Chg) : List Value := [str o.key, str o.val, .bool o.gone]
@[reducible] def encChg (o : Chg) : Value := .agg ⟨[str o.key, str o.val, .bool o.gone]⟩
def chgs (l : List Chg) : List Value := l.flatMap cellsChg
theorem chgs_snoc (l : List Chg) (o : Chg) : chgs l ++ cellsChg o = chgs (l ++ [o]) := by simp [chgs]
def recO (o : Chg) : List UInt8 := if o.gone then 0 :: textE o.key else 1 :: (textE o.key ++ textE o.val)
def recordE (l : List Chg) : List UInt8 := putN l.length ++ l.flatMap recO
def opE (t : List UInt8) : Chg × Nat × Int :=
  if (uintE t).2.2 ≠ 0 then (Chg0, 0, (uintE t).2.2)
  else if 1 < (uintE t).1 then (Chg0, 0, 3)
  else if (rtextE (t.drop (uintE t).2.1)).2.2 ≠ 0 then (Chg0, 0, (rtextE (t.drop (uintE t).2.1)).2.2)
  else if (uintE t).1 = 0 then (⟨(rtextE (t.drop (uintE t).2.1)).1, [], true⟩, (uintE t).2.1 + (rtextE (t.drop (uintE t).2.1)).2.1, 0)
  else if (rtextE (t.drop ((uintE t).2.1 + (rtextE (t.drop (uintE t).2.1)).2.1))).2.2 ≠ 0 then (Chg0, 0, (rtextE (t.drop ((uintE t).2.1 + (rtextE (t.drop (uintE t).2.1)).2.1))).2.2)
  else (⟨(rtextE (t.drop (uintE t).2.1)).1, (rtextE (t.drop ((uintE t).2.1 + (rtextE (t.drop (uintE t).2.1)).2.1))).1, false⟩, (uintE t).2.1 + (rtextE (t.drop (uintE t).2.1)).2.1 + (rtextE (t.drop ((uintE t).2.1 + (rtextE (t.drop (uintE t).2.1)).2.1))).2.1, 0)
def opsF : Nat → List UInt8 → List Chg × Nat × Int
  | 0, _ => ([], 0, 0)
  | n + 1, t => if (opE t).2.2 ≠ 0 then ([], 0, (opE t).2.2)
    else if (opsF n (t.drop (opE t).2.1)).2.2 ≠ 0 then ([], 0, (opsF n (t.drop (opE t).2.1)).2.2)
    else ((opE t).1 :: (opsF n (t.drop (opE t).2.1)).1, (opE t).2.1 + (opsF n (t.drop (opE t).2.1)).2.1, 0)
def opsE (s : List UInt8) : List Chg × Int :=
  if (uintE s).2.2 ≠ 0 then ([], (uintE s).2.2)
  else if (opsF (uintE s).1 (s.drop (uintE s).2.1)).2.2 ≠ 0 then ([], (opsF (uintE s).1 (s.drop (uintE s).2.1)).2.2)
  else if (uintE s).2.1 + (opsF (uintE s).1 (s.drop (uintE s).2.1)).2.1 < s.length then ([], 5)
  else ((opsF (uintE s).1 (s.drop (uintE s).2.1)).1, 0)
theorem uintE_le (t : List UInt8) : (uintE t).2.1 ≤ t.length := by
  by_cases h : (uintE t).2.2 = 0
  · exact (uintE_ok t h).2
  · unfold uintE at h ⊢
    split
    · rename_i h1
      rw [if_pos h1] at h
      split
      · rename_i h2
        rw [if_pos h2] at h
        exact absurd h1 h
      · exact Nat.zero_le _
    · exact Nat.zero_le _
theorem varE_pos : ∀ (t : List UInt8) (i x : Nat), (varE t i x).2.2 = 0 → 1 ≤ (varE t i x).2.1
  | [], i, x, h => by simp [varE] at h
  | c :: t, i, x, h => by
    unfold varE at h ⊢
    repeat' split
    all_goals simp_all
    rename_i h1 h2
    exact varE_pos t _ _ h
theorem uintE_pos (t : List UInt8) (h : (uintE t).2.2 = 0) : 1 ≤ (uintE t).2.1 := by
  unfold uintE at h ⊢
  split
  · rename_i h1
    rw [if_pos h1] at h
    split
    · exact varE_pos t 0 0 h1
    · rename_i h2
      rw [if_neg h2] at h
      cases h
  · rename_i h1
    rw [if_neg h1] at h
    exact absurd h h1
theorem rtextE_le' (t : List UInt8) : (rtextE t).2.1 ≤ t.length := by
  by_cases h : (rtextE t).2.2 = 0
  · exact (rtextE_le t h).1
  · unfold rtextE at h ⊢
    split
    · split
      · assumption
      · exact Nat.zero_le _
    · exact Nat.zero_le _
theorem opE_le (t : List UInt8) : (opE t).2.1 ≤ t.length := by
  have h1 := uintE_le t
  have h2 := rtextE_le' (t.drop (uintE t).2.1)
  have h3 := rtextE_le' (t.drop ((uintE t).2.1 + (rtextE (t.drop (uintE t).2.1)).2.1))
  rw [List.length_drop] at h2 h3
  unfold opE
  repeat' split
  all_goals first
    | exact Nat.zero_le _
    | (dsimp only; omega)
theorem opE_e {t : List UInt8} {n u : Nat} {e : Int} (h : uintE t = (n, u, e)) (he : e ≠ 0) : opE t = (Chg0, 0, e) := by unfold opE; rw [h, if_pos he]
theorem opE_big {t : List UInt8} {n u : Nat} (h : uintE t = (n, u, 0)) (hn : 1 < n) : opE t = (Chg0, 0, 3) := by unfold opE; rw [h, if_neg (fun h => h rfl), if_pos hn]
theorem opE_k {t x : List UInt8} {n u v : Nat} {e : Int} (h : uintE t = (n, u, 0)) (hn : ¬ 1 < n) (h2 : rtextE (t.drop u) = (x, v, e)) (he : e ≠ 0) : opE t = (Chg0, 0, e) := by
  unfold opE; rw [h, if_neg (fun h => h rfl), if_neg hn]; dsimp only; rw [h2, if_pos he]
theorem opE_gone {t x : List UInt8} {u v : Nat} (h : uintE t = (0, u, 0)) (h2 : rtextE (t.drop u) = (x, v, 0)) : opE t = (⟨x, [], true⟩, u + v, 0) := by
  unfold opE; rw [h, if_neg (fun h => h rfl), if_neg (show ¬ 1 < 0 by decide)]; dsimp only; rw [h2, if_neg (fun h => h rfl), if_pos rfl]
theorem opE_v {t x y : List UInt8} {u v z : Nat} {e : Int} (h : uintE t = (1, u, 0)) (h2 : rtextE (t.drop u) = (x, v, 0)) (h3 : rtextE (t.drop (u + v)) = (y, z, e)) (he : e ≠ 0) : opE t = (Chg0, 0, e) := by
  unfold opE; rw [h, if_neg (fun h => h rfl), if_neg (show ¬ 1 < 1 by decide)]; dsimp only; rw [h2, if_neg (fun h => h rfl), if_neg (show ¬ 1 = 0 by decide)]; dsimp only; rw [h3, if_pos he]
theorem opE_put {t x y : List UInt8} {u v z : Nat} (h : uintE t = (1, u, 0)) (h2 : rtextE (t.drop u) = (x, v, 0)) (h3 : rtextE (t.drop (u + v)) = (y, z, 0)) : opE t = (⟨x, y, false⟩, u + v + z, 0) := by
  unfold opE; rw [h, if_neg (fun h => h rfl), if_neg (show ¬ 1 < 1 by decide)]; dsimp only; rw [h2, if_neg (fun h => h rfl), if_neg (show ¬ 1 = 0 by decide)]; dsimp only; rw [h3, if_neg (fun h => h rfl)]
def opsFin (s : List UInt8) (l : List Chg) (p : Nat) (r : List Chg × Nat × Int) : List Chg × Int := if r.2.2 ≠ 0 then ([], r.2.2) else if p + r.2.1 < s.length then ([], 5) else (l ++ r.1, 0)
theorem opsF_s (n : Nat) (t : List UInt8) : opsF (n + 1) t = if (opE t).2.2 ≠ 0 then ([], 0, (opE t).2.2)
    else if (opsF n (t.drop (opE t).2.1)).2.2 ≠ 0 then ([], 0, (opsF n (t.drop (opE t).2.1)).2.2)
    else ((opE t).1 :: (opsF n (t.drop (opE t).2.1)).1, (opE t).2.1 + (opsF n (t.drop (opE t).2.1)).2.1, 0) := rfl
theorem opsFin_no {s t : List UInt8} {l : List Chg} {p m u : Nat} {o : Chg} {e : Int} (h : opE t = (o, u, e)) (he : e ≠ 0) : opsFin s l p (opsF (m + 1) t) = ([], e) := by
  rw [opsF_s, h, if_pos he]
  unfold opsFin
  rw [if_pos he]
theorem opsFin_ok {s t : List UInt8} {l : List Chg} {p m u : Nat} {o : Chg} (h : opE t = (o, u, 0)) : opsFin s l p (opsF (m + 1) t) = opsFin s (l ++ [o]) (p + u) (opsF m (t.drop u)) := by
  rw [opsF_s, h, if_neg (fun h => h rfl)]
  dsimp only
  generalize opsF m (t.drop u) = r
  obtain ⟨a, b, e⟩ := r
  dsimp only
  unfold opsFin
  by_cases he : e ≠ 0
  · rw [if_pos he, if_pos he, if_pos he]
  · rw [if_neg he, if_neg he]
    dsimp only
    rw [if_neg (fun h => h rfl), Nat.add_assoc]
    simp
theorem opsE_of {s : List UInt8} {n u : Nat} (h : uintE s = (n, u, 0)) : opsE s = opsFin s [] u (opsF n (s.drop u)) := by
  unfold opsE opsFin
  rw [h, if_neg (fun h => h rfl)]
  dsimp only
  rw [List.nil_append]
theorem opsE_e {s : List UInt8} {n u : Nat} {e : Int} (h : uintE s = (n, u, e)) (he : e ≠ 0) : opsE s = ([], e) := by
  unfold opsE
  rw [h, if_pos he]
theorem textE_len (s : List UInt8) : (textE s).length = (putN s.length).length + s.length := by unfold textE; simp
theorem opE_pos (t : List UInt8) (h : (opE t).2.2 = 0) : 1 ≤ (opE t).2.1 := by
  have h1 := uintE_pos t
  unfold opE at h ⊢
  by_cases hu : (uintE t).2.2 = 0
  · have h1 := h1 hu
    repeat' split
    all_goals first
      | (dsimp only; omega)
      | (simp_all; done)
      | (exfalso; simp_all; omega)
  · rw [if_pos hu] at h
    exact absurd h hu
theorem opsF_len : ∀ (n : Nat) (t : List UInt8), (opsF n t).1.length ≤ t.length
  | 0, t => Nat.zero_le _
  | n + 1, t => by
    have h1 := opE_le t
    have h2 := opsF_len n (t.drop (opE t).2.1)
    rw [List.length_drop] at h2
    rw [opsF_s]
    split
    · exact Nat.zero_le _
    · rename_i h
      have h3 := opE_pos t (Classical.not_not.1 h)
      split
      · exact Nat.zero_le _
      · simp only [List.length_cons]; omega
theorem opsE_len (s : List UInt8) : (opsE s).1.length ≤ s.length := by
  have h := opsF_len (uintE s).1 (s.drop (uintE s).2.1)
  rw [List.length_drop] at h
  unfold opsE
  repeat' split
  all_goals first
    | exact Nat.zero_le _
    | (dsimp only; omega)
def applyE (rows : List (List UInt8 × List UInt8)) (l : List Chg) : List (List UInt8 × List UInt8) := l.foldl (fun m o => if o.gone then mdel m o.key else mset m o.key o.val) rows
end Go.Proofs.YtccfiohagbneaaaGreatDoor

/- What is proved: what Record and Ops of the package table answer. Conditions: texts of bounded length. -/
namespace Go.Proofs.YtccfiohagbneaaaGreatDoor
open Go Go.J Go.RowKit
set_option maxHeartbeats 4000000 in
set_option maxRecDepth 100000 in
theorem wuint_c (n : Nat) (w0 : World) (hn : n < 9223372036854775808) : Cal Tryz.prog 144 [.int .i64 (n : Int)] w0 (fun v w' => Upd [] w0 w' ∧ v = .tuple #[str (putN n), .int .i64 0]) := by
  refine Cal.mk' (by kernel_rfl) Tryz.func144 rfl rfl fun hS => ?_
  have hw : IntKind.u64.wrap (n : Int) = (n : Int) := by
    simp only [IntKind.wrap, IntKind.bits, IntKind.signed, Bool.false_and, Bool.false_eq_true, if_false]; omega
  repeat' (first | (show WL _ _ _ _ _ _ _; first | refine WL.pure rfl rfl rfl rfl ?_ | refine WL.nil ?_ | (refine WL.calls hS rfl (congrArg (fun z => [Value.int .u64 z]) hw) (put_c n _ (by omega)) rfl rfl rfl ?_; rintro v w rfl hS)) | (show WC _ _ _ _ _ _; first | refine WC.seq ?_ | refine WC.region ?_ | refine WC.skip ?_ | refine WC.ret ?_ | refine WC.condF rfl (decide_eq_false (by first | with_reducible assumption | omega)) ?_) | refine seqQ_n ?_)
  exact fin2r rfl rfl rfl ⟨hS.upd, rfl⟩
set_option maxHeartbeats 4000000 in
set_option maxRecDepth 100000 in
theorem bwrites_c (q : Nat) (s r : List UInt8) (fp : List Nat) (w0 : World) (hc : (sbC q s fp).holds w0) (hi : inB (sbC q s fp) w0) (hl : s.length + r.length ≤ 1099511627776) : Cal Tryz.prog 145 [.pointer (some ⟨q, 0, none⟩), str r] w0
    (fun v w' => v = .tuple #[.int .i64 (r.length : Int), .nilIface] ∧ ∃ fp', Mut w0 w' (sbC q s fp) (sbC q (s ++ r) fp')) := by
  refine Cal.mkM hc hi (by kernel_rfl) Tryz.func145 rfl rfl fun hS => ?_
  repeat' (first | (show WL _ _ _ _ _ _ _; first | refine WL.pure rfl rfl rfl rfl ?_ | refine WL.nil ?_ | refine WL.load hS rfl rfl (LdOk.box Mm rfl) rfl rfl rfl ?_ | (refine WL.callG rfl rfl (bcheck_c q s fp _ (hS.holds _ (List.Mem.head _)) (hS.inB_of (List.Mem.head _))) rfl rfl rfl ?_; rintro v w ⟨rfl, fp', hmut⟩; have hS := hS.mut hmut .here; obtain ⟨D, ⟨A, n, cap, rfl, hA⟩, hfp, hS⟩ := hS.objOpen; replace hS : St w0 _ w [.box q 199 [.pointer (some ⟨q, 0, none⟩), .slice A n cap], .own (.slice A n cap) 5 1 n (byteC s)] _ := hS; have hlen := (hS.own_len (List.Mem.tail _ (List.Mem.head _))).1; rw [byteC_len, Nat.mul_one] at hlen) | (refine WL.appStr hS rfl rfl rfl rfl rfl (fun A' cap' => Rp) (by omega) rfl rfl rfl ?_; intro A2 cap2 w hA2 hS; have hA2 := hA2 hA) | (refine WL.store hS rfl rfl rfl Sb rfl rfl rfl ?_; intro w hS)) | (show WC _ _ _ _ _ _; first | refine WC.seq ?_ | refine WC.region ?_ | refine WC.ret ?_) | refine seqQ_n ?_)
  exact fin2r rfl rfl rfl ⟨rfl, _, (St.objClose (H := []) (φ := sbφ q (s ++ r)) (D := sbD q (some ⟨q, 0, none⟩) A2 (n + r.length) cap2 (s ++ r)) (by rw [sbD, byteC_app]; exact hS) (.inr ⟨_, _, _, rfl, hA2⟩)).mutOf (List.Mem.head _)⟩
set_option maxHeartbeats 4000000 in
set_option maxRecDepth 100000 in
theorem rdone_c (r : Nat) (s : List UInt8) (p : Nat) (w0 : World) (h : RdAt r s p w0) : Cal Tryz.prog 150 [.pointer (some ⟨r, 0, none⟩)] w0 (fun v w' => Upd [] w0 w' ∧ v = .int .i64 (if p < s.length then 5 else 0)) := by
  refine Cal.mk' (by kernel_rfl) Tryz.func150 rfl rfl fun hS => ?_
  unfold RdAt at h
  by_cases hp : p < s.length
  case' pos => rw [if_pos hp]
  case' neg => rw [if_neg hp]
  all_goals
    repeat' (first | (show WL _ _ _ _ _ _ _; first | refine WL.pure rfl rfl rfl rfl ?_ | refine WL.nil ?_) | (show WC _ _ _ _ _ _; first | refine WC.seq ?_ | refine WC.region ?_ | refine WC.block ?_ | refine WC.skip ?_ | refine WC.ret ?_ | (show WC _ _ (Code.region _ (List.toArray [_, _, _, _, _, _, _, _, _, _, _]) true) _ _ _; refine WC.drawS hS [0, 1, 2, 3, 4, 5, 6, 7, 8, 9, 10] [0, 1, 2, 3, 4, 5, 6, 7, 8, 9, 10] (by kernel_rfl) (by kernel_rfl) ?_; clear hS; intro w hS hM) | refine WC.condF rfl (by with_reducible rfl) ?_ | refine WC.condT rfl (decide_eq_true (by first | with_reducible assumption | omega)) ?_ | refine WC.condF rfl (decide_eq_false (by first | with_reducible assumption | omega)) ?_) | (show WD _ _ _ _ _ _ _ _ _; first | refine WD.pure rfl rfl rfl rfl rfl ?_ | refine WD.nil ?_ | refine WD.load rfl rfl (LdOk.old h Mm rfl) rfl rfl rfl rfl ?_) | refine seqQ_n ?_ | refine blkQ_n ?_ | refine seqQ_r ?_ | refine blkQ_r ?_)
    exact fin1r rfl rfl ⟨hS.upd, rfl⟩
def cChg : Cod Chg := .flat cellsChg 3 fun _ => rfl
set_option maxHeartbeats 8000000 in
set_option maxRecDepth 100000 in
theorem record_c (l : List Chg) {A : Option Addr} {cap : Nat} {w0 : World} (h : SlAt cChg (Old w0) w0 A l) (hb : (recordE l).length ≤ 1099511627776) (hl : l.length ≤ 1099511627776) :
    Cal Tryz.prog 89 [.slice A l.length cap] w0 (fun v w' => Upd [] w0 w' ∧ v = str (recordE l)) := by
  refine Cal.mk' (by kernel_rfl) Tryz.func89 rfl rfl fun hS => ?_
  have hpl := putN_len10 (n := l.length) (by omega)
  have h0 : ([] : List UInt8).length = 0 := rfl
  repeat' (first | (show WL _ _ _ _ _ _ _; first | refine WL.pure rfl rfl rfl rfl ?_ | refine WL.nil ?_ | (refine WL.calls hS rfl rfl (wuint_c l.length _ (by omega)) rfl rfl rfl ?_; rintro v w rfl hS) | (refine WL.alloc (t := 199) hS rfl rfl rfl rfl rfl rfl ?_; intro w q hS; have hS := (hS.nilRow 5 1).perm (.swap _ _ _); have hS := St.objClose (H := []) (φ := sbφ q []) (D := sbD q none none 0 0 []) hS (.inl ⟨rfl, rfl⟩)) | (refine WL.callG rfl rfl (bwrites_c q [] (putN l.length) _ _ (hS.holds _ (List.Mem.head _)) (hS.inB_of (List.Mem.head _)) (by omega)) rfl rfl rfl ?_; rintro v w ⟨rfl, fp', hmut⟩; have hS := hS.mut hmut .here; clear hmut)) | (show WC _ _ _ _ _ _; first | refine WC.seq ?_ | refine WC.region ?_ | refine WC.block ?_) | refine seqQ_n ?_)
  refine WC.loop (σ := Nat × List UInt8 × List Nat) [5, 16, 17] (fun (k, acc, fp) => [(18, .int .i64 (k : Int))]) (fun (k, acc, fp) w => k ≤ l.length ∧ acc ++ (l.drop k).flatMap recO = recordE l ∧ St w0 [] w [sbC q acc fp] _) (fun (k, _) => l.length - k) (0, putN l.length, fp') ⟨Nat.zero_le _, rfl, hS⟩ ⟨rfl, trivial⟩ ?_
  clear hS
  rintro ⟨k, acc, fp⟩ g w ⟨hk, hacc, hS⟩
  by_cases hlt : k < l.length
  · obtain ⟨rb, ro, es, rfl, hF, hr, hes⟩ := h.at_ hlt
    have hes : es = cellsChg l[k] := hes
    subst hes
    have hr : w0.rangeAt rb (ro + k * 3) (cellsChg l[k]) := hr
    rw [List.drop_eq_getElem_cons hlt, List.flatMap_cons] at hacc
    generalize l[k] = o at *
    obtain ⟨key, val, gone⟩ := o
    have hlen := congrArg List.length hacc
    rw [List.length_append, List.length_append] at hlen
    have e0 : ([0] : List UInt8).length = 1 := rfl
    have e1 : ([1] : List UInt8).length = 1 := rfl
    have ht := textE_len key
    have htv := textE_len val
    rcases gone with _ | _
    · have hrec : recO ⟨key, val, false⟩ = [1] ++ textE key ++ textE val := by simp [recO]
      rw [hrec] at hacc hlen
      have e2 : ([1] ++ textE key).length = 1 + (textE key).length := by simp; omega
      have e3 : ([1] ++ textE key ++ textE val).length = 1 + (textE key).length + (textE val).length := by simp; omega
      repeat' (first | (show WL _ _ _ _ _ _ _; first | refine WL.pure rfl rfl rfl rfl ?_ | refine WL.nil ?_ | refine WL.load hS rfl rfl (LdOk.box Mm rfl) rfl rfl rfl ?_ | refine WL.add rfl rfl rfl (by omega) rfl rfl rfl ?_ | (refine WL.load hS rfl rfl (LdOk.snap0 hF hr Mm rfl) rfl rfl rfl ?_) | (refine WL.alloc (t := 79) hS rfl rfl rfl rfl rfl rfl ?_; intro w ob hS) | (refine WL.store hS rfl rfl rfl Sb rfl rfl rfl ?_; intro w hS) | refine WL.index rfl rfl rfl rfl (by first | with_reducible assumption | omega) rfl rfl rfl rfl ?_) | (show WC _ _ _ _ _ _; first | refine WC.seq ?_ | refine WC.region ?_ | refine WC.block ?_ | refine WC.skip ?_ | (show WC _ _ (Code.region _ (List.toArray [_, _, _, _, _, _, _, _, _]) true) _ _ _; refine WC.drawL [sbC q acc fp] hS Pu [0,1,3,4,5,7] [0,1,4,5,2,3,6,7,8] (by kernel_rfl) (by kernel_rfl) ?_; clear hS; intro w hS hM) | refine WC.condF rfl (by with_reducible rfl) ?_ | refine WC.condT rfl (decide_eq_true (by first | with_reducible assumption | omega)) ?_) | (show WD _ _ _ _ _ _ _ _ _; first | refine WD.pure rfl rfl rfl rfl rfl ?_ | refine WD.nil ?_ | refine WD.load rfl rfl (LdOk.box Mm rfl) rfl rfl rfl rfl ?_ | (refine WD.cat rfl rfl rfl (by omega) rfl rfl rfl rfl ?_) | (refine WD.calls hS hM rfl rfl (wtext_c key _ (by omega)) rfl rfl rfl rfl rfl ?_; clear hS; rintro v w rfl hS) | (refine WD.calls hS hM rfl rfl (wtext_c val _ (by omega)) rfl rfl rfl rfl rfl ?_; clear hS; rintro v w rfl hS) | (refine WD.callL (D := [sbC q acc fp]) hS Pu (.refl _ _) rfl rfl (fun hI => bwrites_c q acc ([1] ++ textE key ++ textE val) fp _ hI.head hI.headB (by omega)) rfl rfl rfl rfl rfl ?_; rintro v w ⟨rfl, fp', hm⟩; refine ⟨_, .of1 hm, fun hS hM => ?_⟩; clear hm)) | refine seqQ_n ?_ | refine blkQ_n ?_)
      exact rndQ_n (k + 1, acc ++ ([1] ++ textE key ++ textE val), fp') ⟨by omega, by rw [← hacc]; simp, hS.droplast2 Pu⟩ (by show l.length - (k + 1) < l.length - k; omega) ⟨vint (by omega), trivial⟩ ⟨rfl, rfl, rfl, trivial⟩
    · have hrec : recO ⟨key, val, true⟩ = [0] ++ textE key := by simp [recO]
      rw [hrec] at hacc hlen
      have e2 : ([0] ++ textE key).length = 1 + (textE key).length := by simp; omega
      repeat' (first | (show WL _ _ _ _ _ _ _; first | refine WL.pure rfl rfl rfl rfl ?_ | refine WL.nil ?_ | refine WL.load hS rfl rfl (LdOk.box Mm rfl) rfl rfl rfl ?_ | refine WL.add rfl rfl rfl (by omega) rfl rfl rfl ?_ | (refine WL.load hS rfl rfl (LdOk.snap0 hF hr Mm rfl) rfl rfl rfl ?_) | (refine WL.alloc (t := 79) hS rfl rfl rfl rfl rfl rfl ?_; intro w ob hS) | (refine WL.calls hS rfl rfl (wtext_c key _ (by omega)) rfl rfl rfl ?_; rintro v w rfl hS) | (refine WL.callG rfl rfl (bwrites_c q acc ([0] ++ textE key) _ _ (hS.holds _ (List.Mem.tail _ (List.Mem.head _))) (hS.inB_of (List.Mem.tail _ (List.Mem.head _))) (by omega)) rfl rfl rfl ?_; rintro v w ⟨rfl, fp', hmut⟩; have hS := hS.mut hmut (.there .here); clear hmut) | refine WL.cat rfl rfl rfl (by omega) rfl rfl rfl ?_ | (refine WL.store hS rfl rfl rfl Sb rfl rfl rfl ?_; intro w hS) | refine WL.index rfl rfl rfl rfl (by first | with_reducible assumption | omega) rfl rfl rfl rfl ?_) | (show WC _ _ _ _ _ _; first | refine WC.seq ?_ | refine WC.region ?_ | refine WC.block ?_ | refine WC.skip ?_ | refine WC.condT rfl (by with_reducible rfl) ?_ | refine WC.condT rfl (decide_eq_true (by first | with_reducible assumption | omega)) ?_) | refine seqQ_n ?_ | refine blkQ_n ?_)
      exact rndQ_n (k + 1, acc ++ ([0] ++ textE key), fp') ⟨by omega, by rw [← hacc]; simp, hS.drop⟩ (by show l.length - (k + 1) < l.length - k; omega) ⟨vint (by omega), trivial⟩ ⟨rfl, rfl, rfl, trivial⟩
  · have hke : k = l.length := by omega
    subst hke
    have hacc : acc = recordE l := by simpa using hacc
    subst hacc
    repeat' (first | (show WL _ _ _ _ _ _ _; first | refine WL.pure rfl rfl rfl rfl ?_ | refine WL.nil ?_ | (refine WL.callG rfl rfl (bstring_c q (recordE l) fp _ (hS.holds _ (List.Mem.head _)) (hS.inB_of (List.Mem.head _)) (by omega)) rfl rfl rfl ?_; rintro v w ⟨rfl, hu⟩; have hS := hS.lose hu)) | (show WC _ _ _ _ _ _; first | refine WC.seq ?_ | refine WC.region ?_ | refine WC.exit ?_ | refine WC.ret ?_ | refine WC.condF rfl (decide_eq_false (by first | with_reducible assumption | omega)) ?_) | refine seqQ_n ?_ | refine seqQ_x ?_ | refine blkQ_hit rfl ?_ | refine rndQ_x ?_)
    exact fin1r rfl rfl ⟨hS.upd, rfl⟩
def opsR (w0 : World) (r : List Chg × Int) (v : Value) (w' : World) : Prop := Upd [] w0 w' ∧ ∃ A cap, v = .tuple #[.slice A r.1.length cap, .int .i64 r.2] ∧ New w0 w' (.own (.slice A r.1.length cap) 79 3 r.1.length (chgs r.1))
set_option maxHeartbeats 8000000 in
set_option maxRecDepth 100000 in
theorem ops_c (s : List UInt8) (w0 : World) (hl : s.length ≤ 1099511627776) : Cal Tryz.prog 91 [str s] w0 (opsR w0 (opsE s)) := by
  refine Cal.mk' (by kernel_rfl) Tryz.func91 rfl rfl fun hS => ?_
  rcases hu : uintE s with ⟨n, u, e⟩
  have hu0 : uintE (s.drop 0) = (n, u, e) := hu
  have hule := uintE_le s
  have hnok := uintE_ok s
  rw [hu] at hule hnok
  dsimp only at hule hnok
  by_cases he : e = 0
  rotate_left
  · rw [opsE_e hu he]
    clear hnok hu
    repeat' (first | (show WL _ _ _ _ _ _ _; first | refine WL.pure rfl rfl rfl rfl ?_ | refine WL.nil ?_ | (refine WL.callG rfl rfl (wnew_c s _) rfl rfl rfl ?_; rintro v w ⟨hup, r, rfl, hnew⟩; have hS := hS.new hup hnew; clear hup hnew) | (refine WL.callG rfl rfl (uint_e hu0 (hS.holds _ (List.Mem.head _)) (hS.inB_of (List.Mem.head _)) (by omega) (by omega)) rfl rfl rfl ?_; rintro v w ⟨rfl, hmut⟩; have hS := hS.mut hmut .here; clear hmut)) | (show WC _ _ _ _ _ _; first | refine WC.seq ?_ | refine WC.region ?_ | refine WC.ret ?_ | refine WC.condT rfl (decide_eq_true (by first | with_reducible assumption | omega)) ?_) | refine seqQ_n ?_ | refine seqQ_r ?_)
    have hS := hS.nilRow 79 3
    exact fin2r rfl rfl rfl ⟨hS.upd, _, _, rfl, hS.newOf (List.Mem.head _)⟩
  subst he
  obtain ⟨hn63, _⟩ := hnok rfl
  rw [opsE_of hu]
  clear hnok hu
  generalize hRES : opsFin s [] u (opsF n (s.drop u)) = RES
  repeat' (first | (show WL _ _ _ _ _ _ _; first | refine WL.pure rfl rfl rfl rfl ?_ | refine WL.nil ?_ | (refine WL.callG rfl rfl (wnew_c s _) rfl rfl rfl ?_; rintro v w ⟨hup, r, rfl, hnew⟩; have hS := hS.new hup hnew; clear hup hnew) | (refine WL.callG rfl rfl (uint_e hu0 (hS.holds _ (List.Mem.head _)) (hS.inB_of (List.Mem.head _)) (by omega) (by omega)) rfl rfl rfl ?_; rintro v w ⟨rfl, hmut⟩; have hS := hS.mut hmut .here; clear hmut) | (refine WL.slit (t := 73) hS rfl rfl rfl rfl rfl ?_; intro w ob hS; have hS := hS.boxRow (n := 0) (size := 3) .here rfl (Nat.zero_le _))) | (show WC _ _ _ _ _ _; first | refine WC.seq ?_ | refine WC.region ?_ | refine WC.block ?_ | refine WC.skip ?_ | refine WC.condF rfl (by decide) ?_) | refine seqQ_n ?_)
  refine WC.loop (σ := Nat × List Chg × Nat × Option Addr × Nat) [4, 23] (fun (k, l, p, A, cap) => [(7, .slice A l.length cap), (24, .int .i64 (k : Int))])
    (fun (k, l, p, A, cap) w => k ≤ n ∧ p ≤ s.length ∧ l.length ≤ p ∧ opsFin s l p (opsF (n - k) (s.drop p)) = RES ∧ St w0 [] w [.own (.slice A l.length cap) 79 3 l.length (chgs l), rdC r s p] _)
    (fun (k, _) => n - k) (0, [], u, _, 0) ⟨Nat.zero_le _, hule, Nat.zero_le _, hRES, by rw [Nat.zero_add] at hS; exact hS⟩ ⟨rfl, rfl, trivial⟩ ?_
  clear hS hRES hu0
  rintro ⟨k, l, p, A, cap⟩ g w ⟨hk, hp, hlp, hres, hS⟩
  show WC _ _ _ (lf _ [(7, .slice A l.length cap), (24, .int .i64 (k : Int))] _ _) _ _
  by_cases hlt : k < n
  · obtain ⟨m, hm⟩ : ∃ m, n - k = m + 1 := ⟨n - k - 1, by omega⟩
    have hm1 : n - (k + 1) = m := by omega
    rw [hm] at hres
    rcases hu1 : uintE (s.drop p) with ⟨kd, u1, e1⟩
    have hl1 := uintE_le (s.drop p)
    rw [hu1, List.length_drop] at hl1
    dsimp only at hl1
    by_cases he1 : e1 = 0
    rotate_left
    · rw [opsFin_no (opE_e hu1 he1) he1] at hres
      subst hres
      clear hm hm1
      repeat' (first | (show WL _ _ _ _ _ _ _; first | refine WL.pure rfl rfl rfl rfl ?_ | refine WL.nil ?_ | (refine WL.callG rfl rfl (uint_e hu1 (hS.holds _ (List.Mem.tail _ (List.Mem.head _))) (hS.inB_of (List.Mem.tail _ (List.Mem.head _))) (by omega) (by omega)) rfl rfl rfl ?_; rintro v w ⟨rfl, hmut⟩; have hS := hS.mut hmut (.there .here); clear hmut) | refine WL.skip rfl rfl rfl ?_ | ((fail_if_success (refine WL.wanted rfl ?_)); refine WL.guard rfl rfl rfl (fun h => ?_) (fun h => ?_) <;> (try simp only [ZZ0, ZZ1, ZZ2, ZZ3, ZZ4, ZZ5, ZZ6, ZZ7, ZZ8, ZZ9, ZZ10, ZZ11, ZZ12, ZZ13, ZZ14, ZZ15] at h) <;> (try (exfalso; first | omega | contradiction)))) | (show WC _ _ _ _ _ _; first | refine WC.seq ?_ | refine WC.region ?_ | refine WC.block ?_ | refine WC.skip ?_ | refine WC.ret ?_ | refine WC.condF rfl (by with_reducible rfl) ?_ | refine WC.condT rfl (decide_eq_true (by first | with_reducible assumption | omega)) ?_) | refine seqQ_n ?_ | refine seqQ_r ?_ | refine blkQ_r ?_ | refine rndQ_r ?_)
      have hS := hS.nilRow 79 3
      exact fin2r rfl rfl rfl ⟨hS.upd, _, _, rfl, hS.newOf (List.Mem.head _)⟩
    subst he1
    have hd1 : (s.drop p).drop u1 = s.drop (p + u1) := by rw [List.drop_drop]
    by_cases hk1 : 1 < kd
    · rw [opsFin_no (opE_big hu1 hk1) (by decide)] at hres
      subst hres
      clear hm hm1 hd1
      repeat' (first | (show WL _ _ _ _ _ _ _; first | refine WL.pure rfl rfl rfl rfl ?_ | refine WL.nil ?_ | (refine WL.callG rfl rfl (uint_e hu1 (hS.holds _ (List.Mem.tail _ (List.Mem.head _))) (hS.inB_of (List.Mem.tail _ (List.Mem.head _))) (by omega) (by omega)) rfl rfl rfl ?_; rintro v w ⟨rfl, hmut⟩; have hS := hS.mut hmut (.there .here); clear hmut)) | (show WC _ _ _ _ _ _; first | refine WC.seq ?_ | refine WC.region ?_ | refine WC.block ?_ | refine WC.skip ?_ | refine WC.ret ?_ | refine WC.condT rfl (by decide) ?_ | refine WC.condT rfl (decide_eq_true (by first | with_reducible assumption | omega)) ?_) | refine seqQ_n ?_ | refine seqQ_r ?_ | refine blkQ_r ?_ | refine rndQ_r ?_)
      have hS := hS.nilRow 79 3
      exact fin2r rfl rfl rfl ⟨hS.upd, _, _, rfl, hS.newOf (List.Mem.head _)⟩
    rcases hu2 : rtextE (s.drop (p + u1)) with ⟨x, v2, e2⟩
    have hl2 := rtextE_le' (s.drop (p + u1))
    rw [hu2, List.length_drop] at hl2
    dsimp only at hl2
    have hu2' := hu2
    rw [← hd1] at hu2'
    by_cases he2 : e2 = 0
    rotate_left
    · rw [opsFin_no (opE_k hu1 hk1 hu2' he2) he2] at hres
      subst hres
      clear hm hm1 hd1 hu2'
      repeat' (first | (show WL _ _ _ _ _ _ _; first | refine WL.pure rfl rfl rfl rfl ?_ | refine WL.nil ?_ | (refine WL.callG rfl rfl (uint_e hu1 (hS.holds _ (List.Mem.tail _ (List.Mem.head _))) (hS.inB_of (List.Mem.tail _ (List.Mem.head _))) (by omega) (by omega)) rfl rfl rfl ?_; rintro v w ⟨rfl, hmut⟩; have hS := hS.mut hmut (.there .here); clear hmut) | (refine WL.alloc (t := 79) hS rfl rfl rfl rfl rfl rfl ?_; intro w ob hS) | (refine WL.callG rfl rfl (rtext_e hu2 (hS.holds _ (List.Mem.tail _ (List.Mem.tail _ (List.Mem.head _)))) (hS.inB_of (List.Mem.tail _ (List.Mem.tail _ (List.Mem.head _)))) (by omega) (by omega)) rfl rfl rfl ?_; rintro v w ⟨rfl, hmut⟩; have hS := hS.mut hmut (.there (.there .here)); clear hmut) | (refine WL.store hS rfl rfl rfl Sb rfl rfl rfl ?_; intro w hS) | refine WL.build rfl rfl rfl rfl rfl ?_) | (show WC _ _ _ _ _ _; first | refine WC.seq ?_ | refine WC.region ?_ | refine WC.block ?_ | refine WC.skip ?_ | refine WC.ret ?_ | refine WC.condF rfl (by decide) ?_ | refine WC.condT rfl (decide_eq_true (by first | with_reducible assumption | omega)) ?_ | refine WC.condF rfl (decide_eq_false (by first | with_reducible assumption | omega)) ?_) | refine seqQ_n ?_ | refine seqQ_r ?_ | refine blkQ_r ?_ | refine rndQ_r ?_)
      have hS := hS.nilRow 79 3
      exact fin2r rfl rfl rfl ⟨hS.upd, _, _, rfl, hS.newOf (List.Mem.head _)⟩
    subst he2
    have hd2 : (s.drop p).drop (u1 + v2) = s.drop (p + u1 + v2) := by rw [List.drop_drop, Nat.add_assoc]
    have hcap := hS.own_len (List.Mem.head _)
    have hpos := uintE_pos (s.drop p)
    rw [hu1] at hpos
    have hpos : 1 ≤ u1 := hpos rfl
    by_cases hk0 : kd = 0
    · subst hk0
      rw [opsFin_ok (opE_gone hu1 hu2'), hd2, ← Nat.add_assoc, ← hm1] at hres
      clear hm hm1 hd1 hu2' hd2
      repeat' (first | (show WL _ _ _ _ _ _ _; first | refine WL.pure rfl rfl rfl rfl ?_ | refine WL.nil ?_ | refine WL.load hS rfl rfl (LdOk.box Mm rfl) rfl rfl rfl ?_ | refine WL.add rfl rfl rfl (by omega) rfl rfl rfl ?_ | (refine WL.callG rfl rfl (uint_e hu1 (hS.holds _ (List.Mem.tail _ (List.Mem.head _))) (hS.inB_of (List.Mem.tail _ (List.Mem.head _))) (by omega) (by omega)) rfl rfl rfl ?_; rintro v w ⟨rfl, hmut⟩; have hS := hS.mut hmut (.there .here); clear hmut) | (refine WL.alloc (t := 79) hS rfl rfl rfl rfl rfl rfl ?_; intro w ob hS) | (refine WL.callG rfl rfl (rtext_e hu2 (hS.holds _ (List.Mem.tail _ (List.Mem.tail _ (List.Mem.head _)))) (hS.inB_of (List.Mem.tail _ (List.Mem.tail _ (List.Mem.head _)))) (by omega) (by omega)) rfl rfl rfl ?_; rintro v w ⟨rfl, hmut⟩; have hS := hS.mut hmut (.there (.there .here)); clear hmut) | (refine WL.app hS rfl rfl rfl rfl (RdOk.box Mm) rfl rfl (fun A cap => Rp) (by omega) rfl rfl rfl ?_; intro A cap w hS) | (refine WL.store hS rfl rfl rfl Sb rfl rfl rfl ?_; intro w hS) | refine WL.build rfl rfl rfl rfl rfl ?_ | (refine WL.slit hS rfl rfl rfl rfl rfl ?_; intro w b hS)) | (show WC _ _ _ _ _ _; first | refine WC.seq ?_ | refine WC.region ?_ | refine WC.block ?_ | refine WC.skip ?_ | refine WC.condF rfl (by decide) ?_ | refine WC.condT rfl (decide_eq_true (by first | with_reducible assumption | omega)) ?_) | refine seqQ_n ?_ | refine blkQ_n ?_)
      exact rndQ_n (k + 1, l ++ [⟨x, [], true⟩], p + u1 + v2, _, _) ⟨by omega, by omega, by simp; omega, hres, by
        have hS := hS.drop.drop
        rw [List.length_append, ← chgs_snoc]
        exact hS⟩ (by show n - (k + 1) < n - k; omega) ⟨by rw [List.length_append]; rfl, vint (by omega), trivial⟩ ⟨rfl, rfl, trivial⟩
    obtain rfl : kd = 1 := by omega
    rcases hu3 : rtextE (s.drop (p + u1 + v2)) with ⟨y, v3, e3⟩
    have hl3 := rtextE_le' (s.drop (p + u1 + v2))
    rw [hu3, List.length_drop] at hl3
    dsimp only at hl3
    have hu3' := hu3
    rw [← hd2] at hu3'
    by_cases he3 : e3 = 0
    rotate_left
    · rw [opsFin_no (opE_v hu1 hu2' hu3' he3) he3] at hres
      subst hres
      clear hm hm1 hd1 hu2' hu3' hd2
      repeat' (first | (show WL _ _ _ _ _ _ _; first | refine WL.pure rfl rfl rfl rfl ?_ | refine WL.nil ?_ | refine WL.load hS rfl rfl (LdOk.box Mm rfl) rfl rfl rfl ?_ | (refine WL.callG rfl rfl (uint_e hu1 (hS.holds _ (List.Mem.tail _ (List.Mem.head _))) (hS.inB_of (List.Mem.tail _ (List.Mem.head _))) (by omega) (by omega)) rfl rfl rfl ?_; rintro v w ⟨rfl, hmut⟩; have hS := hS.mut hmut (.there .here); clear hmut) | (refine WL.alloc (t := 79) hS rfl rfl rfl rfl rfl rfl ?_; intro w ob hS) | (refine WL.callG rfl rfl (rtext_e hu2 (hS.holds _ (List.Mem.tail _ (List.Mem.tail _ (List.Mem.head _)))) (hS.inB_of (List.Mem.tail _ (List.Mem.tail _ (List.Mem.head _)))) (by omega) (by omega)) rfl rfl rfl ?_; rintro v w ⟨rfl, hmut⟩; have hS := hS.mut hmut (.there (.there .here)); clear hmut) | (refine WL.callG rfl rfl (rtext_e hu3 (hS.holds _ (List.Mem.tail _ (List.Mem.tail _ (List.Mem.head _)))) (hS.inB_of (List.Mem.tail _ (List.Mem.tail _ (List.Mem.head _)))) (by omega) (by omega)) rfl rfl rfl ?_; rintro v w ⟨rfl, hmut⟩; have hS := hS.mut hmut (.there (.there .here)); clear hmut) | (refine WL.store hS rfl rfl rfl Sb rfl rfl rfl ?_; intro w hS) | refine WL.build rfl rfl rfl rfl rfl ?_) | (show WC _ _ _ _ _ _; first | refine WC.seq ?_ | refine WC.region ?_ | refine WC.block ?_ | refine WC.skip ?_ | refine WC.ret ?_ | refine WC.condT rfl (by decide) ?_ | refine WC.condF rfl (by decide) ?_ | refine WC.condT rfl (decide_eq_true (by first | with_reducible assumption | omega)) ?_) | refine seqQ_n ?_ | refine seqQ_r ?_ | refine blkQ_r ?_ | refine rndQ_r ?_)
      have hS := hS.nilRow 79 3
      exact fin2r rfl rfl rfl ⟨hS.upd, _, _, rfl, hS.newOf (List.Mem.head _)⟩
    subst he3
    have hd3 : (s.drop p).drop (u1 + v2 + v3) = s.drop (p + u1 + v2 + v3) := by rw [List.drop_drop]; congr 1; omega
    rw [opsFin_ok (opE_put hu1 hu2' hu3'), hd3, show p + (u1 + v2 + v3) = p + u1 + v2 + v3 by omega, ← hm1] at hres
    clear hm hm1 hd1 hu2' hu3' hd2 hd3 hk0 hk1
    repeat' (first | (show WL _ _ _ _ _ _ _; first | refine WL.pure rfl rfl rfl rfl ?_ | refine WL.nil ?_ | refine WL.load hS rfl rfl (LdOk.box Mm rfl) rfl rfl rfl ?_ | refine WL.add rfl rfl rfl (by omega) rfl rfl rfl ?_ | (refine WL.callG rfl rfl (uint_e hu1 (hS.holds _ (List.Mem.tail _ (List.Mem.head _))) (hS.inB_of (List.Mem.tail _ (List.Mem.head _))) (by omega) (by omega)) rfl rfl rfl ?_; rintro v w ⟨rfl, hmut⟩; have hS := hS.mut hmut (.there .here); clear hmut) | (refine WL.alloc (t := 79) hS rfl rfl rfl rfl rfl rfl ?_; intro w ob hS) | (refine WL.callG rfl rfl (rtext_e hu2 (hS.holds _ (List.Mem.tail _ (List.Mem.tail _ (List.Mem.head _)))) (hS.inB_of (List.Mem.tail _ (List.Mem.tail _ (List.Mem.head _)))) (by omega) (by omega)) rfl rfl rfl ?_; rintro v w ⟨rfl, hmut⟩; have hS := hS.mut hmut (.there (.there .here)); clear hmut) | (refine WL.callG rfl rfl (rtext_e hu3 (hS.holds _ (List.Mem.tail _ (List.Mem.tail _ (List.Mem.head _)))) (hS.inB_of (List.Mem.tail _ (List.Mem.tail _ (List.Mem.head _)))) (by omega) (by omega)) rfl rfl rfl ?_; rintro v w ⟨rfl, hmut⟩; have hS := hS.mut hmut (.there (.there .here)); clear hmut) | (refine WL.app hS rfl rfl rfl rfl (RdOk.box Mm) rfl rfl (fun A cap => Rp) (by omega) rfl rfl rfl ?_; intro A cap w hS) | (refine WL.store hS rfl rfl rfl Sb rfl rfl rfl ?_; intro w hS) | refine WL.build rfl rfl rfl rfl rfl ?_ | (refine WL.slit hS rfl rfl rfl rfl rfl ?_; intro w b hS)) | (show WC _ _ _ _ _ _; first | refine WC.seq ?_ | refine WC.region ?_ | refine WC.block ?_ | refine WC.skip ?_ | refine WC.condT rfl (by decide) ?_ | refine WC.condF rfl (by decide) ?_ | refine WC.condT rfl (decide_eq_true (by first | with_reducible assumption | omega)) ?_) | refine seqQ_n ?_ | refine blkQ_n ?_)
    exact rndQ_n (k + 1, l ++ [⟨x, y, false⟩], p + u1 + v2 + v3, _, _) ⟨by omega, by omega, by simp; omega, hres, by
      have hS := hS.drop.drop
      rw [List.length_append, ← chgs_snoc]
      exact hS⟩ (by show n - (k + 1) < n - k; omega) ⟨by rw [List.length_append]; rfl, vint (by omega), trivial⟩ ⟨rfl, rfl, trivial⟩
  · have hke : n - k = 0 := by omega
    rw [hke] at hres
    have hres : (if p < s.length then (([], 5) : List Chg × Int) else (l, 0)) = RES := by rw [← hres]; unfold opsFin opsF; simp
    by_cases hps : p < s.length
    case' pos => rw [if_pos hps] at hres
    case' neg => rw [if_neg hps] at hres
    all_goals
      subst hres
      clear hke
      repeat' (first | (show WL _ _ _ _ _ _ _; first | refine WL.pure rfl rfl rfl rfl ?_ | refine WL.nil ?_ | (refine WL.calls hS rfl rfl (rdone_c r s p _ (hS.holds _ (List.Mem.tail _ (List.Mem.head _)))) rfl rfl rfl ?_; rintro v w rfl hS; first | rw [if_pos hps] | rw [if_neg hps])) | (show WC _ _ _ _ _ _; first | refine WC.seq ?_ | refine WC.region ?_ | refine WC.skip ?_ | refine WC.exit ?_ | refine WC.ret ?_ | refine WC.condT rfl (by decide) ?_ | refine WC.condF rfl (by decide) ?_ | refine WC.condF rfl (decide_eq_false (by first | with_reducible assumption | omega)) ?_) | refine seqQ_n ?_ | refine seqQ_x ?_ | refine seqQ_r ?_ | refine blkQ_hit rfl ?_ | refine rndQ_x ?_)
    all_goals first
      | exact fin2r rfl rfl rfl ⟨hS.upd, _, _, rfl, hS.newOf (List.Mem.head _)⟩
      | exact fin2r rfl rfl rfl ⟨hS.upd, _, _, rfl, (hS.nilRow 79 3).newOf (List.Mem.head _)⟩
end Go.Proofs.YtccfiohagbneaaaGreatDoor

/- What is proved: a table: changes applied, the base read, the table opened. Conditions: no limit at the disk, texts of bounded length. -/
namespace Go.Proofs.YtccfiohagbneaaaGreatDoor
open Go Go.J Go.RowKit
abbrev Rws := List (List UInt8 × List UInt8)
@[reducible] def encRow (s : List UInt8) : Value := .agg ⟨[str s]⟩
abbrev tbB (T : Nat) (dp : Option Addr) (dir : List UInt8) (lp : Option Addr) (m : Nat) : Chunk := .box T 139 [.pointer dp, str dir, .pointer lp, .map (some m)]
abbrev rowsC (m : Nat) (rows : Rws) : Chunk := mapC m (mmap encRow rows)
abbrev chgC (A : Option Addr) (cap : Nat) (l : List Chg) : Chunk := .own (.slice A l.length cap) 79 3 l.length (chgs l)
theorem rows_set (m : Nat) (rs : Rws) (key val : List UInt8) : mapC m (mset (mmap encRow rs) key (encRow val)) = rowsC m (mset rs key val) := by rw [mset_map]
theorem rows_del (m : Nat) (rs : Rws) (key : List UInt8) : mapC m (mdel (mmap encRow rs) key) = rowsC m (mdel rs key) := by rw [mdel_map]
theorem applyE_cons (rows : Rws) (o : Chg) (l : List Chg) : applyE rows (o :: l) = applyE (if o.gone then mdel rows o.key else mset rows o.key o.val) l := rfl
set_option maxHeartbeats 8000000 in
set_option maxRecDepth 100000 in
theorem apply_c {T m cap : Nat} {dp lp A : Option Addr} {dir : List UInt8} {rows : Rws} {l : List Chg} {w0 : World} (hi : InL w0 [tbB T dp dir lp m, rowsC m rows, chgC A cap l]) (hl : l.length ≤ 1099511627776) :
    Cal Tryz.prog 92 [.pointer (some ⟨T, 0, none⟩), .slice A l.length cap] w0
      (fun v w' => v = .tuple #[] ∧ MutL w0 w' [tbB T dp dir lp m, rowsC m rows, chgC A cap l] [tbB T dp dir lp m, rowsC m (applyE rows l), chgC A cap l]) := by
  refine Cal.mkL hi (by kernel_rfl) Tryz.func92 rfl rfl fun hS => ?_
  repeat' (first | (show WL _ _ _ _ _ _ _; first | refine WL.pure rfl rfl rfl rfl ?_ | refine WL.nil ?_) | (show WC _ _ _ _ _ _; first | refine WC.seq ?_ | refine WC.region ?_ | refine WC.block ?_) | refine seqQ_n ?_)
  refine WC.loop (σ := Nat × Rws) [0, 6, 7] (fun (k, rs) => [(8, .int .i64 (k : Int))]) (fun (k, rs) w => k ≤ l.length ∧ applyE rs (l.drop k) = applyE rows l ∧ St w0 (fps [tbB T dp dir lp m, rowsC m rows, chgC A cap l]) w [tbB T dp dir lp m, rowsC m rs, chgC A cap l] _) (fun (k, _) => l.length - k) (0, rows) ⟨Nat.zero_le _, rfl, hS⟩ ⟨rfl, trivial⟩ ?_
  clear hS
  rintro ⟨k, rs⟩ g w ⟨hk, hrs, hS⟩
  show WC _ _ _ (lf _ [(8, .int .i64 (k : Int))] _ _) _ _
  by_cases hlt : k < l.length
  · have hat : l[k]? = some l[k] := List.getElem?_eq_getElem hlt
    rw [List.drop_eq_getElem_cons hlt, applyE_cons] at hrs
    generalize l[k] = o at *
    obtain ⟨key, val, gone⟩ := o
    obtain ⟨rg, ro, rfl⟩ := hS.own_addr (List.Mem.tail _ (List.Mem.tail _ (List.Mem.head _))) (Nat.lt_of_le_of_lt (Nat.zero_le k) hlt)
    rcases gone with _ | _
    · replace hrs : applyE (mset rs key val) (l.drop (k + 1)) = applyE rows l := hrs
      repeat' (first | (show WL _ _ _ _ _ _ _; first | refine WL.pure rfl rfl rfl rfl ?_ | refine WL.nil ?_ | refine WL.load hS rfl rfl (LdOk.box Mm rfl) rfl rfl rfl ?_ | refine WL.add rfl rfl rfl (by omega) rfl rfl rfl ?_ | (refine WL.load hS rfl rfl (LdOk.ownElemE (fun _ => rfl) Mm hat rfl rfl) rfl rfl rfl ?_) | (refine WL.alloc (t := 79) hS rfl rfl rfl rfl rfl rfl ?_; intro w ob hS) | (refine WL.store hS rfl rfl rfl Sb rfl rfl rfl ?_; intro w hS) | refine WL.index rfl rfl rfl rfl (by first | with_reducible assumption | omega) rfl rfl rfl rfl ?_) | (show WC _ _ _ _ _ _; first | refine WC.seq ?_ | refine WC.region ?_ | refine WC.block ?_ | refine WC.skip ?_ | (show WC _ _ (Code.region _ (List.toArray [_, _, _, _, _, _, _, _, _, _]) true) _ _ _; refine WC.drawL [rowsC m rs] hS Pu [0,1,2,3,4,5,6,7,8] [0,1,2,3,4,5,6,7,8,9] (by kernel_rfl) (by kernel_rfl) ?_; clear hS; intro w hS hM) | refine WC.condF rfl (by with_reducible rfl) ?_ | refine WC.condT rfl (decide_eq_true (by first | with_reducible assumption | omega)) ?_) | (show WD _ _ _ _ _ _ _ _ _; first | refine WD.pure rfl rfl rfl rfl rfl ?_ | refine WD.nil ?_ | refine WD.load rfl rfl (LdOk.box Mm rfl) rfl rfl rfl rfl ?_ | (refine WD.msetC hS (More.refl _ _) (.inl rfl) rfl rfl rfl rfl rfl rfl rfl rfl ?_; clear hS; intro w hS) | refine WD.build rfl rfl rfl rfl rfl rfl ?_) | refine seqQ_n ?_ | refine blkQ_n ?_)
      exact rndQ_n (k + 1, mset rs key val) ⟨by omega, hrs, by rw [← rows_set]; exact hS.droplast2 Pu⟩ (by show l.length - (k + 1) < l.length - k; omega) ⟨vint (by omega), trivial⟩ ⟨rfl, rfl, rfl, trivial⟩
    · replace hrs : applyE (mdel rs key) (l.drop (k + 1)) = applyE rows l := hrs
      repeat' (first | (show WL _ _ _ _ _ _ _; first | refine WL.pure rfl rfl rfl rfl ?_ | refine WL.nil ?_ | refine WL.load hS rfl rfl (LdOk.box Mm rfl) rfl rfl rfl ?_ | refine WL.add rfl rfl rfl (by omega) rfl rfl rfl ?_ | (refine WL.load hS rfl rfl (LdOk.ownElemE (fun _ => rfl) Mm hat rfl rfl) rfl rfl rfl ?_) | (refine WL.alloc (t := 79) hS rfl rfl rfl rfl rfl rfl ?_; intro w ob hS) | (refine WL.store hS rfl rfl rfl Sb rfl rfl rfl ?_; intro w hS) | refine WL.index rfl rfl rfl rfl (by first | with_reducible assumption | omega) rfl rfl rfl rfl ?_) | (show WC _ _ _ _ _ _; first | refine WC.seq ?_ | refine WC.region ?_ | refine WC.block ?_ | refine WC.skip ?_ | (show WC _ _ (Code.region _ (List.toArray [_, _, _, _, _, _, _]) true) _ _ _; refine WC.drawL [rowsC m rs] hS Pu [0,1,2,3,4,5] [0,1,2,3,4,5,6] (by kernel_rfl) (by kernel_rfl) ?_; clear hS; intro w hS hM) | refine WC.condT rfl (by with_reducible rfl) ?_ | refine WC.condT rfl (decide_eq_true (by first | with_reducible assumption | omega)) ?_) | (show WD _ _ _ _ _ _ _ _ _; first | refine WD.pure rfl rfl rfl rfl rfl ?_ | refine WD.nil ?_ | refine WD.load rfl rfl (LdOk.box Mm rfl) rfl rfl rfl rfl ?_ | (refine WD.mdelC0 hS (More.refl _ _) rfl rfl rfl rfl rfl rfl rfl rfl ?_; clear hS; intro w hS)) | refine seqQ_n ?_ | refine blkQ_n ?_)
      exact rndQ_n (k + 1, mdel rs key) ⟨by omega, hrs, by rw [← rows_del]; exact hS.droplast2 Pu⟩ (by show l.length - (k + 1) < l.length - k; omega) ⟨vint (by omega), trivial⟩ ⟨rfl, rfl, rfl, trivial⟩
  · have hke : k = l.length := by omega
    subst hke
    rw [List.drop_length] at hrs
    have hrs : rs = applyE rows l := hrs
    subst hrs
    repeat' (first | (show WL _ _ _ _ _ _ _; first | refine WL.pure rfl rfl rfl rfl ?_ | refine WL.nil ?_) | (show WC _ _ _ _ _ _; first | refine WC.seq ?_ | refine WC.region ?_ | refine WC.exit ?_ | refine WC.condF rfl (decide_eq_false (by first | with_reducible assumption | omega)) ?_) | refine seqQ_n ?_ | refine seqQ_x ?_ | refine blkQ_hit rfl ?_ | refine rndQ_x ?_)
    exact fin0n rfl ⟨rfl, hS.mutLp Pu⟩
abbrev baseP (dir : List UInt8) : List UInt8 := dir ++ [47, 98, 97, 115, 101]
abbrev logP (dir : List UInt8) : List UInt8 := dir ++ [47, 108, 111, 103]
def tabLoad (D : Dk) (dir : List UInt8) : Int × Rws :=
  if (D.read (baseP dir)).2 ≠ 0 then ((D.read (baseP dir)).2, [])
  else if (readE (D.read (baseP dir)).1).2.2 ≠ 0 then ((readE (D.read (baseP dir)).1).2.2, [])
  else if (readE (D.read (baseP dir)).1).2.1 < (D.read (baseP dir)).1.length then (5, [])
  else if (opsE (readE (D.read (baseP dir)).1).1).2 ≠ 0 then ((opsE (readE (D.read (baseP dir)).1).1).2, [])
  else (0, applyE [] (opsE (readE (D.read (baseP dir)).1).1).1)
theorem readE_len (t : List UInt8) : (readE t).1.length ≤ t.length := by
  by_cases h : (readE t).2.2 = 0
  · exact (readE_le t h).2.2
  · unfold readE at h ⊢
    split
    · rename_i h1
      rw [if_pos h1] at h
      split
      · exact Nat.zero_le _
      · rename_i h2
        rw [if_neg h2] at h
        split
        · rename_i h3
          rw [if_pos h3] at h
          exact absurd rfl h
        · exact Nat.zero_le _
    · exact Nat.zero_le _
theorem frV_0 (x : List UInt8) (u : Nat) : frV 0 (x, u, 0) = .tuple #[str x, .int .i64 (u : Int), .int .i64 0] := by simp [frV]
theorem frV_e {x : List UInt8} {u : Nat} {e : Int} (h : e ≠ 0) : frV 0 (x, u, e) = .tuple #[str [], .int .i64 0, .int .i64 e] := by simp [frV, h]
theorem read_len {D : Dk} {B : Nat} (h : D.Sm B) (p : List UInt8) : (D.read p).1.length ≤ B := by
  have h2 := h.at_ p
  unfold Dk.read
  repeat' split
  all_goals first | exact Nat.zero_le _ | exact h2
set_option maxHeartbeats 8000000 in
set_option maxRecDepth 100000 in
theorem load_c {T q mb lb m : Nat} {lp : Option Addr} {dir : List UInt8} {D : Dk} {w0 : World} (hi : InL w0 [tbB T (some ⟨q, 0, none⟩) dir lp m, rowsC m [], dkC q mb lb D]) (hl : dir.length ≤ 1099511000) (hno : D.Sm 1099511627776) :
    Cal Tryz.prog 90 [.pointer (some ⟨T, 0, none⟩)] w0
      (fun v w' => v = .int .i64 (tabLoad D dir).1 ∧ MutL w0 w' [tbB T (some ⟨q, 0, none⟩) dir lp m, rowsC m [], dkC q mb lb D] [tbB T (some ⟨q, 0, none⟩) dir lp m, rowsC m (tabLoad D dir).2, dkC q mb lb D]) := by
  refine Cal.mkL hi (by kernel_rfl) Tryz.func90 rfl rfl fun hS => ?_
  have hk5 : ([47, 98, 97, 115, 101] : List UInt8).length = 5 := rfl
  have hsl := read_len hno (baseP dir)
  unfold tabLoad
  have hrd : ∀ w0, DkIs q mb lb D w0 → Cal Tryz.prog 27 [.pointer (some ⟨q, 0, none⟩), str (baseP dir)] w0 (fun v w' => Upd [] w0 w' ∧ v = .tuple #[str (D.read (baseP dir)).1, .int .i64 (D.read (baseP dir)).2]) := fun w0 h => dread_c _ h
  generalize (D.read (baseP dir)).1 = s at *
  generalize (D.read (baseP dir)).2 = e at *
  by_cases he : e = 0
  rotate_left
  · rw [if_pos he]
    repeat' (first | (show WL _ _ _ _ _ _ _; first | refine WL.pure rfl rfl rfl rfl ?_ | refine WL.nil ?_) | (show WC _ _ _ _ _ _; first | refine WC.seq ?_ | refine WC.region ?_ | refine WC.ret ?_ | (show WC _ _ (Code.region _ (List.toArray [_, _, _, _, _, _, _, _, _, _, _, _, _, _, _]) true) _ _ _; refine WC.drawS hS [0,1,2,3,4,5,6,7,8,10,11,12,13,14] [0,1,2,3,4,5,6,7,8,9,10,11,12,13,14] (by kernel_rfl) (by kernel_rfl) ?_; clear hS; intro w hS hM) | refine WC.condT rfl (decide_eq_true (by first | with_reducible assumption | omega)) ?_) | (show WD _ _ _ _ _ _ _ _ _; first | refine WD.pure rfl rfl rfl rfl rfl ?_ | refine WD.nil ?_ | refine WD.load rfl rfl (LdOk.box Mm rfl) rfl rfl rfl rfl ?_ | (refine WD.cat rfl rfl rfl (by omega) rfl rfl rfl rfl ?_) | (refine WD.calls hS hM rfl rfl (hrd _ (hS.holds (dkC q mb lb D) Mm).1) rfl rfl rfl rfl rfl ?_; clear hS; rintro v w rfl hS)) | refine seqQ_n ?_ | refine seqQ_r ?_)
    exact fin1r rfl rfl ⟨rfl, hS.mutLp Pu⟩
  subst he
  rw [if_neg (fun h => h rfl)]
  have hfr : ∀ w0, Cal Tryz.prog 127 [str s, .int .i64 0] w0 (fun v w' => Upd [] w0 w' ∧ v = frV 0 (readE s)) := fun w0 => fread_c s 0 w0 (Nat.zero_le _) hsl
  have hxl := readE_len s
  rcases hf : readE s with ⟨x, u, e⟩
  rw [hf] at hfr hxl
  dsimp only at hxl ⊢
  by_cases he : e = 0
  rotate_left
  · rw [if_pos he]
    rw [frV_e he] at hfr
    repeat' (first | (show WL _ _ _ _ _ _ _; first | refine WL.pure rfl rfl rfl rfl ?_ | refine WL.nil ?_ | (refine WL.calls hS rfl rfl (hfr _) rfl rfl rfl ?_; rintro v w rfl hS)) | (show WC _ _ _ _ _ _; first | refine WC.seq ?_ | refine WC.region ?_ | refine WC.skip ?_ | refine WC.ret ?_ | (show WC _ _ (Code.region _ (List.toArray [_, _, _, _, _, _, _, _, _, _, _, _, _, _, _]) true) _ _ _; refine WC.drawS hS [0,1,2,3,4,5,6,7,8,10,11,12,13,14] [0,1,2,3,4,5,6,7,8,9,10,11,12,13,14] (by kernel_rfl) (by kernel_rfl) ?_; clear hS; intro w hS hM) | refine WC.condF rfl (by decide) ?_ | refine WC.condT rfl (decide_eq_true (by first | with_reducible assumption | omega)) ?_) | (show WD _ _ _ _ _ _ _ _ _; first | refine WD.pure rfl rfl rfl rfl rfl ?_ | refine WD.nil ?_ | refine WD.load rfl rfl (LdOk.box Mm rfl) rfl rfl rfl rfl ?_ | (refine WD.cat rfl rfl rfl (by omega) rfl rfl rfl rfl ?_) | (refine WD.calls hS hM rfl rfl (hrd _ (hS.holds (dkC q mb lb D) Mm).1) rfl rfl rfl rfl rfl ?_; clear hS; rintro v w rfl hS)) | refine seqQ_n ?_ | refine seqQ_r ?_)
    exact fin1r rfl rfl ⟨rfl, hS.mutLp Pu⟩
  subst he
  rw [if_neg (fun h => h rfl)]
  rw [frV_0] at hfr
  by_cases hu : u < s.length
  · rw [if_pos hu]
    repeat' (first | (show WL _ _ _ _ _ _ _; first | refine WL.pure rfl rfl rfl rfl ?_ | refine WL.nil ?_ | (refine WL.calls hS rfl rfl (hfr _) rfl rfl rfl ?_; rintro v w rfl hS)) | (show WC _ _ _ _ _ _; first | refine WC.seq ?_ | refine WC.region ?_ | refine WC.skip ?_ | refine WC.ret ?_ | (show WC _ _ (Code.region _ (List.toArray [_, _, _, _, _, _, _, _, _, _, _, _, _, _, _]) true) _ _ _; refine WC.drawS hS [0,1,2,3,4,5,6,7,8,10,11,12,13,14] [0,1,2,3,4,5,6,7,8,9,10,11,12,13,14] (by kernel_rfl) (by kernel_rfl) ?_; clear hS; intro w hS hM) | refine WC.condF rfl (by decide) ?_ | refine WC.condT rfl (decide_eq_true (by first | with_reducible assumption | omega)) ?_) | (show WD _ _ _ _ _ _ _ _ _; first | refine WD.pure rfl rfl rfl rfl rfl ?_ | refine WD.nil ?_ | refine WD.load rfl rfl (LdOk.box Mm rfl) rfl rfl rfl rfl ?_ | (refine WD.cat rfl rfl rfl (by omega) rfl rfl rfl rfl ?_) | (refine WD.calls hS hM rfl rfl (hrd _ (hS.holds (dkC q mb lb D) Mm).1) rfl rfl rfl rfl rfl ?_; clear hS; rintro v w rfl hS)) | refine seqQ_n ?_ | refine seqQ_r ?_)
    exact fin1r rfl rfl ⟨rfl, hS.mutLp Pu⟩
  rw [if_neg hu]
  have hop := fun w0 => ops_c x w0 (by omega)
  rcases ho : opsE x with ⟨l, e⟩
  rw [ho] at hop
  unfold opsR at hop
  dsimp only at hop ⊢
  by_cases he : e = 0
  rotate_left
  · rw [if_pos he]
    repeat' (first | (show WL _ _ _ _ _ _ _; first | refine WL.pure rfl rfl rfl rfl ?_ | refine WL.nil ?_ | (refine WL.calls hS rfl rfl (hfr _) rfl rfl rfl ?_; rintro v w rfl hS) | (refine WL.callG rfl rfl (hop _) rfl rfl rfl ?_; rintro v w ⟨hup, A, cap, rfl, hn⟩; replace hS := hS.new hup hn; clear hup hn)) | (show WC _ _ _ _ _ _; first | refine WC.seq ?_ | refine WC.region ?_ | refine WC.skip ?_ | refine WC.ret ?_ | (show WC _ _ (Code.region _ (List.toArray [_, _, _, _, _, _, _, _, _, _, _, _, _, _, _]) true) _ _ _; refine WC.drawS hS [0,1,2,3,4,5,6,7,8,10,11,12,13,14] [0,1,2,3,4,5,6,7,8,9,10,11,12,13,14] (by kernel_rfl) (by kernel_rfl) ?_; clear hS; intro w hS hM) | refine WC.condF rfl (by decide) ?_ | refine WC.condT rfl (decide_eq_true (by first | with_reducible assumption | omega)) ?_ | refine WC.condF rfl (decide_eq_false (by first | with_reducible assumption | omega)) ?_) | (show WD _ _ _ _ _ _ _ _ _; first | refine WD.pure rfl rfl rfl rfl rfl ?_ | refine WD.nil ?_ | refine WD.load rfl rfl (LdOk.box Mm rfl) rfl rfl rfl rfl ?_ | (refine WD.cat rfl rfl rfl (by omega) rfl rfl rfl rfl ?_) | (refine WD.calls hS hM rfl rfl (hrd _ (hS.holds (dkC q mb lb D) Mm).1) rfl rfl rfl rfl rfl ?_; clear hS; rintro v w rfl hS)) | refine seqQ_n ?_ | refine seqQ_r ?_)
    exact fin1r rfl rfl ⟨rfl, hS.mutLp Pu⟩
  subst he
  rw [if_neg (fun h => h rfl)]
  have hll : l.length ≤ 1099511627776 := by
    have := opsE_len x
    rw [ho] at this
    exact Nat.le_trans this (by omega)
  repeat' (first | (show WL _ _ _ _ _ _ _; first | refine WL.pure rfl rfl rfl rfl ?_ | refine WL.nil ?_ | (refine WL.calls hS rfl rfl (hfr _) rfl rfl rfl ?_; rintro v w rfl hS) | (refine WL.callG rfl rfl (hop _) rfl rfl rfl ?_; rintro v w ⟨hup, A, cap, rfl, hn⟩; replace hS := hS.new hup hn; clear hup hn) | (refine WL.callL (D := [tbB T (some ⟨q, 0, none⟩) dir lp m, rowsC m [], chgC A cap l]) hS Pu rfl rfl (fun hI => apply_c hI hll) rfl rfl rfl ?_; rintro v w ⟨rfl, hm⟩ hS; replace hS := hS _ hm; clear hm)) | (show WC _ _ _ _ _ _; first | refine WC.seq ?_ | refine WC.region ?_ | refine WC.skip ?_ | refine WC.ret ?_ | (show WC _ _ (Code.region _ (List.toArray [_, _, _, _, _, _, _, _, _, _, _, _, _, _, _]) true) _ _ _; refine WC.drawS hS [0,1,2,3,4,5,6,7,8,10,11,12,13,14] [0,1,2,3,4,5,6,7,8,9,10,11,12,13,14] (by kernel_rfl) (by kernel_rfl) ?_; clear hS; intro w hS hM) | refine WC.condF rfl (by decide) ?_ | refine WC.condF rfl (decide_eq_false (by first | with_reducible assumption | omega)) ?_) | (show WD _ _ _ _ _ _ _ _ _; first | refine WD.pure rfl rfl rfl rfl rfl ?_ | refine WD.nil ?_ | refine WD.load rfl rfl (LdOk.box Mm rfl) rfl rfl rfl rfl ?_ | (refine WD.cat rfl rfl rfl (by omega) rfl rfl rfl rfl ?_) | (refine WD.calls hS hM rfl rfl (hrd _ (hS.holds (dkC q mb lb D) Mm).1) rfl rfl rfl rfl rfl ?_; clear hS; rintro v w rfl hS)) | refine seqQ_n ?_)
  exact fin1r rfl rfl ⟨rfl, hS.mutLp Pu⟩
end Go.Proofs.YtccfiohagbneaaaGreatDoor

/- What is proved: what opening a table answers. Conditions: no limit at the disk, texts of bounded length. -/
namespace Go.Proofs.YtccfiohagbneaaaGreatDoor
open Go Go.J Go.RowKit
structure Tb where
  dir : List UInt8
  rows : Rws
  log : Lg
def tabφ (Tp q : Nat) (T : Tb) (D : List Chunk) : Prop := ∃ m L fp, D = [tbB Tp (some ⟨q, 0, none⟩) T.dir (some ⟨L, 0, none⟩) m, rowsC m T.rows, lgC L q T.log fp]
abbrev tabC (Tp q : Nat) (T : Tb) (fp : List Nat) : Chunk := objC (tabφ Tp q T) fp
def replay : Rws → List (List UInt8) → Int × Rws
  | rows, [] => (0, rows)
  | rows, r :: rs => if (opsE r).2 ≠ 0 then ((opsE r).2, []) else replay (applyE rows (opsE r).1) rs
theorem replay_cons (rows : Rws) (r : List UInt8) (rs : List (List UInt8)) : replay rows (r :: rs) = if (opsE r).2 ≠ 0 then ((opsE r).2, []) else replay (applyE rows (opsE r).1) rs := rfl
def tabMk (D : Dk) (dir : List UInt8) : Int × Dk := if D.kind dir = 0 then D.mkdir dir else (0, D)
def tabBase (D : Dk) (dir : List UInt8) : Int × Rws := if D.kind (baseP dir) = 0 then (0, []) else tabLoad D dir
def tabLog (dir : List UInt8) (rows : Rws) : Int × Option Lg × Dk → Int × Option Tb × Dk
  | (e, none, D) => (e, none, D)
  | (_, some G, D) => if (replay rows G.recs).1 ≠ 0 then ((replay rows G.recs).1, none, D) else (0, some ⟨dir, (replay rows G.recs).2, G⟩, D)
def tabOpen (D : Dk) (dir : List UInt8) : Int × Option Tb × Dk :=
  if (tabMk D dir).1 ≠ 0 then ((tabMk D dir).1, none, (tabMk D dir).2)
  else if (tabBase (tabMk D dir).2 dir).1 ≠ 0 then ((tabBase (tabMk D dir).2 dir).1, none, (tabMk D dir).2)
  else tabLog dir (tabBase (tabMk D dir).2 dir).2 (walOpen (tabMk D dir).2 (logP dir))
def topenR (q mb lb : Nat) (D : Dk) (w0 : World) (r : Int × Option Tb × Dk) (v : Value) (w' : World) : Prop :=
  match r with
  | (e, none, D') => v = .tuple #[.pointer none, .int .i64 e] ∧ MutL w0 w' [dkC q mb lb D] [dkC q mb lb D']
  | (e, some T, D') => ∃ Tp fp, v = .tuple #[.pointer (some ⟨Tp, 0, none⟩), .int .i64 e] ∧ MutL w0 w' [dkC q mb lb D] [tabC Tp q T fp, dkC q mb lb D']
theorem Dk.Sm.mkdir {D : Dk} {B : Nat} (h : D.Sm B) {p : List UInt8} : (D.mkdir p).2.Sm B := by
  unfold Dk.mkdir
  repeat' split
  all_goals first | exact h | exact h.step | exact h.step.put (Nat.zero_le _)
theorem tabMk_sm {D : Dk} {B : Nat} (h : D.Sm B) (dir : List UInt8) : (tabMk D dir).2.Sm B := by
  unfold tabMk
  split
  · exact h.mkdir
  · exact h
theorem kind_ne (D : Dk) (p : List UInt8) : D.kind p = 0 ∨ D.kind p = 1 ∨ D.kind p = 2 := by
  unfold Dk.kind
  repeat' split
  · exact .inr (.inl rfl)
  · exact .inr (.inr rfl)
  · exact .inl rfl
theorem walOpen_e (D : Dk) (p : List UInt8) : ((walOpen D p).2.1 = none → (walOpen D p).1 ≠ 0) ∧ ∀ G, (walOpen D p).2.1 = some G → (walOpen D p).1 = 0 := by
  unfold walOpen
  repeat' split
  all_goals
    constructor
    · intro h
      first
        | assumption
        | cases h
    · intro G h
      first
        | rfl
        | cases h
set_option maxHeartbeats 16000000 in
set_option maxRecDepth 100000 in
theorem topen_c {q mb lb : Nat} {D : Dk} (dir : List UInt8) {w0 : World} (hi : InL w0 [dkC q mb lb D]) (hl : dir.length ≤ 1099511000) (hno : D.Sm 1099511627776)
    (hlog : ∀ e G D', walOpen (tabMk D dir).2 (logP dir) = (e, some G, D') → G.recs.length ≤ 4194304 ∧ ∀ r ∈ G.recs, r.length ≤ 1099511627776) :
    Cal Tryz.prog 36 [.pointer (some ⟨q, 0, none⟩), str dir] w0 (topenR q mb lb D w0 (tabOpen D dir)) := by
  refine Cal.mkL hi (by kernel_rfl) Tryz.func36 rfl rfl fun hS => ?_
  have k5 : ([47, 98, 97, 115, 101] : List UInt8).length = 5 := rfl
  have k4 : ([47, 108, 111, 103] : List UInt8).length = 4 := rfl
  have hno1 := tabMk_sm hno dir
  unfold tabOpen
  rcases hmk : tabMk D dir with ⟨e1, D1⟩
  rw [hmk] at hno1 hlog
  dsimp only at hno1 hlog ⊢
  generalize hRES : (if e1 ≠ 0 then (e1, none, D1) else if (tabBase D1 dir).1 ≠ 0 then ((tabBase D1 dir).1, none, D1) else tabLog dir (tabBase D1 dir).2 (walOpen D1 (logP dir))) = RES
  repeat' (first | (show WL _ _ _ _ _ _ _; first | refine WL.pure rfl rfl rfl rfl ?_ | refine WL.nil ?_) | (show WC _ _ _ _ _ _; first | (show WC _ _ (Code.seq (Code.seq (Code.region 3 _ _) _) _) _ _ _; refine WC.cutS (σ := Unit) [0, 1] (fun _ => []) (fun _ w => e1 = 0 ∧ St w0 (fps [dkC q mb lb D]) w [dkC q mb lb D1] (ZL w0 [dkC q mb lb D])) ?_ ?_) | refine WC.seq ?_ | refine WC.region ?_ | refine WC.skip ?_ | refine WC.condF rfl (by with_reducible rfl) ?_) | refine seqQ_n ?_)
  · -- the folder
    unfold tabMk at hmk
    by_cases hk : D.kind dir = 0
    · rw [if_pos hk] at hmk
      by_cases he : e1 = 0
      · subst he
        clear hRES hlog hno1
        repeat' (first | (show WL _ _ _ _ _ _ _; first | refine WL.pure rfl rfl rfl rfl ?_ | refine WL.nil ?_ | (refine WL.calls hS rfl rfl (dkind_c dir (hS.holds (dkC q mb lb D) Mm).1) rfl rfl rfl ?_; rintro v w rfl hS; rw [hk]) | (refine WL.callL (D := [dkC q mb lb D]) hS Pu rfl rfl (fun hI => mkdir_c dir hI.head hI.headB (by omega)) rfl rfl rfl ?_; rintro v w ⟨rfl, hm⟩ hS; rw [hmk] at hm ⊢; replace hS := hS _ (.of1 hm); clear hm)) | (show WC _ _ _ _ _ _; first | refine WC.seq ?_ | refine WC.region ?_ | refine WC.skip ?_ | refine WC.condT rfl (by decide) ?_ | refine WC.condF rfl (decide_eq_false (by first | with_reducible assumption | omega)) ?_) | refine seqQ_n ?_)
        exact endQ_n () ⟨rfl, hS⟩ trivial ⟨rfl, rfl, trivial⟩
      · rw [if_pos he] at hRES
        subst hRES
        clear hlog hno1
        repeat' (first | (show WL _ _ _ _ _ _ _; first | refine WL.pure rfl rfl rfl rfl ?_ | refine WL.nil ?_ | (refine WL.calls hS rfl rfl (dkind_c dir (hS.holds (dkC q mb lb D) Mm).1) rfl rfl rfl ?_; rintro v w rfl hS; rw [hk]) | (refine WL.callL (D := [dkC q mb lb D]) hS Pu rfl rfl (fun hI => mkdir_c dir hI.head hI.headB (by omega)) rfl rfl rfl ?_; rintro v w ⟨rfl, hm⟩ hS; rw [hmk] at hm ⊢; replace hS := hS _ (.of1 hm); clear hm)) | (show WC _ _ _ _ _ _; first | refine WC.seq ?_ | refine WC.region ?_ | refine WC.ret ?_ | refine WC.condT rfl (by decide) ?_ | refine WC.condT rfl (decide_eq_true (by first | with_reducible assumption | omega)) ?_) | refine seqQ_n ?_ | refine endQ_r ?_)
        exact fin2r rfl rfl rfl ⟨rfl, hS.mutLp Pu⟩
    · rw [if_neg hk] at hmk
      cases hmk
      clear hRES hlog hno1
      have hk' : ¬ D.kind dir = 0 := hk
      generalize hkv : D.kind dir = kv at *
      repeat' (first | (show WL _ _ _ _ _ _ _; first | refine WL.pure rfl rfl rfl rfl ?_ | refine WL.nil ?_ | (refine WL.calls hS rfl rfl (dkind_c dir (hS.holds (dkC q mb lb D) Mm).1) rfl rfl rfl ?_; rintro v w rfl hS; rw [hkv])) | (show WC _ _ _ _ _ _; first | refine WC.skip ?_ | refine WC.condF rfl (decide_eq_false (by first | with_reducible assumption | omega)) ?_) | refine seqQ_n ?_)
      exact endQ_n () ⟨rfl, hS⟩ trivial ⟨rfl, rfl, trivial⟩
  · rintro _ g w ⟨rfl, hS⟩
    clear hmk
    rw [if_neg (fun h => h rfl)] at hRES
    rcases hbs : tabBase D1 dir with ⟨e2, rows⟩
    rw [hbs] at hRES
    dsimp only at hRES
    repeat' (first | (show WL _ _ _ _ _ _ _; first | refine WL.pure rfl rfl rfl rfl ?_ | refine WL.nil ?_ | (refine WL.mmake hS rfl rfl rfl rfl rfl ?_; intro w m hS) | refine WL.cat rfl rfl rfl (by omega) rfl rfl rfl ?_ | (refine WL.box hS rfl rfl rfl rfl rfl ?_; intro w b hS) | refine WL.build rfl rfl rfl rfl rfl ?_) | (show WC _ _ _ _ _ _; first | (show WC _ _ (Code.seq (Code.seq (Code.region 8 _ _) _) _) _ _ _; refine WC.cutS (σ := Unit) [0, 1, 7] (fun _ => []) (fun _ w => e2 = 0 ∧ St w0 (fps [dkC q mb lb D]) w [tbB b (some ⟨q, 0, none⟩) dir none m, rowsC m rows, dkC q mb lb D1] (ZL w0 [dkC q mb lb D])) ?_ ?_) | refine WC.seq ?_ | refine WC.region ?_) | refine seqQ_n ?_)
    · -- the base
      unfold tabBase at hbs
      clear hlog
      have hkn := kind_ne D1 (baseP dir)
      by_cases hk : D1.kind (baseP dir) = 0
      · rw [if_pos hk] at hbs
        cases hbs
        clear hRES hkn
        repeat' (first | (show WL _ _ _ _ _ _ _; first | refine WL.pure rfl rfl rfl rfl ?_ | refine WL.nil ?_ | (refine WL.calls hS rfl rfl (dkind_c (baseP dir) (hS.holds (dkC q mb lb D1) Mm).1) rfl rfl rfl ?_; rintro v w rfl hS; rw [hk])) | (show WC _ _ _ _ _ _; first | refine WC.skip ?_ | refine WC.condF rfl (by decide) ?_) | refine seqQ_n ?_)
        exact endQ_n () ⟨rfl, hS.droplast2 Pu⟩ trivial ⟨rfl, rfl, rfl, trivial⟩
      · rw [if_neg hk] at hbs
        obtain ⟨kv, hkv, hkv0⟩ : ∃ kv, D1.kind (baseP dir) = kv ∧ kv ≠ 0 := ⟨_, rfl, hk⟩
        clear hkn hk
        have hld := fun (w0 : World) (hi : InL w0 [tbB b (some ⟨q, 0, none⟩) dir none m, rowsC m [], dkC q mb lb D1]) => load_c hi (by omega) hno1
        rw [hbs] at hld
        dsimp only at hld
        by_cases he : e2 = 0
        · subst he
          clear hRES
          repeat' (first | (show WL _ _ _ _ _ _ _; first | refine WL.pure rfl rfl rfl rfl ?_ | refine WL.nil ?_ | (refine WL.calls hS rfl rfl (dkind_c (baseP dir) (hS.holds (dkC q mb lb D1) Mm).1) rfl rfl rfl ?_; rintro v w rfl hS; rw [hkv]) | (refine WL.callL (D := [tbB b (some ⟨q, 0, none⟩) dir none m, rowsC m [], dkC q mb lb D1]) hS Pu rfl rfl (fun hI => hld _ hI) rfl rfl rfl ?_; rintro v w ⟨rfl, hm⟩ hS; replace hS := hS _ hm; clear hm)) | (show WC _ _ _ _ _ _; first | refine WC.seq ?_ | refine WC.region ?_ | refine WC.skip ?_ | refine WC.condF rfl (by decide) ?_ | refine WC.condT rfl (decide_eq_true (by first | with_reducible assumption | omega)) ?_) | refine seqQ_n ?_)
          exact endQ_n () ⟨rfl, hS.droplast2 Pu⟩ trivial ⟨rfl, rfl, rfl, trivial⟩
        · rw [if_pos he] at hRES
          subst hRES
          repeat' (first | (show WL _ _ _ _ _ _ _; first | refine WL.pure rfl rfl rfl rfl ?_ | refine WL.nil ?_ | (refine WL.calls hS rfl rfl (dkind_c (baseP dir) (hS.holds (dkC q mb lb D1) Mm).1) rfl rfl rfl ?_; rintro v w rfl hS; rw [hkv]) | (refine WL.callL (D := [tbB b (some ⟨q, 0, none⟩) dir none m, rowsC m [], dkC q mb lb D1]) hS Pu rfl rfl (fun hI => hld _ hI) rfl rfl rfl ?_; rintro v w ⟨rfl, hm⟩ hS; replace hS := hS _ hm; clear hm)) | (show WC _ _ _ _ _ _; first | refine WC.seq ?_ | refine WC.region ?_ | refine WC.ret ?_ | refine WC.condT rfl (decide_eq_true (by first | with_reducible assumption | omega)) ?_) | refine seqQ_n ?_ | refine endQ_r ?_)
          exact fin2r rfl rfl rfl ⟨rfl, hS.mutLp Pu⟩
    · rintro _ g2 w ⟨rfl, hS⟩
      rw [if_neg (fun h => h rfl)] at hRES
      clear hbs
      have hop := fun (w0 : World) (hi : InL w0 [dkC q mb lb D1]) => open_c (logP dir) hi (by simp; omega) hno1
      rcases hwo : walOpen D1 (logP dir) with ⟨e, G, D2⟩
      have hwe := walOpen_e D1 (logP dir)
      rw [hwo] at hop hRES hwe
      rcases G with _ | G
      · have hop : ∀ w0, InL w0 [dkC q mb lb D1] → Cal Tryz.prog 13 [.pointer (some ⟨q, 0, none⟩), str (logP dir)] w0 (fun v w' => v = .tuple #[.pointer none, .int .i64 e] ∧ MutL w0 w' [dkC q mb lb D1] [dkC q mb lb D2]) := hop
        replace hRES : (e, none, D2) = RES := hRES
        subst hRES
        have hwe : e ≠ 0 := hwe.1 rfl
        clear hlog
        repeat' (first | (show WL _ _ _ _ _ _ _; first | refine WL.pure rfl rfl rfl rfl ?_ | refine WL.nil ?_ | (refine WL.callL (D := [dkC q mb lb D1]) hS Pu rfl rfl (fun hI => hop _ hI) rfl rfl rfl ?_; rintro v w ⟨rfl, hm⟩ hS; replace hS := hS _ hm; clear hm) | refine WL.cat rfl rfl rfl (by omega) rfl rfl rfl ?_) | (show WC _ _ _ _ _ _; first | refine WC.seq ?_ | refine WC.region ?_ | refine WC.ret ?_ | refine WC.condT rfl (decide_eq_true (by first | with_reducible assumption | omega)) ?_) | refine seqQ_n ?_ | refine seqQ_r ?_)
        exact fin2r rfl rfl rfl ⟨rfl, hS.mutLp Pu⟩
      · have hop : ∀ w0, InL w0 [dkC q mb lb D1] → Cal Tryz.prog 13 [.pointer (some ⟨q, 0, none⟩), str (logP dir)] w0 (fun v w' => ∃ L fp, v = .tuple #[.pointer (some ⟨L, 0, none⟩), .int .i64 e] ∧ MutL w0 w' [dkC q mb lb D1] [lgC L q G fp, dkC q mb lb D2]) := hop
        replace hRES : (if (replay rows G.recs).1 ≠ 0 then ((replay rows G.recs).1, none, D2) else (0, some ⟨dir, (replay rows G.recs).2, G⟩, D2)) = RES := hRES
        obtain rfl : e = 0 := hwe.2 G rfl
        obtain ⟨hn, hrl⟩ := hlog 0 G D2 hwo
        clear hlog hwe
        repeat' (first | (show WL _ _ _ _ _ _ _; first | refine WL.pure rfl rfl rfl rfl ?_ | refine WL.nil ?_ | (refine WL.callL (D := [dkC q mb lb D1]) hS Pu rfl rfl (fun hI => hop _ hI) rfl rfl rfl ?_; rintro v w ⟨L, fp, rfl, hm⟩ hS; replace hS := hS _ hm; clear hm) | (refine WL.callL (D := [lgC L q G fp]) hS Pu rfl rfl (fun hI => records_c hI hn) rfl rfl rfl ?_; rintro v w ⟨A, cap, rfl, hm⟩ hS; replace hS := hS _ hm; clear hm) | refine WL.cat rfl rfl rfl (by omega) rfl rfl rfl ?_ | (refine WL.store hS rfl rfl rfl Sb rfl rfl rfl ?_; intro w hS)) | (show WC _ _ _ _ _ _; first | refine WC.seq ?_ | refine WC.region ?_ | refine WC.block ?_ | refine WC.skip ?_ | refine WC.condF rfl (by decide) ?_) | refine seqQ_n ?_)
        refine WC.loop (σ := Nat × Rws) [7, 57, 58] (fun (k, rs) => [(59, .int .i64 (k : Int))])
          (fun (k, rs) w => k ≤ G.recs.length ∧ replay rs (G.recs.drop k) = replay rows G.recs ∧ St w0 (fps [dkC q mb lb D]) w [tbB b (some ⟨q, 0, none⟩) dir (some ⟨L, 0, none⟩) m, rowsC m rs, lgC L q G fp, .own (.slice A G.recs.length cap) 9 1 G.recs.length (strs G.recs), dkC q mb lb D2] (ZL w0 [dkC q mb lb D]))
          (fun (k, _) => G.recs.length - k) (0, rows) ⟨Nat.zero_le _, rfl, hS.droplast2 Pu⟩ ⟨rfl, trivial⟩ ?_
        clear hS
        rintro ⟨k, rs⟩ g w ⟨hk, hrs, hS⟩
        show WC _ _ _ (lf _ [(59, .int .i64 (k : Int))] _ _) _ _
        by_cases hlt : k < G.recs.length
        · have hx : (strs G.recs)[k * 1]? = some (str G.recs[k]) := by rw [Nat.mul_one]; exact strs_at hlt
          have hxl := hrl _ (List.getElem_mem hlt)
          rw [List.drop_eq_getElem_cons hlt] at hrs
          generalize G.recs[k] = r at *
          obtain ⟨rg, ro, rfl⟩ := hS.own_addr (List.Mem.tail _ (List.Mem.tail _ (List.Mem.tail _ (List.Mem.head _)))) (Nat.lt_of_le_of_lt (Nat.zero_le k) hlt)
          have hop2 := fun w0 => ops_c r w0 hxl
          have hol := opsE_len r
          rw [replay_cons] at hrs
          rcases ho : opsE r with ⟨l, eo⟩
          rw [ho] at hop2 hrs hol
          dsimp only at hrs hol
          unfold opsR at hop2
          dsimp only at hop2
          by_cases heo : eo = 0
          · subst heo
            rw [if_neg (fun h => h rfl)] at hrs
            repeat' (first | (show WL _ _ _ _ _ _ _; first | refine WL.pure rfl rfl rfl rfl ?_ | refine WL.nil ?_ | refine WL.add rfl rfl rfl (by omega) rfl rfl rfl ?_ | (refine WL.load hS rfl rfl (LdOk.ownAt Mm rfl ⟨_, rfl⟩ hx rfl) rfl rfl rfl ?_) | (refine WL.callG rfl rfl (hop2 _) rfl rfl rfl ?_; rintro v w ⟨hup, A2, cap2, rfl, hnw⟩; replace hS := hS.new hup hnw; clear hup hnw) | (refine WL.callL (D := [tbB b (some ⟨q, 0, none⟩) dir (some ⟨L, 0, none⟩) m, rowsC m rs, chgC A2 cap2 l]) hS Pu rfl rfl (fun hI => apply_c hI (by omega)) rfl rfl rfl ?_; rintro v w ⟨rfl, hm⟩ hS; replace hS := hS _ hm; clear hm) | refine WL.index rfl rfl rfl rfl (by first | with_reducible assumption | omega) rfl rfl rfl rfl ?_) | (show WC _ _ _ _ _ _; first | refine WC.seq ?_ | refine WC.region ?_ | refine WC.block ?_ | refine WC.skip ?_ | refine WC.condF rfl (by decide) ?_ | refine WC.condT rfl (decide_eq_true (by first | with_reducible assumption | omega)) ?_) | refine seqQ_n ?_ | refine blkQ_n ?_)
            exact rndQ_n (k + 1, applyE rs l) ⟨by omega, hrs, hS.droplast2 Pu⟩ (by show G.recs.length - (k + 1) < G.recs.length - k; omega) ⟨vint (by omega), trivial⟩ ⟨rfl, rfl, rfl, trivial⟩
          · rw [if_pos heo] at hrs
            rw [← hrs, if_pos heo] at hRES
            dsimp only at hRES
            subst hRES
            repeat' (first | (show WL _ _ _ _ _ _ _; first | refine WL.pure rfl rfl rfl rfl ?_ | refine WL.nil ?_ | (refine WL.load hS rfl rfl (LdOk.ownAt Mm rfl ⟨_, rfl⟩ hx rfl) rfl rfl rfl ?_) | (refine WL.callG rfl rfl (hop2 _) rfl rfl rfl ?_; rintro v w ⟨hup, A2, cap2, rfl, hnw⟩; replace hS := hS.new hup hnw; clear hup hnw) | refine WL.index rfl rfl rfl rfl (by first | with_reducible assumption | omega) rfl rfl rfl rfl ?_) | (show WC _ _ _ _ _ _; first | refine WC.seq ?_ | refine WC.region ?_ | refine WC.block ?_ | refine WC.skip ?_ | refine WC.ret ?_ | refine WC.condT rfl (decide_eq_true (by first | with_reducible assumption | omega)) ?_) | refine seqQ_n ?_ | refine seqQ_r ?_ | refine blkQ_r ?_ | refine rndQ_r ?_)
            exact fin2r rfl rfl rfl ⟨rfl, hS.mutLp Pu⟩
        · have hke : k = G.recs.length := by omega
          subst hke
          rw [List.drop_length] at hrs
          have hrs : (0, rs) = replay rows G.recs := hrs
          rw [← hrs, if_neg (fun h => h rfl)] at hRES
          dsimp only at hRES
          subst hRES
          repeat' (first | (show WL _ _ _ _ _ _ _; first | refine WL.pure rfl rfl rfl rfl ?_ | refine WL.nil ?_) | (show WC _ _ _ _ _ _; first | refine WC.seq ?_ | refine WC.region ?_ | refine WC.exit ?_ | refine WC.ret ?_ | refine WC.condF rfl (decide_eq_false (by first | with_reducible assumption | omega)) ?_) | refine seqQ_n ?_ | refine seqQ_x ?_ | refine blkQ_hit rfl ?_ | refine rndQ_x ?_)
          have hS := St.objClose (φ := tabφ b q ⟨dir, rs, G⟩) (hS.pulls (D := [tbB b (some ⟨q, 0, none⟩) dir (some ⟨L, 0, none⟩) m, rowsC m rs, lgC L q G fp]) Pu) ⟨m, L, fp, rfl⟩
          exact fin2r rfl rfl rfl ⟨_, _, rfl, hS.mutLp Pu⟩
end Go.Proofs.YtccfiohagbneaaaGreatDoor

/- What is proved: batches of a table: begun, changed, asked. Conditions: texts and lists of bounded length. -/
namespace Go.Proofs.YtccfiohagbneaaaGreatDoor
open Go Go.J Go.RowKit
abbrev Bch := List (List UInt8 × Chg)
def bchφ (B : Nat) (tp : Option Addr) (m : Bch) (D : List Chunk) : Prop := ∃ A cap mb, D = [.box B 153 [.pointer tp, .slice A m.length cap, .map (some mb)], .own (.slice A m.length cap) 9 1 m.length (strs (m.map Prod.fst)), mapC mb (mmap encChg m)]
abbrev bchC (B : Nat) (tp : Option Addr) (m : Bch) (fp : List Nat) : Chunk := objC (bchφ B tp m) fp
def noteE (m : Bch) (o : Chg) : Bch := mset m o.key o
theorem look_chg (m : Bch) (k : List UInt8) : lookV (encChg Chg0) (mmap encChg m) k true = .tuple #[encChg ((mget m k).getD Chg0), .bool (mget m k).isSome] := by
  unfold lookV
  rw [mget_map]
  cases mget m k <;> rfl
theorem look_chg1 (m : Bch) (k : List UInt8) : lookV (encChg Chg0) (mmap encChg m) k false = encChg ((mget m k).getD Chg0) := by
  unfold lookV
  rw [mget_map]
  cases mget m k <;> rfl
set_option maxHeartbeats 4000000 in
set_option maxRecDepth 100000 in
theorem begin_c {tp : Option Addr} (w0 : World) : Cal Tryz.prog 38 [.pointer tp] w0 (fun v w' => Upd [] w0 w' ∧ ∃ B fp, v = .pointer (some ⟨B, 0, none⟩) ∧ New w0 w' (bchC B tp [] fp)) := by
  refine Cal.mk' (by kernel_rfl) Tryz.func38 rfl rfl fun hS => ?_
  repeat' (first | (show WL _ _ _ _ _ _ _; first | refine WL.pure rfl rfl rfl rfl ?_ | refine WL.nil ?_ | (refine WL.mmake hS rfl rfl rfl rfl rfl ?_; intro w mb hS) | (refine WL.box hS rfl rfl rfl rfl rfl ?_; intro w b hS) | refine WL.build rfl rfl rfl rfl rfl ?_) | (show WC _ _ _ _ _ _; first | refine WC.seq ?_ | refine WC.region ?_ | refine WC.ret ?_) | refine seqQ_n ?_)
  have hS := St.objClose (φ := bchφ _ tp []) ((hS.nilRow 9 1).pulls (D := [.box _ 153 [.pointer tp, .slice none 0 0, .map (some mb)], .own (.slice none 0 0) 9 1 0 [], mapC mb []]) Pu) ⟨none, 0, mb, rfl⟩
  exact fin1r rfl rfl ⟨hS.upd, _, _, rfl, hS.newOf (List.Mem.head _)⟩
theorem mset_fst (m : Bch) (k : List UInt8) (o : Chg) : (mget m k).isSome = true → (mset m k o).map Prod.fst = m.map Prod.fst := by
  intro h
  rw [mset_keys, if_pos]
  apply Classical.byContradiction
  intro hn
  rw [mget_none.2 hn] at h
  cases h
theorem mset_fst2 (m : Bch) (k : List UInt8) (o : Chg) : (mget m k).isSome = false → (mset m k o).map Prod.fst = m.map Prod.fst ++ [k] := by
  intro h
  rw [mset_keys, if_neg]
  intro hn
  cases hg : mget m k with
  | none => exact mget_none.1 hg hn
  | some v => rw [hg] at h; cases h
theorem len_of_fst {m : Bch} {l : List (List UInt8)} (h : m.map Prod.fst = l) : m.length = l.length := by rw [← h, List.length_map]
set_option maxHeartbeats 8000000 in
set_option maxRecDepth 100000 in
theorem note_c {B : Nat} {tp : Option Addr} {m : Bch} {fp : List Nat} (o : Chg) {w0 : World} (hc : (bchC B tp m fp).holds w0) (hi : inB (bchC B tp m fp) w0) (hm : m.length ≤ 1099511627) :
    Cal Tryz.prog 96 [.pointer (some ⟨B, 0, none⟩), encChg o] w0 (fun v w' => v = .tuple #[] ∧ ∃ fp', Mut w0 w' (bchC B tp m fp) (bchC B tp (noteE m o) fp')) := by
  refine Cal.mkM hc hi (by kernel_rfl) Tryz.func96 rfl rfl fun hS => ?_
  obtain ⟨_, ⟨A, cap, mb, rfl⟩, hfp, hS⟩ := St.objOpen (H := []) hS
  replace hS : St w0 (bchC B tp m fp).fp w0 [.box B 153 [.pointer tp, .slice A m.length cap, .map (some mb)], .own (.slice A m.length cap) 9 1 m.length (strs (m.map Prod.fst)), mapC mb (mmap encChg m)] _ := hS
  obtain ⟨key, val, gone⟩ := o
  have hlk := look_chg m key
  have h1 := mset_fst m key ⟨key, val, gone⟩
  have h2 := mset_fst2 m key ⟨key, val, gone⟩
  generalize (mget m key).isSome = there at *
  generalize (mget m key).getD Chg0 = was at *
  obtain ⟨k0, v0, g0⟩ := was
  rcases there with _ | _
  · have h2 := h2 rfl
    clear h1
    repeat' (first | (show WL _ _ _ _ _ _ _; first | refine WL.pure rfl rfl rfl rfl ?_ | refine WL.nil ?_ | (refine WL.box hS rfl rfl rfl rfl rfl ?_; intro w b hS)) | (show WC _ _ _ _ _ _; first | refine WC.seq ?_ | refine WC.region ?_ | refine WC.skip ?_ | (show WC _ _ (Code.region _ (List.toArray [_, _, _, _, _, _, _, _, _, _, _, _, _]) true) _ _ _; refine WC.drawS hS [0,1,2,3,4,5,6,7,8,9,12] [0,1,2,3,4,5,6,7,8,9,10,11,12] (by kernel_rfl) (by kernel_rfl) ?_; clear hS; intro w hS hM) | (show WC _ _ (Code.region _ (List.toArray [_, _, _, _, _, _, _, _, _, _, _, _]) true) _ _ _; refine WC.drawLV [.own (.slice A m.length cap) 9 1 m.length (strs (m.map Prod.fst))] hS Pu [0,1,2,3,4,5,6,9,10] [0,1,2,3,4,5,6,7,8,9,10] 11 [] (by kernel_rfl) (by kernel_rfl) ?_; clear hS; intro w hS hM) | (show WC _ _ (Code.region _ (List.toArray [_, _, _, _, _, _, _, _]) true) _ _ _; refine WC.drawL [mapC mb (mmap encChg m)] hS Pu [0,1,2,3,4,5,6] [0,1,2,3,4,5,6,7] (by kernel_rfl) (by kernel_rfl) ?_; clear hS; intro w hS hM) | refine WC.condF rfl (by with_reducible rfl) ?_ | refine WC.condT rfl (by decide) ?_) | (show WD _ _ _ _ _ _ _ _ _; first | refine WD.pure rfl rfl rfl rfl rfl ?_ | refine WD.nil ?_ | refine WD.load rfl rfl (LdOk.box Mm rfl) rfl rfl rfl rfl ?_ | (refine WD.mget rfl rfl rfl rfl (.mk' Mm) hlk rfl rfl rfl rfl ?_) | (refine WD.alloc (t := 79) hS hM rfl rfl rfl rfl rfl rfl rfl rfl ?_; clear hS; intro w xb hS hM) | (refine WD.store hS rfl rfl rfl Sb rfl (More.chunk (.refl _ _) _) rfl rfl rfl rfl ?_; clear hS hM; intro w hS hM) | (refine WD.app hS Pl1 (More.chunk (.refl _ _) _) rfl rfl rfl rfl (RdOk.box Mm) rfl rfl (by omega) rfl rfl rfl rfl rfl ?_; clear hS hM; intro A2 cap2 w hS hM) | (refine WD.pivStore hS rfl rfl rfl Sb rfl rfl rfl rfl ?_; clear hS; intro w hS hM) | (refine WD.msetC hS (More.refl _ _) (.inl rfl) rfl rfl rfl rfl rfl rfl rfl rfl ?_; clear hS; intro w hS) | (refine WD.slit hS hM rfl rfl rfl rfl rfl rfl rfl ?_; intro w b hS hM)) | refine seqQ_n ?_)
    have e1 : (noteE m ⟨key, val, gone⟩).length = m.length + 1 := by have := len_of_fst h2; unfold noteE; simpa using this
    have e2 : strs ((noteE m ⟨key, val, gone⟩).map Prod.fst) = strs (m.map Prod.fst) ++ [str key] := by
      show strs ((mset m key ⟨key, val, gone⟩).map Prod.fst) = _
      rw [h2, strs_snoc]
    have e3 : mmap encChg (noteE m ⟨key, val, gone⟩) = mset (mmap encChg m) key (encChg ⟨key, val, gone⟩) := by unfold noteE; rw [← mset_map]
    have hS := St.objClose (φ := bchφ B tp (noteE m ⟨key, val, gone⟩)) (hS.pulls (D := [.box B 153 [.pointer tp, .slice A2 (m.length + 1) cap2, .map (some mb)], .own (.slice A2 (m.length + 1) cap2) 9 1 (m.length + 1) (strs (m.map Prod.fst) ++ [str key]), mapC mb (mset (mmap encChg m) key (encChg ⟨key, val, gone⟩))]) Pu) ⟨A2, cap2, mb, by rw [e1, e2, e3]⟩
    exact fin0n rfl ⟨rfl, _, hS.mutOf (List.Mem.head _)⟩
  · have h1 := h1 rfl
    clear h2
    repeat' (first | (show WL _ _ _ _ _ _ _; first | refine WL.pure rfl rfl rfl rfl ?_ | refine WL.nil ?_ | (refine WL.box hS rfl rfl rfl rfl rfl ?_; intro w b hS)) | (show WC _ _ _ _ _ _; first | refine WC.seq ?_ | refine WC.region ?_ | refine WC.skip ?_ | (show WC _ _ (Code.region _ (List.toArray [_, _, _, _, _, _, _, _, _, _, _, _, _]) true) _ _ _; refine WC.drawS hS [0,1,2,3,4,5,6,7,8,9,12] [0,1,2,3,4,5,6,7,8,9,10,11,12] (by kernel_rfl) (by kernel_rfl) ?_; clear hS; intro w hS hM) | (show WC _ _ (Code.region _ (List.toArray [_, _, _, _, _, _, _, _]) true) _ _ _; refine WC.drawL [mapC mb (mmap encChg m)] hS Pu [0,1,2,3,4,5,6] [0,1,2,3,4,5,6,7] (by kernel_rfl) (by kernel_rfl) ?_; clear hS; intro w hS hM) | refine WC.condF rfl (by with_reducible rfl) ?_ | refine WC.condF rfl (by decide) ?_) | (show WD _ _ _ _ _ _ _ _ _; first | refine WD.pure rfl rfl rfl rfl rfl ?_ | refine WD.nil ?_ | refine WD.load rfl rfl (LdOk.box Mm rfl) rfl rfl rfl rfl ?_ | (refine WD.mget rfl rfl rfl rfl (.mk' Mm) hlk rfl rfl rfl rfl ?_) | (refine WD.alloc (t := 79) hS hM rfl rfl rfl rfl rfl rfl rfl rfl ?_; clear hS; intro w xb hS hM) | (refine WD.store hS rfl rfl rfl Sb rfl (More.chunk (.refl _ _) _) rfl rfl rfl rfl ?_; clear hS hM; intro w hS hM) | (refine WD.msetC hS (More.refl _ _) (.inl rfl) rfl rfl rfl rfl rfl rfl rfl rfl ?_; clear hS; intro w hS)) | refine seqQ_n ?_)
    have e1 : (noteE m ⟨key, val, gone⟩).length = m.length := by have := len_of_fst h1; unfold noteE; simpa using this
    have e2 : strs ((noteE m ⟨key, val, gone⟩).map Prod.fst) = strs (m.map Prod.fst) := by
      show strs ((mset m key ⟨key, val, gone⟩).map Prod.fst) = _
      rw [h1]
    have e3 : mmap encChg (noteE m ⟨key, val, gone⟩) = mset (mmap encChg m) key (encChg ⟨key, val, gone⟩) := by unfold noteE; rw [← mset_map]
    have hS := St.objClose (φ := bchφ B tp (noteE m ⟨key, val, gone⟩)) (hS.pulls (D := [.box B 153 [.pointer tp, .slice A m.length cap, .map (some mb)], .own (.slice A m.length cap) 9 1 m.length (strs (m.map Prod.fst)), mapC mb (mset (mmap encChg m) key (encChg ⟨key, val, gone⟩))]) Pu) ⟨A, cap, mb, by rw [e1, e2, e3]⟩
    exact fin0n rfl ⟨rfl, _, hS.mutOf (List.Mem.head _)⟩
set_option maxHeartbeats 4000000 in
set_option maxRecDepth 100000 in
theorem bput_c {B : Nat} {tp : Option Addr} {m : Bch} {fp : List Nat} (key val : List UInt8) {w0 : World} (hc : (bchC B tp m fp).holds w0) (hi : inB (bchC B tp m fp) w0) (hm : m.length ≤ 1099511627) :
    Cal Tryz.prog 39 [.pointer (some ⟨B, 0, none⟩), str key, str val] w0 (fun v w' => v = .tuple #[] ∧ ∃ fp', Mut w0 w' (bchC B tp m fp) (bchC B tp (noteE m ⟨key, val, false⟩) fp')) := by
  refine Cal.mkM hc hi (by kernel_rfl) Tryz.func39 rfl rfl fun hS => ?_
  repeat' (first | (show WL _ _ _ _ _ _ _; first | refine WL.pure rfl rfl rfl rfl ?_ | refine WL.nil ?_ | (refine WL.callG rfl rfl (note_c ⟨key, val, false⟩ (hS.holds _ (List.Mem.head _)) (hS.inB_of (List.Mem.head _)) hm) rfl rfl rfl ?_; rintro v w ⟨rfl, fp', hmut⟩; have hS := hS.mut hmut .here; clear hmut) | refine WL.build rfl rfl rfl rfl rfl ?_) | (show WC _ _ _ _ _ _; first | refine WC.region ?_) | fail)
  exact fin0n rfl ⟨rfl, _, hS.mutOf (List.Mem.head _)⟩
set_option maxHeartbeats 4000000 in
set_option maxRecDepth 100000 in
theorem bdrop_c {B : Nat} {tp : Option Addr} {m : Bch} {fp : List Nat} (key : List UInt8) {w0 : World} (hc : (bchC B tp m fp).holds w0) (hi : inB (bchC B tp m fp) w0) (hm : m.length ≤ 1099511627) :
    Cal Tryz.prog 41 [.pointer (some ⟨B, 0, none⟩), str key] w0 (fun v w' => v = .tuple #[] ∧ ∃ fp', Mut w0 w' (bchC B tp m fp) (bchC B tp (noteE m ⟨key, [], true⟩) fp')) := by
  refine Cal.mkM hc hi (by kernel_rfl) Tryz.func41 rfl rfl fun hS => ?_
  repeat' (first | (show WL _ _ _ _ _ _ _; first | refine WL.pure rfl rfl rfl rfl ?_ | refine WL.nil ?_ | (refine WL.callG rfl rfl (note_c ⟨key, [], true⟩ (hS.holds _ (List.Mem.head _)) (hS.inB_of (List.Mem.head _)) hm) rfl rfl rfl ?_; rintro v w ⟨rfl, fp', hmut⟩; have hS := hS.mut hmut .here; clear hmut) | refine WL.build rfl rfl rfl rfl rfl ?_) | (show WC _ _ _ _ _ _; first | refine WC.region ?_) | fail)
  exact fin0n rfl ⟨rfl, _, hS.mutOf (List.Mem.head _)⟩
end Go.Proofs.YtccfiohagbneaaaGreatDoor

/- What is proved: what a table and a batch answer of a key. Conditions: none. -/
namespace Go.Proofs.YtccfiohagbneaaaGreatDoor
open Go Go.J Go.RowKit
theorem look_row (m : Rws) (k : List UInt8) : lookV (encRow []) (mmap encRow m) k true = .tuple #[encRow ((mget m k).getD []), .bool (mget m k).isSome] := by
  unfold lookV
  rw [mget_map]
  cases mget m k <;> rfl
theorem look_row1 (m : Rws) (k : List UInt8) : lookV (encRow []) (mmap encRow m) k false = encRow ((mget m k).getD []) := by
  unfold lookV
  rw [mget_map]
  cases mget m k <;> rfl
def getE (rows : Rws) (k : List UInt8) : List UInt8 × Bool := ((mget rows k).getD [], (mget rows k).isSome)
set_option maxHeartbeats 4000000 in
set_option maxRecDepth 100000 in
theorem tget_c {Tp q : Nat} {T : Tb} {fp : List Nat} (k : List UInt8) {w0 : World} (hi : InL w0 [tabC Tp q T fp]) :
    Cal Tryz.prog 59 [.pointer (some ⟨Tp, 0, none⟩), str k] w0 (fun v w' => v = .tuple #[str (getE T.rows k).1, .bool (getE T.rows k).2] ∧ MutL w0 w' [tabC Tp q T fp] [tabC Tp q T fp]) := by
  refine Cal.mkL hi (by kernel_rfl) Tryz.func59 rfl rfl fun hS => ?_
  obtain ⟨_, ⟨m, L, fpl, rfl⟩, hfp, hS⟩ := St.objOpen (H := []) hS
  replace hS : St w0 (fps [tabC Tp q T fp]) w0 [tbB Tp (some ⟨q, 0, none⟩) T.dir (some ⟨L, 0, none⟩) m, rowsC m T.rows, lgC L q T.log fpl] _ := hS
  have hlk := look_row T.rows k
  unfold getE
  dsimp only
  repeat' (first | (show WL _ _ _ _ _ _ _; first | refine WL.pure rfl rfl rfl rfl ?_ | refine WL.nil ?_ | refine WL.load hS rfl rfl (LdOk.box Mm rfl) rfl rfl rfl ?_ | (refine WL.mget hS rfl rfl rfl rfl (.mk' Mm) hlk rfl rfl rfl ?_) | (refine WL.alloc (t := 157) hS rfl rfl rfl rfl rfl rfl ?_; intro w xb hS) | (refine WL.store hS rfl rfl rfl Sb rfl rfl rfl ?_; intro w hS)) | (show WC _ _ _ _ _ _; first | refine WC.seq ?_ | refine WC.region ?_ | refine WC.skip ?_ | refine WC.ret ?_ | refine WC.condF rfl (by with_reducible rfl) ?_) | refine seqQ_n ?_)
  have hS := St.objClose (H := []) (φ := tabφ Tp q T) (D := [tbB Tp (some ⟨q, 0, none⟩) T.dir (some ⟨L, 0, none⟩) m, rowsC m T.rows, lgC L q T.log fpl]) hS.drop ⟨m, L, fpl, rfl⟩
  rw [← hfp] at hS
  exact fin2r rfl rfl rfl ⟨rfl, hS.mutLp Pu⟩
def bgetE (rows : Rws) (m : Bch) (k : List UInt8) : List UInt8 × Bool := match mget m k with
  | some o => (o.val, !o.gone)
  | none => getE rows k
set_option maxHeartbeats 4000000 in
set_option maxRecDepth 100000 in
theorem bget_c {B Tp q : Nat} {T : Tb} {m : Bch} {fb fp : List Nat} (k : List UInt8) {w0 : World} (hi : InL w0 [bchC B (some ⟨Tp, 0, none⟩) m fb, tabC Tp q T fp]) :
    Cal Tryz.prog 102 [.pointer (some ⟨B, 0, none⟩), str k] w0 (fun v w' => v = .tuple #[str (bgetE T.rows m k).1, .bool (bgetE T.rows m k).2] ∧ MutL w0 w' [bchC B (some ⟨Tp, 0, none⟩) m fb, tabC Tp q T fp] [bchC B (some ⟨Tp, 0, none⟩) m fb, tabC Tp q T fp]) := by
  refine Cal.mkL hi (by kernel_rfl) Tryz.func102 rfl rfl fun hS => ?_
  obtain ⟨_, ⟨A, cap, mb, rfl⟩, hfb, hS⟩ := St.objOpen hS
  replace hS : St w0 (fps [bchC B (some ⟨Tp, 0, none⟩) m fb, tabC Tp q T fp]) w0 [.box B 153 [.pointer (some ⟨Tp, 0, none⟩), .slice A m.length cap, .map (some mb)], .own (.slice A m.length cap) 9 1 m.length (strs (m.map Prod.fst)), mapC mb (mmap encChg m), tabC Tp q T fp] _ := hS
  have hlk := look_chg m k
  unfold bgetE
  cases hg : mget m k with
  | none =>
    rw [hg] at hlk
    replace hlk : lookV (encChg Chg0) (mmap encChg m) k true = .tuple #[encChg Chg0, .bool false] := hlk
    repeat' (first | (show WL _ _ _ _ _ _ _; first | refine WL.pure rfl rfl rfl rfl ?_ | refine WL.nil ?_ | refine WL.load hS rfl rfl (LdOk.box Mm rfl) rfl rfl rfl ?_ | (refine WL.mget hS rfl rfl rfl rfl (.mk' Mm) hlk rfl rfl rfl ?_) | (refine WL.alloc (t := 79) hS rfl rfl rfl rfl rfl rfl ?_; intro w xb hS) | (refine WL.callL (D := [tabC Tp q T fp]) hS Pu rfl rfl (fun hI => tget_c k hI) rfl rfl rfl ?_; rintro v w ⟨rfl, hm⟩ hS; replace hS := hS _ hm; clear hm) | (refine WL.store hS rfl rfl rfl Sb rfl rfl rfl ?_; intro w hS)) | (show WC _ _ _ _ _ _; first | refine WC.seq ?_ | refine WC.region ?_ | refine WC.skip ?_ | refine WC.ret ?_ | refine WC.condF rfl (by with_reducible rfl) ?_) | refine seqQ_n ?_)
    have hS := St.objClose (φ := bchφ B (some ⟨Tp, 0, none⟩) m) (hS.pulls (D := [.box B 153 [.pointer (some ⟨Tp, 0, none⟩), .slice A m.length cap, .map (some mb)], .own (.slice A m.length cap) 9 1 m.length (strs (m.map Prod.fst)), mapC mb (mmap encChg m)]) Pu) ⟨A, cap, mb, rfl⟩
    rw [← hfb] at hS
    exact fin2r rfl rfl rfl ⟨rfl, hS.mutLp Pu⟩
  | some o =>
    rw [hg] at hlk
    obtain ⟨key, val, gone⟩ := o
    replace hlk : lookV (encChg Chg0) (mmap encChg m) k true = .tuple #[encChg ⟨key, val, gone⟩, .bool true] := hlk
    repeat' (first | (show WL _ _ _ _ _ _ _; first | refine WL.pure rfl rfl rfl rfl ?_ | refine WL.nil ?_ | refine WL.load hS rfl rfl (LdOk.box Mm rfl) rfl rfl rfl ?_ | (refine WL.mget hS rfl rfl rfl rfl (.mk' Mm) hlk rfl rfl rfl ?_) | (refine WL.alloc (t := 79) hS rfl rfl rfl rfl rfl rfl ?_; intro w xb hS) | (refine WL.store hS rfl rfl rfl Sb rfl rfl rfl ?_; intro w hS)) | (show WC _ _ _ _ _ _; first | refine WC.seq ?_ | refine WC.region ?_ | refine WC.skip ?_ | refine WC.ret ?_ | (show WC _ _ (Code.region _ (List.toArray [_, _, _, _, _, _, _]) true) _ _ _; refine WC.drawS hS [0, 1, 2, 3, 4, 5, 6] [0, 1, 2, 3, 4, 5, 6] (by kernel_rfl) (by kernel_rfl) ?_; clear hS; intro w hS hM) | refine WC.condT rfl (by with_reducible rfl) ?_ | refine WC.condF rfl (by with_reducible rfl) ?_) | (show WD _ _ _ _ _ _ _ _ _; first | refine WD.pure rfl rfl rfl rfl rfl ?_ | refine WD.nil ?_ | refine WD.load rfl rfl (LdOk.box Mm rfl) rfl rfl rfl rfl ?_) | refine seqQ_n ?_ | refine seqQ_r ?_)
    have hS := St.objClose (φ := bchφ B (some ⟨Tp, 0, none⟩) m) (hS.pulls (D := [.box B 153 [.pointer (some ⟨Tp, 0, none⟩), .slice A m.length cap, .map (some mb)], .own (.slice A m.length cap) 9 1 m.length (strs (m.map Prod.fst)), mapC mb (mmap encChg m)]) Pu) ⟨A, cap, mb, rfl⟩
    rw [← hfb] at hS
    exact fin2r rfl rfl rfl ⟨rfl, hS.mutLp Pu⟩
end Go.Proofs.YtccfiohagbneaaaGreatDoor

/- What is proved: an argument that the form reads as data reads as plain data through the codecs, and how its bulk bounds it. Conditions: none. -/
namespace Go.Proofs.YtccfiohagbneaaaGreatDoor
open Go Go.J Go.RowKit Go.ChangeShapes Go.WideShapes Go.Deep
def Opens {α : Type} (P : Program) (t : TypeId) (c : Cod α) (Q : α → Nat → Prop) : Prop :=
  ∀ {H : Type} (enc : TypeId × Value → H) (W : World) (fuel : Nat) (cs : List Value) (x : DataW H × List MemPlace), DataW.trod enc P W 0 (fun _ => true) true fuel t cs = some x → ∃ y, c.rd (Old W) W cs y ∧ Q y (Rows.uptoBulk x.1)
def QL {α : Type} (Q : α → Nat → Prop) (ys : List α) (b : Nat) : Prop := ∃ bs : List Nat, bs.length = ys.length ∧ (∀ i (h : i < ys.length) (h' : i < bs.length), Q ys[i] bs[i]) ∧ bs.sum + 1 ≤ b
theorem bulkAll_sum {H : Type} (l : List (DataW H)) : Rows.uptoBulkAll l = (l.map Rows.uptoBulk).sum := by
  induction l with
  | nil => simp [Rows.uptoBulkAll]
  | cons d l ih => simp [Rows.uptoBulkAll, ih]
theorem Opens.int {P : Program} {t : TypeId} (ht : P.underlying t = some (.int .i64)) : Opens P t cInt (fun n b => -9223372036854775808 ≤ n ∧ n ≤ 9223372036854775807 ∧ 1 ≤ b) := by
  intro H enc W fuel cs x h
  obtain ⟨n, rfl, rfl, hw⟩ := DataW.trod_int ht h
  refine ⟨n, rfl, ?_⟩
  have h1 := bounds_i64 hw
  exact ⟨h1.1, h1.2, by simp [Rows.uptoBulk]⟩
theorem Opens.str {P : Program} {t : TypeId} (ht : P.underlying t = some .string) : Opens P t cStr (fun s b => s.length + 1 ≤ b) := by
  intro H enc W fuel cs x h
  obtain ⟨s, rfl, rfl, hw⟩ := DataW.trod_string ht h
  exact ⟨s.data.toList, rfl, by simp [Rows.uptoBulk]⟩
theorem Opens.slice {α : Type} [Inhabited α] {P : Program} {t e : TypeId} {c : Cod α} {Q : α → Nat → Prop} (ht : P.underlying t = some (.slice e)) (he : P.cellsOf e = c.sz) (hs : 0 < c.sz) (ho : Opens P e c Q) : Opens P t (cSl c) (QL Q) := by
  intro H enc W fuel cs x h
  rcases open_slice ht h with ⟨rfl, rfl⟩ | ⟨a, len, cap, m, n, D, Pl, rfl, hb, hl, hm, hmm, rfl, hx⟩
  · exact ⟨[], ⟨none, 0, rfl, Nat.le_refl _, fun k hk => absurd hk (by simp)⟩, [], rfl, fun i h => absurd h (by simp), by simp [Rows.uptoBulk]⟩
  · have hml : len ≤ m := by rw [hmm]; simp; omega
    have key : ∀ i, i < len → ∃ y : α, (∃ es, c.rd (Old W) W es y ∧ (a.add (i * c.sz)).block < W.heap.size ∧ (∀ j v, es[j]? = some v → W.cell? ((a.add (i * c.sz)).add j) = some v)) ∧ Q y (Rows.uptoBulk (D i)) := by
      intro i hi
      obtain ⟨cs', hc, htr⟩ := hx i (by omega)
      rw [he] at hc
      obtain ⟨y, hy, hq⟩ := ho enc W n cs' _ htr
      obtain ⟨_, hlen, hat⟩ := World.cells?_some hc
      refine ⟨y, ⟨cs', hy, ?_, fun j v hv => ?_⟩, hq⟩
      · have h0 := hat 0 hs
        have hlt : 0 < cs'.length := by omega
        rw [List.getElem?_eq_getElem hlt] at h0
        have hlt' := World.block_lt_of_cell? W _ h0
        have e0 : ((a.add (i * c.sz)).add 0).block = (a.add (i * c.sz)).block := by simp [Addr.add]
        rwa [e0] at hlt'
      · have hj : j < cs'.length := (List.getElem?_eq_some_iff.1 hv).1
        rw [hat j (by omega)]; exact hv
    obtain ⟨Y, hY⟩ := choose_lt key
    have hspot : 0 < len → a.spot = none := fun h0 => by
      obtain ⟨es, hrd, hbl, hc⟩ := (hY 0 h0).1
      have hl := c.len hrd
      have h1 := hc 0 es[0] (List.getElem?_eq_getElem (by omega))
      have e : (a.add (0 * c.sz)).add 0 = a := by simp [Addr.add]
      rw [e] at h1
      unfold World.cell? at h1
      cases hsp : a.spot with
      | none => rfl
      | some s => simp [hsp] at h1; split at h1 <;> simp at h1
    refine ⟨(List.range len).map Y, ⟨some a, cap, by simp, by simpa using hl, fun k hk => ?_⟩, (List.range len).map fun i => Rows.uptoBulk (D i), by simp, fun i h h' => ?_, ?_⟩
    · have hk' : k < len := by simpa using hk
      obtain ⟨es, hrd, hbl, hc⟩ := (hY k hk').1
      have ha : a = ⟨a.block, a.off, none⟩ := by rw [← hspot (by omega)]
      refine ⟨a.block, a.off, es, by rw [← ha], ?_, fun j v hv => ?_, by simpa using hrd⟩
      · have : (a.add (k * c.sz)).block = a.block := by unfold Addr.add; split <;> rfl
        rw [this] at hbl; exact hbl
      · have := hc j v hv
        rw [Go.Deep.add_add, ha, Addr.add_mid] at this
        rw [← Nat.add_assoc] at this
        exact this
    · have hi : i < len := by simpa using h
      simpa using (hY i hi).2
    · simp only [Rows.uptoBulk, bulkAll_sum, List.map_map]
      have : ((List.range len).map (Rows.uptoBulk ∘ D)) = (List.range len).map fun i => Rows.uptoBulk (D i) := rfl
      rw [this]
      omega
section
variable {H : Type} {enc : TypeId × Value → H} {P : Program}
theorem post_of_below {f : Func} {s : ChangeSpec} {apart fresh handsOn again : Bool} {W W' : World} {args : Array Value} {v : Value} {ds gs : List (DataW H)} {before pa pv : List MemPlace}
    (hW : DataW.Whole enc P f.params.toList s.vars apart W args.toList ds gs before)
    (hres : ∀ (b : Nat) (sp : Nat → Bool) (hd : Bool), DataW.TrodAll enc P W' b sp hd f.resultTypes.toList (v.resultList f.resultTypes.size) (s.fn H (ds ++ gs)).results [])
    (hargs : ∀ sp : Nat → Bool, (∀ p ∈ before, sp p.block = true) → DataW.TrodAll enc P W' 0 sp true f.params.toList args.toList (s.fn H (ds ++ gs)).args pa)
    (hvars : ∀ sp : Nat → Bool, (∀ p ∈ before, sp p.block = true) → DataW.TrodVars enc P W' sp s.vars (s.fn H (ds ++ gs)).vars pv)
    (hps : before = pa ++ pv) (hb : Below W.heap.size W W')
    (hok : ∀ (j : Nat) (t : TypeId) (r : Value), f.resultTypes[j]? = some t → (v.resultList f.resultTypes.size)[j]? = some r → Value.okWide P W' .any 0 t r) :
    s.post enc P f apart fresh handsOn again W args v W' := by
  have hlt : ∀ p ∈ before, p.block < W.heap.size := fun p hp => hW.lt p hp
  have hold : ∀ p ∈ before, (fun b => decide (b < W.heap.size)) p.block = true := fun p hp => by simpa using hlt p hp
  refine ⟨ds, gs, before, [], pa, pv, hW, hres _ _ _, hargs _ hold, hvars _ hold, World.keptBut_mono (fun p hp => ⟨hp, ?_⟩) (hb.frame (· ∈ before)), fun _ => ?_⟩
  · rw [hps, List.mem_append] at hp
    exact Or.inr hp
  · obtain ⟨_, _, _, _, _, hz, hn⟩ := hW
    refine ⟨hok, _, _, ([] ++ pa) ++ pv, ⟨[] ++ pa, pv, trodAll_append (hargs _ (fun _ _ => rfl)) (hres _ _ _), hvars _ (fun _ _ => rfl), rfl, ?_, ?_⟩, ?_⟩
    · intro b off hp
      have hin : MemPlace.cell b off ∈ before := by rw [hps]; simpa using hp
      rw [hb.frozen (hlt _ hin)]
      exact hz b off hin
    · intro ha
      have := hn ha
      rw [hps] at this
      simpa using this
    · intro p hp _
      rw [hps]
      simpa using hp
end
theorem QL_sum {α : Type} {Q : α → Nat → Prop} {f : α → Nat} (hf : ∀ a b, Q a b → f a ≤ b) : ∀ {ys : List α} {b : Nat}, QL Q ys b → (ys.map f).sum + 1 ≤ b := by
  intro ys b ⟨bs, hl, hq, hs⟩
  have key : ∀ (ys : List α) (bs : List Nat), bs.length = ys.length → (∀ i (h : i < ys.length) (h' : i < bs.length), Q ys[i] bs[i]) → (ys.map f).sum ≤ bs.sum := by
    intro ys
    induction ys with
    | nil => intro bs _ _; simp
    | cons y ys ih =>
      intro bs hl hq
      rcases bs with _ | ⟨b, bs⟩
      · simp at hl
      · have h0 := hf _ _ (hq 0 (by simp) (by simp))
        have h1 := ih bs (by simpa using hl) (fun i h h' => hq (i + 1) (by simpa using h) (by simpa using h'))
        simp only [List.map_cons, List.sum_cons, List.getElem_cons_zero] at h0 h1 ⊢
        omega
  have := key ys bs hl hq
  omega
end Go.Proofs.YtccfiohagbneaaaGreatDoor

/- What is proved: how a statement's arguments open to plain data, and that a call which answers true and leaves old memory alone meets the law's form. Conditions: none. -/
namespace Go.Proofs.YtccfiohagbneaaaGreatDoor
open Go Go.J Go.RowKit Go.ChangeShapes Go.WideShapes Go.ChangeAt Go.Deep
def Arg {α : Type} (P : Program) (t : TypeId) (A : World → Value → α → Prop) (Q : α → Nat → Prop) : Prop :=
  ∀ {H : Type} (enc : TypeId × Value → H) (W : World) (base : Nat) (v : Value) (d : DataW H) (p : List MemPlace), Value.okWide P W .any base t v → DataW.Trod enc P W 0 (fun _ => true) true t v d p → ∃ y, A W v y ∧ Q y (Rows.uptoBulk d)
def AInt (_ : World) (v : Value) (n : Int) : Prop := v = .int .i64 n
def QInt (n : Int) (b : Nat) : Prop := -9223372036854775808 ≤ n ∧ n ≤ 9223372036854775807 ∧ 1 ≤ b
def AStr (_ : World) (v : Value) (s : List UInt8) : Prop := v = str s
def QStr (s : List UInt8) (b : Nat) : Prop := s.length + 1 ≤ b
def ASl {α : Type} (c : Cod α) (W : World) (v : Value) (xs : List α) : Prop := ∃ A cap, v = .slice A xs.length cap ∧ xs.length ≤ cap ∧ SlAt c (Old W) W A xs
def AAgg {α : Type} (c : Cod α) (W : World) (v : Value) (y : α) : Prop := ∃ cs, v = .agg ⟨cs⟩ ∧ c.rd (Old W) W cs y
theorem Arg.int {P : Program} {t : TypeId} (ht : P.underlying t = some (.int .i64)) : Arg P t AInt QInt := by
  intro H enc W base v d p hk hd
  obtain ⟨n, rfl⟩ := okWide_int ht hk
  obtain ⟨fuel, hf⟩ := hd
  obtain ⟨y, hy, hq⟩ := Opens.int ht enc W fuel _ _ hf
  have hy' : [Value.int .i64 n] = [.int .i64 y] := hy
  simp only [List.cons.injEq, Value.int.injEq, true_and, and_true] at hy'
  exact ⟨y, by rw [hy']; rfl, hq⟩
theorem Arg.str {P : Program} {t : TypeId} (ht : P.underlying t = some .string) : Arg P t AStr QStr := by
  intro H enc W base v d p hk hd
  obtain ⟨s, rfl⟩ := okWide_string ht hk
  obtain ⟨fuel, hf⟩ := hd
  obtain ⟨y, hy, hq⟩ := Opens.str ht enc W fuel _ _ hf
  have hy' : [Value.string s] = [Go.J.str y] := hy
  exact ⟨y, by show Value.string s = Go.J.str y; simpa using hy', hq⟩
theorem Arg.slice {α : Type} {P : Program} {t e : TypeId} {c : Cod α} {Q : List α → Nat → Prop} (ht : P.underlying t = some (.slice e)) (ho : Opens P t (cSl c) Q) : Arg P t (ASl c) Q := by
  intro H enc W base v d p hk hd
  obtain ⟨a, len, cap, rfl⟩ := okWide_slice ht hk
  obtain ⟨fuel, hf⟩ := hd
  obtain ⟨y, ⟨A, cap', e0, hcap, hsl⟩, hq⟩ := ho enc W fuel _ _ hf
  have e0' : [Value.slice a len cap] = [.slice A y.length cap'] := e0
  exact ⟨y, ⟨A, cap', by simpa using e0', hcap, hsl⟩, hq⟩
theorem Arg.agg {α : Type} {P : Program} {t : TypeId} {fs : Array Field} {c : Cod α} {Q : α → Nat → Prop} (ht : P.underlying t = some (.struct fs)) (ho : Opens P t c Q) : Arg P t (AAgg c) Q := by
  intro H enc W base v d p hk hd
  obtain ⟨cs, rfl, _⟩ := okWide_struct ht hk
  obtain ⟨fuel, hf⟩ := hd
  obtain ⟨y, hy, hq⟩ := ho enc W fuel _ _ hf
  exact ⟨y, ⟨cs.toList, by cases cs; rfl, hy⟩, hq⟩
theorem own : ownKnob Tryz.prog.godebug = none := by kernel_rfl
theorem laid : laidOutB Tryz.prog = true := by kernel_rfl
theorem all_stays {H : Type} {enc : TypeId × Value → H} {P : Program} (hl : laidOutB P = true) {W W' : World} (hu : Upd [] W W') {sp : Nat → Bool} : ∀ {ts : List TypeId} {vs : List Value} {ds : List (DataW H)} {p : List MemPlace}, (ts.all fun t => P.readableRec t && decide (t < P.types.size)) = true →
    DataW.TrodAll enc P W 0 (fun _ => true) true ts vs ds p → (∀ x ∈ p, x.block < W.heap.size) → (∀ x ∈ p, sp x.block = true) → DataW.TrodAll enc P W' 0 sp true ts vs ds p
  | [], [], [], p, _, h, _, _ => h
  | t :: ts, vs, ds, p, hr, h, hlt, hsp => by
    obtain ⟨v, vs', d, ds', p1, q1, rfl, rfl, rfl, h1, h2⟩ := trodAll_cons h
    simp only [List.all_cons, Bool.and_eq_true] at hr
    refine trodAll_cons_mk ?_ (all_stays hl hu (by simpa using hr.2) h2 (fun x hx => hlt x (by simp [hx])) fun x hx => hsp x (by simp [hx]))
    exact WideElems.Trod_stays hl hr.1.1 (of_decide_eq_true hr.1.2) h1 (fun x hx => hu.below.same (hlt x (by simp [hx]))) (fun x hx => hsp x (by simp [hx]))
  | [], [], _ :: _, _, _, h, _, _ => by simp [DataW.TrodAll] at h
  | [], _ :: _, _, _, _, h, _, _ => by simp [DataW.TrodAll] at h
theorem all_len {H : Type} {enc : TypeId × Value → H} {P : Program} {W : World} {sp : Nat → Bool} : ∀ {ts : List TypeId} {vs : List Value} {ds : List (DataW H)} {p : List MemPlace}, DataW.TrodAll enc P W 0 sp true ts vs ds p → ds.length = ts.length
  | [], [], [], _, _ => rfl
  | t :: ts, vs, ds, p, h => by
    obtain ⟨v, vs', d, ds', p1, q1, rfl, rfl, rfl, h1, h2⟩ := trodAll_cons h
    simp [all_len h2]
  | [], [], _ :: _, _, h => by simp [DataW.TrodAll] at h
  | [], _ :: _, _, _, h => by simp [DataW.TrodAll] at h
theorem law_post {H : Type} {enc : TypeId × Value → H} {P : Program} (hl : laidOutB P = true) {f : Func} {s : ChangeSpec} {tb : TypeId} {W W' : World} {args : Array Value} {ds gs : List (DataW H)} {before : List MemPlace}
    (hb : P.underlying tb = some .bool) (hrt : f.resultTypes = #[tb]) (hread : (f.params.toList.all fun t => P.readableRec t && decide (t < P.types.size)) = true) (hv : s.vars = [])
    (hs : ∀ ds : List (DataW H), ds.length = f.params.toList.length → (s.fn H ds).results = [.lit (.bool true)] ∧ (s.fn H ds).args = ds ∧ (s.fn H ds).vars = [])
    (hW : DataW.Whole enc P f.params.toList s.vars false W args.toList ds gs before) (hu : Upd [] W W') : s.post enc P f false true false false W args (.bool true) W' := by
  obtain ⟨p, q, hA, hV, rfl, hfz, hnd⟩ := id hW
  have hV' := hV
  rw [hv] at hV'
  obtain ⟨rfl, rfl⟩ := trodVars_none hV'
  have hlen := all_len hA
  obtain ⟨h1, h2, h3⟩ := hs ds hlen
  have hlt : ∀ x ∈ p, x.block < W.heap.size := fun x hx => hW.lt x (by simp [hx])
  refine post_of_below (pa := p) (pv := []) hW (fun _ _ _ => ?_) (fun sp hsp => ?_) (fun sp hsp => ?_) rfl hu.below (fun j t r hj hr => ?_)
  · rw [hrt, List.append_nil, h1]
    exact trodAll_cons_mk (shut_bool hb _) trodAll_mk0
  · rw [List.append_nil, h2]
    exact all_stays hl hu hread hA hlt fun x hx => hsp x (by simp [hx])
  · rw [hv, List.append_nil, h3]
    exact rfl
  · exact ok_one hrt rfl (okWide_bool_mk hb _) j t r hj hr
end Go.Proofs.YtccfiohagbneaaaGreatDoor

/- What is proved: the walk's rules for appending nothing, for a slice cut to another length, and for lists of the caller's put behind a row. Conditions: as each rule names them. -/
namespace Go.J
open Go Go.RowKit
section
variable {P : Program} {N : Fz} {f : Fr} {w w0 : World} {Q : Post} {ops l : List Oper} {o : Oper} {M : List Nat} {H H' : List Chunk} {Z : List Snap} {ρ : Operand → Value}
theorem SlAt.pre {α : Type} {c : Cod α} {F : Nat → Prop} {w : World} {A : Option Addr} {xs ys : List α} (h : SlAt c F w A (xs ++ ys)) : SlAt c F w A xs := fun k hk => by
  obtain ⟨b, o, es, h1, h2, h3, h4⟩ := h k (by rw [List.length_append]; omega)
  exact ⟨b, o, es, h1, h2, h3, by rwa [List.getElem_append_left hk] at h4⟩
theorem flat_get {α : Type} {enc : α → List Value} {sz : Nat} (hsz : ∀ x, (enc x).length = sz) (l : List α) {k i : Nat} (h : k < l.length) (hi : i < sz) : (l.flatMap enc)[k * sz + i]? = (enc l[k])[i]? := by
  have := congrArg (fun x => x[i]?) (flat_at hsz l h)
  simp only [List.getElem?_take, List.getElem?_drop, if_pos hi] at this
  exact this
end
end Go.J

/- What is proved: lists of entries, in plain lists: when they are trees. Conditions: none. -/
namespace Go.J
open Go
theorem cmp_lt : ∀ a b : List UInt8, (Lib.compareBytes a b < 0 ↔ Op.bytesLess a b = true)
  | [], [] => by simp [Lib.compareBytes, Op.bytesLess]
  | [], _ :: _ => by simp [Lib.compareBytes, Op.bytesLess]
  | _ :: _, [] => by simp [Lib.compareBytes, Op.bytesLess]
  | a :: x, b :: y => by
    have ih := cmp_lt x y
    unfold Lib.compareBytes Op.bytesLess
    by_cases h1 : a < b
    · simp [h1]
    · rw [if_neg h1]
      by_cases h2 : b < a
      · have h3 : ¬ a = b := fun e => by subst e; exact h1 h2
        rw [if_pos h2]
        simp [h1, h3]
      · have h3 : a = b := by
          apply UInt8.toNat_inj.1
          have h1 : ¬ a.toNat < b.toNat := h1
          have h2 : ¬ b.toNat < a.toNat := h2
          omega
        rw [if_neg h2, ih]
        simp [h1, h3]
theorem cmp_eq : ∀ a b : List UInt8, (Lib.compareBytes a b = 0 ↔ a = b)
  | [], [] => by simp [Lib.compareBytes]
  | [], _ :: _ => by simp [Lib.compareBytes]
  | _ :: _, [] => by simp [Lib.compareBytes]
  | a :: x, b :: y => by
    have ih := cmp_eq x y
    unfold Lib.compareBytes
    by_cases h1 : a < b
    · rw [if_pos h1]
      constructor
      · intro h; omega
      · intro h
        rw [List.cons.injEq] at h
        rw [h.1] at h1
        exact absurd h1 (by simp)
    · rw [if_neg h1]
      by_cases h2 : b < a
      · rw [if_pos h2]
        constructor
        · intro h; omega
        · intro h
          rw [List.cons.injEq] at h
          rw [h.1] at h2
          exact absurd h2 (by simp)
      · have h3 : a = b := by
          apply UInt8.toNat_inj.1
          have h1 : ¬ a.toNat < b.toNat := h1
          have h2 : ¬ b.toNat < a.toNat := h2
          omega
        rw [if_neg h2, ih, h3]
        simp
theorem less_irr (a : List UInt8) : Op.bytesLess a a = false := by
  cases h : Op.bytesLess a a with
  | false => rfl
  | true =>
    have := (cmp_lt a a).2 h
    rw [(cmp_eq a a).2 rfl] at this
    omega
theorem less_trans : ∀ {a b c : List UInt8}, Op.bytesLess a b = true → Op.bytesLess b c = true → Op.bytesLess a c = true
  | _, _, [], _, h => by simp [Op.bytesLess] at h
  | _, [], _ :: _, h, _ => by simp [Op.bytesLess] at h
  | [], _ :: _, _ :: _, _, _ => by simp [Op.bytesLess]
  | x :: a, y :: b, z :: c, h1, h2 => by
    unfold Op.bytesLess at *
    simp only [Bool.or_eq_true, decide_eq_true_eq, Bool.and_eq_true, beq_iff_eq] at *
    rcases h1 with h1 | ⟨h1, h1'⟩ <;> rcases h2 with h2 | ⟨h2, h2'⟩
    · exact .inl (UInt8.lt_trans h1 h2)
    · subst h2; exact .inl h1
    · subst h1; exact .inl h2
    · subst h1 h2; exact .inr ⟨rfl, less_trans h1' h2'⟩
theorem less_asym {a b : List UInt8} (h : Op.bytesLess a b = true) : Op.bytesLess b a = false := by
  cases h2 : Op.bytesLess b a with
  | false => rfl
  | true => have := less_trans h h2; rw [less_irr] at this; cases this
theorem less_tri (a b : List UInt8) : Op.bytesLess a b = true ∨ a = b ∨ Op.bytesLess b a = true := by
  rcases Int.lt_trichotomy (Lib.compareBytes a b) 0 with h | h | h
  · exact .inl ((cmp_lt a b).1 h)
  · exact .inr (.inl ((cmp_eq a b).1 h))
  · refine .inr (.inr ?_)
    induction a generalizing b with
    | nil => cases b <;> simp [Lib.compareBytes] at h
    | cons x a ih =>
      cases b with
      | nil => simp [Op.bytesLess]
      | cons y b =>
        unfold Lib.compareBytes at h
        unfold Op.bytesLess
        split at h
        · omega
        · rename_i h1
          split at h
          · rename_i h2; simp [h2]
          · rename_i h2
            have h3 : x = y := by
              apply UInt8.toNat_inj.1
              have h1 : ¬ x.toNat < y.toNat := h1
              have h2 : ¬ y.toNat < x.toNat := h2
              omega
            subst h3
            simp [ih b h]
structure Ent where
  path : List UInt8
  kind : Int
  data : List UInt8
instance : Inhabited Ent := ⟨⟨[], 0, []⟩⟩
def encEnt (e : Ent) : List Value := [str e.path, .int .i64 e.kind, str e.data]
def cEnt : Cod Ent := .flat encEnt 3 fun _ => rfl
def wholeE (kind : Int) (data : List UInt8) : Bool := if kind = 0 ∨ kind = 1 then decide (data = []) else if kind = 2 then decide (data.length ≤ 4096) else false
structure EntOk (t : List Ent) (i : Nat) (h : i < t.length) : Prop where
  path : checkE t[i].path 5 = 0
  whole : wholeE t[i].kind t[i].data = true
  kind : t[i].kind ≠ 0
  ord : ∀ j (hj : j + 1 = i), Op.bytesLess (t[j]'(by omega)).path t[i].path = true
  up : parentE t[i].path ≠ [] → ∃ j, ∃ hj : j < i, (t[j]'(by omega)).path = parentE t[i].path ∧ (t[j]'(by omega)).kind = 1
def TreeOk (t : List Ent) : Prop := ∀ i (h : i < t.length), EntOk t i h
open Classical in
noncomputable def checkT (t : List Ent) : Int := if 200 < t.length then 4 else if TreeOk t then 0 else 3
def Rise (t : List Ent) (n : Nat) : Prop := ∀ i j (hi : i < j) (hj : j < t.length), j < n → Op.bytesLess (t[i]'(by omega)).path t[j].path = true
theorem Rise.of {t : List Ent} {n : Nat} (h : ∀ i (h : i < t.length), i < n → ∀ j (hj : j + 1 = i), Op.bytesLess (t[j]'(by omega)).path t[i].path = true) : Rise t n := by
  intro i j hi hj hn
  induction j with
  | zero => omega
  | succ j ih =>
    have h1 := h (j + 1) hj hn j rfl
    by_cases e : i = j
    · subst e; exact h1
    · exact less_trans (ih (by omega) (by omega) (by omega)) h1
theorem TreeOk.rise {t : List Ent} (h : TreeOk t) : Rise t t.length := Rise.of fun i hi _ j hj => (h i hi).ord j hj
def getT (t : List Ent) (p : List UInt8) : Ent := (t.find? fun e => decide (e.path = p)).getD ⟨[], 0, []⟩
end Go.J

/- What is proved: lists in the order of their keys: what is put in its place, what is taken away, what is found. Conditions: a strict order of the keys. -/
namespace Go.J
open Go
structure StrictO {κ : Type} (lt : κ → κ → Bool) : Prop where
  irr : ∀ a, lt a a = false
  trans : ∀ {a b c}, lt a b = true → lt b c = true → lt a c = true
  tri : ∀ a b, lt a b = true ∨ a = b ∨ lt b a = true
theorem bytesO : StrictO Op.bytesLess := ⟨less_irr, fun h k => less_trans h k, less_tri⟩
section
variable {α κ : Type} [DecidableEq κ] (key : α → κ) (lt : κ → κ → Bool)
def findG (l : List α) (k : κ) : Option α := l.find? fun x => decide (key x = k)
def RiseG (l : List α) : Prop := l.Pairwise fun x y => lt (key x) (key y) = true
def putG (l : List α) (x : α) : List α := l.takeWhile (fun y => lt (key y) (key x)) ++ x :: ((l.dropWhile fun y => lt (key y) (key x)).filter fun y => decide (key y ≠ key x))
def dropG (l : List α) (k : κ) : List α := l.filter fun y => decide (key y ≠ k)
end
section
variable {α κ : Type} [DecidableEq κ] {key : α → κ} {lt : κ → κ → Bool} (O : StrictO lt) {l : List α} {x y z : α} {k q : κ}
theorem findG_cons : findG key (x :: l) k = if key x = k then some x else findG key l k := by
  unfold findG
  rw [List.find?_cons]
  by_cases h : key x = k
  · rw [if_pos h]; simp [h]
  · rw [if_neg h]; simp [h]
theorem findG_none (h : ∀ x ∈ l, key x ≠ k) : findG key l k = none := List.find?_eq_none.2 fun x hx => by simp [h x hx]
theorem findG_some (h : findG key l k = some x) : x ∈ l ∧ key x = k := ⟨List.mem_of_find?_eq_some h, by have := List.find?_some h; simpa using this⟩
include O
theorem findG_mem (hr : RiseG key lt l) (hx : x ∈ l) : findG key l (key x) = some x := by
  induction l with
  | nil => cases hx
  | cons y l ih =>
    rw [findG_cons]
    have hr1 := List.pairwise_cons.1 hr
    rcases List.mem_cons.1 hx with rfl | hx
    · rw [if_pos rfl]
    · rw [if_neg]
      · exact ih hr1.2 hx
      · intro e
        have := hr1.1 x hx
        rw [e, O.irr] at this
        cases this
theorem RiseG.nodup (hr : RiseG key lt l) : (l.map key).Nodup := by
  induction l with
  | nil => exact List.nodup_nil
  | cons y l ih =>
    have hr1 := List.pairwise_cons.1 hr
    rw [List.map_cons, List.nodup_cons]
    refine ⟨fun h => ?_, ih hr1.2⟩
    obtain ⟨z, hz, e⟩ := List.mem_map.1 h
    have := hr1.1 z hz
    rw [e, O.irr] at this
    cases this
omit O in
theorem findG_drop : findG key (dropG key l k) q = if q = k then none else findG key l q := by
  induction l with
  | nil => unfold dropG findG; simp
  | cons x l ih =>
    have e : dropG key (x :: l) k = if key x = k then dropG key l k else x :: dropG key l k := by
      unfold dropG
      rw [List.filter_cons]
      by_cases h : key x = k <;> simp [h]
    rw [e]
    by_cases h : key x = k
    · rw [if_pos h, ih]
      by_cases hq : q = k
      · rw [if_pos hq, if_pos hq]
      · rw [if_neg hq, if_neg hq, findG_cons, if_neg (by rw [h]; exact fun e => hq e.symm)]
    · rw [if_neg h, findG_cons, findG_cons, ih]
      by_cases hq : q = k
      · rw [if_pos hq, if_neg (by rw [hq]; exact h), if_pos hq]
      · rw [if_neg hq, if_neg hq]
omit O in
theorem dropG_rise (hr : RiseG key lt l) : RiseG key lt (dropG key l k) := hr.sublist List.filter_sublist
omit O in
theorem putG_cons : putG key lt (y :: l) x = if lt (key y) (key x) then y :: putG key lt l x else x :: (y :: l).filter fun z => decide (key z ≠ key x) := by
  unfold putG
  rw [List.takeWhile_cons, List.dropWhile_cons]
  cases lt (key y) (key x) <;> rfl
theorem mem_putG (h : z ∈ putG key lt l x) : z = x ∨ (z ∈ l ∧ key z ≠ key x) := by
  induction l with
  | nil => unfold putG at h; simp at h; exact .inl h
  | cons y l ih =>
    rw [putG_cons] at h
    split at h
    · rename_i hl
      rcases List.mem_cons.1 h with rfl | h
      · refine .inr ⟨List.mem_cons_self .., fun e => ?_⟩
        rw [e, O.irr] at hl
        cases hl
      · rcases ih h with h | ⟨h1, h2⟩
        · exact .inl h
        · exact .inr ⟨List.mem_cons_of_mem _ h1, h2⟩
    · rcases List.mem_cons.1 h with rfl | h
      · exact .inl rfl
      · obtain ⟨h1, h2⟩ := List.mem_filter.1 h
        exact .inr ⟨h1, of_decide_eq_true h2⟩
theorem findG_put : findG key (putG key lt l x) q = if q = key x then some x else findG key l q := by
  induction l with
  | nil =>
    have e : putG key lt [] x = [x] := rfl
    rw [e, findG_cons]
    by_cases h : key x = q
    · rw [if_pos h, if_pos h.symm]
    · rw [if_neg h, if_neg (fun e => h e.symm)]
  | cons y l ih =>
    rw [putG_cons]
    split
    · rename_i hl
      rw [findG_cons, findG_cons, ih]
      by_cases hq : q = key x
      · rw [if_pos hq, if_pos hq, if_neg]
        intro e
        rw [e, hq, O.irr] at hl
        cases hl
      · rw [if_neg hq, if_neg hq]
    · rw [findG_cons]
      by_cases hq : q = key x
      · rw [if_pos hq, if_pos hq.symm]
      · rw [if_neg hq, if_neg (fun e => hq e.symm)]
        have := findG_drop (key := key) (l := y :: l) (k := key x) (q := q)
        rw [if_neg hq] at this
        exact this
theorem putG_rise (hr : RiseG key lt l) : RiseG key lt (putG key lt l x) := by
  induction l with
  | nil => exact List.pairwise_singleton _ _
  | cons y l ih =>
    have hr1 := List.pairwise_cons.1 hr
    rw [putG_cons]
    split
    · rename_i hl
      refine List.pairwise_cons.2 ⟨fun z hz => ?_, ih hr1.2⟩
      rcases mem_putG O hz with rfl | ⟨hz, _⟩
      · exact hl
      · exact hr1.1 z hz
    · rename_i hl
      refine List.pairwise_cons.2 ⟨fun z hz => ?_, List.Pairwise.sublist List.filter_sublist hr⟩
      obtain ⟨hz, hne⟩ := List.mem_filter.1 hz
      have hne : key z ≠ key x := of_decide_eq_true hne
      have hyx : lt (key x) (key y) = true ∨ key x = key y := by
        rcases O.tri (key x) (key y) with h | h | h
        · exact .inl h
        · exact .inr h
        · exact absurd h hl
      rcases List.mem_cons.1 hz with rfl | hz
      · rcases hyx with h | h
        · exact h
        · exact absurd h.symm hne
      · have h2 := hr1.1 z hz
        rcases hyx with h | h
        · exact O.trans h h2
        · rw [h]; exact h2
theorem filter_gt (hx : ∀ z ∈ l, lt (key x) (key z) = true) : (l.filter fun z => decide (key z ≠ key x)) = l := List.filter_eq_self.2 fun z hz => decide_eq_true fun e => by
  have := hx z hz
  rw [e, O.irr] at this; cases this
theorem putG_eq (hr : RiseG key lt l) {k : Nat} (hk : k < l.length) (h1 : ∀ j (h : j < l.length), j < k → lt (key l[j]) (key x) = true) (h2 : key l[k] = key x) : putG key lt l x = l.take k ++ x :: l.drop (k + 1) := by
  induction l generalizing k with
  | nil => exact absurd hk (Nat.not_lt_zero _)
  | cons y l ih =>
    have hr1 := List.pairwise_cons.1 hr
    rw [putG_cons]
    cases k with
    | zero =>
      have h2 : key y = key x := h2
      rw [if_neg (by rw [h2, O.irr]; decide), List.filter_cons, if_neg (by simp [h2]), filter_gt O fun z hz => by rw [← h2]; exact hr1.1 z hz]
      rfl
    | succ k =>
      have h0 : lt (key y) (key x) = true := h1 0 (by simp) (Nat.succ_pos _)
      rw [if_pos h0, ih hr1.2 (by simpa using hk) (fun j h hj => h1 (j + 1) (by simpa using h) (by omega)) h2]
      rfl
theorem putG_ne (hr : RiseG key lt l) {k : Nat} (hk : k ≤ l.length) (h1 : ∀ j (h : j < l.length), j < k → lt (key l[j]) (key x) = true) (h2 : ∀ h : k < l.length, lt (key l[k]) (key x) = false ∧ key l[k] ≠ key x) : putG key lt l x = l.take k ++ x :: l.drop k := by
  induction l generalizing k with
  | nil =>
    have : k = 0 := by simpa using hk
    subst this; rfl
  | cons y l ih =>
    have hr1 := List.pairwise_cons.1 hr
    rw [putG_cons]
    cases k with
    | zero =>
      obtain ⟨h3, h4⟩ := h2 (Nat.succ_pos _)
      have h3 : lt (key y) (key x) = false := h3
      have h4 : key y ≠ key x := h4
      have h5 : lt (key x) (key y) = true := by
        rcases O.tri (key x) (key y) with h | h | h
        · exact h
        · exact absurd h.symm h4
        · rw [h] at h3; cases h3
      rw [if_neg (by rw [h3]; decide), filter_gt O fun z hz => by
        rcases List.mem_cons.1 hz with rfl | hz
        · exact h5
        · exact O.trans h5 (hr1.1 z hz)]
      rfl
    | succ k =>
      have h0 : lt (key y) (key x) = true := h1 0 (by simp) (Nat.succ_pos _)
      rw [if_pos h0, ih hr1.2 (by simpa using hk) (fun j h hj => h1 (j + 1) (by simpa using h) (by omega)) (fun h => h2 (by simpa using h))]
      rfl
end
end Go.J

/- What is proved: a disk as a list of items in the order of their paths: plain facts. Conditions: none. -/
namespace Go.Proofs.YtccfiohagbneaaaGreatDoor
open Go Go.J Go.RowKit
structure Ri where
  path : List UInt8
  it : It
instance : Inhabited Ri := ⟨⟨[], It0⟩⟩
def encRi (x : Ri) : List Value := [str x.path, .bool x.it.dir, str x.it.data, str x.it.kept, .bool x.it.loose, .bool x.it.anew, .int .i64 x.it.stamp]
def cRi : Cod Ri := .flat encRi 7 fun _ => rfl
def ris (l : List Ri) : List Value := l.flatMap encRi
theorem ris_snoc (l : List Ri) (x : Ri) : ris l ++ encRi x = ris (l ++ [x]) := by simp [ris]
theorem mget_it {β : Type} : ∀ {m : List (List UInt8 × β)} {k : List UInt8} {v : β}, (m.map Prod.fst).Nodup → (k, v) ∈ m → mget m k = some v
  | (k2, v2) :: m, k, v, hn, h => by
    rw [List.map_cons, List.nodup_cons] at hn
    rw [show mget ((k2, v2) :: m) k = if k = k2 then some v2 else mget m k from rfl]
    rcases List.mem_cons.1 h with e | h
    · cases e; rw [if_pos rfl]
    · rw [if_neg, mget_it hn.2 h]
      intro e
      exact hn.1 (List.mem_map.2 ⟨_, h, e⟩)
theorem ris_at {l : List Ri} {i : Nat} (h : i < l.length) {j : Nat} (hj : j < 7) : (ris l)[i * 7 + j]? = (encRi l[i])[j]? := flat_get (enc := encRi) (sz := 7) (fun _ => rfl) l h hj
structure RepL (l : List Ri) (m : List (List UInt8 × It)) : Prop where
  nd : (m.map Prod.fst).Nodup
  rise : RiseG Ri.path Op.bytesLess l
  get : ∀ p, (findG Ri.path l p).map Ri.it = mget m p
theorem RepL.nil : RepL [] [] := ⟨List.nodup_nil, List.Pairwise.nil, fun p => rfl⟩
theorem RepL.drop {l : List Ri} {m : List (List UInt8 × It)} (h : RepL l m) (p : List UInt8) : RepL (dropG Ri.path l p) (mdel m p) :=
  ⟨mdel_nodup h.nd p, dropG_rise h.rise, fun q => by
    rw [findG_drop, mget_del m h.nd, ← h.get]
    split <;> rfl⟩
theorem RepL.put {l : List Ri} {m : List (List UInt8 × It)} (h : RepL l m) (x : Ri) : RepL (putG Ri.path Op.bytesLess l x) (mset m x.path x.it) :=
  ⟨mset_nodup h.nd _ _, putG_rise bytesO h.rise, fun q => by
    rw [findG_put bytesO, mget_set, ← h.get]
    split <;> rfl⟩
theorem RepL.mem {l : List Ri} {m : List (List UInt8 × It)} (h : RepL l m) {x : Ri} (hx : x ∈ l) : mget m x.path = some x.it := by rw [← h.get, findG_mem bytesO h.rise hx]; rfl
theorem RepL.at_ {l : List Ri} {m : List (List UInt8 × It)} (h : RepL l m) {p : List UInt8} {i : It} (hi : mget m p = some i) : (⟨p, i⟩ : Ri) ∈ l := by
  rw [← h.get] at hi
  obtain ⟨x, hx, e⟩ := Option.map_eq_some_iff.1 hi
  obtain ⟨h1, h2⟩ := findG_some hx
  subst h2 e
  exact h1
theorem RepL.none {l : List Ri} {m : List (List UInt8 × It)} (h : RepL l m) {p : List UInt8} (hi : ∀ x ∈ l, x.path ≠ p) : mget m p = .none := by rw [← h.get, findG_none hi]; rfl
theorem RepL.len {l : List Ri} {m : List (List UInt8 × It)} (h : RepL l m) : l.length = m.length := by
  have h1 : (l.map Ri.path).Nodup := h.rise.nodup bytesO
  have h2 : (l.map Ri.path).Perm (m.map Prod.fst) := (List.perm_ext_iff_of_nodup h1 h.nd).2 fun p => by
    constructor
    · intro hp
      obtain ⟨x, hx, rfl⟩ := List.mem_map.1 hp
      exact List.mem_map.2 ⟨_, mget_mem (h.mem hx), rfl⟩
    · intro hp
      obtain ⟨⟨q, i⟩, hx, rfl⟩ := List.mem_map.1 hp
      exact List.mem_map.2 ⟨_, h.at_ (mget_it h.nd hx), rfl⟩
  have := h2.length_eq
  simpa using this
end Go.Proofs.YtccfiohagbneaaaGreatDoor

/- What is proved: the walk's rules for results that lie in variables, and elements of array values. Conditions: as each rule names them. -/
namespace Go.J
open Go Go.RowKit
section
variable {P : Program} {fn : Func} {rs : Array ResultVar} {R : Value → World → Prop} {f : Fr} {w w0 : World} {M : List Nat} {H : List Chunk} {Z : List Snap}
theorem St.loads (hS : St w0 M w H Z) {ty : TypeId} {a : Addr} {v : Value} (hl : LdOk P H Z ty a v) : (loadVar ty a).run P w = .ok v w := hl.out w0 M w [] [] hS
theorem resC1 {t : Tmp} {ty : TypeId} {a : Addr} {v : Value} (hS : St w0 M w H Z) (h : fn.results = #[.cell t ty]) (hx : f t = .pointer (some a)) (hl : LdOk P H Z ty a v) : ∀ b, Is b fn.ntmps f → (results fn b.tmps).run P w = .ok v w := fun b hb => by
  have h1 := hb.get t
  rw [hx] at h1
  have h2 := hS.loads hl
  simp only [Array.getD_eq_getD_getElem?] at h1
  simp [results, h, h1, h2, asAddr, Sem.run_bind]
theorem finC1r {t : Tmp} {ty : TypeId} {a : Addr} {v : Value} (hS : St w0 M w H Z) (h : fn.results = #[.cell t ty]) (hx : f t = .pointer (some a)) (hl : LdOk P H Z ty a v) (hR : R v w) : funQ P rs fn (Ret R) .ret f w := by unfold funQ; exact ⟨v, ⟨v, rfl, hR⟩, resC1 hS h hx hl⟩
end
section
variable {P : Program} {N : Fz} {f : Fr} {w w0 : World} {Q : Post} {ops l : List Oper} {o : Oper} {M : List Nat} {H H' : List Chunk} {Z : List Snap} {ρ : Operand → Value}
theorem WL.b2sBox {t t2 : TypeId} {x : Operand} {e e' : TypeId} {b n : Nat} {s : List UInt8} {cs : List Value} (hS : St w0 M w H Z) (ho : o.op = .convert t t2 x) (ht : bytesOf P t = some e) (ht2 : isStr P t2 = true) (hx : ev f x = .slice (some ⟨b, 0, none⟩) n n) (hm : Chunk.box b e' cs ∈ H) (hxs : cs = byteC s) (hl : s.length = n) (hmx : n ≤ 1048576)
    (hg : wants ops f o = true) {d : Nat} (hd : o.dst = some d) (hn : N.ok d = true) (h : WL P N ops l (up f d (str s)) w Q) : WL P N ops (o :: l) f w Q :=
  .val hg hd hn (run_b2s ho ht ht2 hx (hxs ▸ row_box (hS.holds _ hm) (by rw [hxs, byteC_len]; exact hl) (by unfold maxLen; omega))) h
end
end Go.J

/- What is proved: what the reference's numbers and texts are, written and read. Conditions: texts of bounded length. -/
namespace Go.J
open Go
def lowV : List UInt8 → Nat
  | [] => 0
  | c :: l => c.toNat % 128 + 128 * lowV l
theorem lowV_lt : ∀ l : List UInt8, lowV l < 128 ^ l.length
  | [] => by simp [lowV]
  | c :: l => by
    have := lowV_lt l
    simp only [lowV, List.length_cons, Nat.pow_succ]
    omega
theorem lowV_snoc : ∀ (l : List UInt8) (c : UInt8), lowV (l ++ [c]) = lowV l + c.toNat % 128 * 128 ^ l.length
  | [], c => by simp [lowV]
  | a :: l, c => by
    simp only [List.cons_append, lowV, List.length_cons, Nat.pow_succ, lowV_snoc l c, Nat.mul_add]
    rw [show 128 * (c.toNat % 128 * 128 ^ l.length) = c.toNat % 128 * (128 ^ l.length * 128) by rw [← Nat.mul_assoc, Nat.mul_comm 128, Nat.mul_assoc, Nat.mul_comm 128]]
    omega
theorem varE_go : ∀ (l : List UInt8) (t : List UInt8) (i x : Nat), (∀ c ∈ l, 128 ≤ c.toNat) → i + l.length ≤ 9 → varE (l ++ t) i x = varE t (i + l.length) (x + lowV l * 128 ^ i)
  | [], t, i, x, _, _ => by simp [lowV]
  | c :: l, t, i, x, h, hi => by
    have hc := h c (List.mem_cons_self ..)
    simp only [List.length_cons] at hi
    have ih := varE_go l t (i + 1) (x + c.toNat % 128 * 128 ^ i) (fun y hy => h y (List.mem_cons_of_mem _ hy)) (by omega)
    have e : varE ((c :: l) ++ t) i x = if i = 9 ∧ 1 < c.toNat then (0, 0, 3) else if 128 ≤ c.toNat then varE (l ++ t) (i + 1) (x + c.toNat % 128 * 128 ^ i) else if c.toNat = 0 ∧ 0 < i then (0, 0, 3) else (x + c.toNat % 128 * 128 ^ i, i + 1, 0) := rfl
    rw [e, if_neg (by omega), if_pos hc, ih]
    congr 1
    · simp only [List.length_cons]; omega
    · simp only [lowV, Nat.pow_succ, Nat.add_mul]
      rw [show 128 * lowV l * 128 ^ i = lowV l * (128 ^ i * 128) by rw [Nat.mul_comm 128, Nat.mul_assoc, Nat.mul_comm 128]]
      omega
end Go.J
namespace Go.Proofs.YtccfiohagbneaaaGreatDoor
open Go Go.J Go.RowKit
set_option maxHeartbeats 8000000 in
set_option maxRecDepth 100000 in
theorem rvarint_c : ∀ (m n : Nat) (w0 : World), n ≤ m → n < 18446744073709551616 → Cal Tryz.prog 178 [.int .u64 (n : Int)] w0 (fun v w' => Upd [] w0 w' ∧ v = str (putN n))
  | m, n, w0, hm, hb => by
    refine Cal.mk' (by kernel_rfl) Tryz.func178 rfl rfl fun hS => ?_
    by_cases h : n < 128
    · have hE : putN n = [UInt8.ofNat n] := putN_small h
      have hcell := byte_low h
      rw [hE]
      repeat' (first | (show WL _ _ _ _ _ _ _; first | refine WL.pure rfl rfl rfl rfl ?_ | refine WL.nil ?_ | refine WL.b2sBox (s := [UInt8.ofNat n]) hS rfl rfl (by kernel_rfl) rfl Mm (congrArg (fun x => [Value.int .u8 x]) hcell) rfl (by decide) rfl rfl rfl ?_ | (refine WL.slit hS rfl rfl rfl rfl rfl ?_; intro w b hS)) | (show WC _ _ _ _ _ _; first | refine WC.seq ?_ | refine WC.region ?_ | refine WC.ret ?_ | refine WC.condT rfl (decide_eq_true (by first | with_reducible assumption | omega)) ?_) | refine seqQ_n ?_ | refine seqQ_r ?_)
      exact fin1r rfl rfl ⟨hS.upd, rfl⟩
    · cases m with
      | zero => omega
      | succ m =>
        have ih := fun w0 => rvarint_c m (n / 128) w0 (by omega) (by omega)
        have hE : putN n = [UInt8.ofNat (n % 128 + 128)] ++ putN (n / 128) := by rw [putN_big h]; rfl
        have hpl := putN_len10 (n := n / 128) (by omega)
        have hcell : IntKind.u8.wrap (IntKind.u64.wrap (128 + (n : Int) % 128)) = (((UInt8.ofNat (n % 128 + 128)).toNat : Nat) : Int) := by
          rw [IntKind.wrap_u64, Go.J.ofNat_toNat (by omega), IntWalk.u8_in _ (by omega)]; omega
        have h1 : ([UInt8.ofNat (n % 128 + 128)] : List UInt8).length = 1 := rfl
        have hq : (n : Int) / 128 = ((n / 128 : Nat) : Int) := by omega
        have hqw : IntKind.u64.wrap ((n : Int) / 128) = (n : Int) / 128 := by rw [IntKind.wrap_u64]; omega
        have hrw : IntKind.u64.wrap ((n : Int) % 128) = (n : Int) % 128 := by rw [IntKind.wrap_u64]; omega
        rw [hE]
        generalize putN (n / 128) = rest at *
        repeat' (first | (show WL _ _ _ _ _ _ _; first | refine WL.pure rfl rfl rfl rfl ?_ | refine WL.nil ?_) | (show WC _ _ _ _ _ _; first | refine WC.seq ?_ | refine WC.region ?_ | refine WC.skip ?_ | refine WC.condF rfl (decide_eq_false (by first | with_reducible assumption | omega)) ?_) | refine seqQ_n ?_)
        refine WC.drawP hS [0,1,2,3,6,7,9,10] [0,1,2,3,6,7] (.two 4 [] (.two 5 [8,9,10] .nil 8 [5,9,10] .nil) 8 [4,5,9,10] .nil) (by kernel_rfl) (by kernel_rfl) ?_
        clear hS
        intro w hS hM
        repeat' (first | (show WC _ _ _ _ _ _; first | refine WC.ret ?_) | (show WD _ _ _ _ _ _ _ _ _; first | refine WD.pure rfl rfl rfl rfl rfl ?_ | refine WD.nil ?_ | (refine WD.remK rfl rfl rfl (by omega) (by omega) hrw rfl rfl rfl rfl ?_) | (refine WD.quoK rfl rfl rfl (by omega) (by omega) hqw rfl rfl rfl rfl ?_; rw [hq]) | (refine WD.fork ?_ ?_) | (refine WD.calls hS hM rfl rfl (ih _) rfl rfl rfl rfl rfl ?_; clear hS; rintro v w rfl hS) | (refine WD.b2sBox (s := [UInt8.ofNat (n % 128 + 128)]) hS hM rfl rfl (by kernel_rfl) rfl Mm (congrArg (fun x => [Value.int .u8 x]) hcell) rfl (by decide) rfl rfl rfl rfl rfl ?_) | (refine WD.cat rfl rfl rfl (by omega) rfl rfl rfl rfl ?_) | (refine WD.slit hS hM rfl rfl rfl rfl rfl rfl rfl ?_; intro w b hS hM)) | (refine WDo.calls hS hM rfl rfl (ih _) rfl rfl rfl rfl ?_; clear hS; rintro v w rfl hS) | (refine WDo.slit hS hM rfl rfl rfl rfl rfl rfl ?_; clear hS hM; intro w b hS hM) | (refine WDo.b2sBox (s := [UInt8.ofNat (n % 128 + 128)]) hS hM rfl rfl (by kernel_rfl) rfl Mm (congrArg (fun x => [Value.int .u8 x]) hcell) rfl (by decide) rfl rfl rfl rfl ?_) | refine seqQ_n ?_)
        all_goals exact fin1r rfl rfl ⟨hS.upd, rfl⟩
theorem wrap_nat64 {n : Nat} (h : n < 18446744073709551616) : IntKind.u64.wrap (n : Int) = (n : Int) := by rw [IntKind.wrap_u64]; omega
set_option maxHeartbeats 4000000 in
set_option maxRecDepth 100000 in
theorem rnum_c (n : Nat) (w0 : World) (hn : n < 9223372036854775808) : Cal Tryz.prog 154 [.int .i64 (n : Int)] w0 (fun v w' => Upd [] w0 w' ∧ v = str (putN n)) := by
  refine Cal.mk' (by kernel_rfl) Tryz.func154 rfl rfl fun hS => ?_
  have hw := wrap_nat64 (n := n) (by omega)
  repeat' (first | (show WL _ _ _ _ _ _ _; first | refine WL.pure rfl rfl rfl rfl ?_ | refine WL.nil ?_ | (refine WL.calls hS rfl (congrArg (fun z => [Value.int .u64 z]) hw) (rvarint_c n n _ (Nat.le_refl _) (by omega)) rfl rfl rfl ?_; rintro v w rfl hS)) | (show WC _ _ _ _ _ _; first | refine WC.seq ?_ | refine WC.region ?_ | refine WC.ret ?_) | refine seqQ_n ?_)
  exact fin1r rfl rfl ⟨hS.upd, rfl⟩
set_option maxHeartbeats 4000000 in
set_option maxRecDepth 100000 in
theorem rtextw_c (s : List UInt8) (w0 : World) (hl : s.length ≤ 1099511627776) : Cal Tryz.prog 136 [str s] w0 (fun v w' => Upd [] w0 w' ∧ v = str (textE s)) := by
  refine Cal.mk' (by kernel_rfl) Tryz.func136 rfl rfl fun hS => ?_
  have hp := putN_len10 (n := s.length) (by omega)
  have hw := wrap_nat64 (n := s.length) (by omega)
  repeat' (first | (show WL _ _ _ _ _ _ _; first | refine WL.pure rfl rfl rfl rfl ?_ | refine WL.nil ?_ | (refine WL.calls hS rfl (congrArg (fun z => [Value.int .u64 z]) hw) (rvarint_c s.length s.length _ (Nat.le_refl _) (by omega)) rfl rfl rfl ?_; rintro v w rfl hS) | refine WL.cat rfl rfl rfl (by omega) rfl rfl rfl ?_) | (show WC _ _ _ _ _ _; first | refine WC.seq ?_ | refine WC.region ?_ | refine WC.ret ?_) | refine seqQ_n ?_)
  exact fin1r rfl rfl ⟨hS.upd, rfl⟩
theorem lowV_bound {l : List UInt8} (h : l.length ≤ 10) (h10 : ∀ c, l[9]? = some c → c.toNat ≤ 1) : lowV l < 18446744073709551616 := by
  by_cases hl : l.length ≤ 9
  · have h1 := lowV_lt l
    have h2 : 128 ^ l.length ≤ 128 ^ 9 := Nat.pow_le_pow_right (by omega) hl
    rw [pow128_9] at h2
    omega
  · have hl : l.length = 10 := by omega
    have e : l = l.take 9 ++ [l[9]'(by omega)] := by
      conv => lhs; rw [← List.take_append_drop 9 l]
      rw [List.drop_eq_getElem_cons (by omega), List.drop_of_length_le (by omega)]
    have h9 := h10 _ (List.getElem?_eq_getElem (by omega : 9 < l.length))
    generalize l[9]'(by omega) = c at *
    rw [e, lowV_snoc]
    have h3 : (l.take 9).length = 9 := by rw [List.length_take]; omega
    have h1 : lowV (l.take 9) < 128 ^ 9 := by have := lowV_lt (l.take 9); rwa [h3] at this
    rw [h3]
    rw [pow128_9] at h1 ⊢
    have : c.toNat % 128 ≤ 1 := by omega
    have : c.toNat % 128 * 9223372036854775808 ≤ 1 * 9223372036854775808 := Nat.mul_le_mul_right _ this
    omega
theorem varE_end {s : List UInt8} {n : Nat} (hn : n ≤ 9) (hgo : ∀ c ∈ s.take n, 128 ≤ c.toNat) {c : UInt8} (hc : s[n]? = some c) (hst : c.toNat < 128 ∨ n = 9) :
    varE s 0 0 = if n = 9 ∧ 1 < c.toNat ∨ 0 < n ∧ c.toNat = 0 then (0, 0, 3) else (lowV (s.take (n + 1)), n + 1, 0) := by
  obtain ⟨hlt, hcv⟩ := List.getElem?_eq_some_iff.1 hc
  have hl : (s.take n).length = n := by rw [List.length_take]; omega
  have e : s = s.take n ++ c :: s.drop (n + 1) := by
    conv => lhs; rw [← List.take_append_drop n s]
    rw [List.drop_eq_getElem_cons hlt, hcv]
  have hlow : lowV (s.take (n + 1)) = lowV (s.take n) + c.toNat % 128 * 128 ^ n := by
    rw [List.take_succ_eq_append_getElem hlt, hcv, lowV_snoc, hl]
  have h1 : varE s 0 0 = varE (c :: s.drop (n + 1)) n (lowV (s.take n)) := by
    conv => lhs; rw [e]
    rw [varE_go _ _ _ _ hgo (by omega), hl, Nat.zero_add, Nat.zero_add, Nat.pow_zero, Nat.mul_one]
  have h2 : varE (c :: s.drop (n + 1)) n (lowV (s.take n)) = if n = 9 ∧ 1 < c.toNat then (0, 0, 3) else if 128 ≤ c.toNat then varE (s.drop (n + 1)) (n + 1) (lowV (s.take n) + c.toNat % 128 * 128 ^ n) else if c.toNat = 0 ∧ 0 < n then (0, 0, 3) else (lowV (s.take n) + c.toNat % 128 * 128 ^ n, n + 1, 0) := rfl
  rw [h1, h2, hlow]
  by_cases c1 : n = 9 ∧ 1 < c.toNat
  · rw [if_pos c1, if_pos (.inl c1)]
  · rw [if_neg c1]
    have : ¬ 128 ≤ c.toNat := by rcases hst with h | h <;> omega
    rw [if_neg this]
    by_cases c2 : c.toNat = 0 ∧ 0 < n
    · rw [if_pos c2, if_pos (.inr ⟨c2.2, c2.1⟩)]
    · rw [if_neg c2, if_neg (by rintro (h | h); exact c1 h; exact c2 ⟨h.2, h.1⟩)]
theorem rvarE_short {s : List UInt8} (hn : s.length ≤ 9) (hgo : ∀ c ∈ s, 128 ≤ c.toNat) : varE s 0 0 = (0, 0, 2) := by
  have h := varE_go s [] 0 0 hgo (by omega)
  rw [List.append_nil] at h
  rw [h]
  rfl
def varV0 (r : Nat × Nat × Int) : Value := .tuple #[.int .u64 (r.1 : Int), .int .i64 (r.2.1 : Int), .int .i64 r.2.2]
theorem low_rem (c : UInt8) : IntKind.u8.wrap ((c.toNat : Int) % 128) = (c.toNat : Int) % 128 := by
  have := c.toNat_lt
  rw [IntWalk.u8_in _ (by omega)]
theorem low_step {V : Nat} {c : UInt8} (h : c.toNat % 128 + 128 * V < 18446744073709551616) : IntKind.u64.wrap (IntKind.u64.wrap (128 * (V : Int)) + IntKind.u64.wrap ((c.toNat : Int) % 128)) = ((c.toNat % 128 + 128 * V : Nat) : Int) := by
  have := c.toNat_lt
  simp only [IntKind.wrap_u64]
  omega
set_option maxHeartbeats 16000000 in
set_option maxRecDepth 100000 in
theorem rread_c (s : List UInt8) (w0 : World) (hl : s.length ≤ 1099511627776) : Cal Tryz.prog 185 [str s] w0 (fun v w' => Upd [] w0 w' ∧ v = varV0 (varE s 0 0)) := by
  refine Cal.mk' (by kernel_rfl) Tryz.func185 rfl rfl fun hS => ?_
  generalize hRES : varE s 0 0 = RES
  repeat' (first | (show WL _ _ _ _ _ _ _; first | refine WL.pure rfl rfl rfl rfl ?_ | refine WL.nil ?_) | (show WC _ _ _ _ _ _; first | (show WC _ _ (Code.seq (Code.block 0 _) _) _ _ _; refine WC.cutS (σ := Nat) [0] (fun n => [(5, .int .i64 (n : Int))]) (fun n w => n ≤ 9 ∧ n ≤ s.length ∧ (∀ c ∈ s.take n, 128 ≤ c.toNat) ∧ (∀ c, s[n]? = some c → c.toNat < 128 ∨ n = 9) ∧ St w0 [] w [] [⟨w0, Old w0⟩]) ?_ ?_) | refine WC.seq ?_ | refine WC.region ?_ | refine WC.block ?_) | refine seqQ_n ?_)
  · refine WC.loop (σ := Nat) [0] (fun n => [(5, .int .i64 (n : Int))]) (fun n w => n ≤ 9 ∧ n ≤ s.length ∧ (∀ c ∈ s.take n, 128 ≤ c.toNat) ∧ St w0 [] w [] [⟨w0, Old w0⟩]) (fun n => 9 - n) 0 ⟨Nat.zero_le _, Nat.zero_le _, fun c hc => by simp at hc, hS⟩ ⟨rfl, trivial⟩ ?_
    clear hS
    rintro n g w ⟨hn, hns, Hgo, hS⟩
    obtain ⟨Hg, -⟩ : ∃ h : (∀ c ∈ s.take n, 128 ≤ c.toNat), h = Hgo := ⟨_, rfl⟩
    clear Hgo
    by_cases hlt : n < s.length
    · have hc : s[n]? = some s[n] := List.getElem?_eq_getElem hlt
      have hnext : 128 ≤ s[n].toNat → ∀ c ∈ s.take (n + 1), 128 ≤ c.toNat := fun h c hcm => by
        rw [List.take_succ_eq_append_getElem hlt] at hcm
        rcases List.mem_append.1 hcm with h1 | h1
        · exact Hg c h1
        · simp at h1; rw [h1]; exact h
      generalize s[n] = c0 at *
      by_cases h9 : n < 9
      · by_cases h128 : 128 ≤ c0.toNat
        · have hnext := hnext h128
          have hi8 : (128 : Int) ≤ (c0.toNat : Int) := by omega
          clear Hg
          repeat' (first | (show WL _ _ _ _ _ _ _; first | refine WL.pure rfl rfl rfl rfl ?_ | refine WL.nil ?_ | refine WL.add rfl rfl rfl (by omega) rfl rfl rfl ?_ | refine WL.idxS rfl rfl rfl rfl (by with_reducible assumption) rfl rfl rfl ?_ | ((fail_if_success (refine WL.wanted rfl ?_)); refine WL.guard rfl rfl rfl (fun h => ?_) (fun h => ?_) <;> (try simp only [ZZ0, ZZ1, ZZ2, ZZ3, ZZ4, ZZ5, ZZ6, ZZ7, ZZ8, ZZ9, ZZ10, ZZ11, ZZ12, ZZ13, ZZ14, ZZ15] at h) <;> (try (exfalso; first | omega | contradiction)))) | (show WC _ _ _ _ _ _; first | refine WC.seq ?_ | refine WC.region ?_ | refine WC.block ?_ | refine WC.skip ?_ | refine WC.condT rfl (decide_eq_true (by first | with_reducible assumption | omega)) ?_) | refine seqQ_n ?_ | refine blkQ_n ?_)
          exact rndQ_n (n + 1) ⟨by omega, by omega, hnext, hS⟩ (by omega) ⟨vint (by omega), trivial⟩ ⟨rfl, trivial⟩
        · have hi8 : ¬ (128 : Int) ≤ (c0.toNat : Int) := by omega
          have hend : ∀ c, s[n]? = some c → c.toNat < 128 ∨ n = 9 := fun c h => by rw [hc] at h; cases h; exact .inl (by omega)
          obtain ⟨He, -⟩ : ∃ h : (∀ c, s[n]? = some c → c.toNat < 128 ∨ n = 9), h = hend := ⟨_, rfl⟩
          clear hend hnext
          repeat' (first | (show WL _ _ _ _ _ _ _; first | refine WL.pure rfl rfl rfl rfl ?_ | refine WL.nil ?_ | refine WL.idxS rfl rfl rfl rfl (by with_reducible assumption) rfl rfl rfl ?_ | refine WL.skip rfl rfl rfl ?_ | ((fail_if_success (refine WL.wanted rfl ?_)); refine WL.guard rfl rfl rfl (fun h => ?_) (fun h => ?_) <;> (try simp only [ZZ0, ZZ1, ZZ2, ZZ3, ZZ4, ZZ5, ZZ6, ZZ7, ZZ8, ZZ9, ZZ10, ZZ11, ZZ12, ZZ13, ZZ14, ZZ15] at h) <;> (try (exfalso; first | omega | contradiction)))) | (show WC _ _ _ _ _ _; first | refine WC.seq ?_ | refine WC.region ?_ | refine WC.exit ?_ | refine WC.condF rfl (by with_reducible rfl) ?_) | refine seqQ_n ?_ | refine seqQ_x ?_ | refine blkQ_hit rfl ?_ | refine rndQ_x ?_)
          exact endQ_n n ⟨hn, hns, Hg, He, hS⟩ ⟨rfl, trivial⟩ ⟨rfl, trivial⟩
      · have He : ∀ c, s[n]? = some c → c.toNat < 128 ∨ n = 9 := fun c h => .inr (by omega)
        clear hnext
        have hn9 : ¬ (n : Int) < 9 := by omega
        repeat' (first | (show WL _ _ _ _ _ _ _; first | refine WL.pure rfl rfl rfl rfl ?_ | refine WL.nil ?_ | refine WL.idxS rfl rfl rfl rfl (by with_reducible assumption) rfl rfl rfl ?_ | refine WL.skip rfl rfl rfl ?_ | ((fail_if_success (refine WL.wanted rfl ?_)); refine WL.guard rfl rfl rfl (fun h => ?_) (fun h => ?_) <;> (try simp only [ZZ0, ZZ1, ZZ2, ZZ3, ZZ4, ZZ5, ZZ6, ZZ7, ZZ8, ZZ9, ZZ10, ZZ11, ZZ12, ZZ13, ZZ14, ZZ15] at h) <;> (try (exfalso; first | omega | contradiction)))) | (show WC _ _ _ _ _ _; first | refine WC.seq ?_ | refine WC.region ?_ | refine WC.exit ?_ | refine WC.condF rfl (by with_reducible rfl) ?_ | refine WC.condF rfl (decide_eq_false (by first | with_reducible assumption | omega)) ?_) | refine seqQ_n ?_ | refine seqQ_x ?_ | refine blkQ_hit rfl ?_ | refine rndQ_x ?_)
        all_goals exact endQ_n n ⟨hn, hns, Hg, He, hS⟩ ⟨rfl, trivial⟩ ⟨rfl, trivial⟩
    · have He : ∀ c, s[n]? = some c → c.toNat < 128 ∨ n = 9 := fun c h => by rw [List.getElem?_eq_none (by omega)] at h; cases h
      repeat' (first | (show WL _ _ _ _ _ _ _; first | refine WL.pure rfl rfl rfl rfl ?_ | refine WL.nil ?_ | refine WL.skip rfl rfl rfl ?_ | ((fail_if_success (refine WL.wanted rfl ?_)); refine WL.guard rfl rfl rfl (fun h => ?_) (fun h => ?_) <;> (try simp only [ZZ0, ZZ1, ZZ2, ZZ3, ZZ4, ZZ5, ZZ6, ZZ7, ZZ8, ZZ9, ZZ10, ZZ11, ZZ12, ZZ13, ZZ14, ZZ15] at h) <;> (try (exfalso; first | omega | contradiction)))) | (show WC _ _ _ _ _ _; first | refine WC.seq ?_ | refine WC.region ?_ | refine WC.exit ?_ | refine WC.condF rfl (by with_reducible rfl) ?_) | refine seqQ_n ?_ | refine seqQ_x ?_ | refine blkQ_hit rfl ?_ | refine rndQ_x ?_)
      exact endQ_n n ⟨hn, hns, Hg, He, hS⟩ ⟨rfl, trivial⟩ ⟨rfl, trivial⟩
  · rintro n g w ⟨hn, hns, Hg, He, hS⟩
    by_cases hlt : n < s.length
    rotate_left
    · have hne : n = s.length := by omega
      subst hne
      rw [List.take_length] at Hg
      rw [rvarE_short (by omega) Hg] at hRES
      subst hRES
      clear Hg He
      repeat' (first | (show WL _ _ _ _ _ _ _; first | refine WL.pure rfl rfl rfl rfl ?_ | refine WL.nil ?_) | (show WC _ _ _ _ _ _; first | refine WC.seq ?_ | refine WC.region ?_ | refine WC.ret ?_ | refine WC.condT rfl (decide_eq_true (by first | with_reducible assumption | omega)) ?_) | refine seqQ_n ?_ | refine seqQ_r ?_)
      exact fin3r rfl rfl rfl rfl ⟨hS.upd, rfl⟩
    have hc : s[n]? = some s[n] := List.getElem?_eq_getElem hlt
    have hE := varE_end hn Hg hc (He _ hc)
    rw [hRES] at hE
    have hst := He _ hc
    have h9c : n = 9 → s[9]? = some s[n] := fun h => by rw [← hc, h]
    have hb : ¬ (n = 9 ∧ 1 < s[n].toNat) → ∀ i, lowV ((s.take (n + 1)).drop i) < 18446744073709551616 := fun hno i => by
      refine lowV_bound (by rw [List.length_drop, List.length_take]; omega) fun c h => ?_
      rw [List.getElem?_drop] at h
      have hi : i + 9 < (s.take (n + 1)).length := (List.getElem?_eq_some_iff.1 h).1
      rw [List.length_take] at hi
      have hi0 : i = 0 := by omega
      have hn9 : n = 9 := by omega
      subst hi0
      rw [Nat.zero_add, List.getElem?_take_of_lt (by omega), h9c hn9] at h
      cases h
      omega
    generalize hc0 : s[n] = c0 at *
    clear Hg He hRES
    by_cases hf : n = 9 ∧ 1 < c0.toNat ∨ 0 < n ∧ c0.toNat = 0
    · rw [if_pos hf] at hE
      subst hE
      clear hb hst
      rcases hf with ⟨rfl, h1⟩ | ⟨h1, h2⟩
      · have h9c := h9c rfl
        have hi1 : (1 : Int) < (c0.toNat : Int) := by omega
        repeat' (first | (show WL _ _ _ _ _ _ _; first | refine WL.pure rfl rfl rfl rfl ?_ | refine WL.nil ?_ | refine WL.idxS (j := 9) rfl rfl rfl rfl h9c rfl rfl rfl ?_ | refine WL.skip rfl rfl rfl ?_ | ((fail_if_success (refine WL.wanted rfl ?_)); refine WL.guard rfl rfl rfl (fun h => ?_) (fun h => ?_) <;> (try simp only [ZZ0, ZZ1, ZZ2, ZZ3, ZZ4, ZZ5, ZZ6, ZZ7, ZZ8, ZZ9, ZZ10, ZZ11, ZZ12, ZZ13, ZZ14, ZZ15] at h) <;> (try (exfalso; first | omega | contradiction)))) | (show WC _ _ _ _ _ _; first | refine WC.seq ?_ | refine WC.region ?_ | refine WC.skip ?_ | refine WC.ret ?_ | refine WC.condT rfl (by with_reducible rfl) ?_ | refine WC.condF rfl (decide_eq_false (by first | with_reducible assumption | omega)) ?_) | refine seqQ_n ?_ | refine seqQ_r ?_)
        exact fin3r rfl rfl rfl rfl ⟨hS.upd, rfl⟩
      · by_cases h9 : n = 9
        · subst h9
          have h9c := h9c rfl
          have hi1 : ¬ (1 : Int) < (c0.toNat : Int) := by omega
          have hi2 : (c0.toNat : Int) = 0 := by omega
          repeat' (first | (show WL _ _ _ _ _ _ _; first | refine WL.pure rfl rfl rfl rfl ?_ | refine WL.nil ?_ | refine WL.idxS (j := 9) rfl rfl rfl rfl h9c rfl rfl rfl ?_ | ((fail_if_success (refine WL.wanted rfl ?_)); refine WL.guard rfl rfl rfl (fun h => ?_) (fun h => ?_) <;> (try simp only [ZZ0, ZZ1, ZZ2, ZZ3, ZZ4, ZZ5, ZZ6, ZZ7, ZZ8, ZZ9, ZZ10, ZZ11, ZZ12, ZZ13, ZZ14, ZZ15] at h) <;> (try (exfalso; first | omega | contradiction)))) | (show WC _ _ _ _ _ _; first | refine WC.seq ?_ | refine WC.region ?_ | refine WC.skip ?_ | refine WC.ret ?_ | refine WC.condT rfl (decide_eq_true (by first | with_reducible assumption | omega)) ?_ | refine WC.condF rfl (decide_eq_false (by first | with_reducible assumption | omega)) ?_) | refine seqQ_n ?_ | refine seqQ_r ?_)
          exact fin3r rfl rfl rfl rfl ⟨hS.upd, rfl⟩
        · have hi2 : (c0.toNat : Int) = 0 := by omega
          have hn9 : ¬ (n : Int) = 9 := by omega
          clear h9c
          repeat' (first | (show WL _ _ _ _ _ _ _; first | refine WL.pure rfl rfl rfl rfl ?_ | refine WL.nil ?_ | refine WL.idxS rfl rfl rfl rfl (by with_reducible assumption) rfl rfl rfl ?_ | refine WL.skip rfl rfl rfl ?_ | ((fail_if_success (refine WL.wanted rfl ?_)); refine WL.guard rfl rfl rfl (fun h => ?_) (fun h => ?_) <;> (try simp only [ZZ0, ZZ1, ZZ2, ZZ3, ZZ4, ZZ5, ZZ6, ZZ7, ZZ8, ZZ9, ZZ10, ZZ11, ZZ12, ZZ13, ZZ14, ZZ15] at h) <;> (try (exfalso; first | omega | contradiction)))) | (show WC _ _ _ _ _ _; first | refine WC.seq ?_ | refine WC.region ?_ | refine WC.skip ?_ | refine WC.ret ?_ | refine WC.condT rfl (decide_eq_true (by first | with_reducible assumption | omega)) ?_ | refine WC.condF rfl (decide_eq_false (by first | with_reducible assumption | omega)) ?_) | refine seqQ_n ?_ | refine seqQ_r ?_)
          exact fin3r rfl rfl rfl rfl ⟨hS.upd, rfl⟩
    · rw [if_neg hf] at hE
      subst hE
      have hb := hb (fun h => hf (.inl h))
      have hnf : (n = 9 → ¬ 1 < c0.toNat) ∧ (0 < n → ¬ c0.toNat = 0) := ⟨fun h1 h2 => hf (.inl ⟨h1, h2⟩), fun h1 h2 => hf (.inr ⟨h1, h2⟩)⟩
      clear hst hf h9c
      have hL : ∀ m, m < n + 1 → ∃ c, s[m]? = some c ∧ (s.take (n + 1)).drop m = c :: (s.take (n + 1)).drop (m + 1) := fun m hm => by
        have hml : m < (s.take (n + 1)).length := by rw [List.length_take]; omega
        refine ⟨s[m]'(by omega), List.getElem?_eq_getElem (by omega), ?_⟩
        rw [List.drop_eq_getElem_cons hml, List.getElem_take]
      have hz : lowV ((s.take (n + 1)).drop (n + 1)) = 0 := by rw [List.drop_of_length_le (by rw [List.length_take]; omega)]; rfl
      have h0 : lowV ((s.take (n + 1)).drop 0) = lowV (s.take (n + 1)) := rfl
      generalize s.take (n + 1) = L at *
      have hfin : ∀ (V : Nat), lowV (L.drop 0) = V → varV0 (V, n + 1, 0) = .tuple #[.int .u64 ((lowV (L.drop 0) : Nat) : Int), .int .i64 ((n : Int) + 1), .int .i64 0] := fun V h => by rw [h]; rfl
      rw [hfin _ h0]
      clear hfin h0
      have hcn : (n = 9 → ¬ (1 : Int) < (c0.toNat : Int)) ∧ (0 < n → ¬ (c0.toNat : Int) = 0) := ⟨fun h1 => by have := hnf.1 h1; omega, fun h1 => by have := hnf.2 h1; omega⟩
      clear hnf
      obtain ⟨HL, -⟩ : ∃ h : (∀ m, m < n + 1 → ∃ c, s[m]? = some c ∧ L.drop m = c :: L.drop (m + 1)), h = hL := ⟨_, rfl⟩
      obtain ⟨HB, -⟩ : ∃ h : (∀ i, lowV (L.drop i) < 18446744073709551616), h = hb := ⟨_, rfl⟩
      clear hL hb
      have hcase : n = 9 ∧ ¬ (1 : Int) < (c0.toNat : Int) ∧ ¬ (c0.toNat : Int) = 0 ∨ ¬ (n : Int) = 9 ∧ 0 < n ∧ ¬ (c0.toNat : Int) = 0 ∨ n = 0 := by
        by_cases h9 : n = 9
        · exact .inl ⟨h9, hcn.1 h9, hcn.2 (by omega)⟩
        · by_cases hz0 : n = 0
          · exact .inr (.inr hz0)
          · exact .inr (.inl ⟨by omega, by omega, hcn.2 (by omega)⟩)
      clear hcn
      rcases hcase with ⟨rfl, hi1, hi2⟩ | ⟨hi9, hi0, hi2⟩ | rfl
      all_goals
        repeat' (first | (show WL _ _ _ _ _ _ _; first | refine WL.pure rfl rfl rfl rfl ?_ | refine WL.nil ?_ | refine WL.idxS (j := 9) rfl rfl rfl rfl hc rfl rfl rfl ?_ | refine WL.idxS rfl rfl rfl rfl (by with_reducible assumption) rfl rfl rfl ?_ | refine WL.skip rfl rfl rfl ?_ | ((fail_if_success (refine WL.wanted rfl ?_)); refine WL.guard rfl rfl rfl (fun h => ?_) (fun h => ?_) <;> (try simp only [ZZ0, ZZ1, ZZ2, ZZ3, ZZ4, ZZ5, ZZ6, ZZ7, ZZ8, ZZ9, ZZ10, ZZ11, ZZ12, ZZ13, ZZ14, ZZ15] at h) <;> (try (exfalso; first | omega | contradiction)))) | (show WC _ _ _ _ _ _; first | refine WC.seq ?_ | refine WC.region ?_ | refine WC.block ?_ | refine WC.skip ?_ | refine WC.condF rfl (by with_reducible rfl) ?_ | refine WC.condF rfl (decide_eq_false (by first | with_reducible assumption | omega)) ?_) | refine seqQ_n ?_)
      all_goals
        refine WC.loop (σ := Nat) [0, 5] (fun k => [(6, .int .u64 ((lowV (L.drop k) : Nat) : Int)), (7, .int .i64 ((k : Int) - 1))]) (fun k w => k ≤ _ + 1 ∧ St w0 [] w [] [⟨w0, Old w0⟩]) (fun k => k) _ ⟨Nat.le_refl _, hS⟩ ⟨by rw [hz]; rfl, vint (by omega), trivial⟩ ?_
        clear hS hc
        rintro k g w ⟨hk, hS⟩
        rcases k with _ | m
        · clear HL HB
          repeat' (first | (show WL _ _ _ _ _ _ _; first | refine WL.pure rfl rfl rfl rfl ?_ | refine WL.nil ?_ | refine WL.add rfl rfl rfl (by omega) rfl rfl rfl ?_) | (show WC _ _ _ _ _ _; first | refine WC.seq ?_ | refine WC.region ?_ | refine WC.exit ?_ | refine WC.ret ?_ | refine WC.condF rfl (by decide) ?_) | refine seqQ_n ?_ | refine seqQ_x ?_ | refine blkQ_hit rfl ?_ | refine rndQ_x ?_)
          exact fin3r rfl rfl rfl rfl ⟨hS.upd, rfl⟩
        · obtain ⟨c, hc, hdr⟩ := HL m (by omega)
          have hbm := HB m
          rw [hdr] at hbm
          have hstep := low_step (V := lowV (L.drop (m + 1))) (c := c) hbm
          have hlw : lowV (L.drop m) = c.toNat % 128 + 128 * lowV (L.drop (m + 1)) := by rw [hdr]; rfl
          have hrem := low_rem c
          clear HL HB hdr hbm
          generalize lowV (L.drop (m + 1)) = V at *
          repeat' (first | (show WL _ _ _ _ _ _ _; first | refine WL.pure rfl rfl rfl rfl ?_ | refine WL.nil ?_ | refine WL.sub rfl rfl rfl (by omega) rfl rfl rfl ?_ | refine WL.idxS (j := m) rfl rfl rfl (congrArg (Value.int .i64) (pred_ofNat m)) hc rfl rfl rfl ?_ | (refine WL.remK rfl rfl rfl (by omega) (by omega) hrem rfl rfl rfl ?_)) | (show WC _ _ _ _ _ _; first | refine WC.seq ?_ | refine WC.region ?_ | refine WC.block ?_ | refine WC.skip ?_ | refine WC.condT rfl (decide_eq_true (by first | with_reducible assumption | omega)) ?_) | refine seqQ_n ?_ | refine blkQ_n ?_)
          exact rndQ_n m ⟨by omega, hS⟩ (by omega) ⟨by rw [hlw, ← hstep]; rfl, vint (by omega), trivial⟩ ⟨rfl, rfl, trivial⟩
def uintV0 (r : Nat × Nat × Int) : Value := .tuple #[.int .i64 (r.1 : Int), .int .i64 (r.2.1 : Int), .int .i64 r.2.2]
theorem varE_zero (s : List UInt8) (h : (varE s 0 0).2.2 ≠ 0) : varE s 0 0 = (0, 0, (varE s 0 0).2.2) := by
  have key : ∀ (t : List UInt8) (i x : Nat), (varE t i x).2.2 ≠ 0 → varE t i x = (0, 0, (varE t i x).2.2) := by
    intro t
    induction t with
    | nil => intro i x _; rfl
    | cons c t ih =>
      intro i x h
      unfold varE at h ⊢
      split
      · rfl
      · rename_i h1
        rw [if_neg h1] at h
        split
        · rename_i h2
          rw [if_pos h2] at h
          exact ih _ _ h
        · rename_i h2
          rw [if_neg h2] at h
          split
          · rfl
          · rename_i h3
            rw [if_neg h3] at h
            exact absurd rfl h
  exact key s 0 0 h
set_option maxHeartbeats 4000000 in
set_option maxRecDepth 100000 in
theorem ruint_c (s : List UInt8) (w0 : World) (hl : s.length ≤ 1099511627776) : Cal Tryz.prog 152 [str s] w0 (fun v w' => Upd [] w0 w' ∧ v = uintV0 (uintE s)) := by
  refine Cal.mk' (by kernel_rfl) Tryz.func152 rfl rfl fun hS => ?_
  have hr := fun w0 => rread_c s w0 hl
  have hz := varE_zero s
  unfold uintE
  unfold varV0 at hr
  have hlt : (varE s 0 0).2.2 = 0 → (varE s 0 0).1 < 18446744073709551616 := fun h => (varE_ok s 0 0 (by simp) (by omega) h).1
  generalize varE s 0 0 = r at *
  obtain ⟨x, n, e⟩ := r
  dsimp only at hr hz hlt ⊢
  by_cases he : e = 0
  · subst he
    have hlt := hlt rfl
    rw [if_pos rfl]
    clear hz
    by_cases h63 : x < 9223372036854775808
    · rw [if_pos h63]
      repeat' (first | (show WL _ _ _ _ _ _ _; first | refine WL.pure rfl rfl rfl rfl ?_ | refine WL.nil ?_ | (refine WL.calls hS rfl rfl (hr _) rfl rfl rfl ?_; rintro v w rfl hS) | refine WL.conv64 rfl rfl rfl (by omega) rfl rfl rfl ?_) | (show WC _ _ _ _ _ _; first | refine WC.seq ?_ | refine WC.region ?_ | refine WC.skip ?_ | refine WC.ret ?_ | refine WC.condF rfl (decide_eq_false (by first | with_reducible assumption | omega)) ?_) | refine seqQ_n ?_)
      exact fin3r rfl rfl rfl rfl ⟨hS.upd, rfl⟩
    · rw [if_neg h63]
      repeat' (first | (show WL _ _ _ _ _ _ _; first | refine WL.pure rfl rfl rfl rfl ?_ | refine WL.nil ?_ | (refine WL.calls hS rfl rfl (hr _) rfl rfl rfl ?_; rintro v w rfl hS)) | (show WC _ _ _ _ _ _; first | refine WC.seq ?_ | refine WC.region ?_ | refine WC.ret ?_ | refine WC.condT rfl (decide_eq_true (by first | with_reducible assumption | omega)) ?_) | refine seqQ_n ?_ | refine seqQ_r ?_)
      exact fin3r rfl rfl rfl rfl ⟨hS.upd, rfl⟩
  · rw [if_neg he]
    have hz := hz he
    simp only [Prod.mk.injEq, and_true] at hz
    obtain ⟨rfl, rfl⟩ := hz
    clear hlt
    repeat' (first | (show WL _ _ _ _ _ _ _; first | refine WL.pure rfl rfl rfl rfl ?_ | refine WL.nil ?_ | (refine WL.calls hS rfl rfl (hr _) rfl rfl rfl ?_; rintro v w rfl hS) | refine WL.conv64 rfl rfl rfl (by omega) rfl rfl rfl ?_ | refine WL.skip rfl rfl rfl ?_ | ((fail_if_success (refine WL.wanted rfl ?_)); refine WL.guard rfl rfl rfl (fun h => ?_) (fun h => ?_) <;> (try simp only [ZZ0, ZZ1, ZZ2, ZZ3, ZZ4, ZZ5, ZZ6, ZZ7, ZZ8, ZZ9, ZZ10, ZZ11, ZZ12, ZZ13, ZZ14, ZZ15] at h) <;> (try (exfalso; first | omega | contradiction)))) | (show WC _ _ _ _ _ _; first | refine WC.seq ?_ | refine WC.region ?_ | refine WC.skip ?_ | refine WC.ret ?_ | refine WC.condF rfl (by with_reducible rfl) ?_) | refine seqQ_n ?_)
    exact fin3r rfl rfl rfl rfl ⟨hS.upd, rfl⟩
def rtextV0 (r : List UInt8 × Nat × Int) : Value := .tuple #[str r.1, .int .i64 (r.2.1 : Int), .int .i64 r.2.2]
set_option maxHeartbeats 4000000 in
set_option maxRecDepth 100000 in
theorem rrtext_c (s : List UInt8) (w0 : World) (hl : s.length ≤ 1099511627776) : Cal Tryz.prog 151 [str s] w0 (fun v w' => Upd [] w0 w' ∧ v = rtextV0 (rtextE s)) := by
  refine Cal.mk' (by kernel_rfl) Tryz.func151 rfl rfl fun hS => ?_
  have hr := fun w0 => ruint_c s w0 hl
  have hok := uintE_ok s
  unfold rtextE
  unfold uintV0 at hr
  generalize uintE s = r at *
  obtain ⟨x, n, e⟩ := r
  dsimp only at hr hok ⊢
  by_cases he : e = 0
  · subst he
    obtain ⟨hx, hn⟩ := hok rfl
    clear hok
    rw [if_pos rfl]
    by_cases hle : x + n ≤ s.length
    · rw [if_pos hle]
      have hcut : (s.take (n + x)).drop n = (s.drop n).take x := by rw [List.drop_take]; congr 1; omega
      repeat' (first | (show WL _ _ _ _ _ _ _; first | refine WL.pure rfl rfl rfl rfl ?_ | refine WL.nil ?_ | refine WL.add rfl rfl rfl (by omega) rfl rfl rfl ?_ | refine WL.sub rfl rfl rfl (by omega) rfl rfl rfl ?_ | (refine WL.calls hS rfl rfl (hr _) rfl rfl rfl ?_; rintro v w rfl hS) | (refine WL.midS (i := n) (j := n + x) rfl rfl rfl rfl rfl (by omega) (by omega) rfl rfl rfl ?_; rw [hcut])) | (show WC _ _ _ _ _ _; first | refine WC.seq ?_ | refine WC.region ?_ | refine WC.skip ?_ | refine WC.ret ?_ | refine WC.condF rfl (by decide) ?_ | refine WC.condF rfl (decide_eq_false (by first | with_reducible assumption | omega)) ?_) | refine seqQ_n ?_)
      exact fin3r rfl rfl rfl rfl ⟨hS.upd, by unfold rtextV0; rw [show ((n : Int) + (x : Int)) = ((x + n : Nat) : Int) by omega]⟩
    · rw [if_neg hle]
      repeat' (first | (show WL _ _ _ _ _ _ _; first | refine WL.pure rfl rfl rfl rfl ?_ | refine WL.nil ?_ | refine WL.sub rfl rfl rfl (by omega) rfl rfl rfl ?_ | (refine WL.calls hS rfl rfl (hr _) rfl rfl rfl ?_; rintro v w rfl hS)) | (show WC _ _ _ _ _ _; first | refine WC.seq ?_ | refine WC.region ?_ | refine WC.skip ?_ | refine WC.ret ?_ | refine WC.condF rfl (by decide) ?_ | refine WC.condT rfl (decide_eq_true (by first | with_reducible assumption | omega)) ?_) | refine seqQ_n ?_ | refine seqQ_r ?_)
      exact fin3r rfl rfl rfl rfl ⟨hS.upd, rfl⟩
  · rw [if_neg he]
    clear hok
    repeat' (first | (show WL _ _ _ _ _ _ _; first | refine WL.pure rfl rfl rfl rfl ?_ | refine WL.nil ?_ | (refine WL.calls hS rfl rfl (hr _) rfl rfl rfl ?_; rintro v w rfl hS)) | (show WC _ _ _ _ _ _; first | refine WC.seq ?_ | refine WC.region ?_ | refine WC.ret ?_ | refine WC.condT rfl (decide_eq_true (by first | with_reducible assumption | omega)) ?_) | refine seqQ_n ?_ | refine seqQ_r ?_)
    exact fin3r rfl rfl rfl rfl ⟨hS.upd, rfl⟩
end Go.Proofs.YtccfiohagbneaaaGreatDoor

/- What is proved: what the reference's Record and Ops answer. Conditions: texts of bounded length. -/
namespace Go.Proofs.YtccfiohagbneaaaGreatDoor
open Go Go.J Go.RowKit
set_option maxHeartbeats 16000000 in
set_option maxRecDepth 100000 in
theorem rrecord_c (l : List Chg) {A : Option Addr} {cap : Nat} {w0 : World} (h : SlAt cChg (Old w0) w0 A l) (hb : (recordE l).length ≤ 1099511627776) (hl : l.length ≤ 1099511627776) :
    Cal Tryz.prog 97 [.slice A l.length cap] w0 (fun v w' => Upd [] w0 w' ∧ v = str (recordE l)) := by
  refine Cal.mk' (by kernel_rfl) Tryz.func97 rfl rfl fun hS => ?_
  have hpl := putN_len10 (n := l.length) (by omega)
  repeat' (first | (show WL _ _ _ _ _ _ _; first | refine WL.pure rfl rfl rfl rfl ?_ | refine WL.nil ?_ | (refine WL.calls hS rfl rfl (rnum_c l.length _ (by omega)) rfl rfl rfl ?_; rintro v w rfl hS)) | (show WC _ _ _ _ _ _; first | refine WC.seq ?_ | refine WC.region ?_ | refine WC.block ?_) | refine seqQ_n ?_)
  refine WC.loop (σ := Nat × List UInt8) [0] (fun (k, acc) => [(3, str acc), (4, .int .i64 (k : Int))]) (fun (k, acc) w => k ≤ l.length ∧ acc ++ (l.drop k).flatMap recO = recordE l ∧ St w0 [] w [] [⟨w0, Old w0⟩]) (fun (k, _) => l.length - k) (0, putN l.length) ⟨Nat.zero_le _, rfl, hS⟩ ⟨rfl, rfl, trivial⟩ ?_
  clear hS
  rintro ⟨k, acc⟩ g w ⟨hk, hacc, hS⟩
  show WC _ _ _ (lf _ [(3, str acc), (4, .int .i64 (k : Int))] _ _) _ _
  by_cases hlt : k < l.length
  · obtain ⟨rb, ro, es, rfl, hF, hr, hes⟩ := h.at_ hlt
    have hes : es = cellsChg l[k] := hes
    subst hes
    have hr : w0.rangeAt rb (ro + k * 3) (cellsChg l[k]) := hr
    rw [List.drop_eq_getElem_cons hlt, List.flatMap_cons] at hacc
    generalize l[k] = o at *
    obtain ⟨key, val, gone⟩ := o
    have hlen := congrArg List.length hacc
    rw [List.length_append, List.length_append] at hlen
    have p0 : putN 0 = [0] := putN_small (by decide)
    have p1 : putN 1 = [1] := putN_small (by decide)
    have hn0 := fun w0 => rnum_c 0 w0 (by decide)
    have hn1 := fun w0 => rnum_c 1 w0 (by decide)
    rw [p0] at hn0
    rw [p1] at hn1
    have hn0 : ∀ w0, Cal Tryz.prog 154 [.int .i64 0] w0 (fun v w' => Upd [] w0 w' ∧ v = str [0]) := hn0
    have hn1 : ∀ w0, Cal Tryz.prog 154 [.int .i64 1] w0 (fun v w' => Upd [] w0 w' ∧ v = str [1]) := hn1
    have ht := textE_len key
    have htv := textE_len val
    have a0 : (acc ++ [0]).length = acc.length + 1 := by simp
    have a1 : (acc ++ [1]).length = acc.length + 1 := by simp
    have e0 : ([0] : List UInt8).length = 1 := rfl
    have e1 : ([1] : List UInt8).length = 1 := rfl
    clear p0 p1
    rcases gone with _ | _
    · have hrec : recO ⟨key, val, false⟩ = [1] ++ textE key ++ textE val := by simp [recO]
      rw [hrec] at hacc hlen
      have e2 : ([1] ++ textE key ++ textE val).length = 1 + (textE key).length + (textE val).length := by simp; omega
      have a2 : (acc ++ [1] ++ textE key).length = acc.length + 1 + (textE key).length := by simp; omega
      repeat' (first | (show WL _ _ _ _ _ _ _; first | refine WL.pure rfl rfl rfl rfl ?_ | refine WL.nil ?_ | refine WL.add rfl rfl rfl (by omega) rfl rfl rfl ?_ | (refine WL.load hS rfl rfl (LdOk.snap hF hr Mm rfl) rfl rfl rfl ?_) | refine WL.index rfl rfl rfl rfl (by first | with_reducible assumption | omega) rfl rfl rfl rfl ?_) | (show WC _ _ _ _ _ _; first | refine WC.seq ?_ | refine WC.region ?_ | refine WC.block ?_ | refine WC.skip ?_ | (show WC _ _ (Code.region _ (List.toArray [_, _, _, _, _, _, _, _, _, _, _, _, _, _, _, _, _, _]) true) _ _ _; refine WC.drawS hS [0,2,3,4,5,6,7,9,10,11,12,13,14,16,17] [0,3,4,5,6,7,10,11,12,13,14,1,2,8,9,15,16,17] (by kernel_rfl) (by kernel_rfl) ?_; clear hS; intro w hS hM) | refine WC.condF rfl (by with_reducible rfl) ?_ | refine WC.condT rfl (decide_eq_true (by first | with_reducible assumption | omega)) ?_) | (show WD _ _ _ _ _ _ _ _ _; first | refine WD.pure rfl rfl rfl rfl rfl ?_ | refine WD.nil ?_ | (refine WD.load rfl rfl (LdOk.snap hF hr Mm rfl) rfl rfl rfl rfl ?_) | (refine WD.cat rfl rfl rfl (by omega) rfl rfl rfl rfl ?_) | (refine WD.calls hS hM rfl rfl (hn1 _) rfl rfl rfl rfl rfl ?_; clear hS; rintro v w rfl hS) | (refine WD.calls hS hM rfl rfl (rtextw_c key _ (by omega)) rfl rfl rfl rfl rfl ?_; clear hS; rintro v w rfl hS) | (refine WD.calls hS hM rfl rfl (rtextw_c val _ (by omega)) rfl rfl rfl rfl rfl ?_; clear hS; rintro v w rfl hS) | refine WD.index rfl rfl rfl rfl (by first | with_reducible assumption | omega) rfl rfl rfl rfl rfl ?_) | refine seqQ_n ?_ | refine blkQ_n ?_)
      exact rndQ_n (k + 1, acc ++ [1] ++ textE key ++ textE val) ⟨by omega, by rw [← hacc]; simp, hS⟩ (by show l.length - (k + 1) < l.length - k; omega) ⟨rfl, vint (by omega), trivial⟩ ⟨rfl, trivial⟩
    · have hrec : recO ⟨key, val, true⟩ = [0] ++ textE key := by simp [recO]
      rw [hrec] at hacc hlen
      have e2 : ([0] ++ textE key).length = 1 + (textE key).length := by simp; omega
      repeat' (first | (show WL _ _ _ _ _ _ _; first | refine WL.pure rfl rfl rfl rfl ?_ | refine WL.nil ?_ | refine WL.add rfl rfl rfl (by omega) rfl rfl rfl ?_ | (refine WL.load hS rfl rfl (LdOk.snap hF hr Mm rfl) rfl rfl rfl ?_) | refine WL.index rfl rfl rfl rfl (by first | with_reducible assumption | omega) rfl rfl rfl rfl ?_) | (show WC _ _ _ _ _ _; first | refine WC.seq ?_ | refine WC.region ?_ | refine WC.block ?_ | refine WC.skip ?_ | (show WC _ _ (Code.region _ (List.toArray [_, _, _, _, _, _, _, _, _, _, _]) true) _ _ _; refine WC.drawS hS [0,2,3,4,5,6,7,9,10] [0,3,4,5,6,7,1,2,8,9,10] (by kernel_rfl) (by kernel_rfl) ?_; clear hS; intro w hS hM) | refine WC.condT rfl (by with_reducible rfl) ?_ | refine WC.condT rfl (decide_eq_true (by first | with_reducible assumption | omega)) ?_) | (show WD _ _ _ _ _ _ _ _ _; first | refine WD.pure rfl rfl rfl rfl rfl ?_ | refine WD.nil ?_ | (refine WD.load rfl rfl (LdOk.snap0 hF hr Mm rfl) rfl rfl rfl rfl ?_) | (refine WD.cat rfl rfl rfl (by omega) rfl rfl rfl rfl ?_) | (refine WD.calls hS hM rfl rfl (hn0 _) rfl rfl rfl rfl rfl ?_; clear hS; rintro v w rfl hS) | (refine WD.calls hS hM rfl rfl (rtextw_c key _ (by omega)) rfl rfl rfl rfl rfl ?_; clear hS; rintro v w rfl hS) | refine WD.index rfl rfl rfl rfl (by first | with_reducible assumption | omega) rfl rfl rfl rfl rfl ?_) | refine seqQ_n ?_ | refine blkQ_n ?_)
      exact rndQ_n (k + 1, acc ++ [0] ++ textE key) ⟨by omega, by rw [← hacc]; simp, hS⟩ (by show l.length - (k + 1) < l.length - k; omega) ⟨rfl, vint (by omega), trivial⟩ ⟨rfl, trivial⟩
  · have hke : k = l.length := by omega
    subst hke
    have hacc : acc = recordE l := by simpa using hacc
    subst hacc
    repeat' (first | (show WL _ _ _ _ _ _ _; first | refine WL.pure rfl rfl rfl rfl ?_ | refine WL.nil ?_) | (show WC _ _ _ _ _ _; first | refine WC.seq ?_ | refine WC.region ?_ | refine WC.exit ?_ | refine WC.ret ?_ | refine WC.condF rfl (decide_eq_false (by first | with_reducible assumption | omega)) ?_) | refine seqQ_n ?_ | refine seqQ_x ?_ | refine blkQ_hit rfl ?_ | refine rndQ_x ?_)
    exact fin1r rfl rfl ⟨hS.upd, rfl⟩
set_option maxHeartbeats 16000000 in
set_option maxRecDepth 100000 in
theorem rops_c (s : List UInt8) (w0 : World) (hl : s.length ≤ 1099511627776) : Cal Tryz.prog 94 [str s] w0 (opsR w0 (opsE s)) := by
  refine Cal.mk' (by kernel_rfl) Tryz.func94 rfl rfl fun hS => ?_
  have hui := fun (t : List UInt8) (w0 : World) (h : t.length ≤ 1099511627776) => ruint_c t w0 h
  unfold uintV0 at hui
  have htx := fun (t : List UInt8) (w0 : World) (h : t.length ≤ 1099511627776) => rrtext_c t w0 h
  unfold rtextV0 at htx
  rcases hu : uintE s with ⟨n, u, e⟩
  have hule := uintE_le s
  have hnok := uintE_ok s
  rw [hu] at hule hnok
  dsimp only at hule hnok
  have hu1 : ∀ w0, Cal Tryz.prog 152 [str s] w0 (fun v w' => Upd [] w0 w' ∧ v = .tuple #[.int .i64 (n : Int), .int .i64 (u : Int), .int .i64 e]) := fun w0 => by have := hui s w0 hl; rwa [hu] at this
  by_cases he : e = 0
  rotate_left
  · rw [opsE_e hu he]
    clear hnok hu hui htx
    repeat' (first | (show WL _ _ _ _ _ _ _; first | refine WL.pure rfl rfl rfl rfl ?_ | refine WL.nil ?_ | (refine WL.calls hS rfl rfl (hu1 _) rfl rfl rfl ?_; rintro v w rfl hS)) | (show WC _ _ _ _ _ _; first | refine WC.seq ?_ | refine WC.region ?_ | refine WC.ret ?_ | refine WC.condT rfl (decide_eq_true (by first | with_reducible assumption | omega)) ?_) | refine seqQ_n ?_ | refine seqQ_r ?_)
    have hS := hS.nilRow 79 3
    exact fin2r rfl rfl rfl ⟨hS.upd, _, _, rfl, hS.newOf (List.Mem.head _)⟩
  subst he
  obtain ⟨hn63, _⟩ := hnok rfl
  rw [opsE_of hu]
  clear hnok hu
  generalize hRES : opsFin s [] u (opsF n (s.drop u)) = RES
  repeat' (first | (show WL _ _ _ _ _ _ _; first | refine WL.pure rfl rfl rfl rfl ?_ | refine WL.nil ?_ | (refine WL.calls hS rfl rfl (hu1 _) rfl rfl rfl ?_; rintro v w rfl hS)) | (show WC _ _ _ _ _ _; first | refine WC.seq ?_ | refine WC.region ?_ | refine WC.block ?_ | refine WC.skip ?_ | refine WC.condF rfl (by decide) ?_) | refine seqQ_n ?_)
  have hS := hS.nilRow 79 3
  refine WC.loop (σ := Nat × List Chg × Nat × Option Addr × Nat) [0, 4] (fun (k, l, p, A, cap) => [(5, .int .i64 (p : Int)), (7, .slice A l.length cap), (8, .int .i64 (k : Int))])
    (fun (k, l, p, A, cap) w => k ≤ n ∧ p ≤ s.length ∧ l.length ≤ p ∧ opsFin s l p (opsF (n - k) (s.drop p)) = RES ∧ St w0 [] w [.own (.slice A l.length cap) 79 3 l.length (chgs l)] [⟨w0, Old w0⟩])
    (fun (k, _) => n - k) (0, [], u, none, 0) ⟨Nat.zero_le _, hule, Nat.zero_le _, hRES, hS⟩ ⟨rfl, rfl, rfl, trivial⟩ ?_
  clear hS hRES hu1
  rintro ⟨k, l, p, A, cap⟩ g w ⟨hk, hp, hlp, hres, hS⟩
  show WC _ _ _ (lf _ [(5, .int .i64 (p : Int)), (7, .slice A l.length cap), (8, .int .i64 (k : Int))] _ _) _ _
  have hcap := hS.own_len (List.Mem.head _)
  have hdl : ∀ j, (s.drop j).length ≤ 1099511627776 := fun j => by rw [List.length_drop]; omega
  by_cases hlt : k < n
  · obtain ⟨m, hm⟩ : ∃ m, n - k = m + 1 := ⟨n - k - 1, by omega⟩
    have hm1 : n - (k + 1) = m := by omega
    rw [hm] at hres
    rcases hu1 : uintE (s.drop p) with ⟨kd, u1, e1⟩
    have hl1 := uintE_le (s.drop p)
    rw [hu1, List.length_drop] at hl1
    dsimp only at hl1
    have hc1 : ∀ w0, Cal Tryz.prog 152 [str (s.drop p)] w0 (fun v w' => Upd [] w0 w' ∧ v = .tuple #[.int .i64 (kd : Int), .int .i64 (u1 : Int), .int .i64 e1]) := fun w0 => by have := hui (s.drop p) w0 (hdl p); rwa [hu1] at this
    by_cases he1 : e1 = 0
    rotate_left
    · rw [opsFin_no (opE_e hu1 he1) he1] at hres
      subst hres
      clear hm hm1 hui htx hdl
      repeat' (first | (show WL _ _ _ _ _ _ _; first | refine WL.pure rfl rfl rfl rfl ?_ | refine WL.nil ?_ | (refine WL.lowS (j := p) rfl rfl rfl rfl (by omega) rfl rfl rfl ?_) | (refine WL.calls hS rfl rfl (hc1 _) rfl rfl rfl ?_; rintro v w rfl hS)) | (show WC _ _ _ _ _ _; first | refine WC.seq ?_ | refine WC.region ?_ | refine WC.block ?_ | refine WC.skip ?_ | refine WC.ret ?_ | refine WC.condT rfl (decide_eq_true (by first | with_reducible assumption | omega)) ?_) | refine seqQ_n ?_ | refine seqQ_r ?_ | refine blkQ_r ?_ | refine rndQ_r ?_)
      have hS := hS.nilRow 79 3
      exact fin2r rfl rfl rfl ⟨hS.upd, _, _, rfl, hS.newOf (List.Mem.head _)⟩
    subst he1
    have hd1 : (s.drop p).drop u1 = s.drop (p + u1) := by rw [List.drop_drop]
    by_cases hk1 : 1 < kd
    · rw [opsFin_no (opE_big hu1 hk1) (by decide)] at hres
      subst hres
      clear hm hm1 hd1 hui htx hdl
      repeat' (first | (show WL _ _ _ _ _ _ _; first | refine WL.pure rfl rfl rfl rfl ?_ | refine WL.nil ?_ | (refine WL.lowS (j := p) rfl rfl rfl rfl (by omega) rfl rfl rfl ?_) | (refine WL.calls hS rfl rfl (hc1 _) rfl rfl rfl ?_; rintro v w rfl hS)) | (show WC _ _ _ _ _ _; first | refine WC.seq ?_ | refine WC.region ?_ | refine WC.block ?_ | refine WC.skip ?_ | refine WC.ret ?_ | refine WC.condF rfl (by decide) ?_ | refine WC.condT rfl (decide_eq_true (by first | with_reducible assumption | omega)) ?_) | refine seqQ_n ?_ | refine seqQ_r ?_ | refine blkQ_r ?_ | refine rndQ_r ?_)
      have hS := hS.nilRow 79 3
      exact fin2r rfl rfl rfl ⟨hS.upd, _, _, rfl, hS.newOf (List.Mem.head _)⟩
    rcases hu2 : rtextE (s.drop (p + u1)) with ⟨x, v2, e2⟩
    have hl2 := rtextE_le' (s.drop (p + u1))
    rw [hu2, List.length_drop] at hl2
    dsimp only at hl2
    have hc2 : ∀ w0, Cal Tryz.prog 151 [str (s.drop (p + u1))] w0 (fun v w' => Upd [] w0 w' ∧ v = .tuple #[str x, .int .i64 (v2 : Int), .int .i64 e2]) := fun w0 => by have := htx (s.drop (p + u1)) w0 (hdl _); rwa [hu2] at this
    have hu2' := hu2
    rw [← hd1] at hu2'
    by_cases he2 : e2 = 0
    rotate_left
    · rw [opsFin_no (opE_k hu1 hk1 hu2' he2) he2] at hres
      subst hres
      clear hm hm1 hd1 hu2' hui htx hdl
      repeat' (first | (show WL _ _ _ _ _ _ _; first | refine WL.pure rfl rfl rfl rfl ?_ | refine WL.nil ?_ | refine WL.add rfl rfl rfl (by omega) rfl rfl rfl ?_ | (refine WL.lowS (j := p) rfl rfl rfl rfl (by omega) rfl rfl rfl ?_) | (refine WL.lowS (j := p + u1) rfl rfl rfl rfl (by omega) rfl rfl rfl ?_) | (refine WL.calls hS rfl rfl (hc1 _) rfl rfl rfl ?_; rintro v w rfl hS) | (refine WL.calls hS rfl rfl (hc2 _) rfl rfl rfl ?_; rintro v w rfl hS) | (refine WL.alloc (t := 79) hS rfl rfl rfl rfl rfl rfl ?_; intro w ob hS) | (refine WL.store hS rfl rfl rfl Sb rfl rfl rfl ?_; intro w hS) | refine WL.build rfl rfl rfl rfl rfl ?_) | (show WC _ _ _ _ _ _; first | refine WC.seq ?_ | refine WC.region ?_ | refine WC.block ?_ | refine WC.skip ?_ | refine WC.ret ?_ | refine WC.condF rfl (by decide) ?_ | refine WC.condT rfl (decide_eq_true (by first | with_reducible assumption | omega)) ?_ | refine WC.condF rfl (decide_eq_false (by first | with_reducible assumption | omega)) ?_) | refine seqQ_n ?_ | refine seqQ_r ?_ | refine blkQ_r ?_ | refine rndQ_r ?_)
      have hS := hS.nilRow 79 3
      exact fin2r rfl rfl rfl ⟨hS.upd, _, _, rfl, hS.newOf (List.Mem.head _)⟩
    subst he2
    have hd2 : (s.drop p).drop (u1 + v2) = s.drop (p + u1 + v2) := by rw [List.drop_drop, Nat.add_assoc]
    have hpos := uintE_pos (s.drop p)
    rw [hu1] at hpos
    have hpos : 1 ≤ u1 := hpos rfl
    by_cases hk0 : kd = 0
    · subst hk0
      rw [opsFin_ok (opE_gone hu1 hu2'), hd2, ← Nat.add_assoc, ← hm1] at hres
      clear hm hm1 hd1 hu2' hd2 hui htx hdl
      repeat' (first | (show WL _ _ _ _ _ _ _; first | refine WL.pure rfl rfl rfl rfl ?_ | refine WL.nil ?_ | refine WL.load hS rfl rfl (LdOk.box Mm rfl) rfl rfl rfl ?_ | refine WL.add rfl rfl rfl (by omega) rfl rfl rfl ?_ | (refine WL.lowS (j := p) rfl rfl rfl rfl (by omega) rfl rfl rfl ?_) | (refine WL.lowS (j := p + u1) rfl rfl rfl rfl (by omega) rfl rfl rfl ?_) | (refine WL.calls hS rfl rfl (hc1 _) rfl rfl rfl ?_; rintro v w rfl hS) | (refine WL.calls hS rfl rfl (hc2 _) rfl rfl rfl ?_; rintro v w rfl hS) | (refine WL.alloc (t := 79) hS rfl rfl rfl rfl rfl rfl ?_; intro w ob hS) | (refine WL.app hS rfl rfl rfl rfl (RdOk.box Mm) rfl rfl (fun A cap => Rp) (by omega) rfl rfl rfl ?_; intro A cap w hS) | (refine WL.store hS rfl rfl rfl Sb rfl rfl rfl ?_; intro w hS) | refine WL.build rfl rfl rfl rfl rfl ?_ | (refine WL.slit hS rfl rfl rfl rfl rfl ?_; intro w b hS)) | (show WC _ _ _ _ _ _; first | refine WC.seq ?_ | refine WC.region ?_ | refine WC.block ?_ | refine WC.skip ?_ | refine WC.condF rfl (by decide) ?_ | refine WC.condT rfl (decide_eq_true (by first | with_reducible assumption | omega)) ?_) | refine seqQ_n ?_ | refine blkQ_n ?_)
      exact rndQ_n (k + 1, l ++ [⟨x, [], true⟩], p + u1 + v2, _, _) ⟨by omega, by omega, by simp; omega, hres, by
        have hS := hS.drop.drop
        rw [List.length_append, ← chgs_snoc]
        exact hS⟩ (by show n - (k + 1) < n - k; omega) ⟨vint (by omega), by rw [List.length_append]; rfl, vint (by omega), trivial⟩ ⟨rfl, rfl, trivial⟩
    obtain rfl : kd = 1 := by omega
    rcases hu3 : rtextE (s.drop (p + u1 + v2)) with ⟨y, v3, e3⟩
    have hl3 := rtextE_le' (s.drop (p + u1 + v2))
    rw [hu3, List.length_drop] at hl3
    dsimp only at hl3
    have hc3 : ∀ w0, Cal Tryz.prog 151 [str (s.drop (p + u1 + v2))] w0 (fun v w' => Upd [] w0 w' ∧ v = .tuple #[str y, .int .i64 (v3 : Int), .int .i64 e3]) := fun w0 => by have := htx (s.drop (p + u1 + v2)) w0 (hdl _); rwa [hu3] at this
    have hu3' := hu3
    rw [← hd2] at hu3'
    by_cases he3 : e3 = 0
    rotate_left
    · rw [opsFin_no (opE_v hu1 hu2' hu3' he3) he3] at hres
      subst hres
      clear hm hm1 hd1 hu2' hu3' hd2 hui htx hdl
      repeat' (first | (show WL _ _ _ _ _ _ _; first | refine WL.pure rfl rfl rfl rfl ?_ | refine WL.nil ?_ | refine WL.add rfl rfl rfl (by omega) rfl rfl rfl ?_ | (refine WL.lowS (j := p) rfl rfl rfl rfl (by omega) rfl rfl rfl ?_) | (refine WL.lowS (j := p + u1) rfl rfl rfl rfl (by omega) rfl rfl rfl ?_) | (refine WL.lowS (j := p + u1 + v2) rfl rfl rfl rfl (by omega) rfl rfl rfl ?_) | (refine WL.calls hS rfl rfl (hc1 _) rfl rfl rfl ?_; rintro v w rfl hS) | (refine WL.calls hS rfl rfl (hc2 _) rfl rfl rfl ?_; rintro v w rfl hS) | (refine WL.calls hS rfl rfl (hc3 _) rfl rfl rfl ?_; rintro v w rfl hS) | (refine WL.alloc (t := 79) hS rfl rfl rfl rfl rfl rfl ?_; intro w ob hS) | (refine WL.store hS rfl rfl rfl Sb rfl rfl rfl ?_; intro w hS) | refine WL.build rfl rfl rfl rfl rfl ?_) | (show WC _ _ _ _ _ _; first | refine WC.seq ?_ | refine WC.region ?_ | refine WC.block ?_ | refine WC.skip ?_ | refine WC.ret ?_ | refine WC.condT rfl (by decide) ?_ | refine WC.condF rfl (by decide) ?_ | refine WC.condT rfl (decide_eq_true (by first | with_reducible assumption | omega)) ?_) | refine seqQ_n ?_ | refine seqQ_r ?_ | refine blkQ_r ?_ | refine rndQ_r ?_)
      have hS := hS.nilRow 79 3
      exact fin2r rfl rfl rfl ⟨hS.upd, _, _, rfl, hS.newOf (List.Mem.head _)⟩
    subst he3
    have hd3 : (s.drop p).drop (u1 + v2 + v3) = s.drop (p + u1 + v2 + v3) := by rw [List.drop_drop]; congr 1; omega
    rw [opsFin_ok (opE_put hu1 hu2' hu3'), hd3, show p + (u1 + v2 + v3) = p + u1 + v2 + v3 by omega, ← hm1] at hres
    clear hm hm1 hd1 hu2' hu3' hd2 hd3 hk0 hk1 hui htx hdl
    repeat' (first | (show WL _ _ _ _ _ _ _; first | refine WL.pure rfl rfl rfl rfl ?_ | refine WL.nil ?_ | refine WL.load hS rfl rfl (LdOk.box Mm rfl) rfl rfl rfl ?_ | refine WL.add rfl rfl rfl (by omega) rfl rfl rfl ?_ | (refine WL.lowS (j := p) rfl rfl rfl rfl (by omega) rfl rfl rfl ?_) | (refine WL.lowS (j := p + u1) rfl rfl rfl rfl (by omega) rfl rfl rfl ?_) | (refine WL.lowS (j := p + u1 + v2) rfl rfl rfl rfl (by omega) rfl rfl rfl ?_) | (refine WL.calls hS rfl rfl (hc1 _) rfl rfl rfl ?_; rintro v w rfl hS) | (refine WL.calls hS rfl rfl (hc2 _) rfl rfl rfl ?_; rintro v w rfl hS) | (refine WL.calls hS rfl rfl (hc3 _) rfl rfl rfl ?_; rintro v w rfl hS) | (refine WL.alloc (t := 79) hS rfl rfl rfl rfl rfl rfl ?_; intro w ob hS) | (refine WL.app hS rfl rfl rfl rfl (RdOk.box Mm) rfl rfl (fun A cap => Rp) (by omega) rfl rfl rfl ?_; intro A cap w hS) | (refine WL.store hS rfl rfl rfl Sb rfl rfl rfl ?_; intro w hS) | refine WL.build rfl rfl rfl rfl rfl ?_ | (refine WL.slit hS rfl rfl rfl rfl rfl ?_; intro w b hS)) | (show WC _ _ _ _ _ _; first | refine WC.seq ?_ | refine WC.region ?_ | refine WC.block ?_ | refine WC.skip ?_ | refine WC.condT rfl (by decide) ?_ | refine WC.condF rfl (by decide) ?_ | refine WC.condT rfl (decide_eq_true (by first | with_reducible assumption | omega)) ?_) | refine seqQ_n ?_ | refine blkQ_n ?_)
    exact rndQ_n (k + 1, l ++ [⟨x, y, false⟩], p + u1 + v2 + v3, _, _) ⟨by omega, by omega, by simp; omega, hres, by
      have hS := hS.drop.drop
      rw [List.length_append, ← chgs_snoc]
      exact hS⟩ (by show n - (k + 1) < n - k; omega) ⟨vint (by omega), by rw [List.length_append]; rfl, vint (by omega), trivial⟩ ⟨rfl, rfl, trivial⟩
  · have hke : n - k = 0 := by omega
    rw [hke] at hres
    have hres : (if p < s.length then (([], 5) : List Chg × Int) else (l, 0)) = RES := by rw [← hres]; unfold opsFin opsF; simp
    clear hke hui htx hdl
    by_cases hps : p < s.length
    case' pos => rw [if_pos hps] at hres
    case' neg => rw [if_neg hps] at hres
    all_goals
      subst hres
      repeat' (first | (show WL _ _ _ _ _ _ _; first | refine WL.pure rfl rfl rfl rfl ?_ | refine WL.nil ?_) | (show WC _ _ _ _ _ _; first | refine WC.seq ?_ | refine WC.region ?_ | refine WC.skip ?_ | refine WC.exit ?_ | refine WC.ret ?_ | refine WC.condT rfl (decide_eq_true (by first | with_reducible assumption | omega)) ?_ | refine WC.condF rfl (decide_eq_false (by first | with_reducible assumption | omega)) ?_) | refine seqQ_n ?_ | refine seqQ_x ?_ | refine seqQ_r ?_ | refine blkQ_hit rfl ?_ | refine rndQ_x ?_)
    all_goals first
      | exact fin2r rfl rfl rfl ⟨hS.upd, _, _, rfl, hS.newOf (List.Mem.head _)⟩
      | exact fin2r rfl rfl rfl ⟨hS.upd, _, _, rfl, (hS.nilRow 79 3).newOf (List.Mem.head _)⟩
end Go.Proofs.YtccfiohagbneaaaGreatDoor

/- What is proved: what the reference's disk answers and changes: its small functions. Conditions: a disk without limits, paths of bounded length. -/
namespace Go.Proofs.YtccfiohagbneaaaGreatDoor
open Go Go.J Go.RowKit
abbrev rfCells (A : Option Addr) (n cap : Nat) (D : Dk) : List Value := [.slice A n cap, .slice none 0 0, .int .i64 D.steps, .int .i64 D.stamps, .int .i64 D.armed, .bool D.down]
abbrev rfL (b : Nat) (A : Option Addr) (cap : Nat) (l : List Ri) (D : Dk) : List Chunk := [.box b 45 [.slice A l.length cap, .slice none 0 0, .int .i64 D.steps, .int .i64 D.stamps, .int .i64 D.armed, .bool D.down], .own (.slice A l.length cap) 110 7 l.length (ris l)]
def rfφ (b : Nat) (D : Dk) (Ds : List Chunk) : Prop := ∃ A cap l, RepL l D.items ∧ Ds = rfL b A cap l D
abbrev rfC (b : Nat) (D : Dk) (fp : List Nat) : Chunk := objC (rfφ b D) fp
structure RfAt (b : Nat) (A : Option Addr) (cap : Nat) (l : List Ri) (D : Dk) (w : World) : Prop where
  box : w.heap[b]? = some (.cells ⟨[.slice A l.length cap, .slice none 0 0, .int .i64 D.steps, .int .i64 D.stamps, .int .i64 D.armed, .bool D.down]⟩ 45 (0, 0))
  row : SlAt cRi (Old w) w A l
theorem St.rfAt {w0 w : World} {M : List Nat} {H : List Chunk} {Z : List Snap} {b : Nat} {A : Option Addr} {cap : Nat} {l : List Ri} {D : Dk} (hS : St w0 M w H Z)
    (h1 : .box b 45 [.slice A l.length cap, .slice none 0 0, .int .i64 D.steps, .int .i64 D.stamps, .int .i64 D.armed, .bool D.down] ∈ H)
    (h2 : .own (.slice A l.length cap) 110 7 l.length (ris l) ∈ H) : RfAt b A cap l D w :=
  ⟨hS.holds (.box b 45 [.slice A l.length cap, .slice none 0 0, .int .i64 D.steps, .int .i64 D.stamps, .int .i64 D.armed, .bool D.down]) h1, St.ownSl (enc := encRi) (hsz := fun _ => rfl) (by decide) hS h2⟩
theorem St.rfOld {w0 w wz : World} {M : List Nat} {H : List Chunk} {Z : List Snap} {b : Nat} {A : Option Addr} {cap : Nat} {l : List Ri} {D : Dk} (hS : St w0 M w H Z) (hA : RfAt b A cap l D wz) (hz : Snap.mk wz (Old wz) ∈ Z) : RfAt b A cap l D w :=
  ⟨((hS.snap _ hz b (by
    have := hA.box
    exact (Array.getElem?_eq_some_iff.1 this).1)).2.1).trans hA.box, hS.slO hz hA.row⟩
def PlcIs (l : List Ri) (p : List UInt8) (v : Value) : Prop := (∀ x ∈ l, x.path ≠ p) ∧ v = .int .i64 (-1) ∨ ∃ i, ∃ h : i < l.length, l[i].path = p ∧ v = .int .i64 (i : Int)
section
variable {b : Nat} {A : Option Addr} {cap : Nat} {l : List Ri} {D : Dk} {w0 : World}
set_option maxHeartbeats 8000000 in
set_option maxRecDepth 100000 in
theorem rfplace_c (p : List UInt8) (hA : RfAt b A cap l D w0) (hl : l.length ≤ 1048576) :
    Cal Tryz.prog 84 [.pointer (some ⟨b, 0, none⟩), str p] w0 (fun v w' => Upd [] w0 w' ∧ PlcIs l p v) := by
  refine Cal.mk' (by kernel_rfl) Tryz.func84 rfl rfl fun hS => ?_
  obtain ⟨hb, hA⟩ := hA
  repeat' (first | (show WL _ _ _ _ _ _ _; first | refine WL.pure rfl rfl rfl rfl ?_ | refine WL.nil ?_) | (show WC _ _ _ _ _ _; first | refine WC.seq ?_ | refine WC.region ?_ | refine WC.block ?_) | refine seqQ_n ?_)
  refine WC.loop (σ := Nat) [0, 1] (fun i => [(5, .int .i64 (i : Int))]) (fun i w => (i ≤ l.length ∧ ∀ j (h : j < l.length), j < i → l[j].path ≠ p) ∧ St w0 [] w [] [⟨w0, Old w0⟩]) (fun i => l.length - i) 0 ⟨⟨Nat.zero_le _, fun j h h0 => absurd h0 (Nat.not_lt_zero _)⟩, hS⟩ ⟨rfl, trivial⟩ ?_
  clear hS
  rintro i g w ⟨⟨hi, hno⟩, hS⟩
  show WC _ _ _ (lf _ [(5, .int .i64 (i : Int))] _ _) _ _
  by_cases hlt : i < l.length
  · obtain ⟨rb, ro, es, rfl, hF, hr, hes⟩ := hA.at_ hlt
    have hes : es = encRi l[i] := hes
    subst hes
    have hr : w0.rangeAt rb (ro + i * 7) (encRi l[i]) := hr
    have hP : l[i].path = p → PlcIs l p (.int .i64 (i : Int)) := fun e => .inr ⟨i, hlt, e, rfl⟩
    have hn2 : l[i].path ≠ p → ∀ j (h : j < l.length), j < i + 1 → l[j].path ≠ p := fun e j h hj => by
      rcases Nat.lt_or_ge j i with h3 | h3
      · exact hno j h h3
      · have : j = i := by omega
        subst this; exact e
    obtain ⟨HP, rfl⟩ : ∃ h : (l[i].path = p → PlcIs l p (.int .i64 (i : Int))), h = hP := ⟨_, rfl⟩
    obtain ⟨HN, rfl⟩ : ∃ h : (l[i].path ≠ p → ∀ j (h : j < l.length), j < i + 1 → l[j].path ≠ p), h = hn2 := ⟨_, rfl⟩
    unfold encRi at hr
    generalize l[i].path = ki at *
    clear hno
    by_cases he : ki = p
    · have hq := HP he
      clear HP HN
      repeat' (first | (show WL _ _ _ _ _ _ _; first | refine WL.pure rfl rfl rfl rfl ?_ | refine WL.nil ?_ | (refine WL.load hS rfl rfl (LdOk.old hb Mm rfl) rfl rfl rfl ?_) | (refine WL.load hS rfl rfl (LdOk.snap0 hF hr Mm rfl) rfl rfl rfl ?_) | refine WL.index rfl rfl rfl rfl (by first | with_reducible assumption | omega) rfl rfl rfl rfl ?_) | (show WC _ _ _ _ _ _; first | refine WC.seq ?_ | refine WC.region ?_ | refine WC.block ?_ | refine WC.skip ?_ | refine WC.ret ?_ | refine WC.condT rfl (decide_eq_true (by first | with_reducible assumption | omega)) ?_) | refine seqQ_n ?_ | refine seqQ_r ?_ | refine blkQ_r ?_ | refine rndQ_r ?_)
      exact fin1r rfl rfl ⟨hS.upd, hq⟩
    · have hq := HN he
      clear HP HN
      obtain ⟨HQ, rfl⟩ : ∃ h : (∀ j (h : j < l.length), j < i + 1 → l[j].path ≠ p), h = hq := ⟨_, rfl⟩
      repeat' (first | (show WL _ _ _ _ _ _ _; first | refine WL.pure rfl rfl rfl rfl ?_ | refine WL.nil ?_ | refine WL.add rfl rfl rfl (by omega) rfl rfl rfl ?_ | (refine WL.load hS rfl rfl (LdOk.old hb Mm rfl) rfl rfl rfl ?_) | (refine WL.load hS rfl rfl (LdOk.snap0 hF hr Mm rfl) rfl rfl rfl ?_) | refine WL.index rfl rfl rfl rfl (by first | with_reducible assumption | omega) rfl rfl rfl rfl ?_) | (show WC _ _ _ _ _ _; first | refine WC.seq ?_ | refine WC.region ?_ | refine WC.block ?_ | refine WC.skip ?_ | refine WC.condT rfl (decide_eq_true (by first | with_reducible assumption | omega)) ?_ | refine WC.condF rfl (decide_eq_false (by first | with_reducible assumption | omega)) ?_) | refine seqQ_n ?_ | refine blkQ_n ?_)
      exact rndQ_n (i + 1) ⟨⟨by omega, HQ⟩, hS⟩ (by show l.length - (i + 1) < l.length - i; omega) ⟨vint (by omega), trivial⟩ ⟨rfl, rfl, trivial⟩
  · have hq : PlcIs l p (.int .i64 (-1)) := .inl ⟨fun x hx => by
      obtain ⟨j, h, rfl⟩ := List.getElem_of_mem hx
      exact hno j h (by omega), rfl⟩
    have hie : i = l.length := by omega
    subst hie
    clear hno
    repeat' (first | (show WL _ _ _ _ _ _ _; first | refine WL.pure rfl rfl rfl rfl ?_ | refine WL.nil ?_ | (refine WL.load hS rfl rfl (LdOk.old hb Mm rfl) rfl rfl rfl ?_)) | (show WC _ _ _ _ _ _; first | refine WC.seq ?_ | refine WC.region ?_ | refine WC.exit ?_ | refine WC.ret ?_ | refine WC.condF rfl (decide_eq_false (by first | with_reducible assumption | omega)) ?_) | refine seqQ_n ?_ | refine seqQ_x ?_ | refine blkQ_hit rfl ?_ | refine rndQ_x ?_)
    exact fin1r rfl rfl ⟨hS.upd, hq⟩
theorem kind_none {D : Dk} {p : List UInt8} (h : mget D.items p = none) : D.kind p = 0 := by unfold Dk.kind Dk.has; rw [h]; rfl
theorem kind_some {D : Dk} {p : List UInt8} {x : It} (h : mget D.items p = some x) : D.kind p = if x.dir = true then 1 else 2 := by unfold Dk.kind Dk.has Dk.at; rw [h]; rfl
set_option maxHeartbeats 8000000 in
set_option maxRecDepth 100000 in
theorem rfkind_c (p : List UInt8) (hR : RepL l D.items) (hA : RfAt b A cap l D w0) (hl : l.length ≤ 1048576) :
    Cal Tryz.prog 63 [.pointer (some ⟨b, 0, none⟩), str p] w0 (fun v w' => Upd [] w0 w' ∧ v = .int .i64 (D.kind p)) := by
  refine Cal.mk' (by kernel_rfl) Tryz.func63 rfl rfl fun hS => ?_
  have hb := hA.box
  have hpc := fun (w : World) (h : RfAt b A cap l D w) => rfplace_c p h hl
  by_cases hn : ∀ x ∈ l, x.path ≠ p
  · rw [kind_none (hR.none hn)]
    replace hpc := fun (w : World) (h : RfAt b A cap l D w) => (hpc w h).mono (R' := fun v w' => Upd [] w w' ∧ v = .int .i64 (-1)) fun v w' ⟨hu, hp⟩ => ⟨hu, by
      rcases hp with ⟨_, hv⟩ | ⟨i, hi, he, _⟩
      · exact hv
      · exact absurd he (hn _ (List.getElem_mem hi))⟩
    clear hn
    repeat' (first | (show WL _ _ _ _ _ _ _; first | refine WL.pure rfl rfl rfl rfl ?_ | refine WL.nil ?_ | (refine WL.calls hS rfl rfl (hpc _ hA) rfl rfl rfl ?_; rintro v w rfl hS)) | (show WC _ _ _ _ _ _; first | refine WC.seq ?_ | refine WC.region ?_ | refine WC.ret ?_ | refine WC.condT rfl (by decide) ?_) | refine seqQ_n ?_ | refine seqQ_r ?_)
    exact fin1r rfl rfl ⟨hS.upd, rfl⟩
  · obtain ⟨x, hx, hxp⟩ : ∃ x ∈ l, x.path = p := by
      refine Classical.byContradiction fun h => hn fun x hx e => h ⟨x, hx, e⟩
    subst hxp
    clear hn
    have hg := hR.mem hx
    rw [kind_some hg]
    replace hpc := fun (w : World) (h : RfAt b A cap l D w) => (hpc w h).mono (R' := fun v w' => Upd [] w w' ∧ ∃ i : Nat, ∃ h : i < l.length, l[i].it = x.it ∧ v = .int .i64 (i : Int)) fun v w' ⟨hu, hp⟩ => ⟨hu, by
      rcases hp with ⟨hp, _⟩ | ⟨i, hi, he, hv⟩
      · exact absurd rfl (hp x hx)
      · refine ⟨i, hi, ?_, hv⟩
        have h2 := hR.mem (List.getElem_mem hi)
        rw [he, hg] at h2
        exact (Option.some.inj h2).symm⟩
    generalize x.it = it at *
    obtain ⟨dir, data, kept, loose, anew, stamp⟩ := it
    dsimp only
    cases dir with
    | true =>
      rw [if_pos rfl]
      repeat' (first | (show WL _ _ _ _ _ _ _; first | refine WL.pure rfl rfl rfl rfl ?_ | refine WL.nil ?_ | (refine WL.calls hS rfl rfl (hpc _ hA) rfl rfl rfl ?_; rintro v w ⟨i, hi, hit, rfl⟩ hS; obtain ⟨rb, ro, es, rfl, hF, hr, hes⟩ := hA.row.at_ hi; have hes : es = encRi l[i] := hes; subst hes; have hr : w0.rangeAt rb (ro + i * 7) (encRi l[i]) := hr; unfold encRi at hr; rw [hit] at hr) | (refine WL.load hS rfl rfl (LdOk.old hb Mm rfl) rfl rfl rfl ?_) | (refine WL.load hS rfl rfl (LdOk.snap (off := 1) hF hr Mm rfl) rfl rfl rfl ?_) | refine WL.index rfl rfl rfl rfl (by first | with_reducible assumption | omega) rfl rfl rfl rfl ?_) | (show WC _ _ _ _ _ _; first | refine WC.seq ?_ | refine WC.region ?_ | refine WC.skip ?_ | refine WC.ret ?_ | refine WC.condT rfl (by with_reducible rfl) ?_ | refine WC.condF rfl (decide_eq_false (by first | with_reducible assumption | omega)) ?_) | refine seqQ_n ?_ | refine seqQ_r ?_)
      exact fin1r rfl rfl ⟨hS.upd, rfl⟩
    | false =>
      rw [if_neg (by decide)]
      repeat' (first | (show WL _ _ _ _ _ _ _; first | refine WL.pure rfl rfl rfl rfl ?_ | refine WL.nil ?_ | (refine WL.calls hS rfl rfl (hpc _ hA) rfl rfl rfl ?_; rintro v w ⟨i, hi, hit, rfl⟩ hS; obtain ⟨rb, ro, es, rfl, hF, hr, hes⟩ := hA.row.at_ hi; have hes : es = encRi l[i] := hes; subst hes; have hr : w0.rangeAt rb (ro + i * 7) (encRi l[i]) := hr; unfold encRi at hr; rw [hit] at hr) | (refine WL.load hS rfl rfl (LdOk.old hb Mm rfl) rfl rfl rfl ?_) | (refine WL.load hS rfl rfl (LdOk.snap (off := 1) hF hr Mm rfl) rfl rfl rfl ?_) | refine WL.index rfl rfl rfl rfl (by first | with_reducible assumption | omega) rfl rfl rfl rfl ?_) | (show WC _ _ _ _ _ _; first | refine WC.seq ?_ | refine WC.region ?_ | refine WC.skip ?_ | refine WC.ret ?_ | refine WC.condF rfl (by with_reducible rfl) ?_ | refine WC.condF rfl (decide_eq_false (by first | with_reducible assumption | omega)) ?_) | refine seqQ_n ?_)
      exact fin1r rfl rfl ⟨hS.upd, rfl⟩
def homeE (D : Dk) (p : List UInt8) : Bool := if parentE p = [] then true else decide (D.kind (parentE p) = 1)
set_option maxHeartbeats 8000000 in
set_option maxRecDepth 100000 in
theorem rfhome_c (p : List UInt8) (hR : RepL l D.items) (hA : RfAt b A cap l D w0) (hl : l.length ≤ 1048576) (hp : p.length ≤ 1099511627) :
    Cal Tryz.prog 62 [.pointer (some ⟨b, 0, none⟩), str p] w0 (fun v w' => Upd [] w0 w' ∧ v = .bool (homeE D p)) := by
  refine Cal.mk' (by kernel_rfl) Tryz.func62 rfl rfl fun hS => ?_
  have hkc := fun (w : World) (h : RfAt b A cap l D w) => rfkind_c (parentE p) hR h hl
  have hpc := fun (w : World) => rparent_c p w (by omega)
  unfold homeE
  generalize parentE p = q at *
  by_cases hq : q = []
  · rw [if_pos hq]
    repeat' (first | (show WL _ _ _ _ _ _ _; first | refine WL.pure rfl rfl rfl rfl ?_ | refine WL.nil ?_ | (refine WL.calls hS rfl rfl (hpc _) rfl rfl rfl ?_; rintro v w rfl hS) | refine WL.skip rfl rfl rfl ?_ | ((fail_if_success (refine WL.wanted rfl ?_)); refine WL.guard rfl rfl rfl (fun h => ?_) (fun h => ?_) <;> (try simp only [ZZ0, ZZ1, ZZ2, ZZ3, ZZ4, ZZ5, ZZ6, ZZ7, ZZ8, ZZ9, ZZ10, ZZ11, ZZ12, ZZ13, ZZ14, ZZ15] at h) <;> (try (exfalso; first | omega | contradiction)))) | (show WC _ _ _ _ _ _; first | refine WC.seq ?_ | refine WC.region ?_ | refine WC.ret ?_) | refine seqQ_n ?_)
    exact fin1r rfl rfl ⟨hS.upd, rfl⟩
  · rw [if_neg hq]
    repeat' (first | (show WL _ _ _ _ _ _ _; first | refine WL.pure rfl rfl rfl rfl ?_ | refine WL.nil ?_ | (refine WL.calls hS rfl rfl (hpc _) rfl rfl rfl ?_; rintro v w rfl hS) | (refine WL.calls hS rfl rfl (hkc _ (St.rfOld hS hA Mm)) rfl rfl rfl ?_; rintro v w rfl hS) | ((fail_if_success (refine WL.wanted rfl ?_)); refine WL.guard rfl rfl rfl (fun h => ?_) (fun h => ?_) <;> (try simp only [ZZ0, ZZ1, ZZ2, ZZ3, ZZ4, ZZ5, ZZ6, ZZ7, ZZ8, ZZ9, ZZ10, ZZ11, ZZ12, ZZ13, ZZ14, ZZ15] at h) <;> (try (exfalso; first | omega | contradiction)))) | (show WC _ _ _ _ _ _; first | refine WC.seq ?_ | refine WC.region ?_ | refine WC.ret ?_) | refine seqQ_n ?_)
    exact fin1r rfl rfl ⟨hS.upd, rfl⟩
end
end Go.Proofs.YtccfiohagbneaaaGreatDoor

/- What is proved: what the reference's disk does with an item: put and drop. Conditions: a disk of bounded size. -/
namespace Go.Proofs.YtccfiohagbneaaaGreatDoor
open Go Go.J Go.RowKit
section
variable {dk : Nat} {A : Option Addr} {cap : Nat} {l : List Ri} {D : Dk} {w0 : World}
set_option maxHeartbeats 16000000 in
set_option maxRecDepth 100000 in
theorem rfdrop_c (p : List UInt8) (hR : RepL l D.items) (hi : InL w0 (rfL dk A cap l D)) (hl : l.length ≤ 1048576) : Cal Tryz.prog 176 [.pointer (some ⟨dk, 0, none⟩), str p] w0
    (fun v w' => v = .tuple #[] ∧ ∃ A' cap' l', RepL l' (mdel D.items p) ∧ MutL w0 w' (rfL dk A cap l D) (rfL dk A' cap' l' D)) := by
  refine Cal.mkL hi (by kernel_rfl) Tryz.func176 rfl rfl fun hS => ?_
  have hq := hR.drop p
  have hS := hS.nilRow 110 7
  repeat' (first | (show WL _ _ _ _ _ _ _; first | refine WL.pure rfl rfl rfl rfl ?_ | refine WL.nil ?_) | (show WC _ _ _ _ _ _; first | refine WC.seq ?_ | refine WC.region ?_ | refine WC.block ?_) | refine seqQ_n ?_)
  refine WC.loop (σ := Nat × List Ri × Option Addr × Nat) [0, 1] (fun (k, L, B, c) => [(4, .slice B L.length c), (5, .int .i64 (k : Int))])
    (fun (k, L, B, c) w => (k ≤ l.length ∧ L = dropG Ri.path (l.take k) p) ∧ St w0 (fps (rfL dk A cap l D)) w [.own (.slice B L.length c) 110 7 L.length (ris L), .box dk 45 [.slice A l.length cap, .slice none 0 0, .int .i64 D.steps, .int .i64 D.stamps, .int .i64 D.armed, .bool D.down], .own (.slice A l.length cap) 110 7 l.length (ris l)] _) (fun (k, _, _) => l.length - k) (0, [], none, 0) ⟨⟨Nat.zero_le _, rfl⟩, hS.droplast2 Pu⟩ ⟨rfl, rfl, trivial⟩ ?_
  clear hS
  rintro ⟨k, L, B, c⟩ g w ⟨⟨hk, hL⟩, hS⟩
  show WC _ _ _ (lf _ [(4, .slice B L.length c), (5, .int .i64 (k : Int))] _ _) _ _
  by_cases hlt : k < l.length
  · obtain ⟨kg, ko, rfl⟩ := hS.own_addr (A := A) (n := l.length) Mm (by omega)
    have hnx : dropG Ri.path (l.take (k + 1)) p = L ++ (if l[k].path = p then [] else [l[k]]) := by
      rw [List.take_succ_eq_append_getElem hlt, hL]
      unfold dropG
      rw [List.filter_append]
      congr 1
      by_cases h : l[k].path = p <;> simp [h]
    have hpa : (ris l)[k * 7]? = some (str l[k].path) := ris_at hlt (j := 0) (by decide)
    have hln : L.length ≤ k := by
      rw [hL]
      exact Nat.le_trans (List.length_filter_le _ _) (by rw [List.length_take]; omega)
    have hlen : L.length + 1 = (L ++ [l[k]]).length := by simp
    clear hL
    by_cases he : l[k].path = p
    · rw [if_pos he, List.append_nil] at hnx
      repeat' (first | (show WL _ _ _ _ _ _ _; first | refine WL.pure rfl rfl rfl rfl ?_ | refine WL.nil ?_ | refine WL.load hS rfl rfl (LdOk.box Mm rfl) rfl rfl rfl ?_ | refine WL.add rfl rfl rfl (by omega) rfl rfl rfl ?_ | (refine WL.load hS rfl rfl (LdOk.ownAt (off := k * 7) Mm rfl ⟨_, rfl⟩ hpa rfl) rfl rfl rfl ?_) | refine WL.index rfl rfl rfl rfl (by first | with_reducible assumption | omega) rfl rfl rfl rfl ?_) | (show WC _ _ _ _ _ _; first | refine WC.seq ?_ | refine WC.region ?_ | refine WC.block ?_ | refine WC.skip ?_ | refine WC.condT rfl (decide_eq_true (by first | with_reducible assumption | omega)) ?_ | refine WC.condF rfl (by first | (simp; done) | (simp; omega)) ?_) | refine seqQ_n ?_ | refine blkQ_n ?_)
      exact rndQ_n (k + 1, L, B, c) ⟨⟨by omega, hnx.symm⟩, hS⟩ (by show l.length - (k + 1) < l.length - k; omega) ⟨rfl, vint (by omega), trivial⟩ ⟨rfl, rfl, trivial⟩
    · rw [if_neg he] at hnx
      repeat' (first | (show WL _ _ _ _ _ _ _; first | refine WL.pure rfl rfl rfl rfl ?_ | refine WL.nil ?_ | refine WL.load hS rfl rfl (LdOk.box Mm rfl) rfl rfl rfl ?_ | refine WL.add rfl rfl rfl (by omega) rfl rfl rfl ?_ | (refine WL.load hS rfl rfl (LdOk.ownAt (off := k * 7) Mm rfl ⟨_, rfl⟩ hpa rfl) rfl rfl rfl ?_) | (refine WL.load hS rfl rfl (LdOk.ownElem (enc := encRi) (k := k) (fun _ => rfl) Mm hlt rfl rfl) rfl rfl rfl ?_) | (refine WL.app (m := 1) hS rfl rfl rfl rfl (RdOk.box Mm) rfl rfl (fun A cap => Rp) (by omega) rfl rfl rfl ?_; intro A3 cap3 w hS) | refine WL.index rfl rfl rfl rfl (by first | with_reducible assumption | omega) rfl rfl rfl rfl ?_ | (refine WL.slit hS rfl rfl rfl rfl rfl ?_; intro w b hS)) | (show WC _ _ _ _ _ _; first | refine WC.seq ?_ | refine WC.region ?_ | refine WC.block ?_ | refine WC.skip ?_ | refine WC.condT rfl (decide_eq_true (by first | with_reducible assumption | omega)) ?_) | refine seqQ_n ?_ | refine blkQ_n ?_)
      replace hS : St w0 _ w (_ :: .own (.slice A3 (L.length + 1) cap3) 110 7 (L.length + 1) (ris L ++ encRi l[k]) :: _) _ := hS
      rw [ris_snoc, hlen] at hS
      exact rndQ_n (k + 1, L ++ [l[k]], A3, cap3) ⟨⟨by omega, hnx.symm⟩, hS.droplast2 Pu⟩ (by show l.length - (k + 1) < l.length - k; omega) ⟨(by rw [← hlen]; rfl), vint (by omega), trivial⟩ ⟨rfl, rfl, trivial⟩
  · have hke : k = l.length := by omega
    subst hke
    rw [List.take_length] at hL
    subst hL
    repeat' (first | (show WL _ _ _ _ _ _ _; first | refine WL.pure rfl rfl rfl rfl ?_ | refine WL.nil ?_ | refine WL.load hS rfl rfl (LdOk.box Mm rfl) rfl rfl rfl ?_ | (refine WL.store hS rfl rfl rfl Sb rfl rfl rfl ?_; intro w hS)) | (show WC _ _ _ _ _ _; first | refine WC.seq ?_ | refine WC.region ?_ | refine WC.exit ?_ | refine WC.condF rfl (decide_eq_false (by first | with_reducible assumption | omega)) ?_) | refine seqQ_n ?_ | refine seqQ_x ?_ | refine blkQ_hit rfl ?_ | refine rndQ_x ?_)
    exact fin0n rfl ⟨rfl, _, _, _, hq, (hS.pulls (D := rfL dk B c (dropG Ri.path l p) D) Pu).mutLOf⟩
set_option maxHeartbeats 32000000 in
set_option maxRecDepth 100000 in
theorem rfput_c (x : Ri) (hR : RepL l D.items) (hi : InL w0 (rfL dk A cap l D)) (hl : l.length ≤ 1048576) : Cal Tryz.prog 65 [.pointer (some ⟨dk, 0, none⟩), .agg ⟨encRi x⟩] w0
    (fun v w' => v = .tuple #[] ∧ ∃ A' cap' l', RepL l' (mset D.items x.path x.it) ∧ MutL w0 w' (rfL dk A cap l D) (rfL dk A' cap' l' D)) := by
  refine Cal.mkL hi (by kernel_rfl) Tryz.func65 rfl rfl fun hS => ?_
  have hq := hR.put x
  have hrise := hR.rise
  have hS := hS.nilRow 110 7
  obtain ⟨q, it⟩ := x
  unfold encRi
  dsimp only at hq ⊢
  repeat' (first | (show WL _ _ _ _ _ _ _; first | refine WL.pure rfl rfl rfl rfl ?_ | refine WL.nil ?_ | (refine WL.box hS rfl rfl rfl rfl rfl ?_; intro w b hS)) | (show WC _ _ _ _ _ _; first | refine WC.seq ?_ | refine WC.region ?_ | refine WC.block ?_) | refine seqQ_n ?_)
  obtain ⟨xb, hxb⟩ : ∃ xb, xb = b := ⟨_, rfl⟩
  subst hxb
  refine WC.loop (σ := Nat × Option Addr × Nat) [0, 3] (fun (k, B, c) => [(4, .slice B k c), (5, .int .i64 (k : Int))])
    (fun (k, B, c) w => (k ≤ l.length ∧ ∀ j (h : j < l.length), j < k → Op.bytesLess l[j].path q = true) ∧ St w0 (fps (rfL dk A cap l D)) w [.own (.slice B k c) 110 7 k (ris (l.take k)), .box dk 45 [.slice A l.length cap, .slice none 0 0, .int .i64 D.steps, .int .i64 D.stamps, .int .i64 D.armed, .bool D.down], .own (.slice A l.length cap) 110 7 l.length (ris l), .box xb 110 [str q, .bool it.dir, str it.data, str it.kept, .bool it.loose, .bool it.anew, .int .i64 it.stamp]] _) (fun (k, _, _) => l.length - k) (0, none, 0) ⟨⟨Nat.zero_le _, fun j h h0 => absurd h0 (Nat.not_lt_zero _)⟩, hS.droplast2 Pu⟩ ⟨rfl, rfl, trivial⟩ ?_
  clear hS
  rintro ⟨k, B, c⟩ g w ⟨⟨hk, hlo⟩, hS⟩
  show WC _ _ _ (lf _ [(4, .slice B k c), (5, .int .i64 (k : Int))] _ _) _ _
  by_cases hlt : k < l.length
  · obtain ⟨kg, ko, rfl⟩ := hS.own_addr (A := A) (n := l.length) Mm (by omega)
    have hpa : (ris l)[k * 7]? = some (str l[k].path) := ris_at hlt (j := 0) (by decide)
    have htk := (List.take_succ_eq_append_getElem hlt).symm
    by_cases hc : Op.bytesLess l[k].path q = true
    · have hlo' : ∀ j (h : j < l.length), j < k + 1 → Op.bytesLess l[j].path q = true := fun j h hj => by
        rcases Nat.lt_or_ge j k with h3 | h3
        · exact hlo j h h3
        · have : j = k := by omega
          subst this; exact hc
      obtain ⟨HL, rfl⟩ : ∃ h : (∀ j (h : j < l.length), j < k + 1 → Op.bytesLess l[j].path q = true), h = hlo' := ⟨_, rfl⟩
      clear hlo
      repeat' (first | (show WL _ _ _ _ _ _ _; first | refine WL.pure rfl rfl rfl rfl ?_ | refine WL.nil ?_ | refine WL.load hS rfl rfl (LdOk.box Mm rfl) rfl rfl rfl ?_ | refine WL.add rfl rfl rfl (by omega) rfl rfl rfl ?_ | (refine WL.load hS rfl rfl (LdOk.ownElem (enc := encRi) (k := k) (fun _ => rfl) Mm hlt rfl rfl) rfl rfl rfl ?_) | (refine WL.app (m := 1) hS rfl rfl rfl rfl (RdOk.box Mm) rfl rfl (fun A cap => Rp) (by omega) rfl rfl rfl ?_; intro A3 cap3 w hS) | refine WL.index rfl rfl rfl rfl (by first | with_reducible assumption | omega) rfl rfl rfl rfl ?_ | (refine WL.slit hS rfl rfl rfl rfl rfl ?_; intro w b hS)) | (show WC _ _ _ _ _ _; first | refine WC.condT rfl hc ?_ | refine WC.seq ?_ | refine WC.region ?_ | refine WC.block ?_ | refine WC.skip ?_ | (show WC _ _ (Code.region _ (List.toArray [_, _, _, _, _, _, _, _, _, _, _, _, _, _, _, _, _, _, _, _]) true) _ _ _; refine WC.drawS hS [0, 1, 2, 3, 4, 5, 6, 7, 8, 9, 10, 11, 12, 13, 14, 15, 16, 17, 18, 19] [0, 1, 2, 3, 4, 5, 6, 7, 8, 9, 10, 11, 12, 13, 14, 15, 16, 17, 18, 19] (by kernel_rfl) (by kernel_rfl) ?_; clear hS; intro w hS hM)) | (show WD _ _ _ _ _ _ _ _ _; first | refine WD.pure rfl rfl rfl rfl rfl ?_ | refine WD.nil ?_ | refine WD.load rfl rfl (LdOk.box Mm rfl) rfl rfl rfl rfl ?_ | (refine WD.load rfl rfl (LdOk.ownAt (off := k * 7) Mm rfl ⟨_, rfl⟩ hpa rfl) rfl rfl rfl rfl ?_) | refine WD.index rfl rfl rfl rfl (by first | with_reducible assumption | omega) rfl rfl rfl rfl rfl ?_ | ((fail_if_success (refine WD.wanted rfl ?_)); refine WD.guard rfl rfl rfl (fun h => ?_) (fun h => ?_) <;> (try simp only [ZZ0, ZZ1, ZZ2, ZZ3, ZZ4, ZZ5, ZZ6, ZZ7, ZZ8, ZZ9, ZZ10, ZZ11, ZZ12, ZZ13, ZZ14, ZZ15] at h) <;> (try (exfalso; first | omega | contradiction)))) | refine seqQ_n ?_ | refine blkQ_n ?_)
      replace hS : St w0 _ w (_ :: .own (.slice A3 (k + 1) cap3) 110 7 (k + 1) (ris (l.take k) ++ encRi l[k]) :: _) _ := hS
      rw [ris_snoc, htk] at hS
      exact rndQ_n (k + 1, A3, cap3) ⟨⟨by omega, HL⟩, hS.droplast2 Pu⟩ (by show l.length - (k + 1) < l.length - k; omega) ⟨rfl, vint (by omega), trivial⟩ ⟨rfl, rfl, trivial⟩
    · have hc0 : Op.bytesLess l[k].path q = false := by cases h : Op.bytesLess l[k].path q <;> simp_all
      by_cases he : l[k].path = q
      · repeat' (first | (show WL _ _ _ _ _ _ _; first | refine WL.pure rfl rfl rfl rfl ?_ | refine WL.nil ?_ | refine WL.load hS rfl rfl (LdOk.box Mm rfl) rfl rfl rfl ?_ | refine WL.add rfl rfl rfl (by omega) rfl rfl rfl ?_ | (refine WL.app (m := 1) hS rfl rfl rfl rfl (RdOk.box Mm) rfl rfl (fun A cap => Rp) (by omega) rfl rfl rfl ?_; intro A3 cap3 w hS) | (refine WL.slit hS rfl rfl rfl rfl rfl ?_; intro w b hS)) | (show WC _ _ _ _ _ _; first | refine WC.condF rfl hc0 ?_ | refine WC.seq ?_ | refine WC.region ?_ | refine WC.block ?_ | refine WC.exit ?_ | (show WC _ _ (Code.region _ (List.toArray [_, _, _, _, _, _, _, _, _, _, _, _, _, _, _, _, _, _, _, _]) true) _ _ _; refine WC.drawS hS [0, 1, 2, 3, 4, 5, 6, 7, 8, 9, 10, 11, 12, 13, 14, 15, 16, 17, 18, 19] [0, 1, 2, 3, 4, 5, 6, 7, 8, 9, 10, 11, 12, 13, 14, 15, 16, 17, 18, 19] (by kernel_rfl) (by kernel_rfl) ?_; clear hS; intro w hS hM) | refine WC.condT rfl (decide_eq_true (by first | with_reducible assumption | omega)) ?_) | (show WD _ _ _ _ _ _ _ _ _; first | refine WD.pure rfl rfl rfl rfl rfl ?_ | refine WD.nil ?_ | refine WD.load rfl rfl (LdOk.box Mm rfl) rfl rfl rfl rfl ?_ | (refine WD.load rfl rfl (LdOk.ownAt (off := k * 7) Mm rfl ⟨_, rfl⟩ hpa rfl) rfl rfl rfl rfl ?_) | refine WD.index rfl rfl rfl rfl (by first | with_reducible assumption | omega) rfl rfl rfl rfl rfl ?_ | ((fail_if_success (refine WD.wanted rfl ?_)); refine WD.guard rfl rfl rfl (fun h => ?_) (fun h => ?_) <;> (try simp only [ZZ0, ZZ1, ZZ2, ZZ3, ZZ4, ZZ5, ZZ6, ZZ7, ZZ8, ZZ9, ZZ10, ZZ11, ZZ12, ZZ13, ZZ14, ZZ15] at h) <;> (try (exfalso; first | omega | contradiction)))) | refine seqQ_n ?_ | refine seqQ_x ?_ | refine blkQ_hit rfl ?_ | refine rndQ_x ?_)
        replace hS : St w0 _ w (_ :: .own (.slice A3 (k + 1) cap3) 110 7 (k + 1) (ris (l.take k) ++ encRi ⟨q, it⟩) :: _) _ := hS
        rw [ris_snoc] at hS
        obtain ⟨L1, hL1d⟩ : ∃ L1, L1 = l.take k ++ [⟨q, it⟩] := ⟨_, rfl⟩
        have hL1 : k + 1 = L1.length := by rw [hL1d, List.length_append, List.length_take]; show _ = _ + 1; omega
        rw [← hL1d, hL1] at hS
        obtain ⟨m0, hm0⟩ : ∃ m0 : Nat, m0 = k + 1 := ⟨_, rfl⟩
        have hm : m0 ≤ l.length := by omega
        have hput : putG Ri.path Op.bytesLess l ⟨q, it⟩ = L1 ++ l.drop m0 := by rw [hL1d, hm0, List.append_assoc]; exact putG_eq bytesO hrise hlt hlo he
        have hLb : ∀ j, j ≤ l.length → (L1 ++ (l.drop m0).take (j - m0)).length ≤ 2097152 := fun j hj => by rw [List.length_append, ← hL1, List.length_take, List.length_drop]; omega
        clear hlo
        refine WC.loop (σ := Nat × Option Addr × Nat) [0] (fun (j, B, c) => [(4, .slice B (L1 ++ (l.drop m0).take (j - m0)).length c), (5, .int .i64 (j : Int))])
          (fun (j, B, c) w => (m0 ≤ j ∧ j ≤ l.length) ∧ St w0 (fps (rfL dk (some ⟨kg, ko, none⟩) cap l D)) w [.own (.slice B (L1 ++ (l.drop m0).take (j - m0)).length c) 110 7 (L1 ++ (l.drop m0).take (j - m0)).length (ris (L1 ++ (l.drop m0).take (j - m0))), .box dk 45 [.slice (some ⟨kg, ko, none⟩) l.length cap, .slice none 0 0, .int .i64 D.steps, .int .i64 D.stamps, .int .i64 D.armed, .bool D.down], .own (.slice (some ⟨kg, ko, none⟩) l.length cap) 110 7 l.length (ris l)] _) (fun (j, _, _) => l.length - j) (m0, A3, cap3) ⟨⟨Nat.le_refl _, hm⟩, (by rw [Nat.sub_self, List.take_zero, List.append_nil]; exact hS.droplast2 Pu)⟩ ⟨(by rw [Nat.sub_self, List.take_zero, List.append_nil, ← hL1]; rfl), vint (by omega), trivial⟩ ?_
        clear hS
        rintro ⟨j, B, c⟩ g w ⟨⟨hj1, hj2⟩, hS⟩
        show WC _ _ _ (lf _ [(4, .slice B (L1 ++ (l.drop m0).take (j - m0)).length c), (5, .int .i64 (j : Int))] _ _) _ _
        by_cases hlt : j < l.length
        · have hdl : j - m0 < (l.drop m0).length := by rw [List.length_drop]; omega
          have hge : (l.drop m0)[j - m0] = l[j] := by rw [List.getElem_drop]; congr 1; omega
          have hsn : L1 ++ (l.drop m0).take (j - m0) ++ [l[j]] = L1 ++ (l.drop m0).take (j + 1 - m0) := by
            rw [show j + 1 - m0 = j - m0 + 1 by omega, List.take_succ_eq_append_getElem hdl, hge, List.append_assoc]
          have hLb := hLb j hj2
          generalize L1 ++ (l.drop m0).take (j - m0) = L at *
          have hlen : L.length + 1 = (L1 ++ (l.drop m0).take (j + 1 - m0)).length := by rw [← hsn]; simp
          repeat' (first | (show WL _ _ _ _ _ _ _; first | refine WL.pure rfl rfl rfl rfl ?_ | refine WL.nil ?_ | refine WL.load hS rfl rfl (LdOk.box Mm rfl) rfl rfl rfl ?_ | refine WL.add rfl rfl rfl (by omega) rfl rfl rfl ?_ | (refine WL.load hS rfl rfl (LdOk.ownElem (enc := encRi) (k := j) (fun _ => rfl) Mm hlt rfl rfl) rfl rfl rfl ?_) | (refine WL.app (m := 1) hS rfl rfl rfl rfl (RdOk.box Mm) rfl rfl (fun A cap => Rp) (by omega) rfl rfl rfl ?_; intro A4 cap4 w hS) | refine WL.index rfl rfl rfl rfl (by first | with_reducible assumption | omega) rfl rfl rfl rfl ?_ | (refine WL.slit hS rfl rfl rfl rfl rfl ?_; intro w b hS)) | (show WC _ _ _ _ _ _; first | refine WC.seq ?_ | refine WC.region ?_ | refine WC.block ?_ | refine WC.skip ?_ | refine WC.condT rfl (decide_eq_true (by first | with_reducible assumption | omega)) ?_) | refine seqQ_n ?_ | refine blkQ_n ?_)
          replace hS : St w0 _ w (_ :: .own (.slice A4 (L.length + 1) cap4) 110 7 (L.length + 1) (ris L ++ encRi l[j]) :: _) _ := hS
          rw [ris_snoc, hsn, hlen] at hS
          exact rndQ_n (j + 1, A4, cap4) ⟨⟨by omega, by omega⟩, hS.droplast2 Pu⟩ (by show l.length - (j + 1) < l.length - j; omega) ⟨(by rw [← hlen]; rfl), vint (by omega), trivial⟩ ⟨rfl, trivial⟩
        · have hje : j = l.length := by omega
          subst hje
          have e : L1 ++ (l.drop m0).take (l.length - m0) = putG Ri.path Op.bytesLess l ⟨q, it⟩ := by
            rw [List.take_of_length_le (by rw [List.length_drop]; exact Nat.le_refl _), hput]
          rw [e] at hS ⊢
          repeat' (first | (show WL _ _ _ _ _ _ _; first | refine WL.pure rfl rfl rfl rfl ?_ | refine WL.nil ?_ | refine WL.load hS rfl rfl (LdOk.box Mm rfl) rfl rfl rfl ?_ | (refine WL.store hS rfl rfl rfl Sb rfl rfl rfl ?_; intro w hS)) | (show WC _ _ _ _ _ _; first | refine WC.seq ?_ | refine WC.region ?_ | refine WC.exit ?_ | refine WC.condF rfl (decide_eq_false (by first | with_reducible assumption | omega)) ?_) | refine seqQ_n ?_ | refine seqQ_x ?_ | refine blkQ_hit rfl ?_ | refine rndQ_x ?_)
          exact fin0n rfl ⟨rfl, _, _, _, hq, (hS.pulls (D := rfL dk B c (putG Ri.path Op.bytesLess l ⟨q, it⟩) D) Pu).mutLOf⟩
      · repeat' (first | (show WL _ _ _ _ _ _ _; first | refine WL.pure rfl rfl rfl rfl ?_ | refine WL.nil ?_ | refine WL.load hS rfl rfl (LdOk.box Mm rfl) rfl rfl rfl ?_ | (refine WL.app (m := 1) hS rfl rfl rfl rfl (RdOk.box Mm) rfl rfl (fun A cap => Rp) (by omega) rfl rfl rfl ?_; intro A3 cap3 w hS) | (refine WL.slit hS rfl rfl rfl rfl rfl ?_; intro w b hS)) | (show WC _ _ _ _ _ _; first | refine WC.condF rfl hc0 ?_ | refine WC.seq ?_ | refine WC.region ?_ | refine WC.block ?_ | refine WC.skip ?_ | refine WC.exit ?_ | (show WC _ _ (Code.region _ (List.toArray [_, _, _, _, _, _, _, _, _, _, _, _, _, _, _, _, _, _, _, _]) true) _ _ _; refine WC.drawS hS [0, 1, 2, 3, 4, 5, 6, 7, 8, 9, 10, 11, 12, 13, 14, 15, 16, 17, 18, 19] [0, 1, 2, 3, 4, 5, 6, 7, 8, 9, 10, 11, 12, 13, 14, 15, 16, 17, 18, 19] (by kernel_rfl) (by kernel_rfl) ?_; clear hS; intro w hS hM) | refine WC.condF rfl (decide_eq_false (by first | with_reducible assumption | omega)) ?_) | (show WD _ _ _ _ _ _ _ _ _; first | refine WD.pure rfl rfl rfl rfl rfl ?_ | refine WD.nil ?_ | refine WD.load rfl rfl (LdOk.box Mm rfl) rfl rfl rfl rfl ?_ | (refine WD.load rfl rfl (LdOk.ownAt (off := k * 7) Mm rfl ⟨_, rfl⟩ hpa rfl) rfl rfl rfl rfl ?_) | refine WD.index rfl rfl rfl rfl (by first | with_reducible assumption | omega) rfl rfl rfl rfl rfl ?_ | ((fail_if_success (refine WD.wanted rfl ?_)); refine WD.guard rfl rfl rfl (fun h => ?_) (fun h => ?_) <;> (try simp only [ZZ0, ZZ1, ZZ2, ZZ3, ZZ4, ZZ5, ZZ6, ZZ7, ZZ8, ZZ9, ZZ10, ZZ11, ZZ12, ZZ13, ZZ14, ZZ15] at h) <;> (try (exfalso; first | omega | contradiction)))) | refine seqQ_n ?_ | refine seqQ_x ?_ | refine blkQ_hit rfl ?_ | refine rndQ_x ?_)
        replace hS : St w0 _ w (_ :: .own (.slice A3 (k + 1) cap3) 110 7 (k + 1) (ris (l.take k) ++ encRi ⟨q, it⟩) :: _) _ := hS
        rw [ris_snoc] at hS
        obtain ⟨L1, hL1d⟩ : ∃ L1, L1 = l.take k ++ [⟨q, it⟩] := ⟨_, rfl⟩
        have hL1 : k + 1 = L1.length := by rw [hL1d, List.length_append, List.length_take]; show _ = _ + 1; omega
        rw [← hL1d, hL1] at hS
        obtain ⟨m0, hm0⟩ : ∃ m0 : Nat, m0 = k := ⟨_, rfl⟩
        have hm : m0 ≤ l.length := by omega
        have hput : putG Ri.path Op.bytesLess l ⟨q, it⟩ = L1 ++ l.drop m0 := by rw [hL1d, hm0, List.append_assoc]; exact putG_ne bytesO hrise hk hlo fun _ => ⟨hc0, he⟩
        have hLb : ∀ j, j ≤ l.length → (L1 ++ (l.drop m0).take (j - m0)).length ≤ 2097152 := fun j hj => by rw [List.length_append, ← hL1, List.length_take, List.length_drop]; omega
        clear hlo
        refine WC.loop (σ := Nat × Option Addr × Nat) [0] (fun (j, B, c) => [(4, .slice B (L1 ++ (l.drop m0).take (j - m0)).length c), (5, .int .i64 (j : Int))])
          (fun (j, B, c) w => (m0 ≤ j ∧ j ≤ l.length) ∧ St w0 (fps (rfL dk (some ⟨kg, ko, none⟩) cap l D)) w [.own (.slice B (L1 ++ (l.drop m0).take (j - m0)).length c) 110 7 (L1 ++ (l.drop m0).take (j - m0)).length (ris (L1 ++ (l.drop m0).take (j - m0))), .box dk 45 [.slice (some ⟨kg, ko, none⟩) l.length cap, .slice none 0 0, .int .i64 D.steps, .int .i64 D.stamps, .int .i64 D.armed, .bool D.down], .own (.slice (some ⟨kg, ko, none⟩) l.length cap) 110 7 l.length (ris l)] _) (fun (j, _, _) => l.length - j) (m0, A3, cap3) ⟨⟨Nat.le_refl _, hm⟩, (by rw [Nat.sub_self, List.take_zero, List.append_nil]; exact hS.droplast2 Pu)⟩ ⟨(by rw [Nat.sub_self, List.take_zero, List.append_nil, ← hL1]; rfl), vint (by omega), trivial⟩ ?_
        clear hS
        rintro ⟨j, B, c⟩ g w ⟨⟨hj1, hj2⟩, hS⟩
        show WC _ _ _ (lf _ [(4, .slice B (L1 ++ (l.drop m0).take (j - m0)).length c), (5, .int .i64 (j : Int))] _ _) _ _
        by_cases hlt : j < l.length
        · have hdl : j - m0 < (l.drop m0).length := by rw [List.length_drop]; omega
          have hge : (l.drop m0)[j - m0] = l[j] := by rw [List.getElem_drop]; congr 1; omega
          have hsn : L1 ++ (l.drop m0).take (j - m0) ++ [l[j]] = L1 ++ (l.drop m0).take (j + 1 - m0) := by
            rw [show j + 1 - m0 = j - m0 + 1 by omega, List.take_succ_eq_append_getElem hdl, hge, List.append_assoc]
          have hLb := hLb j hj2
          generalize L1 ++ (l.drop m0).take (j - m0) = L at *
          have hlen : L.length + 1 = (L1 ++ (l.drop m0).take (j + 1 - m0)).length := by rw [← hsn]; simp
          repeat' (first | (show WL _ _ _ _ _ _ _; first | refine WL.pure rfl rfl rfl rfl ?_ | refine WL.nil ?_ | refine WL.load hS rfl rfl (LdOk.box Mm rfl) rfl rfl rfl ?_ | refine WL.add rfl rfl rfl (by omega) rfl rfl rfl ?_ | (refine WL.load hS rfl rfl (LdOk.ownElem (enc := encRi) (k := j) (fun _ => rfl) Mm hlt rfl rfl) rfl rfl rfl ?_) | (refine WL.app (m := 1) hS rfl rfl rfl rfl (RdOk.box Mm) rfl rfl (fun A cap => Rp) (by omega) rfl rfl rfl ?_; intro A4 cap4 w hS) | refine WL.index rfl rfl rfl rfl (by first | with_reducible assumption | omega) rfl rfl rfl rfl ?_ | (refine WL.slit hS rfl rfl rfl rfl rfl ?_; intro w b hS)) | (show WC _ _ _ _ _ _; first | refine WC.seq ?_ | refine WC.region ?_ | refine WC.block ?_ | refine WC.skip ?_ | refine WC.condT rfl (decide_eq_true (by first | with_reducible assumption | omega)) ?_) | refine seqQ_n ?_ | refine blkQ_n ?_)
          replace hS : St w0 _ w (_ :: .own (.slice A4 (L.length + 1) cap4) 110 7 (L.length + 1) (ris L ++ encRi l[j]) :: _) _ := hS
          rw [ris_snoc, hsn, hlen] at hS
          exact rndQ_n (j + 1, A4, cap4) ⟨⟨by omega, by omega⟩, hS.droplast2 Pu⟩ (by show l.length - (j + 1) < l.length - j; omega) ⟨(by rw [← hlen]; rfl), vint (by omega), trivial⟩ ⟨rfl, trivial⟩
        · have hje : j = l.length := by omega
          subst hje
          have e : L1 ++ (l.drop m0).take (l.length - m0) = putG Ri.path Op.bytesLess l ⟨q, it⟩ := by
            rw [List.take_of_length_le (by rw [List.length_drop]; exact Nat.le_refl _), hput]
          rw [e] at hS ⊢
          repeat' (first | (show WL _ _ _ _ _ _ _; first | refine WL.pure rfl rfl rfl rfl ?_ | refine WL.nil ?_ | refine WL.load hS rfl rfl (LdOk.box Mm rfl) rfl rfl rfl ?_ | (refine WL.store hS rfl rfl rfl Sb rfl rfl rfl ?_; intro w hS)) | (show WC _ _ _ _ _ _; first | refine WC.seq ?_ | refine WC.region ?_ | refine WC.exit ?_ | refine WC.condF rfl (decide_eq_false (by first | with_reducible assumption | omega)) ?_) | refine seqQ_n ?_ | refine seqQ_x ?_ | refine blkQ_hit rfl ?_ | refine rndQ_x ?_)
          exact fin0n rfl ⟨rfl, _, _, _, hq, (hS.pulls (D := rfL dk B c (putG Ri.path Op.bytesLess l ⟨q, it⟩) D) Pu).mutLOf⟩
  · have hke : k = l.length := by omega
    subst hke
    repeat' (first | (show WL _ _ _ _ _ _ _; first | refine WL.pure rfl rfl rfl rfl ?_ | refine WL.nil ?_ | refine WL.load hS rfl rfl (LdOk.box Mm rfl) rfl rfl rfl ?_ | (refine WL.app (m := 1) hS rfl rfl rfl rfl (RdOk.box Mm) rfl rfl (fun A cap => Rp) (by omega) rfl rfl rfl ?_; intro A3 cap3 w hS) | (refine WL.slit hS rfl rfl rfl rfl rfl ?_; intro w b hS)) | (show WC _ _ _ _ _ _; first | refine WC.seq ?_ | refine WC.region ?_ | refine WC.block ?_ | refine WC.skip ?_ | refine WC.exit ?_ | (show WC _ _ (Code.region _ (List.toArray [_, _, _, _, _, _, _, _, _, _, _, _, _, _, _, _, _, _, _, _]) true) _ _ _; refine WC.drawS hS [0, 1, 2, 3, 4, 5, 6, 7, 8, 9, 10, 11, 12, 13, 14, 15, 16, 17, 18, 19] [0, 1, 2, 3, 4, 5, 6, 7, 8, 9, 10, 11, 12, 13, 14, 15, 16, 17, 18, 19] (by kernel_rfl) (by kernel_rfl) ?_; clear hS; intro w hS hM) | refine WC.condF rfl (by with_reducible rfl) ?_) | (show WD _ _ _ _ _ _ _ _ _; first | refine WD.pure rfl rfl rfl rfl rfl ?_ | refine WD.nil ?_ | refine WD.load rfl rfl (LdOk.box Mm rfl) rfl rfl rfl rfl ?_ | refine WD.pass rfl rfl rfl rfl ?_ | ((fail_if_success (refine WD.wanted rfl ?_)); refine WD.guard rfl rfl rfl (fun h => ?_) (fun h => ?_) <;> (try simp only [ZZ0, ZZ1, ZZ2, ZZ3, ZZ4, ZZ5, ZZ6, ZZ7, ZZ8, ZZ9, ZZ10, ZZ11, ZZ12, ZZ13, ZZ14, ZZ15] at h) <;> (try (exfalso; first | omega | contradiction)))) | refine seqQ_n ?_ | refine seqQ_x ?_ | refine blkQ_hit rfl ?_ | refine rndQ_x ?_)
    replace hS : St w0 _ w (_ :: .own (.slice A3 (l.length + 1) cap3) 110 7 (l.length + 1) (ris (l.take l.length) ++ encRi ⟨q, it⟩) :: _) _ := hS
    rw [ris_snoc] at hS
    obtain ⟨L1, hL1d⟩ : ∃ L1, L1 = l.take l.length ++ [⟨q, it⟩] := ⟨_, rfl⟩
    have hL1 : l.length + 1 = L1.length := by rw [hL1d, List.length_append, List.length_take]; show _ = _ + 1; omega
    rw [← hL1d, hL1] at hS
    obtain ⟨m0, hm0⟩ : ∃ m0 : Nat, m0 = l.length := ⟨_, rfl⟩
    have hm : m0 ≤ l.length := by omega
    have hput : putG Ri.path Op.bytesLess l ⟨q, it⟩ = L1 ++ l.drop m0 := by rw [hL1d, hm0, List.append_assoc]; exact putG_ne bytesO hrise hk hlo fun hh => absurd hh (by omega)
    have hLb : ∀ j, j ≤ l.length → (L1 ++ (l.drop m0).take (j - m0)).length ≤ 2097152 := fun j hj => by rw [List.length_append, ← hL1, List.length_take, List.length_drop]; omega
    clear hlo
    refine WC.loop (σ := Nat × Option Addr × Nat) [0] (fun (j, B, c) => [(4, .slice B (L1 ++ (l.drop m0).take (j - m0)).length c), (5, .int .i64 (j : Int))])
      (fun (j, B, c) w => (m0 ≤ j ∧ j ≤ l.length) ∧ St w0 (fps (rfL dk A cap l D)) w [.own (.slice B (L1 ++ (l.drop m0).take (j - m0)).length c) 110 7 (L1 ++ (l.drop m0).take (j - m0)).length (ris (L1 ++ (l.drop m0).take (j - m0))), .box dk 45 [.slice A l.length cap, .slice none 0 0, .int .i64 D.steps, .int .i64 D.stamps, .int .i64 D.armed, .bool D.down], .own (.slice A l.length cap) 110 7 l.length (ris l)] _) (fun (j, _, _) => l.length - j) (m0, A3, cap3) ⟨⟨Nat.le_refl _, hm⟩, (by rw [Nat.sub_self, List.take_zero, List.append_nil]; exact hS.droplast2 Pu)⟩ ⟨(by rw [Nat.sub_self, List.take_zero, List.append_nil, ← hL1]; rfl), vint (by omega), trivial⟩ ?_
    clear hS
    rintro ⟨j, B, c⟩ g w ⟨⟨hj1, hj2⟩, hS⟩
    show WC _ _ _ (lf _ [(4, .slice B (L1 ++ (l.drop m0).take (j - m0)).length c), (5, .int .i64 (j : Int))] _ _) _ _
    by_cases hlt : j < l.length
    · obtain ⟨kg, ko, rfl⟩ := hS.own_addr (A := A) (n := l.length) Mm (by omega)
      have hdl : j - m0 < (l.drop m0).length := by rw [List.length_drop]; omega
      have hge : (l.drop m0)[j - m0] = l[j] := by rw [List.getElem_drop]; congr 1; omega
      have hsn : L1 ++ (l.drop m0).take (j - m0) ++ [l[j]] = L1 ++ (l.drop m0).take (j + 1 - m0) := by
        rw [show j + 1 - m0 = j - m0 + 1 by omega, List.take_succ_eq_append_getElem hdl, hge, List.append_assoc]
      have hLb := hLb j hj2
      generalize L1 ++ (l.drop m0).take (j - m0) = L at *
      have hlen : L.length + 1 = (L1 ++ (l.drop m0).take (j + 1 - m0)).length := by rw [← hsn]; simp
      repeat' (first | (show WL _ _ _ _ _ _ _; first | refine WL.pure rfl rfl rfl rfl ?_ | refine WL.nil ?_ | refine WL.load hS rfl rfl (LdOk.box Mm rfl) rfl rfl rfl ?_ | refine WL.add rfl rfl rfl (by omega) rfl rfl rfl ?_ | (refine WL.load hS rfl rfl (LdOk.ownElem (enc := encRi) (k := j) (fun _ => rfl) Mm hlt rfl rfl) rfl rfl rfl ?_) | (refine WL.app (m := 1) hS rfl rfl rfl rfl (RdOk.box Mm) rfl rfl (fun A cap => Rp) (by omega) rfl rfl rfl ?_; intro A4 cap4 w hS) | refine WL.index rfl rfl rfl rfl (by first | with_reducible assumption | omega) rfl rfl rfl rfl ?_ | (refine WL.slit hS rfl rfl rfl rfl rfl ?_; intro w b hS)) | (show WC _ _ _ _ _ _; first | refine WC.seq ?_ | refine WC.region ?_ | refine WC.block ?_ | refine WC.skip ?_ | refine WC.condT rfl (decide_eq_true (by first | with_reducible assumption | omega)) ?_) | refine seqQ_n ?_ | refine blkQ_n ?_)
      replace hS : St w0 _ w (_ :: .own (.slice A4 (L.length + 1) cap4) 110 7 (L.length + 1) (ris L ++ encRi l[j]) :: _) _ := hS
      rw [ris_snoc, hsn, hlen] at hS
      exact rndQ_n (j + 1, A4, cap4) ⟨⟨by omega, by omega⟩, hS.droplast2 Pu⟩ (by show l.length - (j + 1) < l.length - j; omega) ⟨(by rw [← hlen]; rfl), vint (by omega), trivial⟩ ⟨rfl, trivial⟩
    · have hje : j = l.length := by omega
      subst hje
      have e : L1 ++ (l.drop m0).take (l.length - m0) = putG Ri.path Op.bytesLess l ⟨q, it⟩ := by
        rw [List.take_of_length_le (by rw [List.length_drop]; exact Nat.le_refl _), hput]
      rw [e] at hS ⊢
      repeat' (first | (show WL _ _ _ _ _ _ _; first | refine WL.pure rfl rfl rfl rfl ?_ | refine WL.nil ?_ | refine WL.load hS rfl rfl (LdOk.box Mm rfl) rfl rfl rfl ?_ | (refine WL.store hS rfl rfl rfl Sb rfl rfl rfl ?_; intro w hS)) | (show WC _ _ _ _ _ _; first | refine WC.seq ?_ | refine WC.region ?_ | refine WC.exit ?_ | refine WC.condF rfl (decide_eq_false (by first | with_reducible assumption | omega)) ?_) | refine seqQ_n ?_ | refine seqQ_x ?_ | refine blkQ_hit rfl ?_ | refine rndQ_x ?_)
      exact fin0n rfl ⟨rfl, _, _, _, hq, (hS.pulls (D := rfL dk B c (putG Ri.path Op.bytesLess l ⟨q, it⟩) D) Pu).mutLOf⟩
end
end Go.Proofs.YtccfiohagbneaaaGreatDoor

/- What is proved: what the reference's disk answers: the first refusals, the step, the stamp. Conditions: a disk without limits, paths of bounded length. -/
namespace Go.Proofs.YtccfiohagbneaaaGreatDoor
open Go Go.J Go.RowKit
theorem deep_split {p : List UInt8} (h : checkE p 6 = 0) : deepE p = ((splitL p).length : Int) := by
  have hs := splitA_len p []
  change (splitL p).length = _ at hs
  have hne : p ≠ [] := by rintro rfl; exact absurd h (by decide)
  unfold deepE
  rw [if_neg hne, hs]
  omega
section
variable {dk : Nat} {A : Option Addr} {cap : Nat} {l : List Ri} {D : Dk} {w0 : World}
set_option maxHeartbeats 8000000 in
set_option maxRecDepth 100000 in
theorem rffirst_c (p : List UInt8) (names : Int) (hA : RfAt dk A cap l D w0) (hl : p.length ≤ 1099511627) : Cal Tryz.prog 61 [.pointer (some ⟨dk, 0, none⟩), str p, .int .i64 names] w0
    (fun v w' => Upd [] w0 w' ∧ v = .int .i64 (D.may p names)) := by
  refine Cal.mk' (by kernel_rfl) Tryz.func61 rfl rfl fun hS => ?_
  have hb := hA.box
  unfold Dk.may
  generalize D.down = dn at *
  cases dn with
  | true =>
    repeat' (first | (show WL _ _ _ _ _ _ _; first | refine WL.pure rfl rfl rfl rfl ?_ | refine WL.nil ?_ | (refine WL.load hS rfl rfl (LdOk.old hb Mm rfl) rfl rfl rfl ?_)) | (show WC _ _ _ _ _ _; first | refine WC.seq ?_ | refine WC.region ?_ | refine WC.ret ?_ | refine WC.condT rfl (by with_reducible rfl) ?_) | refine seqQ_n ?_ | refine seqQ_r ?_)
    exact fin1r rfl rfl ⟨hS.upd, rfl⟩
  | false =>
    rw [if_neg (by decide)]
    by_cases hc : checkE p 6 = 0
    · rw [if_neg (by simp [hc]), deep_split hc]
      have hsl := splitA_len p []
      have hcl : p.count 47 ≤ p.length := List.count_le_length
      change (splitL p).length = _ at hsl
      by_cases hd : ((splitL p).length : Int) ≤ names
      case' pos => rw [if_pos hd]
      case' neg => rw [if_neg hd]
      all_goals
        repeat' (first | (show WL _ _ _ _ _ _ _; first | refine WL.pure rfl rfl rfl rfl ?_ | refine WL.nil ?_ | (refine WL.load hS rfl rfl (LdOk.old hb Mm rfl) rfl rfl rfl ?_) | (refine WL.calls hS rfl rfl (rcheck_c p 6 _ (by omega)) rfl rfl rfl ?_; rintro v w rfl hS; rw [hc]) | (refine WL.calls hS rfl rfl (rsplit_c p _ (by omega)) rfl rfl rfl ?_; rintro v w ⟨As, caps, rfl, hns⟩ hS)) | (show WC _ _ _ _ _ _; first | refine WC.seq ?_ | refine WC.region ?_ | refine WC.skip ?_ | refine WC.ret ?_ | refine WC.condF rfl (by with_reducible rfl) ?_ | refine WC.condT rfl (decide_eq_true (by first | with_reducible assumption | omega)) ?_ | refine WC.condF rfl (decide_eq_false (by first | with_reducible assumption | omega)) ?_) | refine seqQ_n ?_ | refine seqQ_r ?_)
        exact fin1r rfl rfl ⟨hS.upd, rfl⟩
    · rw [if_pos hc]
      have hc := checkE_ten p 6 hc
      repeat' (first | (show WL _ _ _ _ _ _ _; first | refine WL.pure rfl rfl rfl rfl ?_ | refine WL.nil ?_ | (refine WL.load hS rfl rfl (LdOk.old hb Mm rfl) rfl rfl rfl ?_) | (refine WL.calls hS rfl rfl (rcheck_c p 6 _ (by omega)) rfl rfl rfl ?_; rintro v w rfl hS; rw [hc]) | refine WL.skip rfl rfl rfl ?_) | (show WC _ _ _ _ _ _; first | refine WC.seq ?_ | refine WC.region ?_ | refine WC.skip ?_ | refine WC.ret ?_ | refine WC.condT rfl (by with_reducible rfl) ?_ | refine WC.condF rfl (by with_reducible rfl) ?_) | refine seqQ_n ?_ | refine seqQ_r ?_)
      exact fin1r rfl rfl ⟨hS.upd, rfl⟩
def thereE (D : Dk) (p : List UInt8) : Int := if D.may p 1 ≠ 0 then D.may p 1 else if D.kind p = 0 then 11 else if D.kind p = 1 then 12 else 0
set_option maxHeartbeats 8000000 in
set_option maxRecDepth 100000 in
theorem rfthere_c (p : List UInt8) (hR : RepL l D.items) (hA : RfAt dk A cap l D w0) (hl : l.length ≤ 1048576) (hp : p.length ≤ 1099511627) : Cal Tryz.prog 83 [.pointer (some ⟨dk, 0, none⟩), str p] w0
    (fun v w' => Upd [] w0 w' ∧ v = .int .i64 (thereE D p)) := by
  refine Cal.mk' (by kernel_rfl) Tryz.func83 rfl rfl fun hS => ?_
  have hmay := fun (w : World) (h : RfAt dk A cap l D w) => rffirst_c p 1 h hp
  have hkc := fun (w : World) (h : RfAt dk A cap l D w) => rfkind_c p hR h hl
  unfold thereE
  generalize D.may p 1 = e at *
  generalize D.kind p = kd at *
  by_cases he : e = 0
  · subst he
    rw [if_neg (by decide)]
    obtain rfl | rfl | ⟨h0, h1⟩ : kd = 0 ∨ kd = 1 ∨ (kd ≠ 0 ∧ kd ≠ 1) := by omega
    all_goals try rw [if_neg h0, if_neg h1]
    all_goals
      repeat' (first | (show WL _ _ _ _ _ _ _; first | refine WL.pure rfl rfl rfl rfl ?_ | refine WL.nil ?_ | (refine WL.calls hS rfl rfl (hmay _ hA) rfl rfl rfl ?_; rintro v w rfl hS) | (refine WL.calls hS rfl rfl (hkc _ (St.rfOld hS hA Mm)) rfl rfl rfl ?_; rintro v w rfl hS)) | (show WC _ _ _ _ _ _; first | refine WC.seq ?_ | refine WC.region ?_ | refine WC.skip ?_ | refine WC.ret ?_ | refine WC.condT rfl (by decide) ?_ | refine WC.condF rfl (by decide) ?_ | refine WC.condF rfl (decide_eq_false (by first | with_reducible assumption | omega)) ?_) | refine seqQ_n ?_ | refine seqQ_r ?_)
      exact fin1r rfl rfl ⟨hS.upd, rfl⟩
  · rw [if_pos he]
    repeat' (first | (show WL _ _ _ _ _ _ _; first | refine WL.pure rfl rfl rfl rfl ?_ | refine WL.nil ?_ | (refine WL.calls hS rfl rfl (hmay _ hA) rfl rfl rfl ?_; rintro v w rfl hS)) | (show WC _ _ _ _ _ _; first | refine WC.seq ?_ | refine WC.region ?_ | refine WC.ret ?_ | refine WC.condT rfl (decide_eq_true (by first | with_reducible assumption | omega)) ?_) | refine seqQ_n ?_ | refine seqQ_r ?_)
    exact fin1r rfl rfl ⟨hS.upd, rfl⟩
set_option maxHeartbeats 8000000 in
set_option maxRecDepth 100000 in
theorem rffits_c (p : List UInt8) (more : Int) (hA : RfAt dk A cap l D w0) : Cal Tryz.prog 88 [.pointer (some ⟨dk, 0, none⟩), str p, .int .i64 more] w0
    (fun v w' => Upd [] w0 w' ∧ v = .bool true) := by
  refine Cal.mk' (by kernel_rfl) Tryz.func88 rfl rfl fun hS => ?_
  have hb := hA.box
  by_cases hm : more ≤ 0
  · repeat' (first | (show WL _ _ _ _ _ _ _; first | refine WL.pure rfl rfl rfl rfl ?_ | refine WL.nil ?_) | (show WC _ _ _ _ _ _; first | refine WC.seq ?_ | refine WC.region ?_ | refine WC.ret ?_ | refine WC.condT rfl (decide_eq_true (by first | with_reducible assumption | omega)) ?_) | refine seqQ_n ?_ | refine seqQ_r ?_)
    exact fin1r rfl rfl ⟨hS.upd, rfl⟩
  · repeat' (first | (show WL _ _ _ _ _ _ _; first | refine WL.pure rfl rfl rfl rfl ?_ | refine WL.nil ?_) | (show WC _ _ _ _ _ _; first | refine WC.seq ?_ | refine WC.region ?_ | refine WC.block ?_ | refine WC.skip ?_ | refine WC.condF rfl (decide_eq_false (by first | with_reducible assumption | omega)) ?_) | refine seqQ_n ?_)
    refine WC.loop (σ := Nat) [0] (fun i => [(7, .int .i64 0)]) (fun i w => St w0 [] w [] [⟨w0, Old w0⟩]) (fun i => i) 0 hS ⟨rfl, trivial⟩ ?_
    clear hS
    rintro i g w hS
    show WC _ _ _ (lf _ [(7, .int .i64 0)] _ _) _ _
    repeat' (first | (show WL _ _ _ _ _ _ _; first | refine WL.pure rfl rfl rfl rfl ?_ | refine WL.nil ?_ | (refine WL.load hS rfl rfl (LdOk.old hb Mm rfl) rfl rfl rfl ?_)) | (show WC _ _ _ _ _ _; first | refine WC.seq ?_ | refine WC.region ?_ | refine WC.exit ?_ | refine WC.ret ?_ | refine WC.condF rfl (by decide) ?_) | refine seqQ_n ?_ | refine seqQ_x ?_ | refine blkQ_hit rfl ?_ | refine rndQ_x ?_)
    exact fin1r rfl rfl ⟨hS.upd, rfl⟩
end
section
variable {dk : Nat} {A : Option Addr} {cap : Nat} {l : List Ri} {D : Dk} {w0 : World}
set_option maxHeartbeats 8000000 in
set_option maxRecDepth 100000 in
theorem rfdone_c (hi : InL w0 (rfL dk A cap l D)) : Cal Tryz.prog 64 [.pointer (some ⟨dk, 0, none⟩)] w0
    (fun v w' => v = .int .i64 D.stepE ∧ MutL w0 w' (rfL dk A cap l D) (rfL dk A cap l D.step)) := by
  refine Cal.mkL hi (by kernel_rfl) Tryz.func64 rfl rfl fun hS => ?_
  unfold Dk.stepE
  by_cases h0 : D.armed = 0
  · rw [if_pos h0]
    have hD : D.step = { D with armed := -1, down := true } := by unfold Dk.step; rw [if_pos h0]
    rw [hD]
    repeat' (first | (show WL _ _ _ _ _ _ _; first | refine WL.pure rfl rfl rfl rfl ?_ | refine WL.nil ?_ | refine WL.load hS rfl rfl (LdOk.box Mm rfl) rfl rfl rfl ?_ | (refine WL.store hS rfl rfl rfl Sb rfl rfl rfl ?_; intro w hS)) | (show WC _ _ _ _ _ _; first | refine WC.seq ?_ | refine WC.region ?_ | refine WC.ret ?_ | refine WC.condT rfl (decide_eq_true (by first | with_reducible assumption | omega)) ?_) | refine seqQ_n ?_ | refine seqQ_r ?_)
    exact fin1r rfl rfl ⟨rfl, hS.mutLp Pu⟩
  · rw [if_neg h0]
    by_cases hp : 0 < D.armed
    · have hD : D.step = { D with armed := IntKind.i64.wrap (D.armed - 1), steps := IntKind.i64.wrap (D.steps + 1) } := by unfold Dk.step; rw [if_neg h0, if_pos hp]
      rw [hD]
      repeat' (first | (show WL _ _ _ _ _ _ _; first | refine WL.pure rfl rfl rfl rfl ?_ | refine WL.nil ?_ | refine WL.load hS rfl rfl (LdOk.box Mm rfl) rfl rfl rfl ?_ | (refine WL.addW rfl rfl rfl rfl rfl rfl ?_) | (refine WL.subW rfl rfl rfl rfl rfl rfl ?_) | (refine WL.store hS rfl rfl rfl Sb rfl rfl rfl ?_; intro w hS)) | (show WC _ _ _ _ _ _; first | refine WC.seq ?_ | refine WC.region ?_ | refine WC.skip ?_ | refine WC.ret ?_ | refine WC.condT rfl (decide_eq_true (by first | with_reducible assumption | omega)) ?_ | refine WC.condF rfl (decide_eq_false (by first | with_reducible assumption | omega)) ?_) | refine seqQ_n ?_)
      exact fin1r rfl rfl ⟨rfl, hS.mutLp Pu⟩
    · have hD : D.step = { D with steps := IntKind.i64.wrap (D.steps + 1) } := by unfold Dk.step; rw [if_neg h0, if_neg hp]
      rw [hD]
      repeat' (first | (show WL _ _ _ _ _ _ _; first | refine WL.pure rfl rfl rfl rfl ?_ | refine WL.nil ?_ | refine WL.load hS rfl rfl (LdOk.box Mm rfl) rfl rfl rfl ?_ | (refine WL.addW rfl rfl rfl rfl rfl rfl ?_) | (refine WL.store hS rfl rfl rfl Sb rfl rfl rfl ?_; intro w hS)) | (show WC _ _ _ _ _ _; first | refine WC.seq ?_ | refine WC.region ?_ | refine WC.skip ?_ | refine WC.ret ?_ | refine WC.condF rfl (decide_eq_false (by first | with_reducible assumption | omega)) ?_) | refine seqQ_n ?_)
      exact fin1r rfl rfl ⟨rfl, hS.mutLp Pu⟩
set_option maxHeartbeats 8000000 in
set_option maxRecDepth 100000 in
theorem rfstamped_c (x : Ri) (hi : InL w0 (rfL dk A cap l D)) : Cal Tryz.prog 80 [.pointer (some ⟨dk, 0, none⟩), .agg ⟨encRi x⟩] w0
    (fun v w' => v = .agg ⟨encRi ⟨x.path, { x.it with stamp := IntKind.i64.wrap (D.stamps + 1) }⟩⟩ ∧ MutL w0 w' (rfL dk A cap l D) (rfL dk A cap l { D with stamps := IntKind.i64.wrap (D.stamps + 1) })) := by
  refine Cal.mkL hi (by kernel_rfl) Tryz.func80 rfl rfl fun hS => ?_
  unfold encRi
  dsimp only
  repeat' (first | (show WL _ _ _ _ _ _ _; first | refine WL.pure rfl rfl rfl rfl ?_ | refine WL.nil ?_ | refine WL.load hS rfl rfl (LdOk.box Mm rfl) rfl rfl rfl ?_ | (refine WL.addW rfl rfl rfl rfl rfl rfl ?_) | (refine WL.store hS rfl rfl rfl Sb rfl rfl rfl ?_; intro w hS) | (refine WL.box hS rfl rfl rfl rfl rfl ?_; intro w b hS) | (refine WL.alloc hS rfl rfl rfl rfl rfl rfl ?_; intro w b hS)) | (show WC _ _ _ _ _ _; first | refine WC.seq ?_ | refine WC.region ?_ | refine WC.ret ?_) | refine seqQ_n ?_)
  exact finC1r hS rfl rfl (LdOk.boxAll Mm rfl rfl) ⟨rfl, hS.mutLp Pu⟩
end
end Go.Proofs.YtccfiohagbneaaaGreatDoor

/- What is proved: parts of rows, cut in a region that draws its order. Conditions: none beyond the rules' own. -/
namespace Go.J
open Go Go.RowKit
section
variable {P : Program} {N : Fz} {f : Fr} {w w0 : World} {Q : Post} {ops : List Oper} {q : List Nat} {l : List Nat} {i : Nat} {S : World → Prop}
theorem WD.lowV {pl : Qs} {t e : TypeId} {size n cap j : Nat} {A A' : Option Addr} {x y : Operand} {k : IntKind} (ho : (ix ops i).op = .slice t x (some y) none none) (he : elemOf P t = some (e, size)) (hx : ev f x = .slice A n cap) (hy : ev f y = .int k (Int.ofNat j)) (hj : j ≤ n) (hA : (if cap = j then A else A.map (·.add (j * size))) = A')
    (hq : pl.contains i = true) (hg : wants ops f (ix ops i) = true) {d : Nat} (hd : (ix ops i).dst = some d) (hn : N.ok d = true) (h : WD P N S ops pl l (up f d (.slice A' (n - j) (cap - j))) w Q) : WD P N S ops pl (i :: l) f w Q :=
  .take hq hd hn (.inl ⟨hg, fun _ _ => hA ▸ run_sliceLow ho he hx hy hj⟩) h
variable {M : List Nat} {H0 H : List Chunk} {Z0 Z : List Snap}
end
section
variable {P : Program} {N : Fz} {f : Fr} {w : World} {Q : Post} {ops l : List Oper} {o : Oper}
def intoU64 (P : Program) (s d : TypeId) : Bool := match P.underlying s, P.underlying d with
  | some (.int _), some (.int .u64) => true
  | _, _ => false
end
end Go.J

/- What is proved: append that keeps the row before it; chunks by place; rows that are marked and grown. Conditions: as each names them. -/
namespace Go.J
open Go Go.RowKit
section
variable {P : Program} {N : Fz} {f : Fr} {w w0 : World} {Q : Post} {ops l : List Oper} {o : Oper} {M : List Nat} {H H' : List Chunk} {Z : List Snap} {ρ : Operand → Value}
theorem run_appK {s x : Operand} {t e : TypeId} {size bytes n m cap c b off : Nat} {A : Option Addr} {xs news : List Value} (ho : o.op = .call ⟨.builtin .append, ⟨[s, x]⟩, ⟨[t, t]⟩⟩) (hi : appOf P t = some (e, size, bytes))
    (hs : ρ s = .slice A n cap) (hx : ρ x = .slice (some ⟨b, off, none⟩) m c) (hown : RowAt w e size (.slice A n cap) n xs) (hnews : ∀ j u, news[j]? = some u → w.cell? ⟨b, off + j, none⟩ = some u) (hl : news.length = m * size) (h1 : one news = true) (hm0 : 0 < m)
    (hb : (n + m) * bytes ≤ 140737488355328) :
    (∃ w', (execOp ρ o).run P w = .ok (.value (.slice A (n + m) cap)) w' ∧ RowAt w' e size (.slice A (n + m) cap) (n + m) (xs ++ news) ∧ Upd (Value.slice A n cap).ownBlock.toList w w') ∨
    (∃ A' cap' w', (execOp ρ o).run P w = .ok (.value (.slice A' (n + m) cap')) w' ∧ New w w' (.own (.slice A' (n + m) cap') e size (n + m) (xs ++ news)) ∧ Upd [] w w') := by
  obtain ⟨i, z, hu, hinfo, hz, rfl, rfl, hzs, h0, h0b⟩ := appOf_spec hi
  have hle : n + m ≤ (n + m) * i.bytes := Nat.le_mul_of_pos_right _ h0b
  have hmx : n + m ≤ maxLen := by unfold maxLen; omega
  have hnews' : ∀ j u, news[j]? = some u → w.cell? ((⟨b, off, none⟩ : Addr).add j) = some u := fun j u hj => by rw [Addr.add_mid]; exact hnews j u hj
  have h1' : ∀ u ∈ news, u.oneCell' = true := by simpa [one] using h1
  have hlen : (xs ++ news).length = (n + m) * i.size := by rw [List.length_append, hown.1, hl, Nat.add_mul]
  have run : ∀ v' w', (Builtin.append_ #[t, t] o.type #[.slice A n cap, .slice (some ⟨b, off, none⟩) m c]).run P w = .ok v' w' → (execOp ρ o).run P w = .ok (.value v') w' := fun v' w' hr => by
    unfold execOp
    simp only [ho, resolve, invoke, builtin, Sem.run_bind, Sem.run_pure, Result.andThen_ok, List.map_toArray, List.map_cons, List.map_nil, hs, hx, hr]
  have grown : ∀ old, old < n + m → New w (w.drew.alloc (.cells (xs.toArray ++ news.toArray ++ Builtin.zeroCells z.cells (grownCap w (n + m) old e - (n + m))) e))
      (.own (.slice (some ⟨w.heap.size, 0, none⟩) (n + m) (grownCap w (n + m) old e)) e i.size (n + m) (xs ++ news)) := by
    intro old ho
    have hge := grownCap_ge w (n + m) old e
    have hcm : grownCap w (n + m) old e ≤ maxLen := grownCap_le_maxLen w (n + m) old e hmx
    refine ⟨⟨hlen, .inr ⟨w.heap.size, 0, _, (xs.toArray ++ news.toArray ++ Builtin.zeroCells z.cells (grownCap w (n + m) old e - (n + m))).toList, rfl, heap_alloc_new w.drew _, hge, hcm, ?_, ?_⟩⟩, fun g hg => ?_⟩
    · simp only [Array.length_toList, Array.size_append, List.size_toArray, size_zeroCells, hzs, hown.1, hl, ← Nat.add_mul, Nat.zero_add]
      exact Nat.mul_le_mul_right _ (by omega)
    · simp only [Array.toList_append, List.append_assoc, List.drop_zero]
      rw [← List.append_assoc, ← hlen]
      exact List.take_left
    · simp only [Chunk.fp, Value.ownBlock, Option.toList, List.mem_singleton] at hg
      subst hg
      simp
  have hup : ∀ (fp : List Nat) (ob : Obj), Upd fp w (w.drew.alloc ob) := fun fp ob => (Upd.drew fp w).trans (.alloc _ _ _)
  rcases hown.2 with ⟨h2, rfl⟩ | ⟨g, og, cap0, cur, h2, hgg, hnc, hcm, hcs, htake⟩
  · simp only [Value.slice.injEq] at h2
    obtain ⟨rfl, _, rfl⟩ := h2
    have hx0 : xs = [] := List.eq_nil_of_length_eq_zero (by simpa using hown.1)
    subst hx0
    have hr := run_append_nil (P := P) w t o.type e i z hu hinfo hz ⟨b, off, none⟩ m c news hl hnews' (by omega) (by omega) (by have hb := hb; simp only [Nat.zero_add] at hb; omega)
    have hgr := grown 0 (by omega)
    simp only [Nat.zero_add, List.nil_append, Array.empty_append] at hgr ⊢
    exact .inr ⟨_, _, _, run _ _ hr, hgr, hup _ _⟩
  · simp only [Value.slice.injEq] at h2
    obtain ⟨rfl, _, rfl⟩ := h2
    by_cases hroom : n + m ≤ cap
    · have hns : (n + m) * i.size ≤ cap * i.size := Nat.mul_le_mul_right _ hroom
      rw [Nat.add_mul] at hns
      have hfit : og + n * i.size + news.length ≤ cur.length := by rw [hl]; omega
      have hr := run_append_off (P := P) t o.type e i hu hinfo g og n cap cur hgg ⟨b, off, none⟩ m c news hl hnews' h1' hroom hfit
      refine .inl ⟨_, run _ _ hr, ⟨hlen, .inr ⟨g, og, cap, _, rfl, heap_setRow hgg, hroom, hcm, ?_, ?_⟩⟩, (Upd.setRow _ _ _).mono (by simp [Value.ownBlock])⟩
      · simp only [List.length_append, List.length_take, List.length_drop]; omega
      · rw [Nat.add_mul, ← hl]
        rw [drop_take_app cur news og (n * i.size) hfit, htake]
    · have holds : ∀ j u, xs[j]? = some u → w.cell? ((⟨g, og, none⟩ : Addr).add j) = some u := fun j u hj => by rw [Addr.add_mid]; exact hown.cells j u hj
      have hr := run_append_grow (P := P) w t o.type e i z hu hinfo hz ⟨g, og, none⟩ n cap xs hown.1 holds ⟨b, off, none⟩ m c news hl hnews' (by omega) (by omega) (growslice_fits (by omega) hb)
      exact .inr ⟨_, _, _, run _ _ hr, grown cap (by omega), hup _ _⟩
theorem WL.appK {s x : Operand} {t e : TypeId} {size bytes n m cap c b off : Nat} {A : Option Addr} {xs news : List Value} (hS : St w0 M w H Z) (ho : o.op = .call ⟨.builtin .append, ⟨[s, x]⟩, ⟨[t, t]⟩⟩) (hi : appOf P t = some (e, size, bytes))
    (hs : ev f s = .slice A n cap) (hx : ev f x = .slice (some ⟨b, off, none⟩) m c) (hnews : RdOk H Z b off news) (hl : news.length = m * size) (h1 : one news = true) (hm0 : 0 < m)
    (hr : Repl (.own (.slice A n cap) e size n xs) (.own (.slice A (n + m) cap) e size (n + m) (xs ++ news)) H H') (hb : (n + m) * bytes ≤ 140737488355328)
    (hg : wants ops f o = true) {d : Nat} (hd : o.dst = some d) (hn : N.ok d = true)
    (ha : ∀ w', St w0 M w' H' Z → WL P N ops l (up f d (.slice A (n + m) cap)) w' Q)
    (hb2 : ∀ A' cap' w', St w0 M w' (.own (.slice A' (n + m) cap') e size (n + m) (xs ++ news) :: H) Z → WL P N ops l (up f d (.slice A' (n + m) cap')) w' Q) : WL P N ops (o :: l) f w Q := by
  rcases run_appK (P := P) (w := w) ho hi hs hx (hS.holds _ hr.mem) (hnews.out w0 M w [] [] hS) hl h1 hm0 hb with ⟨w', hrun, hown', hgr⟩ | ⟨A', cap', w', hrun, hnew, hup⟩
  · exact .val hg hd hn hrun (ha w' (hS.app hr hown' hgr fun g hg => .inl (by cases A <;> exact hg)))
  · exact .val hg hd hn hrun (hb2 A' cap' w' (hS.new hup hnew))
end
section
variable {P : Program} {N : Fz} {f : Fr} {w w0 : World} {Q : Post} {ops : List Oper} {M : List Nat} {H0 H H' : List Chunk} {Z0 Z : List Snap} {q : Qs} {l : List Nat} {i : Nat}
end
theorem erase_perm : ∀ {cs : List Chunk} {i : Nat} (h : i < cs.length), (cs[i] :: cs.eraseIdx i).Perm cs
  | _ :: _, 0, _ => .refl _
  | a :: cs, i + 1, h => (List.Perm.swap _ _ _).trans (.cons a (erase_perm (cs := cs) (i := i) (by simpa using h)))
theorem pfront {cs : List Chunk} {i : Nat} {c : Chunk} (h : cs[i]? = some c) : cs.Perm (c :: cs.eraseIdx i) := by
  obtain ⟨hi, rfl⟩ := List.getElem?_eq_some_iff.1 h
  exact (erase_perm hi).symm
theorem pback {cs : List Chunk} {i : Nat} (h : i < cs.length) (c : Chunk) : (c :: cs.eraseIdx i).Perm (cs.set i c) := by
  have hi : i < (cs.set i c).length := by rw [List.length_set]; exact h
  have := erase_perm hi
  rwa [List.getElem_set_self, List.eraseIdx_set_eq] at this
theorem St.freeze {w0 w : World} {M : List Nat} {H : List Chunk} {Z : List Snap} (hS : St w0 M w H Z) : St w0 M w [] (⟨w, fun b => b < w.heap.size⟩ :: Z) :=
  ⟨hS.upd, fun c hc => (by cases hc), fun c hc => (by cases hc), .nil, fun z hz b hb => by
    rcases List.mem_cons.1 hz with rfl | hz
    · exact ⟨hb, rfl, fun c hc => (by cases hc)⟩
    · obtain ⟨h1, h2, _⟩ := hS.snap z hz b hb
      exact ⟨h1, h2, fun c hc => (by cases hc)⟩⟩
theorem flat_set {α : Type} {enc : α → List Value} {sz : Nat} (hsz : ∀ x, (enc x).length = sz) (x : α) : ∀ {l : List α} {k : Nat}, k < l.length → (l.flatMap enc).take (k * sz) ++ enc x ++ (l.flatMap enc).drop (k * sz + (enc x).length) = (l.set k x).flatMap enc
  | [], _, h => absurd h (Nat.not_lt_zero _)
  | a :: l, 0, _ => by
    simp only [List.flatMap_cons, List.set_cons_zero, Nat.zero_mul, List.take_zero, List.nil_append, Nat.zero_add, hsz]
    rw [List.drop_append_of_le_length (by rw [hsz]; exact Nat.le_refl _), List.drop_of_length_le (by rw [hsz]; exact Nat.le_refl _), List.nil_append]
  | a :: l, k + 1, h => by
    have ih := flat_set hsz x (l := l) (k := k) (by simpa using h)
    rw [List.flatMap_cons, List.set_cons_succ, List.flatMap_cons, ← ih, show (k + 1) * sz = (enc a).length + k * sz by rw [hsz, Nat.add_mul]; omega]
    rw [List.take_append, List.take_of_length_le (show (enc a).length ≤ (enc a).length + k * sz by omega), Nat.add_sub_cancel_left, Nat.add_assoc, ← List.drop_drop, List.drop_left]
    simp only [List.append_assoc]
structure Rw where
  A : Option Addr
  n : Nat
  cap : Nat
def Rw.val (r : Rw) : Value := .slice r.A r.n r.cap
def encRw (r : Rw) : List Value := [r.val]
def ownRw {α : Type} (enc : α → List Value) (e : TypeId) (sz : Nat) (r : Rw) (l : List α) : Chunk := .own (.slice r.A r.n r.cap) e sz r.n (l.flatMap enc)
def grw {α : Type} (mk nw : Nat → α) (j n k : Nat) : List α := List.replicate n (mk j) ++ List.replicate k (nw j)
def GrowP {α : Type} (enc : α → List Value) (e : TypeId) (sz : Nat) (mk nw : Nat → α) (j : Nat) (r : Rw) (k : Nat) (A : Option Addr) (cap : Nat) (D : List Chunk) : Prop :=
  (A = r.A ∧ cap = r.cap ∧ D = [.own (.slice r.A (r.n + k) r.cap) e sz (r.n + k) ((grw mk nw j r.n k).flatMap enc)]) ∨
  (∃ i, D = [.own (.slice A (r.n + k) cap) e sz (r.n + k) ((grw mk nw j r.n k).flatMap enc), .own (.slice r.A (r.n + i) r.cap) e sz (r.n + i) ((grw mk nw j r.n i).flatMap enc)])
section
variable {α : Type} {enc : α → List Value} {e : TypeId} {sz : Nat} {mk nw : Nat → α} {rs ls : List Rw} {cs : List Chunk} {i j : Nat}
structure MarkIs (enc : α → List Value) (e : TypeId) (sz : Nat) (mk : Nat → α) (rs : List Rw) (cs : List Chunk) (i : Nat) : Prop where
  len : cs.length = rs.length
  at_ : ∀ j (h : j < rs.length), ∃ l : List α, l.length = rs[j].n ∧ cs[j]? = some (ownRw enc e sz rs[j] l) ∧ (j < i → l = List.replicate rs[j].n (mk j))
structure GrowIs (enc : α → List Value) (e : TypeId) (sz : Nat) (mk nw : Nat → α) (rs ls : List Rw) (cs : List Chunk) (i : Nat) : Prop where
  len : cs.length = rs.length
  llen : ls.length = i
  at_ : ∀ j (h : j < rs.length), i ≤ j → cs[j]? = some (ownRw enc e sz rs[j] (List.replicate rs[j].n (mk j)))
  got : ∀ j (h : j < rs.length), j < i → ∃ l fp, ls[j]? = some l ∧ l.n = rs[j].n + 20 ∧ cs[j]? = some (objC (GrowP enc e sz mk nw j rs[j] 20 l.A l.cap) fp)
theorem MarkIs.next (h : MarkIs enc e sz mk rs cs i) (hi : i < rs.length) : MarkIs enc e sz mk rs (cs.set i (ownRw enc e sz rs[i] (List.replicate rs[i].n (mk i)))) (i + 1) := by
  refine ⟨by rw [List.length_set]; exact h.len, fun j hj => ?_⟩
  obtain ⟨l, h0, h1, h2⟩ := h.at_ j hj
  by_cases e : i = j
  · subst e
    exact ⟨_, List.length_replicate, by rw [List.getElem?_set_self (by rw [h.len]; exact hi)], fun _ => rfl⟩
  · exact ⟨l, h0, by rw [List.getElem?_set_ne e]; exact h1, fun hlt => h2 (by omega)⟩
theorem MarkIs.grow (h : MarkIs enc e sz mk rs cs i) (hi : i = rs.length) : GrowIs enc e sz mk nw rs [] cs 0 := by
  subst hi
  refine ⟨h.len, rfl, fun j hj _ => ?_, fun j _ hj => absurd hj (Nat.not_lt_zero _)⟩
  obtain ⟨l, _, h1, h2⟩ := h.at_ j hj
  rw [h1, h2 hj]
theorem GrowIs.next (h : GrowIs enc e sz mk nw rs ls cs i) (hi : i < rs.length) {A : Option Addr} {cap : Nat} {fp : List Nat} : GrowIs enc e sz mk nw rs (ls ++ [⟨A, rs[i].n + 20, cap⟩]) (cs.set i (objC (GrowP enc e sz mk nw i rs[i] 20 A cap) fp)) (i + 1) := by
  refine ⟨by rw [List.length_set]; exact h.len, by rw [List.length_append, h.llen]; rfl, fun j hj hij => ?_, fun j hj hij => ?_⟩
  · rw [List.getElem?_set_ne (by omega)]; exact h.at_ j hj (by omega)
  · by_cases e : i = j
    · subst e
      refine ⟨⟨A, rs[i].n + 20, cap⟩, fp, ?_, rfl, by rw [List.getElem?_set_self (by rw [h.len]; exact hi)]⟩
      rw [List.getElem?_append_right (by rw [h.llen]; exact Nat.le_refl _), h.llen, Nat.sub_self]; rfl
    · obtain ⟨l, fp', h1, h2, h3⟩ := h.got j hj (by omega)
      exact ⟨l, fp', by rw [List.getElem?_append_left (by rw [h.llen]; omega)]; exact h1, h2, by rw [List.getElem?_set_ne e]; exact h3⟩
theorem ownAll {hsz : ∀ x, (enc x).length = sz} (h0 : 0 < sz) {w : World} {A : Option Addr} {n cap n' : Nat} {l : List α} (h : RowAt w e sz (.slice A n cap) n' (l.flatMap enc)) (hin : ∀ b ∈ (Value.slice A n cap).ownBlock.toList, b < w.heap.size) : SlAt (Cod.flat enc sz hsz) (fun b => b < w.heap.size) w A l :=
  SlAt.ofOwn h0 h fun g hg => hin g (by rw [hg]; simp)
theorem GrowIs.reads (h : GrowIs enc e sz mk nw rs ls cs i) (hi : i = rs.length) {hsz : ∀ x, (enc x).length = sz} (h0 : 0 < sz) {w w0 : World} {M : List Nat} {H : List Chunk} {Z : List Snap} (hS : St w0 M w H Z) (hc : ∀ c ∈ cs, c ∈ H) (j : Nat) (hj : j < rs.length) :
    ∃ l, ls[j]? = some l ∧ l.n = rs[j].n + 20 ∧ SlAt (Cod.flat enc sz hsz) (fun b => b < w.heap.size) w rs[j].A (List.replicate rs[j].n (mk j)) ∧ SlAt (Cod.flat enc sz hsz) (fun b => b < w.heap.size) w l.A (grw mk nw j rs[j].n 20) := by
  subst hi
  obtain ⟨l, fp, h1, h2, h3⟩ := h.got j hj hj
  have hm := hc _ (List.mem_of_getElem? h3)
  obtain ⟨D, hD, hfp, _, hh⟩ := (hS.holds _ hm).1
  have hb : ∀ d ∈ D, ∀ b ∈ d.fp, b < w.heap.size := fun d hd b hb => (hS.inb _ hm b (by show b ∈ fp; rw [hfp]; exact List.mem_flatMap.2 ⟨d, hd, hb⟩)).1
  refine ⟨l, h1, h2, ?_⟩
  rcases hD with ⟨e1, e2, rfl⟩ | ⟨k, rfl⟩
  · have hd := hh _ (List.Mem.head _)
    have hf := ownAll (hsz := hsz) h0 (show RowAt w e sz _ _ _ from hd) (hb _ (List.Mem.head _))
    rw [e1]
    exact ⟨SlAt.pre hf, hf⟩
  · have hd := hh _ (List.Mem.head _)
    have hf := ownAll (hsz := hsz) h0 (show RowAt w e sz _ _ _ from hd) (hb _ (List.Mem.head _))
    have hd2 := hh _ (List.Mem.tail _ (List.Mem.head _))
    have hf2 := ownAll (hsz := hsz) h0 (show RowAt w e sz _ _ _ from hd2) (hb _ (List.Mem.tail _ (List.Mem.head _)))
    exact ⟨SlAt.pre hf2, hf⟩
theorem grw_snoc (j n k : Nat) : grw mk nw j n (k + 1) = grw mk nw j n k ++ [nw j] := by
  unfold grw
  rw [List.append_assoc, ← List.replicate_succ']
theorem grw_flat (j n k : Nat) : (grw mk nw j n (k + 1)).flatMap enc = (grw mk nw j n k).flatMap enc ++ enc (nw j) := by
  rw [grw_snoc, List.flatMap_append]; simp
theorem grw_at {j n k p : Nat} (h : p < n + k) : (grw mk nw j n k)[p]? = some (if p < n then mk j else nw j) := by
  unfold grw
  split
  · rename_i h1
    rw [List.getElem?_append_left (by simpa using h1), List.getElem?_replicate, if_pos h1]
  · rename_i h1
    rw [List.getElem?_append_right (by simpa using h1), List.getElem?_replicate, List.length_replicate, if_pos (by omega)]
end
end Go.J

/- What is proved: rules for literals, appends and cuts whose place among a region's effects is drawn. Conditions: as each names them. -/
namespace Go.J
open Go Go.RowKit
section
variable {P : Program} {N : Fz} {f : Fr} {w w0 : World} {Q : Post} {ops : List Oper} {M : List Nat} {H0 H H' : List Chunk} {Z0 Z : List Snap} {q : Qs} {l : List Nat} {i : Nat}
theorem WDo.app {s x : Operand} {t e : TypeId} {size bytes n m cap c b off : Nat} {A : Option Addr} {xs news : List Value} (hS : St w0 M w H Z) (hp : Pull (.own (.slice A n cap) e size n xs) H H') (hM : More H0 Z0 H' Z) (ho : (ix ops i).op = .call ⟨.builtin .append, ⟨[s, x]⟩, ⟨[t, t]⟩⟩) (hi0 : appOf P t = some (e, size, bytes))
    (hs : ev f s = .slice A n cap) (hx : ev f x = .slice (some ⟨b, off, none⟩) m c) (hnews : RdOk H Z b off news) (hl : news.length = m * size) (h1 : one news = true) (hb : (n + m) * bytes ≤ 140737488355328)
    (hi : Nat.blt i ops.length = true) (hg : wants ops f (ix ops i) = true) {d : Nat} (hd : (ix ops i).dst = some d) (hn : N.ok d = true)
    (h : ∀ A' cap' w', St w0 M w' (.own (.slice A' (n + m) cap') e size (n + m) (xs ++ news) :: H') Z → More H0 Z0 (.own (.slice A' (n + m) cap') e size (n + m) (xs ++ news) :: H') Z → WD P N (SS w0 M H0 Z0) ops q l (up f d (.slice A' (n + m) cap')) w' Q) : WDo P N (SS w0 M H0 Z0) ops q i l f w Q := by
  have hS' := hS.pull hp
  obtain ⟨A', cap', w', hrun, hown', hgr, hat⟩ := run_appOp (P := P) (w := w) ho hi0 hs hx (hS'.holds _ (List.Mem.head _)) (hnews.out w0 M w [] [] hS) hl h1 hb
  have hS2 := hS'.app (.here) hown' hgr hat
  exact .val hi hg hd hn hrun ((hM.chunk _).ss hS2) (h A' cap' w' hS2 (hM.chunk _))
theorem WD.appS {s x : Operand} {t e : TypeId} {size bytes n m cap c : Nat} {A B : Option Addr} {xs news : List Value} (hS : St w0 M w H Z) (hp : Pull (.own (.slice A n cap) e size n xs) H H') (hM : More H0 Z0 H' Z) (ho : (ix ops i).op = .call ⟨.builtin .append, ⟨[s, x]⟩, ⟨[t, t]⟩⟩) (hi0 : appOf P t = some (e, size, bytes))
    (hs : ev f s = .slice A n cap) (hx : ev f x = .slice B m c) (hnews : RdSl H Z B m news) (hl : news.length = m * size) (h1 : one news = true) (hb : (n + m) * bytes ≤ 140737488355328)
    (hq : q.contains i = false) (hi : Nat.blt i ops.length = true) (hg : wants ops f (ix ops i) = true) {d : Nat} (hd : (ix ops i).dst = some d) (hn : N.ok d = true)
    (h : ∀ A' cap' w', St w0 M w' (.own (.slice A' (n + m) cap') e size (n + m) (xs ++ news) :: H') Z → More H0 Z0 (.own (.slice A' (n + m) cap') e size (n + m) (xs ++ news) :: H') Z → WD P N (SS w0 M H0 Z0) ops q l (up f d (.slice A' (n + m) cap')) w' Q) : WD P N (SS w0 M H0 Z0) ops q (i :: l) f w Q := by
  rcases hnews with ⟨rfl, rfl, rfl⟩ | ⟨b, off, rfl, hnews⟩
  · have hS' := hS.pull hp
    have hcap := (hS'.own_len (List.Mem.head _)).2.2
    have hS2 := hS'.recast (c' := .own (.slice A (n + 0) cap) e size (n + 0) (xs ++ [])) .here (fun h => by simpa using h) (fun b hb => by simpa using hb)
    exact .val hq hi hg hd hn (run_app0 ho hi0 hs hx hcap) ((hM.chunk _).ss hS2) (h A cap w hS2 (hM.chunk _))
  · exact .app hS hp hM ho hi0 hs hx hnews hl h1 hb hq hi hg hd hn h
theorem WDo.callG {fid : FuncId} {xs : List Operand} {ts : Array TypeId} {args : List Value} {R : Value → World → Prop} (ho : (ix ops i).op = .call ⟨.value (.func fid), ⟨xs⟩, ts⟩) (ha : xs.map (ev f) = args)
    (hc : Cal P fid args w R) (hi : Nat.blt i ops.length = true) (hg : wants ops f (ix ops i) = true) {d : Nat} (hd : (ix ops i).dst = some d) (hn : N.ok d = true)
    (h : ∀ v w', R v w' → SS w0 M H0 Z0 w' ∧ WD P N (SS w0 M H0 Z0) ops q l (up f d v) w' Q) : WDo P N (SS w0 M H0 Z0) ops q i l f w Q :=
  .enter hi hg hd hn (run_callOp ho ha hc.ok) hc.calls h
theorem WDo.alloc {t : TypeId} {z : Value} (hS : St w0 M w H Z) (hM : More H0 Z0 H Z) (ho : (ix ops i).op = .alloc t) (hz : tyZero P t = some z) {cs : List Value} (hcs : cellsO z = some cs) (hi : Nat.blt i ops.length = true) (hg : wants ops f (ix ops i) = true) {d : Nat} (hd : (ix ops i).dst = some d) (hn : N.ok d = true)
    (h : ∀ w' b, St w0 M w' (.box b t cs :: H) Z → More H0 Z0 (.box b t cs :: H) Z → WD P N (SS w0 M H0 Z0) ops q l (up f d (.pointer (some ⟨b, 0, none⟩))) w' Q) : WDo P N (SS w0 M H0 Z0) ops q i l f w Q :=
  .val hi hg hd hn (run_allocOp ho hz) ((hM.chunk _).ss (hS.newBox _ _)) (by rw [cellsO_eq hcs]; exact h _ _ (hS.newBox _ _) (hM.chunk _))
end
theorem St.ownSlY {w0 w : World} {M : List Nat} {D H : List Chunk} {Z : List Snap} {α : Type} {enc : α → List Value} {sz : Nat} {hsz : ∀ x, (enc x).length = sz} {e : TypeId} {A : Option Addr} {n cap n' : Nat} {l : List α} (h0 : 0 < sz) (hS : St w0 M w (D ++ H) Z) (hm : Chunk.own (.slice A n cap) e sz n' (l.flatMap enc) ∈ H) :
    SlAt (Cod.flat enc sz hsz) (fun b => b < w.heap.size ∧ b ∉ fps D) w A l :=
  SlAt.ofOwn h0 (hS.holds _ (List.mem_append_right _ hm)) fun g hg => by
    refine ⟨(hS.inb _ (List.mem_append_right _ hm) g (by simp [Chunk.fp, hg])).1, fun hf => ?_⟩
    obtain ⟨c, hc, hb⟩ := mem_fps.1 hf
    exact (List.pairwise_append.1 hS.disj).2.2 c hc _ hm g hb (by simp [Chunk.fp, hg])
theorem InL.none (w : World) : InL w [] := ⟨fun c hc => (by cases hc), fun c hc => (by cases hc), .nil⟩
end Go.J
