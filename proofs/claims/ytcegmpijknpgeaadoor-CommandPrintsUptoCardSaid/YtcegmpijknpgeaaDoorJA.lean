/- What is proved: the walk's rules for rows of the call's own (append, index, store), for calls that make or change objects, and for objects opened and closed. Conditions: as each rule names them. -/
import Derived.Test.YtcegmpijknpgeaaDoorJS
import Derived.Test.YtcegmpijknpgeaaDoorJB
import Derived.Maps.AppendAt
set_option linter.unusedSimpArgs false
set_option linter.unusedVariables false
namespace Go.J
open Go Go.RowKit

/-! ## Objects -/
/-- c is new and holds -/
structure New (w w' : World) (c : Chunk) : Prop where
  holds : c.holds w'
  fp : ∀ b ∈ c.fp, w.heap.size ≤ b ∧ b < w'.heap.size
/-- c has become c' -/
structure Mut (w w' : World) (c c' : Chunk) : Prop where
  upd : Upd c.fp w w'
  holds : c'.holds w'
  fp : ∀ b ∈ c'.fp, b ∈ c.fp ∨ (w.heap.size ≤ b ∧ b < w'.heap.size)
def inB (c : Chunk) (w : World) : Prop := ∀ b ∈ c.fp, b < w.heap.size

section
variable {w0 w w' : World} {M : List Nat} {H H' : List Chunk} {Z : List Snap} {c c' : Chunk}
theorem St.new (hS : St w0 M w H Z) (hu : Upd [] w w') (hn : New w w' c) : St w0 M w' (c :: H) Z := hS.push hu hn.holds hn.fp
theorem St.mut (hS : St w0 M w H Z) (hm : Mut w w' c c') (hr : Repl c c' H H') : St w0 M w' H' Z := hS.step hr hm.upd hm.holds hm.fp
theorem St.newOf (hS : St w0 [] w H Z) (hc : c ∈ H) : New w0 w c :=
  ⟨hS.holds c hc, fun b hb => by have h := hS.inb c hc b hb; simp at h; exact ⟨h.2, h.1⟩⟩
theorem St.mutOf (hS : St w0 c.fp w H Z) (hc : c' ∈ H) : Mut w0 w c c' :=
  ⟨hS.upd, hS.holds c' hc, fun b hb => by
    have h := hS.inb c' hc b hb
    rcases h.2 with h2 | h2
    · exact .inr ⟨h2, h.1⟩
    · exact .inl h2⟩
theorem St.initM (hc : c.holds w) (hb : inB c w) : St w c.fp w [c] [⟨w, fun b => b < w.heap.size ∧ b ∉ c.fp⟩] :=
  ⟨.refl _ _, by simpa using hc, fun d hd b hm => by simp at hd; subst hd; exact ⟨hb b hm, .inr hm⟩, by simp, fun z hz b hbz => by
    simp at hz; subst hz; exact ⟨hbz.1, rfl, fun d hd => by simp at hd; subst hd; exact hbz.2⟩⟩
theorem St.inB_of (hS : St w0 M w H Z) (hc : c ∈ H) : inB c w := fun b hb => (hS.inb c hc b hb).1
/-- an object taken apart -/
theorem St.opens {D : List Chunk} (hS : St w0 M w (c :: H) Z) (hd : ∀ d ∈ D, d.holds w) (hp : D.Pairwise Chunk.apart) (hf : ∀ d ∈ D, ∀ b ∈ d.fp, b ∈ c.fp) : St w0 M w (D ++ H) Z where
  upd := hS.upd
  holds := fun d hdm => by
    rcases List.mem_append.1 hdm with h | h
    · exact hd d h
    · exact hS.holds d (by simp [h])
  inb := fun d hdm b hb => by
    rcases List.mem_append.1 hdm with h | h
    · exact hS.inb c (by simp) b (hf d h b hb)
    · exact hS.inb d (by simp [h]) b hb
  disj := by
    have hq := List.pairwise_cons.1 hS.disj
    refine List.pairwise_append.2 ⟨hp, hq.2, fun d hdm e he b hb hbe => ?_⟩
    exact hq.1 e he b (hf d hdm b hb) hbe
  snap := fun z hz b hb => by
    obtain ⟨h1, h2, h3⟩ := hS.snap z hz b hb
    refine ⟨h1, h2, fun d hdm hbd => ?_⟩
    rcases List.mem_append.1 hdm with h | h
    · exact h3 c (by simp) (hf d h b hbd)
    · exact h3 d (by simp [h]) hbd
/-- parts put together to an object -/
theorem St.closes {D : List Chunk} (hS : St w0 M w (D ++ H) Z) (hc : c.holds w) (hf : ∀ b ∈ c.fp, ∃ d ∈ D, b ∈ d.fp) : St w0 M w (c :: H) Z where
  upd := hS.upd
  holds := fun d hdm => by
    rcases List.mem_cons.1 hdm with rfl | h
    · exact hc
    · exact hS.holds d (by simp [h])
  inb := fun d hdm b hb => by
    rcases List.mem_cons.1 hdm with rfl | h
    · obtain ⟨e, he, hbe⟩ := hf b hb; exact hS.inb e (by simp [he]) b hbe
    · exact hS.inb d (by simp [h]) b hb
  disj := by
    have hq := List.pairwise_append.1 hS.disj
    refine List.pairwise_cons.2 ⟨fun e he b hb hbe => ?_, hq.2.1⟩
    obtain ⟨d, hd, hbd⟩ := hf b hb
    exact hq.2.2 d hd e he b hbd hbe
  snap := fun z hz b hb => by
    obtain ⟨h1, h2, h3⟩ := hS.snap z hz b hb
    refine ⟨h1, h2, fun d hdm hbd => ?_⟩
    rcases List.mem_cons.1 hdm with rfl | h
    · obtain ⟨e, he, hbe⟩ := hf b hbd; exact h3 e (by simp [he]) hbe
    · exact h3 d (by simp [h]) hbd
/-- chunks in another order -/
theorem St.perm (hS : St w0 M w H Z) (hp : H.Perm H') : St w0 M w H' Z :=
  ⟨hS.upd, fun c hc => hS.holds c (hp.mem_iff.2 hc), fun c hc => hS.inb c (hp.mem_iff.2 hc), (hp.pairwise_iff (fun h => Chunk.apart_symm h)).1 hS.disj, fun z hz b hb => by
    obtain ⟨h1, h2, h3⟩ := hS.snap z hz b hb
    exact ⟨h1, h2, fun c hc => h3 c (hp.mem_iff.2 hc)⟩⟩
/-- a chunk taken to the front -/
inductive Pull (c : Chunk) : List Chunk → List Chunk → Prop where
  | here {r : List Chunk} : Pull c (c :: r) r
  | there {d : Chunk} {r r' : List Chunk} : Pull c r r' → Pull c (d :: r) (d :: r')
theorem Pull.perm {c : Chunk} {H H' : List Chunk} (h : Pull c H H') : H.Perm (c :: H') := by
  induction h with
  | here => exact .refl _
  | there _ ih => exact (List.Perm.cons _ ih).trans (.swap _ _ _)
theorem St.pull (hS : St w0 M w H Z) (h : Pull c H H') : St w0 M w (c :: H') Z := hS.perm h.perm
theorem St.unpull (hS : St w0 M w (c :: H) Z) (h : Pull c H' H) : St w0 M w H' Z := hS.perm h.perm.symm
/-- one chunk said in another way -/
theorem St.recast (hS : St w0 M w H Z) (hr : Repl c c' H H') (hc : c.holds w → c'.holds w) (hf : ∀ b ∈ c'.fp, b ∈ c.fp) : St w0 M w H' Z :=
  hS.step hr (.refl _ _) (hc (hS.holds c hr.mem)) fun b hb => .inl (hf b hb)
/-- a row that is nil -/
theorem St.nilRow (hS : St w0 M w H Z) (e : TypeId) (size : Nat) : St w0 M w (.own (.slice none 0 0) e size 0 [] :: H) Z :=
  hS.push (.refl _ _) (RowAt.of_owns (World.ownsRow_nil w 0 e size)) fun b hb => by simp [Chunk.fp, Value.ownBlock] at hb
/-- a box is a row -/
theorem St.boxRow {b : Nat} {e : TypeId} {cs : List Value} {n size : Nat} (hS : St w0 M w H Z) (hr : Repl (.box b e cs) (.own (.slice (some ⟨b, 0, none⟩) n n) e size n cs) H H') (hl : cs.length = n * size) (hm : n ≤ maxLen) : St w0 M w H' Z :=
  hS.recast hr (fun h => ⟨hl, .inr ⟨b, 0, n, cs, rfl, h, Nat.le_refl _, hm, by omega, by rw [← hl]; simp⟩⟩) fun b' hb' => by simpa [Chunk.fp, Value.ownBlock] using hb'
/-- snapshots and chunks that are needed no more -/
theorem St.less {Z' : List Snap} (hS : St w0 M w H Z) (hz : ∀ z ∈ Z', z ∈ Z) : St w0 M w H Z' := ⟨hS.upd, hS.holds, hS.inb, hS.disj, fun z h => hS.snap z (hz z h)⟩
theorem St.own_len {A : Option Addr} {n cap n' : Nat} {e : TypeId} {size : Nat} {xs : List Value} (hS : St w0 M w H Z) (hm : Chunk.own (.slice A n cap) e size n' xs ∈ H) : xs.length = n' * size ∧ n = n' ∧ n ≤ cap := by
  have h : RowAt w e size _ n' xs := hS.holds _ hm
  refine ⟨h.1, ?_⟩
  rcases h.2 with ⟨h1, h2⟩ | ⟨g, off, cap', cur, h1, _, h3, _⟩
  · simp at h1; omega
  · simp at h1; omega
theorem St.own_addr {A : Option Addr} {n cap n' : Nat} {e : TypeId} {size : Nat} {xs : List Value} (hS : St w0 M w H Z) (hm : Chunk.own (.slice A n cap) e size n' xs ∈ H) (h0 : 0 < n) : ∃ g off, A = some ⟨g, off, none⟩ := by
  have h : RowAt w e size _ n' xs := hS.holds _ hm
  rcases h.2 with ⟨h1, h2⟩ | ⟨g, off, cap', cur, h1, _, h3, _⟩
  · simp at h1; omega
  · simp at h1; exact ⟨g, off, h1.1⟩
end

/-- an object: its parts, as the form φ says -/
def ObjIs (φ : List Chunk → Prop) (fp : List Nat) (w : World) : Prop := ∃ D, φ D ∧ fp = D.flatMap Chunk.fp ∧ D.Pairwise Chunk.apart ∧ ∀ d ∈ D, d.holds w
theorem ObjIs.local {φ : List Chunk → Prop} {fp : List Nat} : Local fp (ObjIs φ fp) := fun w w' h ⟨D, h1, h2, h3, h4⟩ => by
  subst h2
  exact ⟨D, h1, rfl, h3, fun d hd => Chunk.keep (h4 d hd) fun b hb => h b (List.mem_flatMap.2 ⟨d, hd, hb⟩)⟩
abbrev objC (φ : List Chunk → Prop) (fp : List Nat) : Chunk := .obj fp (ObjIs φ fp)
section
variable {w0 w : World} {M : List Nat} {H : List Chunk} {Z : List Snap} {φ : List Chunk → Prop}
theorem St.objOpen {fp : List Nat} (hS : St w0 M w (objC φ fp :: H) Z) : ∃ D, φ D ∧ fp = D.flatMap Chunk.fp ∧ St w0 M w (D ++ H) Z := by
  obtain ⟨D, h1, h2, h3, h4⟩ := (hS.holds _ (List.Mem.head _)).1
  exact ⟨D, h1, h2, hS.opens h4 h3 fun d hd b hb => by rw [h2]; exact List.mem_flatMap.2 ⟨d, hd, hb⟩⟩
theorem St.objClose {D : List Chunk} (hS : St w0 M w (D ++ H) Z) (h : φ D) : St w0 M w (objC φ (D.flatMap Chunk.fp) :: H) Z :=
  hS.closes ⟨⟨D, h, rfl, (List.pairwise_append.1 hS.disj).1, fun d hd => hS.holds d (by simp [hd])⟩, ObjIs.local⟩ fun b hb => by
    obtain ⟨d, hd, hbd⟩ := List.mem_flatMap.1 hb
    exact ⟨d, hd, hbd⟩
end

/-! ## Cells that lie there -/
structure RdOk (H : List Chunk) (Z : List Snap) (b o : Nat) (news : List Value) : Prop where
  out : ∀ w0 M w (Hn : List Chunk) (Zn : List Snap), St w0 M w (Hn ++ H) (Zn ++ Z) → ∀ j u, news[j]? = some u → w.cell? ⟨b, o + j, none⟩ = some u
section
variable {H : List Chunk} {Z : List Snap} {b o : Nat} {cs : List Value}
theorem RdOk.box {t : TypeId} (hm : Chunk.box b t cs ∈ H) : RdOk H Z b 0 cs :=
  ⟨fun w0 M w Hn Zn hS => cell_box (hS.holds _ (List.mem_append_right _ hm))⟩
theorem RdOk.snap {wz : World} {F : Nat → Prop} (hF : F b) (hr : wz.rangeAt b o cs) (hz : Snap.mk wz F ∈ Z) : RdOk H Z b o cs :=
  ⟨fun w0 M w Hn Zn hS j u hu => by
    obtain ⟨_, h2, _⟩ := hS.snap _ (List.mem_append_right _ hz) b hF
    rw [World.cell?_of_block (w := wz) h2]
    exact hr j u hu⟩
theorem RdOk.own {off n cap n' : Nat} {e : TypeId} {size : Nat} {xs : List Value} (hm : Chunk.own (.slice (some ⟨b, off, none⟩) n cap) e size n' xs ∈ H) (hx : (xs.drop o).take cs.length = cs) : RdOk H Z b (off + o) cs :=
  ⟨fun w0 M w Hn Zn hS j u hu => by
    have hb : RowAt w e size _ n' xs := hS.holds _ (List.mem_append_right _ hm)
    rw [← hx, List.getElem?_take] at hu
    split at hu
    · rw [List.getElem?_drop] at hu
      have := hb.cells _ u hu
      rwa [← Nat.add_assoc] at this
    · cases hu⟩
theorem RdOk.own0 {off n cap n' : Nat} {e : TypeId} {size : Nat} {xs : List Value} (hm : Chunk.own (.slice (some ⟨b, off, none⟩) n cap) e size n' xs ∈ H) : RdOk H Z b off xs :=
  ⟨fun w0 M w Hn Zn hS => (show RowAt w e size _ n' xs from hS.holds _ (List.mem_append_right _ hm)).cells⟩
end

/-! ## append -/
def appOf (P : Program) (t : TypeId) : Option (TypeId × Nat × Nat) := match P.underlying t with
  | some (.slice e) => match P.info? e with
    | some ⟨_, _, size, bytes, _, _, _, some z, _, _⟩ => match cellsO z with
      | some zs => match Nat.beq zs.length size && Nat.blt 0 size && Nat.blt 0 bytes with
        | true => some (e, size, bytes)
        | false => none
      | none => none
    | _ => none
  | _ => none
theorem appOf_spec {P : Program} {t e : TypeId} {size bytes : Nat} (h : appOf P t = some (e, size, bytes)) :
    ∃ i z, P.underlying t = some (.slice e) ∧ P.info? e = some i ∧ i.zero = some z ∧ i.size = size ∧ i.bytes = bytes ∧ z.cells.size = size ∧ 0 < size ∧ 0 < bytes := by
  unfold appOf at h
  split at h
  · rename_i e' hu
    split at h
    · rename_i d s size' bytes' hp al fa z x y hi
      split at h
      · rename_i zs hzs
        split at h
        · rename_i hb
          simp only [Option.some.injEq, Prod.mk.injEq] at h
          obtain ⟨rfl, rfl, rfl⟩ := h
          simp only [Bool.and_eq_true] at hb
          refine ⟨_, z, hu, hi, rfl, rfl, rfl, ?_, Nat.le_of_ble_eq_true hb.1.2, Nat.le_of_ble_eq_true hb.2⟩
          rw [cells_mk, cellsO_eq hzs]
          exact Nat.eq_of_beq_eq_true hb.1.1
        · cases h
      · cases h
    · cases h
  · cases h
section
variable {P : Program} {N : Nat} {f : Fr} {w w0 : World} {Q : Post} {ops l : List Oper} {o : Oper} {M : List Nat} {H H' : List Chunk} {Z : List Snap} {ρ : Operand → Value}
def one (vs : List Value) : Bool := vs.all (·.oneCell')
theorem run_append_off (t ty e : TypeId) (i : TypeInfo) (ht : P.underlying t = some (.slice e)) (hi : P.info? e = some i)
    (g off sLen sCap : Nat) (cur : List Value) (hg : w.heap[g]? = some (.cells ⟨cur⟩ e (0, 0)))
    (a : Addr) (m c : Nat) (news : List Value) (hl : news.length = m * i.size) (hnews : ∀ j u, news[j]? = some u → w.cell? (a.add j) = some u) (h1 : ∀ u ∈ news, u.oneCell' = true)
    (hroom : sLen + m ≤ sCap) (hfit : off + sLen * i.size + news.length ≤ cur.length) :
    (Builtin.append_ #[t, t] ty #[.slice (some ⟨g, off, none⟩) sLen sCap, .slice (some a) m c]).run P w =
      .ok (.slice (some ⟨g, off, none⟩) (sLen + m) sCap) (w.setRow g ⟨cur.take (off + sLen * i.size) ++ news ++ cur.drop (off + sLen * i.size + news.length)⟩) := by
  have hf := run_firstCells_some (P := P) w i.size m a m c news hl hnews
  have hst := run_storeCells_at P g (off + sLen * i.size) e news 0 ⟨cur⟩ w hg (by simpa using hfit) h1
  simp only [Nat.add_zero] at hst
  simp [Builtin.append_, run_underlying ht, sizeOf, typeInfo, hi, Builtin.lenOf, hroom, hf, Addr.add_mid, hst]
theorem drop_take_app {α : Type} (cur news : List α) (off k : Nat) (h : off + k + news.length ≤ cur.length) :
    ((cur.take (off + k) ++ news ++ cur.drop (off + k + news.length)).drop off).take (k + news.length) = (cur.drop off).take k ++ news := by
  rw [List.append_assoc, List.drop_append_of_le_length (by simp; omega), List.drop_take]
  rw [show off + k - off = k by omega]
  rw [← List.append_assoc, List.take_append_of_le_length (by simp; omega)]
  rw [List.take_of_length_le (by simp; omega)]
theorem run_appOp {s x : Operand} {t e : TypeId} {size bytes n m cap c b off : Nat} {A : Option Addr} {xs news : List Value} (ho : o.op = .call ⟨.builtin .append, ⟨[s, x]⟩, ⟨[t, t]⟩⟩) (hi : appOf P t = some (e, size, bytes))
    (hs : ρ s = .slice A n cap) (hx : ρ x = .slice (some ⟨b, off, none⟩) m c) (hown : RowAt w e size (.slice A n cap) n xs) (hnews : ∀ j u, news[j]? = some u → w.cell? ⟨b, off + j, none⟩ = some u) (hl : news.length = m * size) (h1 : one news = true)
    (hb : (n + m) * bytes ≤ 140737488355328) :
    ∃ A' cap' w', (execOp ρ o).run P w = .ok (.value (.slice A' (n + m) cap')) w' ∧ RowAt w' e size (.slice A' (n + m) cap') (n + m) (xs ++ news) ∧ Upd (Value.slice A n cap).ownBlock.toList w w' ∧ (∀ g, (Value.slice A' (n + m) cap').ownBlock = some g → (Value.slice A n cap).ownBlock = some g ∨ (w.heap.size ≤ g ∧ g < w'.heap.size)) := by
  obtain ⟨i, z, hu, hinfo, hz, rfl, rfl, hzs, h0, h0b⟩ := appOf_spec hi
  have hle : n + m ≤ (n + m) * i.bytes := Nat.le_mul_of_pos_right _ h0b
  have hmx : n + m ≤ maxLen := by unfold maxLen; omega
  have hnews' : ∀ j u, news[j]? = some u → w.cell? ((⟨b, off, none⟩ : Addr).add j) = some u := fun j u hj => by rw [Addr.add_mid]; exact hnews j u hj
  have h1' : ∀ u ∈ news, u.oneCell' = true := by simpa [one] using h1
  have hlen : (xs ++ news).length = (n + m) * i.size := by rw [List.length_append, hown.1, hl, Nat.add_mul]
  have run : ∀ v' w', (Builtin.append_ #[t, t] o.type #[.slice A n cap, .slice (some ⟨b, off, none⟩) m c]).run P w = .ok v' w' → (execOp ρ o).run P w = .ok (.value v') w' := fun v' w' hr => by
    unfold execOp
    simp only [ho, resolve, invoke, builtin, Sem.run_bind, Sem.run_pure, Result.andThen_ok, List.map_toArray, List.map_cons, List.map_nil, hs, hx, hr]
  have grown : ∀ old, old < n + m → RowAt (w.drew.alloc (.cells (xs.toArray ++ news.toArray ++ Builtin.zeroCells z.cells (grownCap w (n + m) old e - (n + m))) e)) e i.size
        (.slice (some ⟨w.heap.size, 0, none⟩) (n + m) (grownCap w (n + m) old e)) (n + m) (xs ++ news) := by
    intro old ho
    have hge := grownCap_ge w (n + m) old e
    have hcm : grownCap w (n + m) old e ≤ maxLen := grownCap_le_maxLen w (n + m) old e hmx
    refine ⟨hlen, .inr ⟨w.heap.size, 0, _, (xs.toArray ++ news.toArray ++ Builtin.zeroCells z.cells (grownCap w (n + m) old e - (n + m))).toList, rfl, heap_alloc_new w.drew _, hge, hcm, ?_, ?_⟩⟩
    · simp only [Array.length_toList, Array.size_append, List.size_toArray, size_zeroCells, hzs, hown.1, hl, ← Nat.add_mul, Nat.zero_add]
      exact Nat.mul_le_mul_right _ (by omega)
    · simp only [Array.toList_append, List.append_assoc, List.drop_zero]
      rw [← List.append_assoc, ← hlen]
      exact List.take_left
  have hup : ∀ (fp : List Nat) (ob : Obj), Upd fp w (w.drew.alloc ob) := fun fp ob => (Upd.drew fp w).trans (.alloc _ _ _)
  have hnew : ∀ ob : Obj, ∀ g, (Value.slice (some ⟨w.heap.size, 0, none⟩) (n + m) 0).ownBlock = some g → w.heap.size ≤ g ∧ g < (w.drew.alloc ob).heap.size := fun ob g hg => by
    simp only [Value.ownBlock, Option.some.injEq] at hg
    subst hg
    simp
  rcases hown.2 with ⟨h2, rfl⟩ | ⟨g, og, cap0, cur, h2, hgg, hnc, hcm, hcs, htake⟩
  · simp only [Value.slice.injEq] at h2
    obtain ⟨rfl, _, rfl⟩ := h2
    have hx0 : xs = [] := List.eq_nil_of_length_eq_zero (by simpa using hown.1)
    subst hx0
    by_cases hm : m = 0
    · subst hm
      have hn : news = [] := List.eq_nil_of_length_eq_zero (by simpa using hl)
      subst hn
      refine ⟨none, 0, w, run _ _ ?_, ⟨by simp, .inl ⟨rfl, rfl⟩⟩, .refl _ _, fun g hg => by simp [Value.ownBlock] at hg⟩
      simp [Builtin.append_, run_underlying hu, sizeOf, typeInfo, hinfo, Builtin.lenOf, Builtin.firstCells, loadCells, loadCellsFrom]
    · have hr := run_append_nil (P := P) w t o.type e i z hu hinfo hz ⟨b, off, none⟩ m c news hl hnews' (by omega) (by omega) (by have hb := hb; simp only [Nat.zero_add] at hb; omega)
      have hgr := grown 0 (by omega)
      simp only [Nat.zero_add, List.nil_append, Array.empty_append] at hgr ⊢
      exact ⟨_, _, _, run _ _ hr, hgr, hup _ _, fun g hg => .inr (hnew _ g hg)⟩
  · simp only [Value.slice.injEq] at h2
    obtain ⟨rfl, _, rfl⟩ := h2
    by_cases hroom : n + m ≤ cap
    · have hns : (n + m) * i.size ≤ cap * i.size := Nat.mul_le_mul_right _ hroom
      rw [Nat.add_mul] at hns
      have hfit : og + n * i.size + news.length ≤ cur.length := by rw [hl]; omega
      have hr := run_append_off (P := P) t o.type e i hu hinfo g og n cap cur hgg ⟨b, off, none⟩ m c news hl hnews' h1' hroom hfit
      refine ⟨_, _, _, run _ _ hr, ⟨hlen, .inr ⟨g, og, cap, _, rfl, heap_setRow hgg, hroom, hcm, ?_, ?_⟩⟩, (Upd.setRow _ _ _).mono (by simp [Value.ownBlock]), fun g' hg' => .inl hg'⟩
      · simp only [List.length_append, List.length_take, List.length_drop]; omega
      · rw [Nat.add_mul, ← hl]
        rw [drop_take_app cur news og (n * i.size) hfit, htake]
    · have holds : ∀ j u, xs[j]? = some u → w.cell? ((⟨g, og, none⟩ : Addr).add j) = some u := fun j u hj => by rw [Addr.add_mid]; exact hown.cells j u hj
      have hr := run_append_grow (P := P) w t o.type e i z hu hinfo hz ⟨g, og, none⟩ n cap xs hown.1 holds ⟨b, off, none⟩ m c news hl hnews' (by omega) (by omega) (growslice_fits (by omega) hb)
      exact ⟨_, _, _, run _ _ hr, grown cap (by omega), hup _ _, fun g hg => .inr (hnew _ g hg)⟩
theorem St.app {e : TypeId} {size n m cap cap' : Nat} {A A' : Option Addr} {xs ys : List Value} (hS : St w0 M w H Z) {w' : World} (hr : Repl (.own (.slice A n cap) e size n xs) (.own (.slice A' m cap') e size m ys) H H')
    (hown' : RowAt w' e size (.slice A' m cap') m ys) (hg : Upd (Value.slice A n cap).ownBlock.toList w w') (hat : ∀ g, (Value.slice A' m cap').ownBlock = some g → (Value.slice A n cap).ownBlock = some g ∨ (w.heap.size ≤ g ∧ g < w'.heap.size)) : St w0 M w' H' Z := by
  refine hS.step hr hg hown' fun b hb => ?_
  have hb' : (Value.slice A' m cap').ownBlock = some b := by simpa [Chunk.fp] using hb
  rcases hat b hb' with h | h
  · exact .inl (by simpa [Chunk.fp] using h)
  · exact .inr h
/-- append to a row of the call's own -/
theorem WL.app {s x : Operand} {t e : TypeId} {size bytes n m cap c b off : Nat} {A : Option Addr} {xs news : List Value} {H' : Option Addr → Nat → List Chunk} (hS : St w0 M w H Z) (ho : o.op = .call ⟨.builtin .append, ⟨[s, x]⟩, ⟨[t, t]⟩⟩) (hi : appOf P t = some (e, size, bytes))
    (hs : ev f s = .slice A n cap) (hx : ev f x = .slice (some ⟨b, off, none⟩) m c) (hnews : RdOk H Z b off news) (hl : news.length = m * size) (h1 : one news = true)
    (hr : ∀ A' cap', Repl (.own (.slice A n cap) e size n xs) (.own (.slice A' (n + m) cap') e size (n + m) (xs ++ news)) H (H' A' cap')) (hb : (n + m) * bytes ≤ 140737488355328)
    (hg : wants ops f o = true) {d : Nat} (hd : o.dst = some d) (hn : Nat.blt d N = true)
    (h : ∀ A' cap' w', St w0 M w' (H' A' cap') Z → WL P N ops l (up f d (.slice A' (n + m) cap')) w' Q) : WL P N ops (o :: l) f w Q := by
  obtain ⟨A', cap', w', hrun, hown', hgr, hat⟩ := run_appOp (P := P) (w := w) ho hi hs hx (hS.holds _ (hr none 0).mem) (hnews.out w0 M w [] [] hS) hl h1 hb
  exact .val hg hd hn hrun (h A' cap' w' (hS.app (hr A' cap') hown' hgr hat))

/-! ## Elements of a row -/
/-- cells of a row written over -/
theorem spl_ok : ∀ {cs : List Value} {o : Nat} {vs : List Value}, o + vs.length ≤ cs.length → one vs = true → spl cs o vs = some (cs.take o ++ vs ++ cs.drop (o + vs.length))
  | cs, 0, [], _, _ => by cases cs <;> simp [spl]
  | [], 0, v :: vs, h, _ => by simp at h
  | c :: r, 0, v :: vs, h, h1 => by
    have h1' : v.oneCell' = true ∧ one vs = true := by simpa [one] using h1
    simp only [spl, h1'.1]
    rw [spl_ok (cs := r) (o := 0) (by simp at h ⊢; omega) h1'.2]
    simp
  | [], o + 1, vs, h, _ => by simp at h
  | c :: r, o + 1, vs, h, h1 => by
    simp only [spl]
    rw [spl_ok (cs := r) (o := o) (by simp at h; omega) h1]
    simp [show o + 1 + vs.length = o + vs.length + 1 by omega]
theorem run_storeOwn {w : World} {ty : TypeId} {x y : Operand} {g off0 off n cap n' : Nat} {e : TypeId} {size : Nat} {xs vs : List Value} (ho : o.op = .store ty x y) (hx : ρ x = .pointer (some ⟨g, off0 + off, none⟩)) (hy : cellsL (ρ y) = vs)
    (hown : RowAt w e size (.slice (some ⟨g, off0, none⟩) n cap) n' xs) (hfit : off + vs.length ≤ xs.length) (h1 : one vs = true) (hn : tySize P ty = some vs.length) :
    ∃ cs', (execOp ρ o).run P w = .ok .skip (w.setRow g ⟨cs'⟩) ∧ RowAt (w.setRow g ⟨cs'⟩) e size (.slice (some ⟨g, off0, none⟩) n cap) n' (xs.take off ++ vs ++ xs.drop (off + vs.length)) := by
  obtain ⟨hl, h2⟩ := hown
  rcases h2 with ⟨h2, _⟩ | ⟨g', og, cap', cur, he, hh, hnc, hcm, hcs, htake⟩
  · simp at h2
  · simp only [Value.slice.injEq, Option.some.injEq, Addr.mk.injEq, and_true] at he
    obtain ⟨⟨rfl, rfl⟩, rfl, rfl⟩ := he
    have hxl : off0 + xs.length ≤ cur.length := by
      have : xs.length ≤ (cur.drop off0).length := by rw [← htake]; simp; omega
      have h3 : n * size ≤ cap * size := Nat.mul_le_mul_right _ hnc
      omega
    have hs := spl_ok (cs := cur) (o := off0 + off) (vs := vs) (by omega) h1
    refine ⟨_, run_storeBox ho hx (cs := cur) hh (by rw [hy]; exact hs) (by rw [hy]; exact hn), ?_, ?_⟩
    · simp; omega
    · refine .inr ⟨g, off0, cap, _, rfl, heap_setRow hh, hnc, hcm, ?_, ?_⟩
      · simp; omega
      · have hmin : n * size = xs.length := hl.symm
        rw [hmin]
        have e1 : xs = (cur.drop off0).take xs.length := by rw [← hmin]; exact htake.symm
        have e2 : xs.take off = (cur.drop off0).take off := by rw [e1, List.take_take, Nat.min_eq_left (by omega)]
        have e3 : xs.drop (off + vs.length) = (cur.drop (off0 + off + vs.length)).take (xs.length - (off + vs.length)) := by
          conv => lhs; rw [e1]
          rw [List.drop_take, List.drop_drop, Nat.add_assoc]
        rw [e2, e3, List.append_assoc, List.drop_append_of_le_length (by simp; omega), List.drop_take, show off0 + off - off0 = off by omega]
        rw [← List.append_assoc, List.take_append, List.take_of_length_le (by simp; omega)]
        have hq : ((cur.drop off0).take off ++ vs).length = off + vs.length := by rw [List.length_append, List.length_take, List.length_drop, Nat.min_eq_left (by omega)]
        rw [hq]
/-- a store into a row -/
theorem WL.storeOwn {ty : TypeId} {x y : Operand} {g off0 off n cap n' : Nat} {e : TypeId} {size : Nat} {xs vs : List Value} (hS : St w0 M w H Z) (ho : o.op = .store ty x y) (hx : ev f x = .pointer (some ⟨g, off0 + off, none⟩)) (hy : cellsO (ev f y) = some vs)
    (hr : Repl (.own (.slice (some ⟨g, off0, none⟩) n cap) e size n' xs) (.own (.slice (some ⟨g, off0, none⟩) n cap) e size n' (xs.take off ++ vs ++ xs.drop (off + vs.length))) H H') (hfit : off + vs.length ≤ xs.length) (h1 : one vs = true) (hn : tySize P ty = some vs.length)
    (hg : wants ops f o = true) (hd : o.dst = none) (h : ∀ w', St w0 M w' H' Z → WL P N ops l f w' Q) : WL P N ops (o :: l) f w Q := by
  obtain ⟨cs', hrun, hown'⟩ := run_storeOwn (P := P) ho hx (cellsO_eq hy) (hS.holds _ hr.mem) hfit h1 hn
  exact .unit0 hg hd hrun (h _ (hS.step hr ((Upd.setRow _ _ _).mono (by simp [Chunk.fp, Value.ownBlock])) hown' fun b hb => .inl hb))
/-- a call, whatever it does -/
theorem WL.callG {fid : FuncId} {xs : List Operand} {ts : Array TypeId} {args : List Value} {R : Value → World → Prop} (ho : o.op = .call ⟨.value (.func fid), ⟨xs⟩, ts⟩) (ha : xs.map (ev f) = args)
    (hc : Cal P fid args w R) (hg : wants ops f o = true) {d : Nat} (hd : o.dst = some d) (hn : Nat.blt d N = true)
    (h : ∀ v w', R v w' → WL P N ops l (up f d v) w' Q) : WL P N ops (o :: l) f w Q :=
  .enter hg hd hn (run_callOp ho ha hc.ok) hc.calls h
end

/-- the function begins with an object that it may change -/
theorem Cal.mkM {P : Program} {fid : FuncId} {fn : Func} {c : Code} {args : List Value} {w : World} {R : Value → World → Prop} {k : Chunk} (hc : k.holds w) (hi : inB k w) (hk : callOk P fid = true)
    (hf : P.funcs[fid]? = some fn) (hb : fn.body = some c) (hn : Nat.ble args.length fn.ntmps = true)
    (h : St w k.fp w [k] [⟨w, fun b => b < w.heap.size ∧ b ∉ k.fp⟩] → WC P fn.ntmps c (fr0 args) w (funQ P fn.results fn (Ret R))) : Cal P fid args w R :=
  ⟨hk, J.calls hf hb hn (h (St.initM hc hi))⟩

/-! ## Rows that read as lists -/
/-- a row of the call's own, as the list that it reads as -/
theorem SlAt.ofOwn {α : Type} {enc : α → List Value} {sz : Nat} {hsz : ∀ x, (enc x).length = sz} {w : World} {e : TypeId} {A : Option Addr} {n cap n' : Nat} {l : List α} {F : Nat → Prop} (h0 : 0 < sz) (h : RowAt w e sz (.slice A n cap) n' (l.flatMap enc))
    (hF : ∀ g, (Value.slice A n cap).ownBlock = some g → F g) : SlAt (Cod.flat enc sz hsz) F w A l := by
  intro k hk
  have hlen : (l.flatMap enc).length = l.length * sz := by
    clear h hk
    induction l with
    | nil => simp
    | cons a l ih => simp only [List.flatMap_cons, List.length_append, hsz, ih, List.length_cons, Nat.add_mul]; omega
  have hnl : n' = l.length := Nat.eq_of_mul_eq_mul_right h0 (h.1.symm.trans hlen)
  rcases h.2 with ⟨_, h2⟩ | ⟨g, og, cap', cur, he, hh, hnc, hcm, hcs, htake⟩
  · omega
  · simp only [Value.slice.injEq] at he
    obtain ⟨rfl, rfl, rfl⟩ := he
    refine ⟨g, og, enc l[k], rfl, hF g rfl, fun j v hv => ?_, rfl⟩
    have := h.cells (k * sz + j) v ?_
    · rw [← this]
      congr 2
      show og + k * sz + j = og + (k * sz + j)
      omega
    · have hjl : j < sz := by rw [← hsz l[k]]; exact (List.getElem?_eq_some_iff.1 hv).1
      clear h htake hlen hnl hcs hnc hh hF
      induction l generalizing k with
      | nil => simp at hk
      | cons a l ih =>
        cases k with
        | zero =>
          simp only [List.getElem_cons_zero] at hv
          simp only [Nat.zero_mul, Nat.zero_add, List.flatMap_cons]
          rw [List.getElem?_append_left (by rw [hsz]; exact hjl)]
          exact hv
        | succ k =>
          simp only [List.getElem_cons_succ] at hv
          simp only [List.flatMap_cons]
          rw [List.getElem?_append_right (by rw [hsz, Nat.add_mul]; omega), hsz]
          have := ih k (by simpa using hk) hv
          rw [← this]
          congr 1
          rw [Nat.add_mul]; omega
/-- list[k:] of a row -/
def cutA (A : Option Addr) (cap j size : Nat) : Option Addr := if cap = j then A else A.map (·.add (j * size))
theorem RowAt.cut {w : World} {e : TypeId} {size n cap j : Nat} {A : Option Addr} {xs : List Value} (h : RowAt w e size (.slice A n cap) n xs) (hj : j ≤ n) : RowAt w e size (.slice (cutA A cap j size) (n - j) (cap - j)) (n - j) (xs.drop (j * size)) := by
  obtain ⟨h1, h2⟩ := h
  have hle : j * size ≤ n * size := Nat.mul_le_mul_right _ hj
  refine ⟨by rw [List.length_drop, h1, Nat.sub_mul], ?_⟩
  unfold cutA
  rcases h2 with ⟨h2, h3⟩ | ⟨g, og, cap', cur, h2, hh, hnc, hcm, hcs, htake⟩
  · simp only [Value.slice.injEq] at h2
    obtain ⟨rfl, _, rfl⟩ := h2
    refine .inl ⟨?_, by omega⟩
    have : j = 0 := by omega
    subst this
    subst h3
    simp
  · simp only [Value.slice.injEq] at h2
    obtain ⟨rfl, _, rfl⟩ := h2
    have hcj : j * size ≤ cap * size := Nat.mul_le_mul_right _ (by omega)
    split
    · rename_i e
      subst e
      refine .inr ⟨g, og, 0, cur, by simp, hh, by omega, by omega, by omega, ?_⟩
      have : n = cap := by omega
      subst this
      simp [List.drop_of_length_le (show xs.length ≤ n * size by omega)]
    · refine .inr ⟨g, og + j * size, cap - j, cur, by simp [Addr.add_mid], hh, by omega, by omega, by rw [Nat.sub_mul]; omega, ?_⟩
      rw [← htake, List.drop_take, List.drop_drop, Nat.sub_mul]
section
variable {P : Program} {N : Nat} {f : Fr} {w w0 : World} {Q : Post} {ops l : List Oper} {o : Oper} {M : List Nat} {H H' : List Chunk} {Z : List Snap}
theorem cutA_own {A : Option Addr} {cap j size n m c : Nat} : ∀ b, (Value.slice (cutA A cap j size) m c).ownBlock = some b → (Value.slice A n cap).ownBlock = some b := by
  intro b hb
  unfold cutA at hb
  split at hb
  · cases A <;> exact hb
  · cases A with
    | none => simp [Value.ownBlock] at hb
    | some a => simp only [Option.map_some, Value.ownBlock, Option.some.injEq] at hb ⊢; rw [← hb]; unfold Addr.add; split <;> rfl
theorem St.cut {A : Option Addr} {e : TypeId} {size n cap j : Nat} {xs : List Value} (hS : St w0 M w H Z) (hr : Repl (.own (.slice A n cap) e size n xs) (.own (.slice (cutA A cap j size) (n - j) (cap - j)) e size (n - j) (xs.drop (j * size))) H H') (hj : j ≤ n) : St w0 M w H' Z :=
  hS.recast hr (fun h => RowAt.cut h hj) fun b hb => by
    simp only [Chunk.fp, Option.mem_toList] at hb ⊢
    exact cutA_own b hb
/-- list[k:] of a row of the call's own -/
theorem WL.sliceOwn {t e : TypeId} {size n cap j : Nat} {x y : Operand} {A : Option Addr} {k : IntKind} {xs : List Value} (hS : St w0 M w H Z) (ho : o.op = .slice t x (some y) none none) (he : elemOf P t = some (e, size)) (hx : ev f x = .slice A n cap) (hy : ev f y = .int k (Int.ofNat j))
    (hr : Repl (.own (.slice A n cap) e size n xs) (.own (.slice (cutA A cap j size) (n - j) (cap - j)) e size (n - j) (xs.drop (j * size))) H H') (hj : j ≤ n)
    (hg : wants ops f o = true) {d : Nat} (hd : o.dst = some d) (hn : Nat.blt d N = true) (h : St w0 M w H' Z → WL P N ops l (up f d (.slice (cutA A cap j size) (n - j) (cap - j))) w Q) : WL P N ops (o :: l) f w Q :=
  .val hg hd hn (run_sliceLow ho he hx hy hj) (h (hS.cut hr hj))
end
end Go.J
