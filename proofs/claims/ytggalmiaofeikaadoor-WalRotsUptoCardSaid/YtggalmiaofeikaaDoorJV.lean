/- What is proved: the walk's rules for maps whose keys are texts: made, asked, written, struck from, their length, gone through. Conditions: as each rule names them. -/
import Derived.Test.YtggalmiaofeikaaDoorJA
import Derived.Maps.RangeRun
set_option linter.unusedSimpArgs false
set_option linter.unusedVariables false
namespace Go.J
open Go Go.RowKit

/-! ## maps as lists of keys and values, in the order of their coming -/
section
variable {β γ : Type}
def mget : List (List UInt8 × β) → List UInt8 → Option β
  | [], _ => none
  | (k, v) :: r, x => if x = k then some v else mget r x
def mset : List (List UInt8 × β) → List UInt8 → β → List (List UInt8 × β)
  | [], x, v => [(x, v)]
  | (k, u) :: r, x, v => if x = k then (k, v) :: r else (k, u) :: mset r x v
def mdel : List (List UInt8 × β) → List UInt8 → List (List UInt8 × β)
  | [], _ => []
  | (k, u) :: r, x => if x = k then r else (k, u) :: mdel r x
def mmap (f : β → γ) (m : List (List UInt8 × β)) : List (List UInt8 × γ) := m.map fun p => (p.1, f p.2)
theorem mget_map (f : β → γ) (x : List UInt8) : ∀ m : List (List UInt8 × β), mget (mmap f m) x = (mget m x).map f
  | [] => rfl
  | (k, v) :: r => by
    have := mget_map f x r
    unfold mmap at this ⊢
    simp only [List.map_cons, mget]
    split
    · rfl
    · exact this
theorem mset_map (f : β → γ) (x : List UInt8) (v : β) : ∀ m : List (List UInt8 × β), mset (mmap f m) x (f v) = mmap f (mset m x v)
  | [] => rfl
  | (k, u) :: r => by
    have := mset_map f x v r
    unfold mmap at this ⊢
    simp only [List.map_cons, mset]
    split
    · rfl
    · simp [this]
theorem mdel_map (f : β → γ) (x : List UInt8) : ∀ m : List (List UInt8 × β), mdel (mmap f m) x = mmap f (mdel m x)
  | [] => rfl
  | (k, u) :: r => by
    have := mdel_map f x r
    unfold mmap at this ⊢
    simp only [List.map_cons, mdel]
    split
    · rfl
    · simp [this]
theorem mget_none {m : List (List UInt8 × β)} {x : List UInt8} : mget m x = none ↔ x ∉ m.map Prod.fst := by
  induction m with
  | nil => simp [mget]
  | cons p r ih =>
    obtain ⟨k, v⟩ := p
    simp only [mget, List.map_cons, List.mem_cons, not_or]
    split
    · rename_i h; simp [h]
    · rename_i h; rw [ih]; exact ⟨fun h2 => ⟨h, h2⟩, fun h2 => h2.2⟩
theorem mset_keys (m : List (List UInt8 × β)) (x : List UInt8) (v : β) : (mset m x v).map Prod.fst = if x ∈ m.map Prod.fst then m.map Prod.fst else m.map Prod.fst ++ [x] := by
  induction m with
  | nil => simp [mset]
  | cons p r ih =>
    obtain ⟨k, u⟩ := p
    simp only [mset]
    split
    · rename_i h; subst h; simp
    · rename_i h
      rw [List.map_cons, ih]
      by_cases h2 : x ∈ r.map Prod.fst
      · rw [if_pos h2, if_pos (by simp only [List.map_cons, List.mem_cons]; exact .inr h2)]; rfl
      · rw [if_neg h2, if_neg (by simp only [List.map_cons, List.mem_cons, not_or]; exact ⟨h, h2⟩)]; rfl
theorem mset_nodup {m : List (List UInt8 × β)} (h : (m.map Prod.fst).Nodup) (x : List UInt8) (v : β) : ((mset m x v).map Prod.fst).Nodup := by
  rw [mset_keys]
  split
  · exact h
  · rename_i h2
    rw [List.nodup_append]
    exact ⟨h, by simp, fun a ha b hb => by simp at hb; subst hb; rintro rfl; exact h2 ha⟩
theorem mdel_sub (m : List (List UInt8 × β)) (x : List UInt8) : (mdel m x).Sublist m := by
  induction m with
  | nil => exact .slnil
  | cons p r ih =>
    obtain ⟨k, u⟩ := p
    simp only [mdel]
    split
    · exact List.sublist_cons_self _ _
    · exact ih.cons_cons _
theorem mdel_nodup {m : List (List UInt8 × β)} (h : (m.map Prod.fst).Nodup) (x : List UInt8) : ((mdel m x).map Prod.fst).Nodup := h.sublist ((mdel_sub m x).map _)
theorem mget_set (m : List (List UInt8 × β)) (x y : List UInt8) (v : β) : mget (mset m x v) y = if y = x then some v else mget m y := by
  induction m with
  | nil => simp [mset, mget]
  | cons p r ih =>
    obtain ⟨k, u⟩ := p
    simp only [mset]
    split
    · rename_i h; subst h
      simp only [mget]
      split <;> rfl
    · rename_i h
      simp only [mget, ih]
      split
      · rename_i h2; subst h2; rw [if_neg (Ne.symm h)]
      · rfl
theorem mget_del (m : List (List UInt8 × β)) (h : (m.map Prod.fst).Nodup) (x y : List UInt8) : mget (mdel m x) y = if y = x then none else mget m y := by
  induction m with
  | nil => simp [mdel, mget]
  | cons p r ih =>
    obtain ⟨k, u⟩ := p
    simp only [List.map_cons, List.nodup_cons] at h
    simp only [mdel]
    split
    · rename_i h2; subst h2
      simp only [mget]
      split
      · rename_i h3; subst h3; exact mget_none.2 h.1
      · rfl
    · rename_i h2
      simp only [mget, ih h.2]
      by_cases h3 : y = k
      · subst h3; rw [if_pos rfl, if_neg (Ne.symm h2), if_pos rfl]
      · rw [if_neg h3, if_neg h3]
end

/-! ## in memory -/
abbrev KV := List (List UInt8 × Value)
def kvs (es : List MapEntry) : List (Value × Value) := es.map fun e => (e.key, e.val)
def kvm (m : KV) : List (Value × Value) := m.map fun p => (str p.1, p.2)
def MapIs (b : Nat) (m : KV) (w : World) : Prop := (m.map Prod.fst).Nodup ∧ ∃ es clock, w.heap[b]? = some (.map ⟨es⟩ clock) ∧ kvs es = kvm m ∧ (es.map (·.born)).Nodup ∧ ∀ e ∈ es, e.born < clock
theorem MapIs.local {b : Nat} {m : KV} : Local [b] (MapIs b m) := fun w w' h ⟨h0, es, c, e, r⟩ => ⟨h0, es, c, (h b (by simp)).trans e, r⟩
abbrev mapC (b : Nat) (m : KV) : Chunk := .obj [b] (MapIs b m)
theorem mapC_holds {b : Nat} {m : KV} {w : World} (h : MapIs b m w) : (mapC b m).holds w := ⟨h, MapIs.local⟩

theorem ba_beq (a b : List UInt8) : ((⟨⟨a⟩⟩ : ByteArray) == ⟨⟨b⟩⟩) = decide (a = b) := by
  show ((⟨a⟩ : Array UInt8) == ⟨b⟩) = _
  rw [beq_dec]; simp
theorem same_str (a b : List UInt8) : Instr.sameNow .string (str a) (str b) = some (decide (a = b)) := by
  simp only [Instr.sameNow, ba_beq]
/-- where a key is found, and what is left of the entries once it is written or struck -/
theorem find_spec (x : List UInt8) : ∀ (es : List MapEntry) (m : KV) (i : Nat), kvs es = kvm m →
    (mget m x = none ∧ Instr.findNow .string (str x) es i = some none ∧ (∀ u, mset m x u = m ++ [(x, u)]) ∧ mdel m x = m) ∨
    ∃ v j e, mget m x = some v ∧ Instr.findNow .string (str x) es i = some (some (i + j, v)) ∧ es[j]? = some e ∧ e.key = str x ∧ e.val = v ∧ (∀ u, kvs (es.modify j fun e => { e with key := str x, val := u }) = kvm (mset m x u)) ∧ kvs (es.eraseIdx j) = kvm (mdel m x)
  | [], [], i, _ => .inl ⟨rfl, rfl, fun _ => rfl, rfl⟩
  | [], _ :: _, i, h => by simp [kvs, kvm] at h
  | _ :: _, [], i, h => by simp [kvs, kvm] at h
  | e :: es, (k, v) :: m, i, h => by
    simp only [kvs, kvm, List.map_cons, List.cons.injEq, Prod.mk.injEq] at h
    obtain ⟨⟨h1, h2⟩, h3⟩ := h
    by_cases hx : x = k
    · subst hx
      refine .inr ⟨v, 0, e, by simp [mget], ?_, rfl, h1, h2, fun u => ?_, ?_⟩
      · simp only [Instr.findNow, h1, same_str, decide_true, h2, Nat.add_zero]
      · simp only [List.modify_zero_cons, mset, if_true, kvs, kvm, List.map_cons]
        rw [h3]
      · simp only [List.eraseIdx_zero, List.tail_cons, mdel, if_true]; exact h3
    · have hf : Instr.findNow .string (str x) (e :: es) i = Instr.findNow .string (str x) es (i + 1) := by
        simp only [Instr.findNow, h1, same_str, decide_eq_false hx]
      rcases find_spec x es m (i + 1) h3 with ⟨h4, h5, h6, h7⟩ | ⟨u, j, e', h4, h5, h6, h7, h8, h9, h10⟩
      · refine .inl ⟨by simp [mget, hx, h4], by rw [hf, h5], fun u => by simp [mset, hx, h6], by simp [mdel, hx, h7]⟩
      · refine .inr ⟨u, j + 1, e', by simp [mget, hx, h4], by rw [hf, h5, Nat.add_right_comm i 1 j]; rfl, by simpa using h6, h7, h8, fun y => ?_, ?_⟩
        · simp only [List.modify_succ_cons, mset, if_neg hx, kvs, kvm, List.map_cons, h1, h2]
          have := h9 y; unfold kvs kvm at this; rw [this]
        · simp only [List.eraseIdx_cons_succ, mdel, if_neg hx, kvs, kvm, List.map_cons, h1, h2]
          have := h10; unfold kvs kvm at this; rw [this]

/-- a map type of texts, and its elements' zero -/
def mapOf (P : Program) (t : TypeId) : Option (TypeId × Value) := match P.underlying t with
  | some (.map k e) => match P.underlying k with
    | some .string => match tyZero P e with
      | some z => some (k, z)
      | none => none
    | _ => none
  | _ => none
theorem mapOf_spec {P : Program} {t k : TypeId} {z : Value} (h : mapOf P t = some (k, z)) : ∃ e, P.underlying t = some (.map k e) ∧ P.underlying k = some .string ∧ tyZero P e = some z := by
  unfold mapOf at h
  split at h
  · rename_i k' e hu
    split at h
    · rename_i hk
      split at h
      · rename_i z' hz
        simp only [Option.some.injEq, Prod.mk.injEq] at h
        obtain ⟨rfl, rfl⟩ := h
        exact ⟨e, hu, hk, hz⟩
      · cases h
    · cases h
  · cases h
section
variable {P : Program} {w : World} {ρ : Operand → Value} {o : Oper}
theorem run_getMap {b clock : Nat} {es : List MapEntry} (hb : w.heap[b]? = some (.map ⟨es⟩ clock)) : (getObj b).run P w = .ok (.map ⟨es⟩ clock) w := by simp [getObj, Sem.run, hb]
theorem run_setMap {b clock : Nat} {es : List MapEntry} (hb : w.heap[b]? = some (.map ⟨es⟩ clock)) (ob : Obj) : (setObj b ob).run P w = .ok () { w with heap := w.heap.setIfInBounds b ob } := by simp [setObj, Sem.run, hb]
theorem run_checkKey {k : TypeId} {x : List UInt8} (hk : P.underlying k = some .string) (em : Bool) (n : Nat) : (Instr.checkKey em (n + 1) k (str x)).run P w = .ok () w := by
  simp only [Instr.checkKey, Sem.run_bind, run_underlying hk, Result.andThen_ok]; rfl
theorem run_findKey {k : TypeId} {x : List UInt8} {es : List MapEntry} {r : Option (Nat × Value)} (hk : P.underlying k = some .string) (hf : Instr.findNow .string (str x) es 0 = some r) : (Instr.findKey k (str x) es).run P w = .ok r w := by
  simp only [Instr.findKey, Sem.run_bind, run_underlying hk, Result.andThen_ok, hf]; rfl
def lookV (z : Value) (m : KV) (x : List UInt8) (ok : Bool) : Value := match ok with
  | true => .tuple #[(mget m x).getD z, .bool (mget m x).isSome]
  | false => (mget m x).getD z
theorem run_lookup {t k : TypeId} {z : Value} {x i : Operand} {ok : Bool} {b : Nat} {m : KV} {s : List UInt8} (ho : o.op = .lookup t x i ok) (ht : mapOf P t = some (k, z)) (hx : ρ x = .map (some b)) (hi : ρ i = str s) (hm : MapIs b m w) :
    (execOp ρ o).run P w = .ok (.value (lookV z m s ok)) w := by
  obtain ⟨e, hu, hk, hz⟩ := mapOf_spec ht
  obtain ⟨hnd, es, clock, hb, hkv, _, _⟩ := hm
  have hz := run_zero hz
  rcases find_spec s es m 0 hkv with ⟨h1, h2, _⟩ | ⟨v, j, e', h1, h2, _⟩
  · simp only [execOp, ho, hx, hi, Instr.lookup, Sem.run_bind, run_underlying hu, Result.andThen_ok, run_getMap hb, run_checkKey hk, run_findKey hk h2, hz, Sem.run_pure]
    cases ok <;> simp [lookV, h1, Sem.run]
  · simp only [execOp, ho, hx, hi, Instr.lookup, Sem.run_bind, run_underlying hu, Result.andThen_ok, run_getMap hb, run_checkKey hk, run_findKey hk h2, Sem.run_pure]
    cases ok <;> simp [lookV, h1, Sem.run]
theorem run_lookupNil {t k : TypeId} {z : Value} {x i : Operand} {ok : Bool} {s : List UInt8} (ho : o.op = .lookup t x i ok) (ht : mapOf P t = some (k, z)) (hx : ρ x = .map none) (hi : ρ i = str s) :
    (execOp ρ o).run P w = .ok (.value (lookV z [] s ok)) w := by
  obtain ⟨e, hu, hk, hz⟩ := mapOf_spec ht
  have hz := run_zero hz
  simp only [execOp, ho, hx, hi, Instr.lookup, Sem.run_bind, run_underlying hu, Result.andThen_ok, run_checkKey hk, run_findKey (es := []) (r := none) hk rfl, hz, Sem.run_pure]
  cases ok <;> simp [lookV, mget, Sem.run]
theorem sameBits_str (s : List UInt8) (n : Nat) : Instr.sameBits n (str s) (str s) = true := by cases n <;> simp [Instr.sameBits, ba_beq]
theorem run_mapUpdate {t k : TypeId} {z u : Value} {b : Nat} {m : KV} {s : List UInt8} (ht : mapOf P t = some (k, z)) (hm : MapIs b m w) :
    ∃ ob, (Instr.mapUpdate t (.map (some b)) (str s) u).run P w = .ok () { w with heap := w.heap.setIfInBounds b ob } ∧ MapIs b (mset m s u) { w with heap := w.heap.setIfInBounds b ob } := by
  obtain ⟨e, hu, hk, hz⟩ := mapOf_spec ht
  obtain ⟨hnd, es, clock, hb, hkv, hbo, hcl⟩ := hm
  have hlt : b < w.heap.size := by
    rcases Nat.lt_or_ge b w.heap.size with h | h
    · exact h
    · rw [Array.getElem?_eq_none (by omega)] at hb; cases hb
  rcases find_spec s es m 0 hkv with ⟨h1, h2, h3, _⟩ | ⟨v, j, e', h1, h2, h3, h4, h5, h6, _⟩
  · refine ⟨_, by simp only [Instr.mapUpdate, Sem.run_bind, run_underlying hu, Result.andThen_ok, run_getMap hb, run_checkKey hk, run_findKey hk h2, Sem.run_pure]; exact run_setMap hb _, mset_nodup hnd _ _, es ++ [{ key := str s, val := u, born := clock }], clock + 1, by simp [hlt], ?_, ?_, ?_⟩
    · rw [h3]; simp only [kvs, kvm, List.map_append] at hkv ⊢; rw [hkv]; rfl
    · rw [List.map_append, List.nodup_append]
      refine ⟨hbo, by simp, fun a ha b hb => ?_⟩
      simp at hb; subst hb
      obtain ⟨e, he, rfl⟩ := List.mem_map.1 ha
      have := hcl e he; omega
    · intro e he
      rcases List.mem_append.1 he with he | he
      · have := hcl e he; omega
      · simp at he; subst he; show clock < clock + 1; omega
  · simp only [Nat.zero_add] at h2
    have hkey : (((Array.mk es)[j]?).map (·.key)).getD (str s) = str s := by simp [h3, h4]
    refine ⟨.map ⟨es.modify j fun e => { e with key := str s, val := u }⟩ clock, ?_, mset_nodup hnd _ _, _, clock, by simp [hlt], h6 u, ?_, ?_⟩
    · have hks : (Instr.keyThatStays (str s) (str s)).run P w = .ok (str s) w := by
        unfold Instr.keyThatStays; rw [sameBits_str]; rfl
      simp only [Instr.mapUpdate, Sem.run_bind, run_underlying hu, Result.andThen_ok, run_getMap hb, run_checkKey hk, run_findKey hk h2, hkey, hks]
      rw [run_setMap hb]
      simp
    · have : (es.modify j fun e => { e with key := str s, val := u }).map (·.born) = es.map (·.born) := by
        apply List.ext_getElem?; intro i
        simp only [List.getElem?_map, List.getElem?_modify]
        split <;> simp_all
      rw [this]; exact hbo
    · intro e he
      obtain ⟨i, hi, hge⟩ := List.mem_iff_getElem.1 he
      rw [List.getElem_modify] at hge
      split at hge
      · subst hge; exact hcl (es[i]'(by simpa using hi)) (List.getElem_mem _)
      · subst hge; exact hcl _ (List.getElem_mem _)
theorem run_delete {t k : TypeId} {z : Value} {b : Nat} {m : KV} {s : List UInt8} {t2 ty : TypeId} (ht : mapOf P t = some (k, z)) (hm : MapIs b m w) :
    ∃ ob, (Builtin.delete_ #[t, t2] ty #[.map (some b), str s]).run P w = .ok (.tuple #[]) { w with heap := w.heap.setIfInBounds b ob } ∧ MapIs b (mdel m s) { w with heap := w.heap.setIfInBounds b ob } := by
  obtain ⟨e, hu, hk, hz⟩ := mapOf_spec ht
  obtain ⟨hnd, es, clock, hb, hkv, hbo, hcl⟩ := hm
  have hlt : b < w.heap.size := by
    rcases Nat.lt_or_ge b w.heap.size with h | h
    · exact h
    · rw [Array.getElem?_eq_none (by omega)] at hb; cases hb
  rcases find_spec s es m 0 hkv with ⟨h1, h2, _, h3⟩ | ⟨v, j, e', h1, h2, h3, h4, h5, _, h6⟩
  · refine ⟨.map ⟨es⟩ clock, ?_, mdel_nodup hnd _, es, clock, by simp [hlt], by rw [h3]; exact hkv, hbo, hcl⟩
    simp [Builtin.delete_, Sem.run_bind, run_underlying hu, run_getMap hb, run_checkKey hk, run_findKey hk h2, run_setMap hb]
  · simp only [Nat.zero_add] at h2
    refine ⟨.map ⟨es.eraseIdx j⟩ clock, ?_, mdel_nodup hnd _, _, clock, by simp [hlt], h6, ?_, ?_⟩
    · simp [Builtin.delete_, Sem.run_bind, run_underlying hu, run_getMap hb, run_checkKey hk, run_findKey hk h2, run_setMap hb]
    · exact hbo.sublist ((List.eraseIdx_sublist _ _).map _)
    · exact fun e he => hcl e ((List.eraseIdx_sublist _ _).subset he)
end

/-! ## the walk's rules -/
/-- a map that is known, also later on -/
structure MapOk (H : List Chunk) (Z : List Snap) (b : Nat) (m : KV) : Prop where
  out : ∀ w0 M w (Hn : List Chunk) (Zn : List Snap), St w0 M w (Hn ++ H) (Zn ++ Z) → MapIs b m w
theorem MapOk.mk' {H : List Chunk} {Z : List Snap} {b : Nat} {m : KV} (hm : mapC b m ∈ H) : MapOk H Z b m :=
  ⟨fun w0 M w Hn Zn hS => (hS.holds _ (List.mem_append_right _ hm)).1⟩
theorem MapOk.old {w0 : World} {H : List Chunk} {Z : List Snap} {b : Nat} {m : KV} (h : MapIs b m w0) (hz : Snap.mk w0 (Old w0) ∈ Z) : MapOk H Z b m := by
  refine ⟨fun w1 M w Hn Zn hS => ?_⟩
  obtain ⟨h0, es, c, e, r⟩ := h
  have hlt : b < w0.heap.size := by
    rcases Nat.lt_or_ge b w0.heap.size with h2 | h2
    · exact h2
    · rw [Array.getElem?_eq_none (by omega)] at e; cases e
  exact ⟨h0, es, c, (hS.snap _ (List.mem_append_right _ hz) b hlt).2.1.trans e, r⟩
section
variable {P : Program} {N : Nat} {f : Fr} {w w0 : World} {Q : Post} {ops l : List Oper} {o : Oper} {M : List Nat} {H H' : List Chunk} {Z : List Snap} {ρ : Operand → Value}
theorem St.setMap {b : Nat} {m m' : KV} {ob : Obj} (hS : St w0 M w H Z) (hr : Repl (mapC b m) (mapC b m') H H') (h : MapIs b m' { w with heap := w.heap.setIfInBounds b ob }) : St w0 M { w with heap := w.heap.setIfInBounds b ob } H' Z := by
  refine hS.step hr ⟨rfl, rfl, rfl, by simp, fun k hk hn => ?_⟩ (mapC_holds h) fun b hb => .inl hb
  have hne : k ≠ b := fun e => hn (by simp [Chunk.fp, e])
  show (w.heap.setIfInBounds b _)[k]? = _
  rw [Array.getElem?_setIfInBounds_ne (by omega)]
theorem WL.mget {t k : TypeId} {z v : Value} {x i : Operand} {ok : Bool} {b : Nat} {m : KV} {s : List UInt8} (hS : St w0 M w H Z) (ho : o.op = .lookup t x i ok) (ht : mapOf P t = some (k, z)) (hx : ev f x = .map (some b)) (hi : ev f i = str s) (hm : MapOk H Z b m) (hv : lookV z m s ok = v)
    (hg : wants ops f o = true) {d : Nat} (hd : o.dst = some d) (hn : Nat.blt d N = true) (h : WL P N ops l (up f d v) w Q) : WL P N ops (o :: l) f w Q :=
  .val hg hd hn (hv ▸ run_lookup ho ht hx hi (hm.out _ _ _ [] [] hS)) h
theorem WL.mset {t k : TypeId} {z u : Value} {x i y : Operand} {b : Nat} {m : KV} {s : List UInt8} (hS : St w0 M w H Z) (ho : o.op = .mapUpdate t x i y ∨ o.op = .insert t x i y) (ht : mapOf P t = some (k, z)) (hx : ev f x = .map (some b)) (hi : ev f i = str s) (hy : nfv (ev f y) = some u)
    (hr : Repl (mapC b m) (mapC b (mset m s u)) H H') (hg : wants ops f o = true) (hd : o.dst = none) (h : ∀ w', St w0 M w' H' Z → WL P N ops l f w' Q) : WL P N ops (o :: l) f w Q := by
  obtain ⟨ob, h1, h2⟩ := run_mapUpdate (u := u) (s := s) ht (hS.holds _ hr.mem).1
  have hrun : (execOp (ev f) o).run P w = .ok .skip { w with heap := w.heap.setIfInBounds b ob } := by
    rcases ho with ho | ho <;> simp [execOp, ho, hx, hi, ← nfv_eq hy, Sem.run_bind, h1]
  exact .unit0 hg hd hrun (h _ (hS.setMap hr h2))
theorem WL.mdel {t k t2 : TypeId} {z : Value} {x i : Operand} {b : Nat} {m : KV} {s : List UInt8} (hS : St w0 M w H Z) (ho : o.op = .call ⟨.builtin .delete, ⟨[x, i]⟩, ⟨[t, t2]⟩⟩) (ht : mapOf P t = some (k, z)) (hx : ev f x = .map (some b)) (hi : ev f i = str s)
    (hr : Repl (mapC b m) (mapC b (mdel m s)) H H') (hg : wants ops f o = true) {d : Nat} (hd : o.dst = some d) (hn : Nat.blt d N = true) (h : ∀ w', St w0 M w' H' Z → WL P N ops l (up f d (.tuple #[])) w' Q) : WL P N ops (o :: l) f w Q := by
  obtain ⟨ob, h1, h2⟩ := run_delete (t2 := t2) (ty := o.type) (s := s) ht (hS.holds _ hr.mem).1
  have hrun : (execOp (ev f) o).run P w = .ok (.value (.tuple #[])) { w with heap := w.heap.setIfInBounds b ob } := by
    simp [execOp, ho, resolve, invoke, builtin, hx, hi, Sem.run_bind, h1]
  exact .val hg hd hn hrun (h _ (hS.setMap hr h2))
theorem WL.mmake {t k : TypeId} {z : Value} (hS : St w0 M w H Z) (ho : o.op = .makeMap t none) (ht : mapOf P t = some (k, z)) (hg : wants ops f o = true) {d : Nat} (hd : o.dst = some d) (hn : Nat.blt d N = true)
    (h : ∀ w' b, St w0 M w' (mapC b [] :: H) Z → WL P N ops l (up f d (.map (some b))) w' Q) : WL P N ops (o :: l) f w Q := by
  have hrun : (execOp (ev f) o).run P w = .ok (.value (.map (some w.heap.size))) (w.alloc (.map #[] 0)) := by
    simp only [execOp, ho, Instr.makeMap, Option.map_none, Sem.run_bind, newObj, Result.andThen_ok]
    rfl
  refine .val hg hd hn hrun (h _ _ (hS.push (.alloc _ _ _) (mapC_holds ⟨.nil, [], 0, heap_alloc_new w _, rfl, .nil, by simp⟩) fun b hb => ?_))
  have : b = w.heap.size := by simpa [Chunk.fp] using hb
  subst this; simp
theorem run_lenMap {t k : TypeId} {z : Value} {x : Operand} {b : Nat} {m : KV} (ho : o.op = .call ⟨.builtin .len, ⟨[x]⟩, ⟨[t]⟩⟩) (ht : mapOf P t = some (k, z)) (hx : ρ x = .map (some b)) (hm : MapIs b m w) : (execOp ρ o).run P w = .ok (.value (.int .i64 (m.length : Int))) w := by
  obtain ⟨e, hu, hk, hz⟩ := mapOf_spec ht
  obtain ⟨hnd, es, clock, hb, hkv, _, _⟩ := hm
  have : es.length = m.length := by have := congrArg List.length hkv; simpa [kvs, kvm] using this
  simp [execOp, ho, resolve, invoke, builtin, Builtin.len_, hx, Sem.run_bind, run_underlying hu, run_getMap hb, goInt, this]
theorem WL.mlen {t k : TypeId} {z : Value} {x : Operand} {b : Nat} {m : KV} (hS : St w0 M w H Z) (ho : o.op = .call ⟨.builtin .len, ⟨[x]⟩, ⟨[t]⟩⟩) (ht : mapOf P t = some (k, z)) (hx : ev f x = .map (some b)) (hm : MapOk H Z b m)
    (hg : wants ops f o = true) {d : Nat} (hd : o.dst = some d) (hn : Nat.blt d N = true) (h : WL P N ops l (up f d (.int .i64 (m.length : Int))) w Q) : WL P N ops (o :: l) f w Q :=
  .val hg hd hn (run_lenMap ho ht hx (hm.out _ _ _ [] [] hS)) h

/-! ## gone through -/
def RngIs (b r : Nat) (m left : KV) (cur : Option (List UInt8 × Value)) (w : World) : Prop := (m.map Prod.fst).Nodup ∧ ∃ es clock since seen c0, w.heap[b]? = some (.map ⟨es⟩ clock) ∧ kvs es = kvm m ∧ (es.map (·.born)).Nodup ∧ (∀ e ∈ es, e.born < clock) ∧
  w.heap[r]? = some (.mapIter (some b) since seen c0) ∧ (∀ e ∈ es, e.born < since) ∧ since ≤ c0 ∧ since ≤ clock ∧ kvs (leftOf ⟨es⟩ seen).toList = kvm left ∧ ∀ k v, cur = some (k, v) → c0 = clock ∧ ∃ e ∈ es, seen.back? = some e.born ∧ e.key = str k ∧ e.val = v
theorem RngIs.local {b r : Nat} {m left : KV} {cur : Option (List UInt8 × Value)} : Local [b, r] (RngIs b r m left cur) := fun w w' h ⟨h0, es, c, s, sn, c0, e1, h1, h2, h3, e2, r⟩ => ⟨h0, es, c, s, sn, c0, (h b (by simp)).trans e1, h1, h2, h3, (h _ (by simp)).trans e2, r⟩
abbrev rngC (b r : Nat) (m left : KV) (cur : Option (List UInt8 × Value)) : Chunk := .obj [b, r] (RngIs b r m left cur)
theorem RngIs.map {b r : Nat} {m left : KV} {cur : Option (List UInt8 × Value)} (h : RngIs b r m left cur w) : MapIs b m w := by
  obtain ⟨h0, es, c, s, sn, c0, e1, h1, h2, h3, _⟩ := h; exact ⟨h0, es, c, e1, h1, h2, h3⟩
theorem MapOk.rng {r b : Nat} {m left : KV} {cur : Option (List UInt8 × Value)} (hm : rngC b r m left cur ∈ H) : MapOk H Z b m :=
  ⟨fun w0 M w Hn Zn hS => RngIs.map (hS.holds _ (List.mem_append_right _ hm)).1⟩
def isMapT (P : Program) (t : TypeId) : Bool := match P.underlying t with
  | some (.map _ _) => true
  | _ => false
theorem leftOf_nil (es : List MapEntry) : leftOf ⟨es⟩ #[] = ⟨es⟩ := by unfold leftOf; simp
theorem WL.mrange {t : TypeId} {x : Operand} {b : Nat} {m : KV} {G : Nat → List Chunk} (hS : St w0 M w H Z) (ho : o.op = .range t x) (ht : isMapT P t = true) (hx : ev f x = .map (some b)) (hr : ∀ r, Repl (mapC b m) (rngC b r m m none) H (G r))
    (hg : wants ops f o = true) {d : Nat} (hd : o.dst = some d) (hn : Nat.blt d N = true) (h : ∀ w' r, St w0 M w' (G r) Z → WL P N ops l (up f d (.pointer (some ⟨r, 0, none⟩))) w' Q) : WL P N ops (o :: l) f w Q := by
  obtain ⟨hnd, es, clock, hb, hkv, hbo, hcl⟩ := (hS.holds _ (hr 0).mem).1
  have hlt : b < w.heap.size := (hS.inb _ (hr 0).mem b (by simp [Chunk.fp])).1
  have hrun : (execOp (ev f) o).run P w = .ok (.value (.pointer (some ⟨w.heap.size, 0, none⟩))) (w.alloc (.mapIter (some b) clock #[] clock)) := by
    unfold isMapT at ht
    split at ht
    · rename_i k e hu
      simp only [execOp, ho, hx, Instr.range, Sem.run_bind, run_underlying hu, Result.andThen_ok, run_getMap hb, Sem.run_pure]
      rfl
    · cases ht
  have hold : (w.alloc (.mapIter (some b) clock #[] clock)).heap[b]? = some (.map ⟨es⟩ clock) := (Below.heap_alloc w _ b hlt).trans hb
  refine .val hg hd hn hrun (h _ _ (hS.step (hr _) (.alloc _ _ _) ⟨⟨hnd, es, clock, clock, #[], clock, hold, hkv, hbo, hcl, heap_alloc_new w _, hcl, Nat.le_refl _, Nat.le_refl _, by rw [leftOf_nil]; exact hkv, fun _ _ h => by cases h⟩, RngIs.local⟩ fun k hk => ?_))
  simp only [Chunk.fp, List.mem_cons, List.not_mem_nil, or_false] at hk ⊢
  rcases hk with rfl | rfl
  · exact .inl rfl
  · exact .inr ⟨Nat.le_refl _, by simp⟩
theorem leftOf_push (es : List MapEntry) (seen : Array Nat) (hbo : (es.map (·.born)).Nodup) (j : Nat) (e : MapEntry) (hj : j < (leftOf ⟨es⟩ seen).toList.length) (he : (leftOf ⟨es⟩ seen).toList[j] = e) :
    (leftOf ⟨es⟩ (seen.push e.born)).toList = (leftOf ⟨es⟩ seen).toList.eraseIdx j := by
  have key : ∀ (L : List MapEntry) (j : Nat) (hj : j < L.length), (L.map (·.born)).Nodup → L.filter (fun e => !(e.born == L[j].born)) = L.eraseIdx j := by
    intro L
    induction L with
    | nil => intro j hj; exact absurd hj (Nat.not_lt_zero _)
    | cons a t ih =>
      intro j hj hn
      simp only [List.map_cons, List.nodup_cons] at hn
      cases j with
      | zero =>
        simp only [List.getElem_cons_zero, List.eraseIdx_zero, List.tail_cons, List.filter_cons, beq_self_eq_true, Bool.not_true, Bool.false_eq_true, if_false]
        rw [List.filter_eq_self]
        intro e he
        rw [Bool.not_eq_true', beq_eq_false_iff_ne]
        intro heq
        exact hn.1 (by rw [← heq]; exact List.mem_map_of_mem he)
      | succ j =>
        simp only [List.getElem_cons_succ, List.eraseIdx_cons_succ]
        have hj' : j < t.length := by simpa using hj
        have hne : (a.born == (t[j]).born) = false := by
          rw [beq_eq_false_iff_ne]
          intro heq
          exact hn.1 (by rw [heq]; exact List.mem_map_of_mem (List.getElem_mem hj'))
        rw [List.filter_cons, hne]
        simp only [Bool.not_false, if_true]
        rw [ih j hj' hn.2]
  have hL : ((leftOf ⟨es⟩ seen).toList.map (·.born)).Nodup := by
    unfold leftOf
    rw [Array.toList_filter]
    exact hbo.sublist (List.filter_sublist.map _)
  rw [← key _ j hj hL, he]
  unfold leftOf
  rw [Array.toList_filter, Array.toList_filter, List.filter_filter]
  congr 1
  funext e
  simp only [Array.contains_push, Bool.not_or]
  rw [Bool.and_comm]
theorem WL.mnext {x : Operand} {b r : Nat} {m left : KV} {cur : Option (List UInt8 × Value)} {G : KV → List UInt8 × Value → List Chunk} (hS : St w0 M w H Z) (ho : o.op = .next x false) (hx : ev f x = .pointer (some ⟨r, 0, none⟩)) (hr : ∀ l' p, Repl (rngC b r m left cur) (rngC b r m l' (some p)) H (G l' p))
    (hg : wants ops f o = true) {d : Nat} (hd : o.dst = some d) (hn : Nat.blt d N = true)
    (h0 : left = [] → WL P N ops l (up f d (.tuple #[.bool false])) w Q)
    (h1 : ∀ l1 k v l2, left = l1 ++ (k, v) :: l2 → ∀ w', St w0 M w' (G (l1 ++ l2) (k, v)) Z → WL P N ops l (up f d (.tuple #[.bool true, str k, v])) w' Q) : WL P N ops (o :: l) f w Q := by
  obtain ⟨hnd, es, clock, since, seen, c0, hb, hkv, hbo, hcl, hrr, hsi, hsc, hsk, hlf, _⟩ := (hS.holds _ (hr [] ([], .nilFunc)).mem).1
  have hex : (execOp (ev f) o).run P w = ((Instr.next (.pointer (some ⟨r, 0, none⟩)) false o.type).run P w).andThen fun v w' => .ok (.value v) w' := by
    simp only [execOp, ho, hx, Sem.run_bind]; rfl
  have hlen : (leftOf ⟨es⟩ seen).toList.length = left.length := by have := congrArg List.length hlf; simpa [kvs, kvm] using this
  rcases run_next_at (P := P) w o.type r b since c0 seen ⟨es⟩ clock hrr hb (by simpa using hsi) hsc with ⟨hz, hrun⟩ | ⟨e, he, w1, hw1, hrun⟩
  · refine .val hg hd hn (by rw [hex, hrun]; rfl) (h0 ?_)
    rw [← List.length_eq_zero_iff, ← hlen]; simpa using hz
  · obtain ⟨j, hj, hje⟩ := List.mem_iff_getElem.1 he
    have hj' : j < left.length := by omega
    have hkj : (e.key, e.val) = (str left[j].1, left[j].2) := by
      have h2 : (kvs (leftOf ⟨es⟩ seen).toList)[j]? = (kvm left)[j]? := by rw [hlf]
      simp only [kvs, kvm, List.getElem?_map, List.getElem?_eq_getElem hj, List.getElem?_eq_getElem hj', Option.map_some, Option.some.injEq, hje] at h2
      exact h2
    simp only [Prod.mk.injEq] at hkj
    have hsplit : left = left.take j ++ (left[j].1, left[j].2) :: left.drop (j + 1) := by
      show left = left.take j ++ left[j] :: left.drop (j + 1)
      rw [← List.drop_eq_getElem_cons hj']; exact (List.take_append_drop j left).symm
    have hwr : w1.heap = w.heap := by rcases hw1 with rfl | rfl <;> rfl
    have hw1u : Upd [] w w1 := by rcases hw1 with rfl | rfl
                                  · exact .refl _ _
                                  · exact .drew _ _
    have hrlt : r < w.heap.size := (hS.inb _ (hr [] ([], .nilFunc)).mem r (by simp [Chunk.fp])).1
    have hbr : b ≠ r := by rintro rfl; rw [hb] at hrr; cases hrr
    refine .val hg hd hn (by rw [hex, hrun, hkj.1, hkj.2]; rfl) (h1 _ _ _ _ hsplit _ ?_)
    refine hS.step (hr _ _) (w' := ChangeMaps.setBlock w1 r (.mapIter (some b) since (seen.push e.born) clock)) ⟨hw1u.os, hw1u.tape, hw1u.output, ?_, fun k hk hn => ?_⟩ ⟨⟨hnd, es, clock, since, seen.push e.born, clock, ?_, hkv, hbo, hcl, ?_, hsi, hsk, hsk, ?_, fun k v hkv => ?_⟩, RngIs.local⟩ fun b hb => .inl hb
    · simp [ChangeMaps.setBlock, hwr]
    · have hne : k ≠ r := fun e => hn (by simp [Chunk.fp, e])
      show (w1.heap.setIfInBounds r _)[k]? = _
      rw [Array.getElem?_setIfInBounds_ne (by omega), hwr]
    · show (w1.heap.setIfInBounds r _)[b]? = _
      rw [Array.getElem?_setIfInBounds_ne (by omega), hwr]; exact hb
    · show (w1.heap.setIfInBounds r _)[r]? = _
      simp [hwr, hrlt]
    · rw [leftOf_push es seen hbo j e hj hje]
      have h3 : kvs ((leftOf ⟨es⟩ seen).toList.eraseIdx j) = (kvs (leftOf ⟨es⟩ seen).toList).eraseIdx j := by unfold kvs; rw [List.eraseIdx_eq_take_drop_succ, List.eraseIdx_eq_take_drop_succ, List.map_append, List.map_take, List.map_drop]
      rw [h3, hlf, List.eraseIdx_eq_take_drop_succ]
      unfold kvm
      rw [List.map_append, List.map_take, List.map_drop]
    · simp only [Option.some.injEq, Prod.mk.injEq] at hkv
      obtain ⟨rfl, rfl⟩ := hkv
      exact ⟨rfl, e, by unfold leftOf at he; rw [Array.toList_filter] at he; exact (List.mem_filter.1 he).1, by simp, hkj.1, hkj.2⟩
/-- what came last, asked for again -/
theorem WL.mentry {x : Operand} {b r : Nat} {m left : KV} {k : List UInt8} {v : Value} (hS : St w0 M w H Z) (ho : o.op = .entry x) (hx : ev f x = .pointer (some ⟨r, 0, none⟩)) (hm : rngC b r m left (some (k, v)) ∈ H)
    (hg : wants ops f o = true) {d : Nat} (hd : o.dst = some d) (hn : Nat.blt d N = true) (h : WL P N ops l (up f d (.tuple #[str k, v])) w Q) : WL P N ops (o :: l) f w Q := by
  obtain ⟨hnd, es, clock, since, seen, c0, hb, hkv, hbo, hcl, hrr, hsi, hsc, hsk, hlf, hcur⟩ := (hS.holds _ hm).1
  obtain ⟨rfl, e, he, hsn, h1, h2⟩ := hcur k v rfl
  have hf : (Array.mk es).find? (·.born == e.born) = some e := by rw [← Array.find?_toList]; exact find_born e es hbo he
  have hrun : (execOp (ev f) o).run P w = .ok (.value (.tuple #[str k, v])) w := by
    simp only [execOp, ho, hx, Instr.entry, getObj, Sem.run_bind, Sem.run, hrr, hb, Result.andThen, hsn, bne_self_eq_false, Bool.false_eq_true, if_false, hf, h1, h2]
    rfl
  exact .val hg hd hn hrun h
/-- the loop is over: the map as it was -/
theorem St.rngEnd {b r : Nat} {m left : KV} {cur : Option (List UInt8 × Value)} (hS : St w0 M w H Z) (hr : Repl (rngC b r m left cur) (mapC b m) H H') : St w0 M w H' Z :=
  hS.recast hr (fun h => mapC_holds (RngIs.map h.1)) fun k hk => by simp [Chunk.fp] at hk ⊢; exact .inl hk
end
section
variable {P : Program} {N : Nat} {f : Fr} {w w0 : World} {Q : Post} {ops : List Oper} {M : List Nat} {H0 H H' : List Chunk} {Z0 Z : List Snap} {q : Qs} {l : List Nat} {i : Nat}
theorem WD.mget {t k : TypeId} {z v : Value} {x y : Operand} {ok : Bool} {b : Nat} {m : KV} {s : List UInt8} (ho : (ix ops i).op = .lookup t x y ok) (ht : mapOf P t = some (k, z)) (hx : ev f x = .map (some b)) (hi : ev f y = str s) (hm : MapOk H0 Z0 b m) (hv : lookV z m s ok = v)
    (hq : q.contains i = true) (hg : wants ops f (ix ops i) = true) {d : Nat} (hd : (ix ops i).dst = some d) (hn : Nat.blt d N = true) (h : WD P N (SS w0 M H0 Z0) ops q l (up f d v) w Q) : WD P N (SS w0 M H0 Z0) ops q (i :: l) f w Q :=
  .takeS hq (by unfold blind; rw [ho]) hd hn hg (fun w' ⟨Hn, Zn, hS⟩ => hv ▸ run_lookup ho ht hx hi (hm.out _ _ _ Hn Zn hS)) h
theorem WD.msetC {t k : TypeId} {z u : Value} {x y a : Operand} {b : Nat} {m : KV} {s : List UInt8} (hS : St w0 M w (mapC b m :: H) Z) (hM : More H0 Z0 H Z) (ho : (ix ops i).op = .mapUpdate t x y a ∨ (ix ops i).op = .insert t x y a) (ht : mapOf P t = some (k, z)) (hx : ev f x = .map (some b)) (hy : ev f y = str s) (ha : nfv (ev f a) = some u)
    (hq : q.contains i = false) (hi : Nat.blt i ops.length = true) (hg : wants ops f (ix ops i) = true) (hd : (ix ops i).dst = none) (h : ∀ w', St w0 M w' (mapC b (mset m s u) :: H) Z → WD P N (SS w0 M H0 Z0) ops q l f w' Q) : WD P N (SS w0 M H0 Z0) ops q (i :: l) f w Q := by
  obtain ⟨ob, h1, h2⟩ := run_mapUpdate (u := u) (s := s) ht (hS.holds _ (List.Mem.head _)).1
  have hrun : (execOp (ev f) (ix ops i)).run P w = .ok .skip { w with heap := w.heap.setIfInBounds b ob } := by
    rcases ho with ho | ho <;> simp [execOp, ho, hx, hy, ← nfv_eq ha, Sem.run_bind, h1]
  have hS' := hS.setMap .here h2
  exact .unit0 hq hi hg hd hrun (hM.ss hS'.drop) (h _ hS')
theorem WD.mlen {t k : TypeId} {z : Value} {x : Operand} {b : Nat} {m : KV} (ho : (ix ops i).op = .call ⟨.builtin .len, ⟨[x]⟩, ⟨[t]⟩⟩) (ht : mapOf P t = some (k, z)) (hx : ev f x = .map (some b)) (hm : MapOk H0 Z0 b m)
    (hq : q.contains i = true) (hg : wants ops f (ix ops i) = true) {d : Nat} (hd : (ix ops i).dst = some d) (hn : Nat.blt d N = true) (h : WD P N (SS w0 M H0 Z0) ops q l (up f d (.int .i64 (m.length : Int))) w Q) : WD P N (SS w0 M H0 Z0) ops q (i :: l) f w Q :=
  .takeS hq (by unfold blind; rw [ho]) hd hn hg (fun w' ⟨Hn, Zn, hS⟩ => run_lenMap ho ht hx (hm.out _ _ _ Hn Zn hS)) h
end
end Go.J
