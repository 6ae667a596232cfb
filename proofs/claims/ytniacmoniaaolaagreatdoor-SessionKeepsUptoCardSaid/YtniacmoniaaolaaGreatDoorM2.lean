/- What is proved: contracts and plain facts that the law leans on (texts put together). Conditions: as each names them. -/
import Derived.Test.YtniacmoniaaolaaGreatDoorM1
import Derived.Laws.BitsAllLaws
import Derived.Laws.IdiomStrings
import Derived.Lib.ConvBytes
import Derived.Lib.Builder
import Derived.Lib.UnsafeStr
import Derived.Laws.IdiomCopy
import Derived.Lib.AppendStr
import Derived.Test.YtniacmoniaaolaaGreatDoorRows
set_option linter.unusedSimpArgs false
set_option linter.unusedVariables false
/- What is proved: the walk's rules for maps whose keys are ints: made, asked, written, struck from, their length. Conditions: as each rule names them. -/
set_option linter.unusedSimpArgs false
set_option linter.unusedVariables false
namespace Go.J
open Go Go.RowKit

/-! ## maps as lists of keys and values, in the order of their coming -/
section
variable {β γ : Type}
def mgetI : List (Int × β) → Int → Option β
  | [], _ => none
  | (k, v) :: r, x => if x = k then some v else mgetI r x
def msetI : List (Int × β) → Int → β → List (Int × β)
  | [], x, v => [(x, v)]
  | (k, u) :: r, x, v => if x = k then (k, v) :: r else (k, u) :: msetI r x v
def mdelI : List (Int × β) → Int → List (Int × β)
  | [], _ => []
  | (k, u) :: r, x => if x = k then r else (k, u) :: mdelI r x
def mmapI (f : β → γ) (m : List (Int × β)) : List (Int × γ) := m.map fun p => (p.1, f p.2)
theorem mget_mapI (f : β → γ) (x : Int) : ∀ m : List (Int × β), mgetI (mmapI f m) x = (mgetI m x).map f
  | [] => rfl
  | (k, v) :: r => by
    have := mget_mapI f x r
    unfold mmapI at this ⊢
    simp only [List.map_cons, mgetI]
    split
    · rfl
    · exact this
theorem mset_mapI (f : β → γ) (x : Int) (v : β) : ∀ m : List (Int × β), msetI (mmapI f m) x (f v) = mmapI f (msetI m x v)
  | [] => rfl
  | (k, u) :: r => by
    have := mset_mapI f x v r
    unfold mmapI at this ⊢
    simp only [List.map_cons, msetI]
    split
    · rfl
    · simp [this]
theorem mdel_mapI (f : β → γ) (x : Int) : ∀ m : List (Int × β), mdelI (mmapI f m) x = mmapI f (mdelI m x)
  | [] => rfl
  | (k, u) :: r => by
    have := mdel_mapI f x r
    unfold mmapI at this ⊢
    simp only [List.map_cons, mdelI]
    split
    · rfl
    · simp [this]
theorem mget_noneI {m : List (Int × β)} {x : Int} : mgetI m x = none ↔ x ∉ m.map Prod.fst := by
  induction m with
  | nil => simp [mgetI]
  | cons p r ih =>
    obtain ⟨k, v⟩ := p
    simp only [mgetI, List.map_cons, List.mem_cons, not_or]
    split
    · rename_i h; simp [h]
    · rename_i h; rw [ih]; exact ⟨fun h2 => ⟨h, h2⟩, fun h2 => h2.2⟩
theorem mset_keysI (m : List (Int × β)) (x : Int) (v : β) : (msetI m x v).map Prod.fst = if x ∈ m.map Prod.fst then m.map Prod.fst else m.map Prod.fst ++ [x] := by
  induction m with
  | nil => simp [msetI]
  | cons p r ih =>
    obtain ⟨k, u⟩ := p
    simp only [msetI]
    split
    · rename_i h; subst h; simp
    · rename_i h
      rw [List.map_cons, ih]
      by_cases h2 : x ∈ r.map Prod.fst
      · rw [if_pos h2, if_pos (by simp only [List.map_cons, List.mem_cons]; exact .inr h2)]; rfl
      · rw [if_neg h2, if_neg (by simp only [List.map_cons, List.mem_cons, not_or]; exact ⟨h, h2⟩)]; rfl
theorem mset_nodupI {m : List (Int × β)} (h : (m.map Prod.fst).Nodup) (x : Int) (v : β) : ((msetI m x v).map Prod.fst).Nodup := by
  rw [mset_keysI]
  split
  · exact h
  · rename_i h2
    rw [List.nodup_append]
    exact ⟨h, by simp, fun a ha b hb => by simp at hb; subst hb; rintro rfl; exact h2 ha⟩
theorem mdel_subI (m : List (Int × β)) (x : Int) : (mdelI m x).Sublist m := by
  induction m with
  | nil => exact .slnil
  | cons p r ih =>
    obtain ⟨k, u⟩ := p
    simp only [mdelI]
    split
    · exact List.sublist_cons_self _ _
    · exact ih.cons_cons _
theorem mdel_nodupI {m : List (Int × β)} (h : (m.map Prod.fst).Nodup) (x : Int) : ((mdelI m x).map Prod.fst).Nodup := h.sublist ((mdel_subI m x).map _)
theorem mget_setI (m : List (Int × β)) (x y : Int) (v : β) : mgetI (msetI m x v) y = if y = x then some v else mgetI m y := by
  induction m with
  | nil => simp [msetI, mgetI]
  | cons p r ih =>
    obtain ⟨k, u⟩ := p
    simp only [msetI]
    split
    · rename_i h; subst h
      simp only [mgetI]
      split <;> rfl
    · rename_i h
      simp only [mgetI, ih]
      split
      · rename_i h2; subst h2; rw [if_neg (Ne.symm h)]
      · rfl
theorem mget_delI (m : List (Int × β)) (h : (m.map Prod.fst).Nodup) (x y : Int) : mgetI (mdelI m x) y = if y = x then none else mgetI m y := by
  induction m with
  | nil => simp [mdelI, mgetI]
  | cons p r ih =>
    obtain ⟨k, u⟩ := p
    simp only [List.map_cons, List.nodup_cons] at h
    simp only [mdelI]
    split
    · rename_i h2; subst h2
      simp only [mgetI]
      split
      · rename_i h3; subst h3; exact mget_noneI.2 h.1
      · rfl
    · rename_i h2
      simp only [mgetI, ih h.2]
      by_cases h3 : y = k
      · subst h3; rw [if_pos rfl, if_neg (Ne.symm h2), if_pos rfl]
      · rw [if_neg h3, if_neg h3]
end

/-! ## in memory -/
abbrev ik (n : Int) : Value := .int .i64 n
abbrev KVI := List (Int × Value)
def kvsI (es : List MapEntry) : List (Value × Value) := es.map fun e => (e.key, e.val)
def kvmI (m : KVI) : List (Value × Value) := m.map fun p => (ik p.1, p.2)
def MapIsI (b : Nat) (m : KVI) (w : World) : Prop := (m.map Prod.fst).Nodup ∧ ∃ es clock, w.heap[b]? = some (.map ⟨es⟩ clock) ∧ kvsI es = kvmI m ∧ (es.map (·.born)).Nodup ∧ ∀ e ∈ es, e.born < clock
theorem MapIsI.local {b : Nat} {m : KVI} : Local [b] (MapIsI b m) := fun w w' h ⟨h0, es, c, e, r⟩ => ⟨h0, es, c, (h b (by simp)).trans e, r⟩
abbrev mapCI (b : Nat) (m : KVI) : Chunk := .obj [b] (MapIsI b m)
theorem mapC_holdsI {b : Nat} {m : KVI} {w : World} (h : MapIsI b m w) : (mapCI b m).holds w := ⟨h, MapIsI.local⟩

theorem same_int (a b : Int) : Instr.sameNow (.int .i64) (ik a) (ik b) = some (decide (a = b)) := by
  simp only [ik, Instr.sameNow, if_true]; rw [beq_dec]
/-- where a key is found, and what is left of the entries once it is written or struck -/
theorem find_specI (x : Int) : ∀ (es : List MapEntry) (m : KVI) (i : Nat), kvsI es = kvmI m →
    (mgetI m x = none ∧ Instr.findNow (.int .i64) (ik x) es i = some none ∧ (∀ u, msetI m x u = m ++ [(x, u)]) ∧ mdelI m x = m) ∨
    ∃ v j e, mgetI m x = some v ∧ Instr.findNow (.int .i64) (ik x) es i = some (some (i + j, v)) ∧ es[j]? = some e ∧ e.key = ik x ∧ e.val = v ∧ (∀ u, kvsI (es.modify j fun e => { e with key := ik x, val := u }) = kvmI (msetI m x u)) ∧ kvsI (es.eraseIdx j) = kvmI (mdelI m x)
  | [], [], i, _ => .inl ⟨rfl, rfl, fun _ => rfl, rfl⟩
  | [], _ :: _, i, h => by simp [kvsI, kvmI] at h
  | _ :: _, [], i, h => by simp [kvsI, kvmI] at h
  | e :: es, (k, v) :: m, i, h => by
    simp only [kvsI, kvmI, List.map_cons, List.cons.injEq, Prod.mk.injEq] at h
    obtain ⟨⟨h1, h2⟩, h3⟩ := h
    by_cases hx : x = k
    · subst hx
      refine .inr ⟨v, 0, e, by simp [mgetI], ?_, rfl, h1, h2, fun u => ?_, ?_⟩
      · simp only [Instr.findNow, h1, same_int, decide_true, h2, Nat.add_zero]
      · simp only [List.modify_zero_cons, msetI, if_true, kvsI, kvmI, List.map_cons]
        rw [h3]
      · simp only [List.eraseIdx_zero, List.tail_cons, mdelI, if_true]; exact h3
    · have hf : Instr.findNow (.int .i64) (ik x) (e :: es) i = Instr.findNow (.int .i64) (ik x) es (i + 1) := by
        simp only [Instr.findNow, h1, same_int, decide_eq_false hx]
      rcases find_specI x es m (i + 1) h3 with ⟨h4, h5, h6, h7⟩ | ⟨u, j, e', h4, h5, h6, h7, h8, h9, h10⟩
      · refine .inl ⟨by simp [mgetI, hx, h4], by rw [hf, h5], fun u => by simp [msetI, hx, h6], by simp [mdelI, hx, h7]⟩
      · refine .inr ⟨u, j + 1, e', by simp [mgetI, hx, h4], by rw [hf, h5, Nat.add_right_comm i 1 j]; rfl, by simpa using h6, h7, h8, fun y => ?_, ?_⟩
        · simp only [List.modify_succ_cons, msetI, if_neg hx, kvsI, kvmI, List.map_cons, h1, h2]
          have := h9 y; unfold kvsI kvmI at this; rw [this]
        · simp only [List.eraseIdx_cons_succ, mdelI, if_neg hx, kvsI, kvmI, List.map_cons, h1, h2]
          have := h10; unfold kvsI kvmI at this; rw [this]

/-- a map type of texts, and its elements' zero -/
def mapOfI (P : Program) (t : TypeId) : Option (TypeId × Value) := match P.underlying t with
  | some (.map k e) => match P.underlying k with
    | some (.int .i64) => match tyZero P e with
      | some z => some (k, z)
      | none => none
    | _ => none
  | _ => none
theorem mapOf_specI {P : Program} {t k : TypeId} {z : Value} (h : mapOfI P t = some (k, z)) : ∃ e, P.underlying t = some (.map k e) ∧ P.underlying k = some (.int .i64) ∧ tyZero P e = some z := by
  unfold mapOfI at h
  split at h
  · rename_i k' e hu
    split at h
    · rename_i hk
      split at h
      · rename_i z' hz
        simp only [Option.some.injEq, Prod.mk.injEq] at h
        obtain ⟨rfl, rfl⟩ := h
        exact ⟨e, hu, hk, hz⟩
      · cases h
    · cases h
  · cases h
section
variable {P : Program} {w : World} {ρ : Operand → Value} {o : Oper}
theorem run_getMapI {b clock : Nat} {es : List MapEntry} (hb : w.heap[b]? = some (.map ⟨es⟩ clock)) : (getObj b).run P w = .ok (.map ⟨es⟩ clock) w := by simp [getObj, Sem.run, hb]
theorem run_setMapI {b clock : Nat} {es : List MapEntry} (hb : w.heap[b]? = some (.map ⟨es⟩ clock)) (ob : Obj) : (setObj b ob).run P w = .ok () { w with heap := w.heap.setIfInBounds b ob } := by simp [setObj, Sem.run, hb]
theorem run_checkKeyI {k : TypeId} {x : Int} (hk : P.underlying k = some (.int .i64)) (em : Bool) (n : Nat) : (Instr.checkKey em (n + 1) k (ik x)).run P w = .ok () w := by
  simp only [Instr.checkKey, Sem.run_bind, run_underlying hk, Result.andThen_ok]; rfl
theorem run_findKeyI {k : TypeId} {x : Int} {es : List MapEntry} {r : Option (Nat × Value)} (hk : P.underlying k = some (.int .i64)) (hf : Instr.findNow (.int .i64) (ik x) es 0 = some r) : (Instr.findKey k (ik x) es).run P w = .ok r w := by
  simp only [Instr.findKey, Sem.run_bind, run_underlying hk, Result.andThen_ok, hf]; rfl
def lookVI (z : Value) (m : KVI) (x : Int) (ok : Bool) : Value := match ok with
  | true => .tuple #[(mgetI m x).getD z, .bool (mgetI m x).isSome]
  | false => (mgetI m x).getD z
theorem run_lookupI {t k : TypeId} {z : Value} {x i : Operand} {ok : Bool} {b : Nat} {m : KVI} {s : Int} (ho : o.op = .lookup t x i ok) (ht : mapOfI P t = some (k, z)) (hx : ρ x = .map (some b)) (hi : ρ i = ik s) (hm : MapIsI b m w) :
    (execOp ρ o).run P w = .ok (.value (lookVI z m s ok)) w := by
  obtain ⟨e, hu, hk, hz⟩ := mapOf_specI ht
  obtain ⟨hnd, es, clock, hb, hkv, _, _⟩ := hm
  have hz := run_zero hz
  rcases find_specI s es m 0 hkv with ⟨h1, h2, _⟩ | ⟨v, j, e', h1, h2, _⟩
  · simp only [execOp, ho, hx, hi, Instr.lookup, Sem.run_bind, run_underlying hu, Result.andThen_ok, run_getMapI hb, run_checkKeyI hk, run_findKeyI hk h2, hz, Sem.run_pure]
    cases ok <;> simp [lookVI, h1, Sem.run]
  · simp only [execOp, ho, hx, hi, Instr.lookup, Sem.run_bind, run_underlying hu, Result.andThen_ok, run_getMapI hb, run_checkKeyI hk, run_findKeyI hk h2, Sem.run_pure]
    cases ok <;> simp [lookVI, h1, Sem.run]
theorem run_lookupNilI {t k : TypeId} {z : Value} {x i : Operand} {ok : Bool} {s : Int} (ho : o.op = .lookup t x i ok) (ht : mapOfI P t = some (k, z)) (hx : ρ x = .map none) (hi : ρ i = ik s) :
    (execOp ρ o).run P w = .ok (.value (lookVI z [] s ok)) w := by
  obtain ⟨e, hu, hk, hz⟩ := mapOf_specI ht
  have hz := run_zero hz
  simp only [execOp, ho, hx, hi, Instr.lookup, Sem.run_bind, run_underlying hu, Result.andThen_ok, run_checkKeyI hk, run_findKeyI (es := []) (r := none) hk rfl, hz, Sem.run_pure]
  cases ok <;> simp [lookVI, mgetI, Sem.run]
theorem sameBits_intI (s : Int) (n : Nat) : Instr.sameBits n (ik s) (ik s) = true := by cases n <;> simp [ik, Instr.sameBits]
theorem run_mapUpdateI {t k : TypeId} {z u : Value} {b : Nat} {m : KVI} {s : Int} (ht : mapOfI P t = some (k, z)) (hm : MapIsI b m w) :
    ∃ ob, (Instr.mapUpdate t (.map (some b)) (ik s) u).run P w = .ok () { w with heap := w.heap.setIfInBounds b ob } ∧ MapIsI b (msetI m s u) { w with heap := w.heap.setIfInBounds b ob } := by
  obtain ⟨e, hu, hk, hz⟩ := mapOf_specI ht
  obtain ⟨hnd, es, clock, hb, hkv, hbo, hcl⟩ := hm
  have hlt : b < w.heap.size := by
    rcases Nat.lt_or_ge b w.heap.size with h | h
    · exact h
    · rw [Array.getElem?_eq_none (by omega)] at hb; cases hb
  rcases find_specI s es m 0 hkv with ⟨h1, h2, h3, _⟩ | ⟨v, j, e', h1, h2, h3, h4, h5, h6, _⟩
  · refine ⟨_, by simp only [Instr.mapUpdate, Sem.run_bind, run_underlying hu, Result.andThen_ok, run_getMapI hb, run_checkKeyI hk, run_findKeyI hk h2, Sem.run_pure]; exact run_setMapI hb _, mset_nodupI hnd _ _, es ++ [{ key := ik s, val := u, born := clock }], clock + 1, by simp [hlt], ?_, ?_, ?_⟩
    · rw [h3]; simp only [kvsI, kvmI, List.map_append] at hkv ⊢; rw [hkv]; rfl
    · rw [List.map_append, List.nodup_append]
      refine ⟨hbo, by simp, fun a ha b hb => ?_⟩
      simp at hb; subst hb
      obtain ⟨e, he, rfl⟩ := List.mem_map.1 ha
      have := hcl e he; omega
    · intro e he
      rcases List.mem_append.1 he with he | he
      · have := hcl e he; omega
      · simp at he; subst he; show clock < clock + 1; omega
  · simp only [Nat.zero_add] at h2
    have hkey : (((Array.mk es)[j]?).map (·.key)).getD (ik s) = ik s := by simp [h3, h4]
    refine ⟨.map ⟨es.modify j fun e => { e with key := ik s, val := u }⟩ clock, ?_, mset_nodupI hnd _ _, _, clock, by simp [hlt], h6 u, ?_, ?_⟩
    · have hks : (Instr.keyThatStays (ik s) (ik s)).run P w = .ok (ik s) w := by
        unfold Instr.keyThatStays; rw [sameBits_intI]; rfl
      simp only [Instr.mapUpdate, Sem.run_bind, run_underlying hu, Result.andThen_ok, run_getMapI hb, run_checkKeyI hk, run_findKeyI hk h2, hkey, hks]
      rw [run_setMapI hb]
      simp
    · have : (es.modify j fun e => { e with key := ik s, val := u }).map (·.born) = es.map (·.born) := by
        apply List.ext_getElem?; intro i
        simp only [List.getElem?_map, List.getElem?_modify]
        split <;> simp_all
      rw [this]; exact hbo
    · intro e he
      obtain ⟨i, hi, hge⟩ := List.mem_iff_getElem.1 he
      rw [List.getElem_modify] at hge
      split at hge
      · subst hge; exact hcl (es[i]'(by simpa using hi)) (List.getElem_mem _)
      · subst hge; exact hcl _ (List.getElem_mem _)
theorem run_deleteI {t k : TypeId} {z : Value} {b : Nat} {m : KVI} {s : Int} {t2 ty : TypeId} (ht : mapOfI P t = some (k, z)) (hm : MapIsI b m w) :
    ∃ ob, (Builtin.delete_ #[t, t2] ty #[.map (some b), ik s]).run P w = .ok (.tuple #[]) { w with heap := w.heap.setIfInBounds b ob } ∧ MapIsI b (mdelI m s) { w with heap := w.heap.setIfInBounds b ob } := by
  obtain ⟨e, hu, hk, hz⟩ := mapOf_specI ht
  obtain ⟨hnd, es, clock, hb, hkv, hbo, hcl⟩ := hm
  have hlt : b < w.heap.size := by
    rcases Nat.lt_or_ge b w.heap.size with h | h
    · exact h
    · rw [Array.getElem?_eq_none (by omega)] at hb; cases hb
  rcases find_specI s es m 0 hkv with ⟨h1, h2, _, h3⟩ | ⟨v, j, e', h1, h2, h3, h4, h5, _, h6⟩
  · refine ⟨.map ⟨es⟩ clock, ?_, mdel_nodupI hnd _, es, clock, by simp [hlt], by rw [h3]; exact hkv, hbo, hcl⟩
    simp [Builtin.delete_, Sem.run_bind, run_underlying hu, run_getMapI hb, run_checkKeyI hk, run_findKeyI hk h2, run_setMapI hb]
  · simp only [Nat.zero_add] at h2
    refine ⟨.map ⟨es.eraseIdx j⟩ clock, ?_, mdel_nodupI hnd _, _, clock, by simp [hlt], h6, ?_, ?_⟩
    · simp [Builtin.delete_, Sem.run_bind, run_underlying hu, run_getMapI hb, run_checkKeyI hk, run_findKeyI hk h2, run_setMapI hb]
    · exact hbo.sublist ((List.eraseIdx_sublist _ _).map _)
    · exact fun e he => hcl e ((List.eraseIdx_sublist _ _).subset he)
end

/-! ## the walk's rules -/
/-- a map that is known, also later on -/
structure MapOkI (H : List Chunk) (Z : List Snap) (b : Nat) (m : KVI) : Prop where
  out : ∀ w0 M w (Hn : List Chunk) (Zn : List Snap), St w0 M w (Hn ++ H) (Zn ++ Z) → MapIsI b m w
theorem MapOkI.mk' {H : List Chunk} {Z : List Snap} {b : Nat} {m : KVI} (hm : mapCI b m ∈ H) : MapOkI H Z b m :=
  ⟨fun w0 M w Hn Zn hS => (hS.holds _ (List.mem_append_right _ hm)).1⟩
theorem MapOkI.old {w0 : World} {H : List Chunk} {Z : List Snap} {b : Nat} {m : KVI} (h : MapIsI b m w0) (hz : Snap.mk w0 (Old w0) ∈ Z) : MapOkI H Z b m := by
  refine ⟨fun w1 M w Hn Zn hS => ?_⟩
  obtain ⟨h0, es, c, e, r⟩ := h
  have hlt : b < w0.heap.size := by
    rcases Nat.lt_or_ge b w0.heap.size with h2 | h2
    · exact h2
    · rw [Array.getElem?_eq_none (by omega)] at e; cases e
  exact ⟨h0, es, c, (hS.snap _ (List.mem_append_right _ hz) b hlt).2.1.trans e, r⟩
section
variable {P : Program} {N : Nat} {f : Fr} {w w0 : World} {Q : Post} {ops l : List Oper} {o : Oper} {M : List Nat} {H H' : List Chunk} {Z : List Snap} {ρ : Operand → Value}
theorem St.setMapI {b : Nat} {m m' : KVI} {ob : Obj} (hS : St w0 M w H Z) (hr : Repl (mapCI b m) (mapCI b m') H H') (h : MapIsI b m' { w with heap := w.heap.setIfInBounds b ob }) : St w0 M { w with heap := w.heap.setIfInBounds b ob } H' Z := by
  refine hS.step hr ⟨rfl, rfl, rfl, by simp, fun k hk hn => ?_⟩ (mapC_holdsI h) fun b hb => .inl hb
  have hne : k ≠ b := fun e => hn (by simp [Chunk.fp, e])
  show (w.heap.setIfInBounds b _)[k]? = _
  rw [Array.getElem?_setIfInBounds_ne (by omega)]
theorem WL.mgetI {t k : TypeId} {z v : Value} {x i : Operand} {ok : Bool} {b : Nat} {m : KVI} {s : Int} (hS : St w0 M w H Z) (ho : o.op = .lookup t x i ok) (ht : mapOfI P t = some (k, z)) (hx : ev f x = .map (some b)) (hi : ev f i = ik s) (hm : MapOkI H Z b m) (hv : lookVI z m s ok = v)
    (hg : wants ops f o = true) {d : Nat} (hd : o.dst = some d) (hn : Nat.blt d N = true) (h : WL P N ops l (up f d v) w Q) : WL P N ops (o :: l) f w Q :=
  .val hg hd hn (hv ▸ run_lookupI ho ht hx hi (hm.out _ _ _ [] [] hS)) h
theorem WL.msetI {t k : TypeId} {z u : Value} {x i y : Operand} {b : Nat} {m : KVI} {s : Int} (hS : St w0 M w H Z) (ho : o.op = .mapUpdate t x i y ∨ o.op = .insert t x i y) (ht : mapOfI P t = some (k, z)) (hx : ev f x = .map (some b)) (hi : ev f i = ik s) (hy : nfv (ev f y) = some u)
    (hr : Repl (mapCI b m) (mapCI b (msetI m s u)) H H') (hg : wants ops f o = true) (hd : o.dst = none) (h : ∀ w', St w0 M w' H' Z → WL P N ops l f w' Q) : WL P N ops (o :: l) f w Q := by
  obtain ⟨ob, h1, h2⟩ := run_mapUpdateI (u := u) (s := s) ht (hS.holds _ hr.mem).1
  have hrun : (execOp (ev f) o).run P w = .ok .skip { w with heap := w.heap.setIfInBounds b ob } := by
    rcases ho with ho | ho <;> simp [execOp, ho, hx, hi, ← nfv_eq hy, Sem.run_bind, h1]
  exact .unit0 hg hd hrun (h _ (hS.setMapI hr h2))
theorem WL.mdelI {t k t2 : TypeId} {z : Value} {x i : Operand} {b : Nat} {m : KVI} {s : Int} (hS : St w0 M w H Z) (ho : o.op = .call ⟨.builtin .delete, ⟨[x, i]⟩, ⟨[t, t2]⟩⟩) (ht : mapOfI P t = some (k, z)) (hx : ev f x = .map (some b)) (hi : ev f i = ik s)
    (hr : Repl (mapCI b m) (mapCI b (mdelI m s)) H H') (hg : wants ops f o = true) {d : Nat} (hd : o.dst = some d) (hn : Nat.blt d N = true) (h : ∀ w', St w0 M w' H' Z → WL P N ops l (up f d (.tuple #[])) w' Q) : WL P N ops (o :: l) f w Q := by
  obtain ⟨ob, h1, h2⟩ := run_deleteI (t2 := t2) (ty := o.type) (s := s) ht (hS.holds _ hr.mem).1
  have hrun : (execOp (ev f) o).run P w = .ok (.value (.tuple #[])) { w with heap := w.heap.setIfInBounds b ob } := by
    simp [execOp, ho, resolve, invoke, builtin, hx, hi, Sem.run_bind, h1]
  exact .val hg hd hn hrun (h _ (hS.setMapI hr h2))
theorem WL.mmakeI {t k : TypeId} {z : Value} (hS : St w0 M w H Z) (ho : o.op = .makeMap t none) (ht : mapOfI P t = some (k, z)) (hg : wants ops f o = true) {d : Nat} (hd : o.dst = some d) (hn : Nat.blt d N = true)
    (h : ∀ w' b, St w0 M w' (mapCI b [] :: H) Z → WL P N ops l (up f d (.map (some b))) w' Q) : WL P N ops (o :: l) f w Q := by
  have hrun : (execOp (ev f) o).run P w = .ok (.value (.map (some w.heap.size))) (w.alloc (.map #[] 0)) := by
    simp only [execOp, ho, Instr.makeMap, Option.map_none, Sem.run_bind, newObj, Result.andThen_ok]
    rfl
  refine .val hg hd hn hrun (h _ _ (hS.push (.alloc _ _ _) (mapC_holdsI ⟨.nil, [], 0, heap_alloc_new w _, rfl, .nil, by simp⟩) fun b hb => ?_))
  have : b = w.heap.size := by simpa [Chunk.fp] using hb
  subst this; simp
theorem run_lenMapI {t k : TypeId} {z : Value} {x : Operand} {b : Nat} {m : KVI} (ho : o.op = .call ⟨.builtin .len, ⟨[x]⟩, ⟨[t]⟩⟩) (ht : mapOfI P t = some (k, z)) (hx : ρ x = .map (some b)) (hm : MapIsI b m w) : (execOp ρ o).run P w = .ok (.value (.int .i64 (m.length : Int))) w := by
  obtain ⟨e, hu, hk, hz⟩ := mapOf_specI ht
  obtain ⟨hnd, es, clock, hb, hkv, _, _⟩ := hm
  have : es.length = m.length := by have := congrArg List.length hkv; simpa [kvsI, kvmI] using this
  simp [execOp, ho, resolve, invoke, builtin, Builtin.len_, hx, Sem.run_bind, run_underlying hu, run_getMapI hb, goInt, this]
theorem WL.mlenI {t k : TypeId} {z : Value} {x : Operand} {b : Nat} {m : KVI} (hS : St w0 M w H Z) (ho : o.op = .call ⟨.builtin .len, ⟨[x]⟩, ⟨[t]⟩⟩) (ht : mapOfI P t = some (k, z)) (hx : ev f x = .map (some b)) (hm : MapOkI H Z b m)
    (hg : wants ops f o = true) {d : Nat} (hd : o.dst = some d) (hn : Nat.blt d N = true) (h : WL P N ops l (up f d (.int .i64 (m.length : Int))) w Q) : WL P N ops (o :: l) f w Q :=
  .val hg hd hn (run_lenMapI ho ht hx (hm.out _ _ _ [] [] hS)) h

end
section
variable {P : Program} {N : Nat} {f : Fr} {w w0 : World} {Q : Post} {ops : List Oper} {M : List Nat} {H0 H H' : List Chunk} {Z0 Z : List Snap} {q : Qs} {l : List Nat} {i : Nat}
theorem WD.mgetI {t k : TypeId} {z v : Value} {x y : Operand} {ok : Bool} {b : Nat} {m : KVI} {s : Int} (ho : (ix ops i).op = .lookup t x y ok) (ht : mapOfI P t = some (k, z)) (hx : ev f x = .map (some b)) (hi : ev f y = ik s) (hm : MapOkI H0 Z0 b m) (hv : lookVI z m s ok = v)
    (hq : q.contains i = true) (hg : wants ops f (ix ops i) = true) {d : Nat} (hd : (ix ops i).dst = some d) (hn : Nat.blt d N = true) (h : WD P N (SS w0 M H0 Z0) ops q l (up f d v) w Q) : WD P N (SS w0 M H0 Z0) ops q (i :: l) f w Q :=
  .takeS hq (by unfold blind; rw [ho]) hd hn hg (fun w' ⟨Hn, Zn, hS⟩ => hv ▸ run_lookupI ho ht hx hi (hm.out _ _ _ Hn Zn hS)) h
theorem WD.msetCI {t k : TypeId} {z u : Value} {x y a : Operand} {b : Nat} {m : KVI} {s : Int} (hS : St w0 M w (mapCI b m :: H) Z) (hM : More H0 Z0 H Z) (ho : (ix ops i).op = .mapUpdate t x y a ∨ (ix ops i).op = .insert t x y a) (ht : mapOfI P t = some (k, z)) (hx : ev f x = .map (some b)) (hy : ev f y = ik s) (ha : nfv (ev f a) = some u)
    (hq : q.contains i = false) (hi : Nat.blt i ops.length = true) (hg : wants ops f (ix ops i) = true) (hd : (ix ops i).dst = none) (h : ∀ w', St w0 M w' (mapCI b (msetI m s u) :: H) Z → WD P N (SS w0 M H0 Z0) ops q l f w' Q) : WD P N (SS w0 M H0 Z0) ops q (i :: l) f w Q := by
  obtain ⟨ob, h1, h2⟩ := run_mapUpdateI (u := u) (s := s) ht (hS.holds _ (List.Mem.head _)).1
  have hrun : (execOp (ev f) (ix ops i)).run P w = .ok .skip { w with heap := w.heap.setIfInBounds b ob } := by
    rcases ho with ho | ho <;> simp [execOp, ho, hx, hy, ← nfv_eq ha, Sem.run_bind, h1]
  have hS' := hS.setMapI .here h2
  exact .unit0 hq hi hg hd hrun (hM.ss hS'.drop) (h _ hS')
theorem WD.mlenI {t k : TypeId} {z : Value} {x : Operand} {b : Nat} {m : KVI} (ho : (ix ops i).op = .call ⟨.builtin .len, ⟨[x]⟩, ⟨[t]⟩⟩) (ht : mapOfI P t = some (k, z)) (hx : ev f x = .map (some b)) (hm : MapOkI H0 Z0 b m)
    (hq : q.contains i = true) (hg : wants ops f (ix ops i) = true) {d : Nat} (hd : (ix ops i).dst = some d) (hn : Nat.blt d N = true) (h : WD P N (SS w0 M H0 Z0) ops q l (up f d (.int .i64 (m.length : Int))) w Q) : WD P N (SS w0 M H0 Z0) ops q (i :: l) f w Q :=
  .takeS hq (by unfold blind; rw [ho]) hd hn hg (fun w' ⟨Hn, Zn, hS⟩ => run_lenMapI ho ht hx (hm.out _ _ _ Hn Zn hS)) h
end
end Go.J

/- What is proved: the walk's rules for shifts, complements, bytes to texts and back, closures, functions without results, and a builder of texts. Conditions: as each rule names them. -/
set_option linter.unusedSimpArgs false
set_option linter.unusedVariables false
namespace Go.J
open Go Go.RowKit

def shrI (k : IntKind) (a b : Int) : Int := a.fdiv (2 ^ (min b.toNat k.bits))
def shlI (k : IntKind) (a b : Int) : Int := k.wrap (a * 2 ^ (min b.toNat k.bits))
def compI (k : IntKind) (a : Int) : Int := bits .xor k (if k.signed then -1 else k.max) a
section
variable {P : Program} {N : Nat} {f : Fr} {w w0 : World} {Q : Post} {ops l : List Oper} {o : Oper} {M : List Nat} {H H' : List Chunk} {Z : List Snap} {ρ : Operand → Value}

/-- what stood at the head of the call, and stays -/
theorem LdOk.old {r off : Nat} {t ty : TypeId} {cs : List Value} {v : Value} (h : w0.heap[r]? = some (.cells ⟨cs⟩ t (0, 0))) (hz : Snap.mk w0 (Old w0) ∈ Z) (hv : getV P ty cs off = some v) : LdOk P H Z ty ⟨r, off, none⟩ v := by
  have hlt : r < w0.heap.size := by
    rcases Nat.lt_or_ge r w0.heap.size with h2 | h2
    · exact h2
    · rw [Array.getElem?_eq_none (by omega)] at h; cases h
  have := LdOk.snap (P := P) (H := H) (Z := Z) (b := r) (o := 0) (off := off) (wz := w0) (F := Old w0) (cs := cs) hlt (fun j u hj => by
    rw [Nat.zero_add, cell_of_row w0 r j ⟨cs⟩ t (0, 0) h]; simpa using hj) hz hv
  rwa [Nat.zero_add] at this
/-! ## shifts and complements -/
theorem run_shr {ty ty' : TypeId} {x y : Operand} {k k2 : IntKind} {a b : Int} (ho : o.op = .binOp .shr ty x y ty') (hx : ρ x = .int k a) (hy : ρ y = .int k2 b) (hb : 0 ≤ b) : (execOp ρ o).run P w = .ok (.value (.int k (shrI k a b))) w := by
  have h0 : ¬ b < 0 := by omega
  have h1 : (eqGuard .shr ty x y (.int k a) (.int k2 b)).run P w = .ok () w := by simp [eqGuard]
  simp only [execOp, ho, hx, hy, Sem.run_bind, h1, Result.andThen_ok, binOp, Op.shift, h0, if_false, Sem.run_pure]
  rfl
theorem run_shl {ty ty' : TypeId} {x y : Operand} {k k2 : IntKind} {a b : Int} (ho : o.op = .binOp .shl ty x y ty') (hx : ρ x = .int k a) (hy : ρ y = .int k2 b) (hb : 0 ≤ b) : (execOp ρ o).run P w = .ok (.value (.int k (shlI k a b))) w := by
  have h0 : ¬ b < 0 := by omega
  have h1 : (eqGuard .shl ty x y (.int k a) (.int k2 b)).run P w = .ok () w := by simp [eqGuard]
  simp only [execOp, ho, hx, hy, Sem.run_bind, h1, Result.andThen_ok, binOp, Op.shift, h0, if_false, Sem.run_pure]
  rfl
theorem run_comp {ty : TypeId} {x : Operand} {k : IntKind} {a : Int} (ho : o.op = .unOp .xor ty x) (hx : ρ x = .int k a) : (execOp ρ o).run P w = .ok (.value (.int k (compI k a))) w := by
  simp only [execOp, ho, hx, Sem.run_bind, Op.unary, Op.intBits, Result.andThen_ok, Sem.run_pure]
  rfl
theorem WL.shr {ty ty' : TypeId} {x y : Operand} {k k2 : IntKind} {a b : Int} (ho : o.op = .binOp .shr ty x y ty') (hx : ev f x = .int k a) (hy : ev f y = .int k2 b) (hb : 0 ≤ b)
    (hg : wants ops f o = true) {d : Nat} (hd : o.dst = some d) (hn : Nat.blt d N = true) (h : WL P N ops l (up f d (.int k (shrI k a b))) w Q) : WL P N ops (o :: l) f w Q :=
  .val hg hd hn (run_shr ho hx hy hb) h
theorem WL.shl {ty ty' : TypeId} {x y : Operand} {k k2 : IntKind} {a b : Int} (ho : o.op = .binOp .shl ty x y ty') (hx : ev f x = .int k a) (hy : ev f y = .int k2 b) (hb : 0 ≤ b)
    (hg : wants ops f o = true) {d : Nat} (hd : o.dst = some d) (hn : Nat.blt d N = true) (h : WL P N ops l (up f d (.int k (shlI k a b))) w Q) : WL P N ops (o :: l) f w Q :=
  .val hg hd hn (run_shl ho hx hy hb) h
theorem WL.comp {ty : TypeId} {x : Operand} {k : IntKind} {a : Int} (ho : o.op = .unOp .xor ty x) (hx : ev f x = .int k a)
    (hg : wants ops f o = true) {d : Nat} (hd : o.dst = some d) (hn : Nat.blt d N = true) (h : WL P N ops l (up f d (.int k (compI k a))) w Q) : WL P N ops (o :: l) f w Q :=
  .val hg hd hn (run_comp ho hx) h

/-! ## closures -/
theorem run_callF {x : Operand} {xs : List Operand} {ts : Array TypeId} {fid : FuncId} {first cap args : List Value} (ho : o.op = .call ⟨.value x, ⟨xs⟩, ts⟩) (hx : ev f x = .func (.func fid) ⟨first⟩ ⟨cap⟩) (ha : first ++ xs.map (ev f) ++ cap = args) (hk : callOk P fid = true) :
    (execOp (ev f) o).run P w = .ok (.enter fid ⟨args⟩) w := by
  have e : execOp (ev f) o = callFunc fid (#[] ++ (Array.mk first ++ (Array.mk xs).map (ev f)) ++ Array.mk cap) := by
    obtain ⟨dst, op, type, pos, after, guard⟩ := o
    simp only at ho
    subst ho
    simp [execOp, resolve, hx, Deferred.ofValue, invoke]
  rw [e, run_callFunc hk]
  simp [← ha]
theorem WL.callF {x : Operand} {xs : List Operand} {ts : Array TypeId} {fid : FuncId} {first cap args : List Value} {R : Value → World → Prop} (ho : o.op = .call ⟨.value x, ⟨xs⟩, ts⟩) (hx : ev f x = .func (.func fid) ⟨first⟩ ⟨cap⟩) (ha : first ++ xs.map (ev f) ++ cap = args)
    (hc : Cal P fid args w R) (hg : wants ops f o = true) {d : Nat} (hd : o.dst = some d) (hn : Nat.blt d N = true) (h : ∀ v w', R v w' → WL P N ops l (up f d v) w' Q) : WL P N ops (o :: l) f w Q :=
  .enter hg hd hn (run_callF ho hx ha hc.ok) hc.calls h

/-! ## texts out of bytes -/
def byteC (l : List UInt8) : List Value := l.map fun b => Value.int .u8 b.toNat
theorem byteC_len (l : List UInt8) : (byteC l).length = l.length := by simp [byteC]
theorem byteC_app (a b : List UInt8) : byteC (a ++ b) = byteC a ++ byteC b := by simp [byteC]
/-- a slice of bytes -/
def bytesOf (P : Program) (t : TypeId) : Option TypeId := match P.underlying t with
  | some (.slice e) => match P.underlying e with
    | some (.int .u8) => some e
    | _ => none
  | _ => none
theorem bytesOf_spec {t e : TypeId} (h : bytesOf P t = some e) : P.underlying t = some (.slice e) ∧ P.underlying e = some (.int .u8) := by
  unfold bytesOf at h
  split at h
  · rename_i e' hu
    split at h
    · rename_i he
      simp only [Option.some.injEq] at h
      subst h; exact ⟨hu, he⟩
    · cases h
  · cases h
theorem run_b2s {t t2 : TypeId} {x : Operand} {e e' : TypeId} {A : Option Addr} {n cap n' : Nat} {l : List UInt8} (ho : o.op = .convert t t2 x) (ht : bytesOf P t = some e) (ht2 : isStr P t2 = true) (hx : ρ x = .slice A n cap) (hb : RowAt w e' 1 (.slice A n cap) n' (byteC l)) :
    (execOp ρ o).run P w = .ok (.value (str l)) w := by
  obtain ⟨hs, he⟩ := bytesOf_spec ht
  have hd := isStr_eq ht2
  have h1 := hb.1
  rw [byteC_len, Nat.mul_one] at h1
  rcases hb.2 with ⟨h2, h3⟩ | ⟨g, off, cap', cur, h2, hh, _⟩
  · simp only [Value.slice.injEq] at h2
    obtain ⟨rfl, rfl, rfl⟩ := h2
    have : l = [] := by rw [← List.length_eq_zero_iff]; omega
    subst this
    simp only [execOp, ho, hx, Sem.run_bind]
    rw [run_convert_bytes_string w t t2 e none 0 0 hs he hd]
    rfl
  · simp only [Value.slice.injEq] at h2
    obtain ⟨rfl, rfl, rfl⟩ := h2
    have hcells := hb.cells
    subst h1
    have := run_convert_bytes_back (P := P) w t t2 e ⟨g, off, none⟩ cap l hs he hd (fun j hj => by
      rw [Addr.add_mid]
      exact hcells j _ (by simp [byteC, List.getElem?_eq_getElem hj]))
    simp only [execOp, ho, hx, Sem.run_bind, this, Result.andThen_ok]
    rfl
theorem WL.b2s {t t2 : TypeId} {x : Operand} {e e' : TypeId} {A : Option Addr} {n cap n' : Nat} {s : List UInt8} {xs : List Value} (hS : St w0 M w H Z) (ho : o.op = .convert t t2 x) (ht : bytesOf P t = some e) (ht2 : isStr P t2 = true) (hx : ev f x = .slice A n cap) (hm : Chunk.own (.slice A n cap) e' 1 n' xs ∈ H) (hxs : xs = byteC s)
    (hg : wants ops f o = true) {d : Nat} (hd : o.dst = some d) (hn : Nat.blt d N = true) (h : WL P N ops l (up f d (str s)) w Q) : WL P N ops (o :: l) f w Q :=
  .val hg hd hn (run_b2s ho ht ht2 hx (hxs ▸ hS.holds _ hm)) h
end
section
variable {P : Program} {N : Nat} {f : Fr} {w w0 : World} {Q : Post} {ops : List Oper} {M : List Nat} {H0 H H' : List Chunk} {Z0 Z : List Snap} {q : Qs} {l : List Nat} {i : Nat} {S : World → Prop}
theorem WD.shr {ty ty' : TypeId} {x y : Operand} {k k2 : IntKind} {a b : Int} (ho : (ix ops i).op = .binOp .shr ty x y ty') (hx : ev f x = .int k a) (hy : ev f y = .int k2 b) (hb : 0 ≤ b)
    (hq : q.contains i = true) (hg : wants ops f (ix ops i) = true) {d : Nat} (hd : (ix ops i).dst = some d) (hn : Nat.blt d N = true) (h : WD P N S ops q l (up f d (.int k (shrI k a b))) w Q) : WD P N S ops q (i :: l) f w Q :=
  .take hq hd hn (.inl ⟨hg, fun _ _ => run_shr ho hx hy hb⟩) h
theorem WD.shl {ty ty' : TypeId} {x y : Operand} {k k2 : IntKind} {a b : Int} (ho : (ix ops i).op = .binOp .shl ty x y ty') (hx : ev f x = .int k a) (hy : ev f y = .int k2 b) (hb : 0 ≤ b)
    (hq : q.contains i = true) (hg : wants ops f (ix ops i) = true) {d : Nat} (hd : (ix ops i).dst = some d) (hn : Nat.blt d N = true) (h : WD P N S ops q l (up f d (.int k (shlI k a b))) w Q) : WD P N S ops q (i :: l) f w Q :=
  .take hq hd hn (.inl ⟨hg, fun _ _ => run_shl ho hx hy hb⟩) h
theorem WD.cat {ty ty' : TypeId} {x y : Operand} {a b : List UInt8} (ho : (ix ops i).op = .binOp .add ty x y ty') (hx : ev f x = str a) (hy : ev f y = str b) (hr : a.length + b.length ≤ 9223372036854775807)
    (hq : q.contains i = true) (hg : wants ops f (ix ops i) = true) {d : Nat} (hd : (ix ops i).dst = some d) (hn : Nat.blt d N = true) (h : WD P N S ops q l (up f d (str (a ++ b))) w Q) : WD P N S ops q (i :: l) f w Q :=
  .take hq hd hn (.inl ⟨hg, fun _ _ => run_cat ho hx hy hr⟩) h
theorem WD.idxS {t : TypeId} {x y : Operand} {s : List UInt8} {k : IntKind} {j : Nat} {c : UInt8} (ho : (ix ops i).op = .index t x y) (ht : isStr P t = true) (hx : ev f x = str s) (hy : ev f y = .int k (Int.ofNat j)) (hj : s[j]? = some c)
    (hq : q.contains i = true) (hg : wants ops f (ix ops i) = true) {d : Nat} (hd : (ix ops i).dst = some d) (hn : Nat.blt d N = true) (h : WD P N S ops q l (up f d (.int .u8 (c.toNat : Int))) w Q) : WD P N S ops q (i :: l) f w Q :=
  .take hq hd hn (.inl ⟨hg, fun _ _ => run_idxS ho ht hx hy hj⟩) h
theorem WD.lowS {t : TypeId} {x y : Operand} {s : List UInt8} {k : IntKind} {j : Nat} (ho : (ix ops i).op = .slice t x (some y) none none) (ht : isStr P t = true) (hx : ev f x = str s) (hy : ev f y = .int k (Int.ofNat j)) (hj : j ≤ s.length)
    (hq : q.contains i = true) (hg : wants ops f (ix ops i) = true) {d : Nat} (hd : (ix ops i).dst = some d) (hn : Nat.blt d N = true) (h : WD P N S ops q l (up f d (str (s.drop j))) w Q) : WD P N S ops q (i :: l) f w Q :=
  .take hq hd hn (.inl ⟨hg, fun w' _ => by have := run_cutS (P := P) (w := w') (l := j) (h := s.length) ho ht hx ⟨k, hy⟩ rfl hj (Nat.le_refl _); rwa [List.take_length] at this⟩) h
theorem WD.highS {t : TypeId} {x y : Operand} {s : List UInt8} {k : IntKind} {j : Nat} (ho : (ix ops i).op = .slice t x none (some y) none) (ht : isStr P t = true) (hx : ev f x = str s) (hy : ev f y = .int k (Int.ofNat j)) (hj : j ≤ s.length)
    (hq : q.contains i = true) (hg : wants ops f (ix ops i) = true) {d : Nat} (hd : (ix ops i).dst = some d) (hn : Nat.blt d N = true) (h : WD P N S ops q l (up f d (str (s.take j))) w Q) : WD P N S ops q (i :: l) f w Q :=
  .take hq hd hn (.inl ⟨hg, fun w' _ => by have := run_cutS (P := P) (w := w') (l := 0) (h := j) ho ht hx rfl ⟨k, hy⟩ (Nat.zero_le _) hj; rwa [List.drop_zero] at this⟩) h
theorem WD.midS {t : TypeId} {x y z : Operand} {s : List UInt8} {k k' : IntKind} {a b : Nat} (ho : (ix ops i).op = .slice t x (some y) (some z) none) (ht : isStr P t = true) (hx : ev f x = str s) (hy : ev f y = .int k (Int.ofNat a)) (hz : ev f z = .int k' (Int.ofNat b)) (hij : a ≤ b) (hj : b ≤ s.length)
    (hq : q.contains i = true) (hg : wants ops f (ix ops i) = true) {d : Nat} (hd : (ix ops i).dst = some d) (hn : Nat.blt d N = true) (h : WD P N S ops q l (up f d (str ((s.take b).drop a))) w Q) : WD P N S ops q (i :: l) f w Q :=
  .take hq hd hn (.inl ⟨hg, fun w' _ => run_cutS (P := P) (w := w') (l := a) (h := b) ho ht hx ⟨k, hy⟩ ⟨k', hz⟩ hij hj⟩) h
/-- bytes to a text, an effect as far as the order goes -/
theorem WDo.b2s {t t2 : TypeId} {x : Operand} {e e' : TypeId} {A : Option Addr} {n cap n' : Nat} {s : List UInt8} {xs : List Value} (hS : St w0 M w H Z) (hM : More H0 Z0 H Z) (ho : (ix ops i).op = .convert t t2 x) (ht : bytesOf P t = some e) (ht2 : isStr P t2 = true) (hx : ev f x = .slice A n cap) (hm : Chunk.own (.slice A n cap) e' 1 n' xs ∈ H) (hxs : xs = byteC s)
    (hi : Nat.blt i ops.length = true) (hg : wants ops f (ix ops i) = true) {d : Nat} (hd : (ix ops i).dst = some d) (hn : Nat.blt d N = true) (h : WD P N (SS w0 M H0 Z0) ops q l (up f d (str s)) w Q) : WDo P N (SS w0 M H0 Z0) ops q i l f w Q :=
  .val hi hg hd hn (run_b2s ho ht ht2 hx (hxs ▸ hS.holds _ hm)) (hM.ss hS) h
theorem WD.b2s {t t2 : TypeId} {x : Operand} {e e' : TypeId} {A : Option Addr} {n cap n' : Nat} {s : List UInt8} {xs : List Value} (hS : St w0 M w H Z) (hM : More H0 Z0 H Z) (ho : (ix ops i).op = .convert t t2 x) (ht : bytesOf P t = some e) (ht2 : isStr P t2 = true) (hx : ev f x = .slice A n cap) (hm : Chunk.own (.slice A n cap) e' 1 n' xs ∈ H) (hxs : xs = byteC s)
    (hq : q.contains i = false) (hi : Nat.blt i ops.length = true) (hg : wants ops f (ix ops i) = true) {d : Nat} (hd : (ix ops i).dst = some d) (hn : Nat.blt d N = true) (h : WD P N (SS w0 M H0 Z0) ops q l (up f d (str s)) w Q) : WD P N (SS w0 M H0 Z0) ops q (i :: l) f w Q :=
  .val hq hi hg hd hn (run_b2s ho ht ht2 hx (hxs ▸ hS.holds _ hm)) (hM.ss hS) h
theorem WDo.calls {fid : FuncId} {xs : List Operand} {ts : Array TypeId} {args : List Value} {R : Value → World → Prop} (hS : St w0 M w H Z) (hM : More H0 Z0 H Z) (ho : (ix ops i).op = .call ⟨.value (.func fid), ⟨xs⟩, ts⟩) (ha : xs.map (ev f) = args)
    (hc : Cal P fid args w fun v w' => Upd [] w w' ∧ R v w') (hi : Nat.blt i ops.length = true) (hg : wants ops f (ix ops i) = true) {d : Nat} (hd : (ix ops i).dst = some d) (hn : Nat.blt d N = true)
    (h : ∀ v w', R v w' → St w0 M w' H Z → WD P N (SS w0 M H0 Z0) ops q l (up f d v) w' Q) : WDo P N (SS w0 M H0 Z0) ops q i l f w Q :=
  .enter hi hg hd hn (run_callOp ho ha hc.ok) hc.calls fun v w' ⟨hu, hR⟩ => ⟨hM.ss (hS.upd0 hu), h v w' hR (hS.upd0 hu)⟩
theorem row_box {b n : Nat} {e : TypeId} {cs : List Value} (hb : w.heap[b]? = some (.cells ⟨cs⟩ e (0, 0))) (hl : cs.length = n) (hm : n ≤ maxLen) : RowAt w e 1 (.slice (some ⟨b, 0, none⟩) n n) n cs :=
  ⟨by omega, .inr ⟨b, 0, n, cs, rfl, hb, Nat.le_refl _, hm, by omega, by subst hl; simp⟩⟩
theorem WDo.b2sBox {t t2 : TypeId} {x : Operand} {e e' : TypeId} {b n : Nat} {s : List UInt8} {cs : List Value} (hS : St w0 M w H Z) (hM : More H0 Z0 H Z) (ho : (ix ops i).op = .convert t t2 x) (ht : bytesOf P t = some e) (ht2 : isStr P t2 = true) (hx : ev f x = .slice (some ⟨b, 0, none⟩) n n) (hm : Chunk.box b e' cs ∈ H) (hxs : cs = byteC s) (hl : s.length = n) (hmx : n ≤ 1048576)
    (hi : Nat.blt i ops.length = true) (hg : wants ops f (ix ops i) = true) {d : Nat} (hd : (ix ops i).dst = some d) (hn : Nat.blt d N = true) (h : WD P N (SS w0 M H0 Z0) ops q l (up f d (str s)) w Q) : WDo P N (SS w0 M H0 Z0) ops q i l f w Q :=
  .val hi hg hd hn (run_b2s ho ht ht2 hx (hxs ▸ row_box (hS.holds _ hm) (by rw [hxs, byteC_len]; exact hl) (by unfold maxLen; omega))) (hM.ss hS) h
theorem WD.b2sBox {t t2 : TypeId} {x : Operand} {e e' : TypeId} {b n : Nat} {s : List UInt8} {cs : List Value} (hS : St w0 M w H Z) (hM : More H0 Z0 H Z) (ho : (ix ops i).op = .convert t t2 x) (ht : bytesOf P t = some e) (ht2 : isStr P t2 = true) (hx : ev f x = .slice (some ⟨b, 0, none⟩) n n) (hm : Chunk.box b e' cs ∈ H) (hxs : cs = byteC s) (hl : s.length = n) (hmx : n ≤ 1048576)
    (hq : q.contains i = false) (hi : Nat.blt i ops.length = true) (hg : wants ops f (ix ops i) = true) {d : Nat} (hd : (ix ops i).dst = some d) (hn : Nat.blt d N = true) (h : WD P N (SS w0 M H0 Z0) ops q l (up f d (str s)) w Q) : WD P N (SS w0 M H0 Z0) ops q (i :: l) f w Q :=
  .eff hq (WDo.b2sBox hS hM ho ht ht2 hx hm hxs hl hmx hi hg hd hn h).out
theorem WDo.slit {t e : TypeId} {len n : Nat} {ps : List (Nat × Operand)} {cs : List Value} (hS : St w0 M w H Z) (hM : More H0 Z0 H Z) (ho : (ix ops i).op = .buildSlice t len ⟨ps⟩) (hv : buildSliceV P t len (evP (ev f) ps) = some (e, n, cs))
    (hi : Nat.blt i ops.length = true) (hg : wants ops f (ix ops i) = true) {d : Nat} (hd : (ix ops i).dst = some d) (hn : Nat.blt d N = true)
    (h : ∀ w' b, St w0 M w' (.box b e cs :: H) Z → More H0 Z0 (.box b e cs :: H) Z → WD P N (SS w0 M H0 Z0) ops q l (up f d (.slice (some ⟨b, 0, none⟩) len len)) w' Q) : WDo P N (SS w0 M H0 Z0) ops q i l f w Q :=
  .val hi hg hd hn (run_sliceLit ho hv) ((hM.chunk _).ss (hS.newBox _ _)) (h _ _ (hS.newBox _ _) (hM.chunk _))
/-- any call: what is known behind it the user says -/
theorem WD.callH {fid : FuncId} {xs : List Operand} {ts : Array TypeId} {args : List Value} {R : Value → World → Prop} (ho : (ix ops i).op = .call ⟨.value (.func fid), ⟨xs⟩, ts⟩) (ha : xs.map (ev f) = args)
    (hc : Cal P fid args w R) (hq : q.contains i = false) (hi : Nat.blt i ops.length = true) (hg : wants ops f (ix ops i) = true) {d : Nat} (hd : (ix ops i).dst = some d) (hn : Nat.blt d N = true)
    (h : ∀ v w', R v w' → S w' ∧ WD P N S ops q l (up f d v) w' Q) : WD P N S ops q (i :: l) f w Q :=
  .enter hq hi hg hd hn (run_callOp ho ha hc.ok) hc.calls h
end

/-! ## addresses seen as plain ones, and bytes read as a text -/
section
variable {P : Program} {N : Nat} {f : Fr} {w w0 : World} {Q : Post} {ops l : List Oper} {o : Oper} {M : List Nat} {H H' : List Chunk} {Z : List Snap} {ρ : Operand → Value}
def ptrTo (P : Program) (t : TypeId) : Option (TypeId × Nat) := match P.underlying t with
  | some (.pointer e) => match P.info? e with
    | some ⟨_, _, size, _, _, _, _, _, _, _⟩ => some (e, size)
    | none => none
  | _ => none
theorem ptrTo_spec {t e : TypeId} {n : Nat} (h : ptrTo P t = some (e, n)) : P.underlying t = some (.pointer e) ∧ ∃ i, P.info? e = some i ∧ i.size = n := by
  unfold ptrTo at h
  split at h
  · rename_i e' hu
    split at h
    · rename_i d s sz by_ hp al fa z x y hi
      simp only [Option.some.injEq, Prod.mk.injEq] at h
      obtain ⟨rfl, rfl⟩ := h
      exact ⟨hu, _, hi, rfl⟩
    · cases h
  · cases h
def isUns (P : Program) (t : TypeId) : Bool := match P.underlying t with
  | some .unsafePointer => true
  | _ => false
theorem isUns_eq {t : TypeId} (h : isUns P t = true) : P.underlying t = some .unsafePointer := by
  unfold isUns at h
  split at h
  · assumption
  · cases h
theorem box_shape {b : Nat} {t : TypeId} {cs : List Value} (h : w.heap[b]? = some (.cells ⟨cs⟩ t (0, 0))) : w.shape? b = some (t, cs.length) := by
  unfold World.shape?; rw [h]; rfl
theorem WL.toU {t t2 e : TypeId} {n b : Nat} {x : Operand} {bt : TypeId} {cs : List Value} (hS : St w0 M w H Z) (ho : o.op = .convert t t2 x) (ht : ptrTo P t = some (e, n + 1)) (ht2 : isUns P t2 = true) (hx : ev f x = .pointer (some ⟨b, 0, none⟩)) (hm : Chunk.box b bt cs ∈ H) (h0 : 0 < cs.length)
    (hg : wants ops f o = true) {d : Nat} (hd : o.dst = some d) (hn : Nat.blt d N = true) (h : WL P N ops l (up f d (.pointer (some ⟨b, 0, none⟩))) w Q) : WL P N ops (o :: l) f w Q := by
  obtain ⟨hu, i, hi, hsz⟩ := ptrTo_spec ht
  have := Lib.run_to_unsafe (P := P) w ⟨b, 0, none⟩ hu (isUns_eq ht2) hi (by omega) (box_shape (hS.holds _ hm)) h0
  exact .val hg hd hn (by simp [execOp, ho, hx, Sem.run_bind, this]) h
theorem WL.fromU {t t2 e : TypeId} {n b : Nat} {x : Operand} {bt : TypeId} {cs : List Value} (hS : St w0 M w H Z) (ho : o.op = .convert t t2 x) (ht : isUns P t = true) (ht2 : ptrTo P t2 = some (e, n)) (hx : ev f x = .pointer (some ⟨b, 0, none⟩)) (hm : Chunk.box b bt cs ∈ H) (hl : liesAt P P.depth bt (cs.length / P.cellsOf bt) 0 e 1 = true)
    (hg : wants ops f o = true) {d : Nat} (hd : o.dst = some d) (hn : Nat.blt d N = true) (h : WL P N ops l (up f d (.pointer (some ⟨b, 0, none⟩))) w Q) : WL P N ops (o :: l) f w Q := by
  obtain ⟨hu, i, hi, hsz⟩ := ptrTo_spec ht2
  have := Lib.run_from_unsafe (P := P) w ⟨b, 0, none⟩ (isUns_eq ht) hu hi (box_shape (hS.holds _ hm)) hl
  exact .val hg hd hn (by simp [execOp, ho, hx, Sem.run_bind, this]) h
/-- an address held against itself -/
theorem WL.neSame {t t' e : TypeId} {n : Nat} {x y : Operand} {a : Addr} (ho : o.op = .binOp .neq t x y t') (ht : ptrTo P t = some (e, n)) (hx : ev f x = .pointer (some a)) (hy : ev f y = .pointer (some a))
    (hg : wants ops f o = true) {d : Nat} (hd : o.dst = some d) (hn : Nat.blt d N = true) (h : WL P N ops l (up f d (.bool false)) w Q) : WL P N ops (o :: l) f w Q := by
  obtain ⟨hu, i, hi, hsz⟩ := ptrTo_spec ht
  have h1 := Lib.run_neq_ptr_same (P := P) w a hu hi
  have h2 : (eqGuard .neq t x y (.pointer (some a)) (.pointer (some a))).run P w = .ok () w := by rfl
  exact .val hg hd hn (by simp [execOp, ho, hx, hy, Sem.run_bind, h1, h2]) h
theorem run_noEsc (v : Value) : (Extern.AbiNoEscape.same ⟨[v]⟩).run P w = .ok v w := rfl
theorem liesAt_byte {e : TypeId} (hc : P.cellsOf e = 1) (count off n : Nat) (hn : off + n ≤ count) : liesAt P P.depth e count off e n = true := by
  have hd : P.depth = (2 * (P.types.size + Made.depth) + 1) + 1 := rfl
  rw [hd]
  simp only [liesAt, Bool.or_eq_true]
  left
  rw [hd]
  simp [rowAt, hc, hn, sameLayout, Nat.mod_one]
theorem run_unsafeStr {pt it ty e : TypeId} {g off n cap n' : Nat} {s : List UInt8} (hp : P.underlying pt = some (.pointer e)) (hc : P.cellsOf e = 1) (hb : RowAt w e 1 (.slice (some ⟨g, off, none⟩) n cap) n' (byteC s)) (h63 : s.length ≤ 9223372036854775807) :
    ∃ w', (Builtin.unsafeString_ #[pt, it] ty #[.pointer (some ⟨g, off, none⟩), .int .i64 (s.length : Int)]).run P w = .ok (str s) w' ∧ Upd [g] w w' := by
  rcases hb.2 with ⟨h2, h3⟩ | ⟨g', off', cap', cur, h2, hh, hn, hcm, hs, ht⟩
  · cases h2
  · simp only [Value.slice.injEq, Option.some.injEq, Addr.mk.injEq, and_true] at h2
    obtain ⟨⟨rfl, rfl⟩, rfl, rfl⟩ := h2
    have hlen := hb.1
    rw [byteC_len, Nat.mul_one] at hlen
    have hmax : IntKind.i64.max = 9223372036854775807 := rfl
    by_cases h0 : s = []
    · subst h0
      exact ⟨w, Lib.run_unsafeString_none w pt it ty (some ⟨g, off, none⟩), .refl _ _⟩
    · have hl : s.length ≠ 0 := by simpa using h0
      have hcell : ∀ j x, s[j]? = some x → w.cell? ((⟨g, off, none⟩ : Addr).add j) = some (.int .u8 x.toNat) := fun j x hj => by
        rw [Addr.add_mid]
        exact hb.cells j _ (by simp [byteC, hj])
      have hlb := Lib.run_loadBytes (P := P) w s ⟨g, off, none⟩ .empty hcell
      have hlies := liesAt_byte (P := P) hc (cur.length / P.cellsOf e) off s.length (by rw [hc]; simp; omega)
      have h63' : ¬ (9223372036854775807 : Int) < (s.length : Int) := by omega
      have hdef : Builtin.unsafeString_ #[pt, it] ty #[.pointer (some ⟨g, off, none⟩), .int .i64 s.length] =
          (do
            let n ← asInt (.int .i64 s.length)
            if n < 0 then runtimePanic (.error "unsafe.String: len out of range")
            if n > IntKind.i64.max then unsupported (.unsafePointer "String: a length above the largest int")
            if n = 0 then pure (.string .empty)
            else if ← variablesAt ⟨g, off, none⟩ (← Go.elemOf pt) n.toNat then do
              let s ← loadBytes ⟨g, off, none⟩ .empty n.toNat
              freeze ⟨g, off, none⟩ n.toNat
              pure (.string s)
            else unsupported (.unsafePointer "String: not so many bytes at ptr")) := rfl
      have hneg : ¬ (s.length : Int) < 0 := by omega
      refine ⟨w.freeze ⟨g, off, none⟩ s.length, ?_, ?_⟩
      · rw [hdef]
        simp [asInt, asIntOf, hmax, h63', hneg, hl, variablesAt, box_shape hh, Go.elemOf, run_underlying hp, hlies, hlb]
      · unfold World.freeze
        split
        · exact .refl _ _
        · exact ⟨rfl, rfl, rfl, by simp, fun k hk hn => by
            have : g ≠ k := fun e => hn (by simp [e])
            simp only [Array.getElem?_modify]
            rw [if_neg this]⟩
end
section
variable {P : Program} {N : Nat} {f : Fr} {w w0 : World} {Q : Post} {ops : List Oper} {M : List Nat} {H0 H H' : List Chunk} {Z0 Z : List Snap} {q : Qs} {l : List Nat} {i : Nat} {S : World → Prop}
theorem St.lose {c : Chunk} {w' : World} (hS : St w0 M w (c :: H) Z) (hu : Upd c.fp w w') : St w0 M w' H Z :=
  (hS.step (c' := .obj [] fun _ => True) .here hu ⟨trivial, fun _ _ _ _ => trivial⟩ (fun b hb => by simp [Chunk.fp] at hb)).drop
theorem WD.sliceData {x : Operand} {ts : Array TypeId} {A : Option Addr} {n cap : Nat} (hS : St w0 M w H Z) (hM : More H0 Z0 H Z) (ho : (ix ops i).op = .call ⟨.builtin .unsafeSliceData, ⟨[x]⟩, ts⟩) (hx : ev f x = .slice A n cap) (hA : A = none ∨ cap ≠ 0)
    (hq : q.contains i = false) (hi : Nat.blt i ops.length = true) (hg : wants ops f (ix ops i) = true) {d : Nat} (hd : (ix ops i).dst = some d) (hn : Nat.blt d N = true) (h : WD P N (SS w0 M H0 Z0) ops q l (up f d (.pointer A)) w Q) : WD P N (SS w0 M H0 Z0) ops q (i :: l) f w Q := by
  have hrun : (execOp (ev f) (ix ops i)).run P w = .ok (.value (.pointer A)) w := by
    cases A with
    | none => simp [execOp, ho, resolve, invoke, builtin, hx, Sem.run_bind, Lib.run_unsafeSliceData_nil]
    | some a =>
      have hc : cap ≠ 0 := by rcases hA with h | h
                              · cases h
                              · exact h
      simp [execOp, ho, resolve, invoke, builtin, hx, Sem.run_bind, Lib.run_unsafeSliceData_row w _ _ a n cap hc]
  exact .val hq hi hg hd hn hrun (hM.ss hS) h
theorem WD.unsStr {x y : Operand} {pt it e : TypeId} {A : Option Addr} {n cap n' : Nat} {s : List UInt8} (hS : St w0 M w (.own (.slice A n cap) e 1 n' (byteC s) :: H) Z) (hM : More H0 Z0 H Z) (ho : (ix ops i).op = .call ⟨.builtin .unsafeString, ⟨[x, y]⟩, ⟨[pt, it]⟩⟩) (hp : ptrTo P pt = some (e, 1))
    (hx : ev f x = .pointer A) (hy : ev f y = .int .i64 (s.length : Int)) (h63 : s.length ≤ 9223372036854775807)
    (hq : q.contains i = false) (hi : Nat.blt i ops.length = true) (hg : wants ops f (ix ops i) = true) {d : Nat} (hd : (ix ops i).dst = some d) (hn : Nat.blt d N = true)
    (h : ∀ w', St w0 M w' H Z → WD P N (SS w0 M H0 Z0) ops q l (up f d (str s)) w' Q) : WD P N (SS w0 M H0 Z0) ops q (i :: l) f w Q := by
  obtain ⟨hu, inf, hinf, hsz⟩ := ptrTo_spec hp
  have hc : P.cellsOf e = 1 := by unfold Program.cellsOf; rw [hinf]; exact hsz
  have hrow : RowAt w e 1 (.slice A n cap) n' (byteC s) := hS.holds _ (List.Mem.head _)
  cases A with
  | none =>
    have hs : s = [] := by
      rcases hrow.2 with ⟨h1, h2⟩ | ⟨g, off, cap', cur, h1, _⟩
      · have := hrow.1
        rw [byteC_len] at this
        rw [← List.length_eq_zero_iff]; omega
      · cases h1
    subst hs
    have := Lib.run_unsafeString_none (P := P) w pt it (ix ops i).type none
    exact .val hq hi hg hd hn (by simp [execOp, ho, resolve, invoke, builtin, hx, hy, Sem.run_bind, this]; rfl) (hM.ss hS.drop) (h _ hS.drop)
  | some a =>
    obtain ⟨g, off, rfl⟩ : ∃ g off, a = ⟨g, off, none⟩ := by
      rcases hrow.2 with ⟨h1, h2⟩ | ⟨g, off, cap', cur, h1, _⟩
      · cases h1
      · simp only [Value.slice.injEq, Option.some.injEq] at h1
        exact ⟨g, off, h1.1⟩
    obtain ⟨w', hrun, hupd⟩ := run_unsafeStr (pt := pt) (it := it) (ty := (ix ops i).type) hu hc hrow h63
    have hS' : St w0 M w' H Z := hS.lose (by simpa [Chunk.fp, Value.ownBlock] using hupd)
    exact .val hq hi hg hd hn (by simp [execOp, ho, resolve, invoke, builtin, hx, hy, Sem.run_bind, hrun]) (hM.ss hS') (h _ hS')
end

/-! ## the end of a function without results -/
section
variable {P : Program} {fn : Func} {rs : Array ResultVar} {R : Value → World → Prop} {f : Fr} {w : World}
theorem fin0n (h : fn.results = #[]) (hR : R (.tuple #[]) w) : funQ P rs fn (Ret R) .normal f w := by unfold funQ; exact ⟨_, ⟨_, rfl, hR⟩, fun a _ => by simp [results, h]⟩
theorem fin0r (h : fn.results = #[]) (hR : R (.tuple #[]) w) : funQ P rs fn (Ret R) .ret f w := by unfold funQ; exact ⟨_, ⟨_, rfl, hR⟩, fun a _ => by simp [results, h]⟩
theorem res3 {t u x : Tmp} (h : fn.results = #[.tmp t, .tmp u, .tmp x]) : ∀ a, Is a fn.ntmps f → (results fn a.tmps).run P w = .ok (.tuple #[f t, f u, f x]) w := fun a ha => by
  rw [← ha.get t, ← ha.get u, ← ha.get x]
  simp [results, h]
theorem fin3r {t u x : Tmp} {v v' v'' : Value} (h : fn.results = #[.tmp t, .tmp u, .tmp x]) (hv : nfv (f t) = some v) (hv' : nfv (f u) = some v') (hv'' : nfv (f x) = some v'') (hR : R (.tuple #[v, v', v'']) w) : funQ P rs fn (Ret R) .ret f w := by unfold funQ; exact ⟨_, ⟨_, rfl, hR⟩, by rw [nfv_eq hv, nfv_eq hv', nfv_eq hv'']; exact res3 h⟩
end
end Go.J

/- What is proved: the walk's rule for a value that goes nowhere, and for a key struck from a map so. Conditions: as each rule names them. -/
set_option linter.unusedSimpArgs false
set_option linter.unusedVariables false
namespace Go.J
open Go Go.RowKit

section
variable {P : Program} {N : Nat} {f : Fr} {w w0 : World} {Q : Post} {ops l : List Oper} {o : Oper} {M : List Nat} {H H' : List Chunk} {Z : List Snap}
theorem WL.val0 (hg : wants ops f o = true) (hd : o.dst = none) {v : Value} {w' : World} (hr : (execOp (ev f) o).run P w = .ok (.value v) w')
    (h : WL P N ops l f w' Q) : WL P N ops (o :: l) f w Q := by
  refine ⟨fun a ha => wpList_step fun K hK => ?_⟩
  rw [if_pos ((wanted_eq ha o).trans hg)]
  simp only [Oper.wp, ha.eval, hr, Oper.upon]
  exact hK _ _ (h.out _ (by rw [hd]; exact ha))
theorem WL.mdel0 {t k t2 : TypeId} {z : Value} {x i : Operand} {b : Nat} {m : KV} {s : List UInt8} (hS : St w0 M w H Z) (ho : o.op = .call ⟨.builtin .delete, ⟨[x, i]⟩, ⟨[t, t2]⟩⟩) (ht : mapOf P t = some (k, z)) (hx : ev f x = .map (some b)) (hi : ev f i = str s)
    (hr : Repl (mapC b m) (mapC b (Go.J.mdel m s)) H H') (hg : wants ops f o = true) (hd : o.dst = none) (h : ∀ w', St w0 M w' H' Z → WL P N ops l f w' Q) : WL P N ops (o :: l) f w Q := by
  obtain ⟨ob, h1, h2⟩ := run_delete (t2 := t2) (ty := o.type) (s := s) ht (hS.holds _ hr.mem).1
  have hrun : (execOp (ev f) o).run P w = .ok (.value (.tuple #[])) { w with heap := w.heap.setIfInBounds b ob } := by
    simp [execOp, ho, resolve, invoke, builtin, hx, hi, Sem.run_bind, h1]
  exact .val0 hg hd hrun (h _ (hS.setMap hr h2))
end
end Go.J

/- What is proved: functions that change several chunks at once. Conditions: as each rule names them. -/
set_option linter.unusedSimpArgs false
set_option linter.unusedVariables false
namespace Go.J
open Go Go.RowKit

def fps (D : List Chunk) : List Nat := D.flatMap Chunk.fp
theorem mem_fps {D : List Chunk} {b : Nat} : b ∈ fps D ↔ ∃ c ∈ D, b ∈ c.fp := by simp [fps]
/-- D has become D' -/
structure MutL (w w' : World) (D D' : List Chunk) : Prop where
  upd : Upd (fps D) w w'
  holds : ∀ c ∈ D', c.holds w'
  fp : ∀ c ∈ D', ∀ b ∈ c.fp, b ∈ fps D ∨ (w.heap.size ≤ b ∧ b < w'.heap.size)
  disj : D'.Pairwise Chunk.apart
structure InL (w : World) (D : List Chunk) : Prop where
  holds : ∀ c ∈ D, c.holds w
  inb : ∀ c ∈ D, inB c w
  disj : D.Pairwise Chunk.apart
inductive Pulls : List Chunk → List Chunk → List Chunk → Prop where
  | nil {H : List Chunk} : Pulls [] H H
  | cons {c : Chunk} {D H H1 H2 : List Chunk} : Pull c H H1 → Pulls D H1 H2 → Pulls (c :: D) H H2
theorem Pulls.perm {D H H' : List Chunk} (h : Pulls D H H') : H.Perm (D ++ H') := by
  induction h with
  | nil => exact .refl _
  | cons h _ ih => exact h.perm.trans (.cons _ ih)
section
variable {w0 w w' : World} {M : List Nat} {H H' D D' : List Chunk} {Z : List Snap} {c c' : Chunk}
theorem St.pulls (hS : St w0 M w H Z) (h : Pulls D H H') : St w0 M w (D ++ H') Z := hS.perm h.perm
theorem St.inL (hS : St w0 M w (D ++ H) Z) : InL w D :=
  ⟨fun c hc => hS.holds c (List.mem_append_left _ hc), fun c hc b hb => (hS.inb c (List.mem_append_left _ hc) b hb).1, (List.pairwise_append.1 hS.disj).1⟩
theorem St.mutL (hS : St w0 M w (D ++ H) Z) (hm : MutL w w' D D') : St w0 M w' (D' ++ H) Z := by
  have hin : ∀ b ∈ fps D, b < w.heap.size ∧ (w0.heap.size ≤ b ∨ b ∈ M) := fun b hb => by
    obtain ⟨c, hc, hb⟩ := mem_fps.1 hb
    exact hS.inb c (List.mem_append_left _ hc) b hb
  have hap : ∀ d ∈ H, ∀ b ∈ d.fp, b ∉ fps D := fun d hd b hb hbD => by
    obtain ⟨c, hc, hb2⟩ := mem_fps.1 hbD
    exact (List.pairwise_append.1 hS.disj).2.2 c hc d hd b hb2 hb
  refine ⟨?_, ?_, ?_, ?_, ?_⟩
  · exact ⟨hm.upd.os.trans hS.upd.os, hm.upd.tape.trans hS.upd.tape, hm.upd.output.trans hS.upd.output, Nat.le_trans hS.upd.size hm.upd.size, fun b hb hn => by
      have hn' : b ∉ fps D := fun h => by
        rcases (hin b h).2 with h1 | h1
        · omega
        · exact hn h1
      exact (hm.upd.block b (Nat.lt_of_lt_of_le hb hS.upd.size) hn').trans (hS.upd.block b hb hn)⟩
  · intro d hd
    rcases List.mem_append.1 hd with h | h
    · exact hm.holds d h
    · exact Chunk.keep (hS.holds d (List.mem_append_right _ h)) fun b hb => hm.upd.block b (hS.inb d (List.mem_append_right _ h) b hb).1 (hap d h b hb)
  · intro d hd b hb
    rcases List.mem_append.1 hd with h | h
    · rcases hm.fp d h b hb with h1 | h1
      · exact ⟨Nat.lt_of_lt_of_le (hin b h1).1 hm.upd.size, (hin b h1).2⟩
      · exact ⟨h1.2, .inl (Nat.le_trans hS.upd.size h1.1)⟩
    · have := hS.inb d (List.mem_append_right _ h) b hb
      exact ⟨Nat.lt_of_lt_of_le this.1 hm.upd.size, this.2⟩
  · refine List.pairwise_append.2 ⟨hm.disj, (List.pairwise_append.1 hS.disj).2.1, fun c hc d hd b hb hbd => ?_⟩
    rcases hm.fp c hc b hb with h1 | h1
    · exact hap d hd b hbd h1
    · have := (hS.inb d (List.mem_append_right _ hd) b hbd).1; omega
  · intro z hz b hb
    obtain ⟨h1, h2, h3⟩ := hS.snap z hz b hb
    have hn : b ∉ fps D := fun h => by
      obtain ⟨c, hc, hb2⟩ := mem_fps.1 h
      exact h3 c (List.mem_append_left _ hc) hb2
    refine ⟨Nat.lt_of_lt_of_le h1 hm.upd.size, (hm.upd.block b h1 hn).trans h2, fun d hd hbd => ?_⟩
    rcases List.mem_append.1 hd with h | h
    · rcases hm.fp d h b hbd with h4 | h4
      · exact hn h4
      · omega
    · exact h3 d (List.mem_append_right _ h) hbd
theorem St.initL (h : InL w D) : St w (fps D) w D [⟨w, fun b => b < w.heap.size ∧ b ∉ fps D⟩] :=
  ⟨.refl _ _, h.holds, fun c hc b hb => ⟨h.inb c hc b hb, .inr (mem_fps.2 ⟨c, hc, hb⟩)⟩, h.disj, fun z hz b hbz => by
    simp at hz; subst hz; exact ⟨hbz.1, rfl, fun d hd hbd => hbz.2 (mem_fps.2 ⟨d, hd, hbd⟩)⟩⟩
theorem St.mutLOf (hS : St w0 (fps D) w (D' ++ H) Z) : MutL w0 w D D' :=
  ⟨hS.upd, fun c hc => hS.holds c (List.mem_append_left _ hc), fun c hc b hb => by
    have h := hS.inb c (List.mem_append_left _ hc) b hb
    rcases h.2 with h2 | h2
    · exact .inr ⟨h2, h.1⟩
    · exact .inl h2, (List.pairwise_append.1 hS.disj).1⟩
theorem St.mutLp (hS : St w0 (fps D) w H Z) (hp : Pulls D' H H') : MutL w0 w D D' := (hS.pulls hp).mutLOf
theorem MutL.of1 (h : Mut w w' c c') : MutL w w' [c] [c'] :=
  ⟨by simpa [fps] using h.upd, by simpa using h.holds, by simpa [fps] using h.fp, by simp⟩
theorem MutL.to1 (h : MutL w w' [c] [c']) : Mut w w' c c' :=
  ⟨by simpa [fps] using h.upd, by simpa using h.holds, by simpa [fps] using h.fp⟩
theorem InL.of1 (h : c.holds w) (hi : inB c w) : InL w [c] := ⟨by simpa using h, by simpa using hi, by simp⟩
theorem InL.head (h : InL w (c :: D)) : c.holds w := h.holds c (List.mem_cons_self ..)
theorem InL.headB (h : InL w (c :: D)) : inB c w := h.inb c (List.mem_cons_self ..)
theorem InL.sub (h : InL w D) (hp : Pulls D' D H) : InL w D' := by
  have hp := hp.perm
  refine ⟨fun c hc => h.holds c (hp.mem_iff.2 (List.mem_append_left _ hc)), fun c hc => h.inb c (hp.mem_iff.2 (List.mem_append_left _ hc)), ?_⟩
  exact (List.pairwise_append.1 ((hp.pairwise_iff (fun {a b} h => Chunk.apart_symm h)).1 h.disj)).1
theorem MutL.refl (h : InL w D) : MutL w w D D :=
  ⟨.refl _ _, h.holds, fun c hc b hb => .inl (mem_fps.2 ⟨c, hc, hb⟩), h.disj⟩
/-- chunks that nobody asks for any more -/
theorem MutL.drop (h : MutL w w' D (c :: D')) : MutL w w' D D' :=
  ⟨h.upd, fun d hd => h.holds d (List.mem_cons_of_mem _ hd), fun d hd => h.fp d (List.mem_cons_of_mem _ hd), (List.pairwise_cons.1 h.disj).2⟩
theorem St.droplast2 {D H' : List Chunk} (hS : St w0 M w H Z) (hp : Pulls D H H') : St w0 M w D Z := by
  have h := hS.pulls hp
  exact ⟨h.upd, fun c hc => h.holds c (List.mem_append_left _ hc), fun c hc => h.inb c (List.mem_append_left _ hc), (List.pairwise_append.1 h.disj).1, fun z hz b hb => by
    obtain ⟨h1, h2, h3⟩ := h.snap z hz b hb
    exact ⟨h1, h2, fun d hd => h3 d (List.mem_append_left _ hd)⟩⟩
theorem St.droplast (hS : St w0 M w (D ++ H) Z) : St w0 M w D Z :=
  ⟨hS.upd, fun c hc => hS.holds c (List.mem_append_left _ hc), fun c hc => hS.inb c (List.mem_append_left _ hc), (List.pairwise_append.1 hS.disj).1, fun z hz b hb => by
    obtain ⟨h1, h2, h3⟩ := hS.snap z hz b hb
    exact ⟨h1, h2, fun d hd => h3 d (List.mem_append_left _ hd)⟩⟩
end
theorem Cal.mkL {P : Program} {fid : FuncId} {fn : Func} {c : Code} {args : List Value} {w : World} {R : Value → World → Prop} {D : List Chunk} (hi : InL w D) (hk : callOk P fid = true)
    (hf : P.funcs[fid]? = some fn) (hb : fn.body = some c) (hn : Nat.ble args.length fn.ntmps = true)
    (h : St w (fps D) w D [⟨w, fun b => b < w.heap.size ∧ b ∉ fps D⟩] → WC P fn.ntmps c (fr0 args) w (funQ P fn.results fn (Ret R))) : Cal P fid args w R :=
  ⟨hk, J.calls hf hb hn (h (St.initL hi))⟩
section
variable {P : Program} {N : Nat} {f : Fr} {w w0 : World} {Q : Post} {ops l : List Oper} {o : Oper} {M : List Nat} {H H' D : List Chunk} {Z : List Snap}
/-- values whose forms are known -/
def evN (ρ : Operand → Value) : List Operand → Option (List Value)
  | [] => some []
  | x :: xs => match nfv (ρ x) with
    | some v => match evN ρ xs with
      | some r => some (v :: r)
      | none => none
    | none => none
theorem evN_eq {ρ : Operand → Value} : ∀ {l : List Operand} {r : List Value}, evN ρ l = some r → l.map ρ = r
  | [], r, h => by simp only [evN, Option.some.injEq] at h; subst h; rfl
  | x :: xs, r, h => by
    unfold evN at h
    cases h1 : nfv (ρ x) with
    | none => rw [h1] at h; cases h
    | some v =>
      rw [h1] at h
      cases h2 : evN ρ xs with
      | none => rw [h2] at h; cases h
      | some r' =>
        rw [h2] at h
        simp only [Option.some.injEq] at h
        rw [List.map_cons, evN_eq h2, ← h, ← nfv_eq h1]
theorem WL.mkF {fn : Fn} {first cap : List Operand} {fl cl : List Value} (ho : o.op = .makeFunc fn ⟨first⟩ ⟨cap⟩) (h1 : evN (ev f) first = some fl) (h2 : evN (ev f) cap = some cl)
    (hg : wants ops f o = true) {d : Nat} (hd : o.dst = some d) (hn : Nat.blt d N = true) (h : WL P N ops l (up f d (.func fn ⟨fl⟩ ⟨cl⟩)) w Q) : WL P N ops (o :: l) f w Q := by
  refine .pure (v := .func fn ⟨fl⟩ ⟨cl⟩) ?_ hg hd hn h
  unfold pureV
  rw [ho]
  simp only [pureOp, evN_eq h1, evN_eq h2]
  rfl
/-- append of nothing -/
theorem run_app0 {ρ : Operand → Value} {s x : Operand} {t e : TypeId} {size bytes n cap c : Nat} {A : Option Addr} (ho : o.op = .call ⟨.builtin .append, ⟨[s, x]⟩, ⟨[t, t]⟩⟩) (hi : appOf P t = some (e, size, bytes))
    (hs : ρ s = .slice A n cap) (hx : ρ x = .slice none 0 c) (hc : n ≤ cap) : (execOp ρ o).run P w = .ok (.value (.slice A n cap)) w := by
  obtain ⟨i, z, hu, hinfo, hz, rfl, rfl, hzs, h0, h0b⟩ := appOf_spec hi
  have hr : (Builtin.append_ #[t, t] o.type #[.slice A n cap, .slice none 0 c]).run P w = .ok (.slice A n cap) w := by
    cases A with
    | none => simp [Builtin.append_, run_underlying hu, sizeOf, typeInfo, hinfo, Builtin.lenOf, Builtin.firstCells, hc]
    | some a => simp [Builtin.append_, run_underlying hu, sizeOf, typeInfo, hinfo, Builtin.lenOf, Builtin.firstCells, hc, storeCells]
  unfold execOp
  simp only [ho, resolve, invoke, builtin, Sem.run_bind, Sem.run_pure, Result.andThen_ok, List.map_toArray, List.map_cons, List.map_nil, hs, hx, hr]
/-- cells that a slice value leads to, or none -/
def RdSl (H : List Chunk) (Z : List Snap) (B : Option Addr) (m : Nat) (news : List Value) : Prop := (B = none ∧ m = 0 ∧ news = []) ∨ ∃ b off, B = some ⟨b, off, none⟩ ∧ RdOk H Z b off news
theorem RdSl.own {A : Option Addr} {n cap n' : Nat} {e : TypeId} {size : Nat} {xs : List Value} (hS : St w0 M w H Z) (hm : Chunk.own (.slice A n cap) e size n' xs ∈ H) : RdSl H Z A n xs := by
  have h := hS.holds _ hm
  rcases h.2 with ⟨h2, rfl⟩ | ⟨g, off, cap', cur, h2, _⟩
  · simp only [Value.slice.injEq] at h2
    obtain ⟨rfl, rfl, rfl⟩ := h2
    exact .inl ⟨rfl, rfl, List.eq_nil_of_length_eq_zero (by rw [h.1, Nat.zero_mul])⟩
  · simp only [Value.slice.injEq] at h2
    obtain ⟨rfl, rfl, rfl⟩ := h2
    exact .inr ⟨g, off, rfl, .own0 hm⟩
theorem WL.appS {s x : Operand} {t e : TypeId} {size bytes n m cap c : Nat} {A B : Option Addr} {xs news : List Value} {H' : Option Addr → Nat → List Chunk} (hS : St w0 M w H Z) (ho : o.op = .call ⟨.builtin .append, ⟨[s, x]⟩, ⟨[t, t]⟩⟩) (hi : appOf P t = some (e, size, bytes))
    (hs : ev f s = .slice A n cap) (hx : ev f x = .slice B m c) (hnews : RdSl H Z B m news) (hl : news.length = m * size) (h1 : one news = true)
    (hr : ∀ A' cap', Repl (.own (.slice A n cap) e size n xs) (.own (.slice A' (n + m) cap') e size (n + m) (xs ++ news)) H (H' A' cap')) (hb : (n + m) * bytes ≤ 140737488355328)
    (hg : wants ops f o = true) {d : Nat} (hd : o.dst = some d) (hn : Nat.blt d N = true)
    (h : ∀ A' cap' w', St w0 M w' (H' A' cap') Z → WL P N ops l (up f d (.slice A' (n + m) cap')) w' Q) : WL P N ops (o :: l) f w Q := by
  rcases hnews with ⟨rfl, rfl, rfl⟩ | ⟨b, off, rfl, hnews⟩
  · have hc := (hS.own_len (hr none 0).mem).2.2
    have h' := h A cap w (hS.recast (hr A cap) (fun h => by simpa using h) (fun b hb => hb))
    exact .val hg hd hn (run_app0 ho hi hs hx hc) h'
  · exact .app hS ho hi hs hx hnews hl h1 hr hb hg hd hn h
/-- a call that may change the chunks D -/
theorem WL.callL {fid : FuncId} {xs : List Operand} {ts : Array TypeId} {args : List Value} {R : Value → World → Prop} (hS : St w0 M w H Z) (hp : Pulls D H H') (ho : o.op = .call ⟨.value (.func fid), ⟨xs⟩, ts⟩) (ha : xs.map (ev f) = args) (hc : InL w D → Cal P fid args w R)
    (hg : wants ops f o = true) {d : Nat} (hd : o.dst = some d) (hn : Nat.blt d N = true) (h : ∀ v w', R v w' → (∀ D', MutL w w' D D' → St w0 M w' (D' ++ H') Z) → WL P N ops l (up f d v) w' Q) : WL P N ops (o :: l) f w Q :=
  have hS' := hS.pulls hp
  .callG ho ha (hc hS'.inL) hg hd hn fun v w' hR => h v w' hR fun D' hm => hS'.mutL hm
theorem WL.callFL {x : Operand} {xs : List Operand} {ts : Array TypeId} {fid : FuncId} {first cap args : List Value} {R : Value → World → Prop} (hS : St w0 M w H Z) (hp : Pulls D H H') (ho : o.op = .call ⟨.value x, ⟨xs⟩, ts⟩) (hx : ev f x = .func (.func fid) ⟨first⟩ ⟨cap⟩) (ha : first ++ xs.map (ev f) ++ cap = args) (hc : InL w D → Cal P fid args w R)
    (hg : wants ops f o = true) {d : Nat} (hd : o.dst = some d) (hn : Nat.blt d N = true) (h : ∀ v w', R v w' → (∀ D', MutL w w' D D' → St w0 M w' (D' ++ H') Z) → WL P N ops l (up f d v) w' Q) : WL P N ops (o :: l) f w Q :=
  have hS' := hS.pulls hp
  .callF ho hx ha (hc hS'.inL) hg hd hn fun v w' hR => h v w' hR fun D' hm => hS'.mutL hm
end
section
variable {P : Program} {N : Nat} {f : Fr} {w w0 : World} {Q : Post} {ops : List Oper} {M : List Nat} {H0 H H' D : List Chunk} {Z0 Z : List Snap} {q : Qs} {l : List Nat} {i : Nat}
theorem More.app {D' : List Chunk} (h : More H0 Z0 H Z) : More H0 Z0 (D' ++ H) Z := by
  obtain ⟨a, b, h1, h2⟩ := h; exact ⟨D' ++ a, b, by rw [h1, List.append_assoc], h2⟩
/-- a region that draws its order, and does not lean on D -/
theorem WC.drawL {id : Nat} (D : List Chunk) (hS : St w0 M w H Z) (hp : Pulls D H H') (q l : List Nat) (hm : P.follows .mixedOrders = true)
    (hk : (Region.noSelect ops.toArray && ordOk ops.toArray ⟨q, .nil⟩ (Array.replicate ops.toArray.size false) l && Nat.beq l.length ops.length) = true)
    (h : ∀ w', St w0 M w' (D ++ H') Z → More H' Z (D ++ H') Z → WD P N (SS w0 M H' Z) ops ⟨q, .nil⟩ l f w' Q) : WC P N (.region id ops.toArray true) f w Q := by
  have hS' := hS.pulls hp
  simp only [Bool.and_eq_true] at hk
  exact WC.draw (SS w0 M H' Z) ⟨q, .nil⟩ l hm hk.1.1 hk.1.2 hk.2 ((More.app (.refl _ _)).ss hS'.drew) (h _ hS'.drew (More.app (.refl _ _)))
/-- a call in such a region -/
theorem WD.callL {fid : FuncId} {xs : List Operand} {ts : Array TypeId} {args : List Value} {R : Value → World → Prop} (hS : St w0 M w H Z) (hp : Pulls D H H') (hM : More H0 Z0 H' Z) (ho : (ix ops i).op = .call ⟨.value (.func fid), ⟨xs⟩, ts⟩) (ha : xs.map (ev f) = args)
    (hc : InL w D → Cal P fid args w R) (hq : q.contains i = false) (hi : Nat.blt i ops.length = true) (hg : wants ops f (ix ops i) = true) {d : Nat} (hd : (ix ops i).dst = some d) (hn : Nat.blt d N = true)
    (h : ∀ v w', R v w' → ∃ D', MutL w w' D D' ∧ (St w0 M w' (D' ++ H') Z → More H0 Z0 (D' ++ H') Z → WD P N (SS w0 M H0 Z0) ops q l (up f d v) w' Q)) : WD P N (SS w0 M H0 Z0) ops q (i :: l) f w Q :=
  have hS' := hS.pulls hp
  .enter hq hi hg hd hn (run_callOp ho ha (hc hS'.inL).ok) (hc hS'.inL).calls fun v w' hR => by
    obtain ⟨D', hm, hk⟩ := h v w' hR
    have hS2 := hS'.mutL hm
    exact ⟨(More.app hM).ss hS2, hk hS2 (More.app hM)⟩
/-- a region that draws its order, of which the effect 'i' and those behind it spoil what was known -/
theorem WC.drawV {id : Nat} (hS : St w0 M w H Z) (q l : List Nat) (i : Nat) (l2 : List Nat) (hm : P.follows .mixedOrders = true)
    (hk : (Region.noSelect ops.toArray && ordOk ops.toArray ⟨q, .piv i l2⟩ (Array.replicate ops.toArray.size false) l && Nat.beq (l.length + (l2.length + 1)) ops.length) = true)
    (h : ∀ w', St w0 M w' H Z → More H Z H Z → WD P N (SS w0 M H Z) ops ⟨q, .piv i l2⟩ l f w' Q) : WC P N (.region id ops.toArray true) f w Q := by
  simp only [Bool.and_eq_true] at hk
  exact WC.draw (SS w0 M H Z) ⟨q, .piv i l2⟩ l hm hk.1.1 hk.1.2 hk.2 ((More.refl H Z).ss hS.drew) (h _ hS.drew (.refl _ _))
theorem SS.any (hS : St w0 M w H Z) : SS w0 M [] [] w := ⟨H, Z, by simpa using hS⟩
theorem More.none : More [] [] H Z := ⟨H, Z, by simp, by simp⟩
theorem WD.pivStore {qs : List Nat} {ty : TypeId} {x y : Operand} {b off : Nat} {vs : List Value} {S : World → Prop} (hS : St w0 M w H Z) (ho : (ix ops i).op = .store ty x y) (hx : ev f x = .pointer (some ⟨b, off, none⟩)) (hy : cellsO (ev f y) = some vs) (hr : StB b off vs H H') (hn : tySize P ty = some vs.length)
    (hi : Nat.blt i ops.length = true) (hg : wants ops f (ix ops i) = true) (hd : (ix ops i).dst = none) (h : ∀ w', St w0 M w' H' Z → More [] [] H' Z → WD P N (SS w0 M [] []) ops ⟨qs, .nil⟩ l f w' Q) : WD P N S ops ⟨qs, .piv i l⟩ [] f w Q := by
  refine .piv (S2 := SS w0 M [] []) ?_
  obtain ⟨t, cs, cs', hrp, hs⟩ := hr.repl
  have hy' := cellsO_eq hy
  have hb := hS.holds _ hrp.mem
  have hrun := run_storeBox (P := P) ho hx hb (by rw [hy']; exact hs) (by rw [hy']; exact hn)
  have hS' := hS.setBox hrp
  exact .unit0 hi hg hd hrun (SS.any hS') (h _ hS' .none)
end
end Go.J

/- What is proved: rules for the bytes of a text ('[]byte(s)'), and remainders of any sign. Conditions: as each rule names them. -/
set_option linter.unusedSimpArgs false
set_option linter.unusedVariables false
namespace Go.J
open Go Go.RowKit

/-- the bytes of a text, in a row of their own -/
def BsIs (b : Nat) (e : TypeId) (s : List UInt8) (w : World) : Prop := ∃ cs lo, w.heap[b]? = some (.cells ⟨byteC s ++ cs⟩ e (lo, lo + 1)) ∧ (byteC s ++ cs).length ≤ lo
theorem BsIs.local {b : Nat} {e : TypeId} {s : List UInt8} : Local [b] (BsIs b e s) := fun w w' h ⟨cs, lo, h1, h2⟩ => ⟨cs, lo, (h b (by simp)).trans h1, h2⟩
abbrev bsC (b : Nat) (e : TypeId) (s : List UInt8) : Chunk := .obj [b] (BsIs b e s)
theorem byteC_get {s : List UInt8} {j : Nat} {c : UInt8} (h : s[j]? = some c) : (byteC s)[j]? = some (.int .u8 (c.toNat : Int)) := by simp [byteC, h]
theorem byteC_set (s : List UInt8) (j : Nat) (c : UInt8) : byteC (s.set j c) = (byteC s).set j (.int .u8 (c.toNat : Int)) := by simp [byteC, List.map_set]
theorem BsIs.cell {b : Nat} {e : TypeId} {s : List UInt8} {w : World} (h : BsIs b e s w) : ∀ j u, (byteC s)[j]? = some u → w.cell? ⟨b, 0 + j, none⟩ = some u := by
  obtain ⟨cs, lo, h1, h2⟩ := h
  intro j u hj
  rw [Nat.zero_add, cell_of_row w b j _ e _ h1]
  have hlt := (List.getElem?_eq_some_iff.1 hj).1
  simp only [List.getElem?_toArray]
  rw [List.getElem?_append_left hlt]
  exact hj
section
variable {P : Program} {N : Nat} {f : Fr} {w w0 : World} {Q : Post} {ops l : List Oper} {o : Oper} {M : List Nat} {H H' : List Chunk} {Z : List Snap} {ρ : Operand → Value}
theorem run_s2b {t t2 e : TypeId} {x : Operand} {s : List UInt8} (ho : o.op = .convert t t2 x) (ht : isStr P t = true) (ht2 : bytesOf P t2 = some e) (hx : ρ x = str s) :
    ∃ cap w', (execOp ρ o).run P w = .ok (.value (.slice (some ⟨w.heap.size, 0, none⟩) s.length cap)) w' ∧ BsIs w.heap.size e s w' ∧ Upd [] w w' ∧ w.heap.size < w'.heap.size ∧ s.length ≤ cap := by
  obtain ⟨h1, h2⟩ := bytesOf_spec ht2
  have hr := run_bytes_of_string (P := P) w t t2 e ⟨⟨s⟩⟩ (isStr_eq ht) h1 h2
  have hb : bytesRow ⟨⟨s⟩⟩ (grownCap w s.length 0 e) = ⟨byteC s ++ List.replicate (grownCap w s.length 0 e - s.length) (.int .u8 0)⟩ := by
    simp [bytesRow, byteC, ByteArray.size]
  have hsz : (⟨⟨s⟩⟩ : ByteArray).size = s.length := rfl
  rw [hsz, hb] at hr
  generalize List.replicate (grownCap w s.length 0 e - s.length) (Value.int .u8 0) = C at hr
  refine ⟨grownCap w s.length 0 e, w.drew.alloc (.cells ⟨byteC s ++ C⟩ e ((byteC s ++ C).length, (byteC s ++ C).length + 1)), ?_, ⟨C, _, heap_alloc_new w.drew _, Nat.le_refl _⟩, (Upd.drew [] w).trans (.alloc _ _ _), by simp, grownCap_ge w _ _ _⟩
  simp only [execOp, ho, hx, Sem.run_bind, hr, Result.andThen_ok]
  rfl
theorem WL.s2b {t t2 e : TypeId} {x : Operand} {s : List UInt8} (hS : St w0 M w H Z) (ho : o.op = .convert t t2 x) (ht : isStr P t = true) (ht2 : bytesOf P t2 = some e) (hx : ev f x = str s)
    (hg : wants ops f o = true) {d : Nat} (hd : o.dst = some d) (hn : Nat.blt d N = true) (h : ∀ w' b cap, s.length ≤ cap → St w0 M w' (bsC b e s :: H) Z → WL P N ops l (up f d (.slice (some ⟨b, 0, none⟩) s.length cap)) w' Q) : WL P N ops (o :: l) f w Q := by
  obtain ⟨cap, w', hr, hb, hu, hlt, hc⟩ := run_s2b (P := P) (w := w) ho ht ht2 hx
  exact .val hg hd hn hr (h w' _ cap hc (hS.push hu ⟨hb, BsIs.local⟩ fun b hb => by simp [Chunk.fp] at hb; subst hb; exact ⟨Nat.le_refl _, hlt⟩))
theorem LdOk.bs {b j : Nat} {e ty : TypeId} {s : List UInt8} {c : UInt8} (hm : bsC b e s ∈ H) (hj : s[j]? = some c) (h0 : tyAgg P ty = some false) (h1 : ∃ n, tySize P ty = some n) : LdOk P H Z ty ⟨b, 0 + j * 1, none⟩ (.int .u8 (c.toNat : Int)) :=
  ⟨fun w0 M w Hn Zn hS => run_loadVar_cells (getV_at h0 h1 (byteC_get (by rwa [Nat.mul_one])) rfl) (BsIs.cell (hS.holds _ (List.mem_append_right _ hm)).1)⟩
theorem run_storeBs {ty e : TypeId} {x y : Operand} {b j : Nat} {s : List UInt8} {c : UInt8} (ho : o.op = .store ty x y) (hx : ρ x = .pointer (some ⟨b, 0 + j * 1, none⟩)) (hy : ρ y = .int .u8 (c.toNat : Int)) (hj : j < s.length) (hb : BsIs b e s w) (hn : tySize P ty = some 1) :
    ∃ w', (execOp ρ o).run P w = .ok .skip w' ∧ BsIs b e (s.set j c) w' ∧ Upd [b] w w' := by
  obtain ⟨cs, lo, h1, h2⟩ := hb
  have hbl : (byteC s).length = s.length := byteC_len s
  have hjl : j < (byteC s ++ cs).length := by rw [List.length_append]; omega
  have hc : w.cell? ⟨b, 0 + j * 1, none⟩ = (byteC s ++ cs)[j]? := by rw [Nat.zero_add, Nat.mul_one, cell_of_row w b j _ e _ h1]; simp
  have hf : w.frozen? ⟨b, 0 + j * 1, none⟩ = false := by
    simp only [World.frozen?, h1, Nat.zero_add, Nat.mul_one]
    simp; omega
  have hst := run_storeCells_cells (P := P) b (0 + j * 1) [.int .u8 (c.toNat : Int)] 0 w (fun i hi => by
      obtain rfl : i = 0 := by simpa using hi
      simp only [Nat.add_zero]
      rw [hc, List.getElem?_eq_getElem hjl]; rfl) (fun i hi => by
      obtain rfl : i = 0 := by simpa using hi
      simpa using hf) (fun v hv => by rw [List.mem_singleton.1 hv]; rfl)
  have hsv : (storeVar ty ⟨b, 0 + j * 1, none⟩ (.int .u8 (c.toNat : Int))).run P w = .ok () (w.setCells b (0 + j * 1 + 0) [.int .u8 (c.toNat : Int)]) := by
    unfold storeVar
    rw [Sem.run_bind, run_sizeOf hn]
    simp only [Result.andThen_ok, Value.cells]
    simpa using hst
  simp only [Nat.zero_add, Nat.mul_one, Nat.add_zero] at hsv hx
  refine ⟨w.setCells b j [.int .u8 (c.toNat : Int)], by simp [execOp, ho, hx, hy, Instr.storeAt, Instr.sureAddr, Sem.run_bind, hsv], ?_, ?_⟩
  · refine ⟨cs, lo, ?_, by rw [byteC_set, List.length_append, List.length_set, ← List.length_append]; exact h2⟩
    simp only [World.setCells, World.setCell, Array.getElem?_modify, h1, if_true, Option.map_some, Nat.zero_add, Nat.mul_one, Nat.add_zero]
    rw [byteC_set]
    simp [List.set_append_left _ _ (show j < (byteC s).length by omega)]
  · refine ⟨rfl, rfl, rfl, by simp [World.setCells, World.setCell], fun k _ hk => ?_⟩
    have hne : b ≠ k := fun e => hk (by simp [e])
    simp [World.setCells, World.setCell, Array.getElem?_modify, hne]
theorem run_b2sBs {t t2 e e2 : TypeId} {x : Operand} {b cap : Nat} {s : List UInt8} (ho : o.op = .convert t t2 x) (ht : bytesOf P t = some e) (ht2 : isStr P t2 = true) (hx : ρ x = .slice (some ⟨b, 0, none⟩) s.length cap) (hb : BsIs b e2 s w) :
    (execOp ρ o).run P w = .ok (.value (str s)) w := by
  obtain ⟨h1, h2⟩ := bytesOf_spec ht
  have hr := run_convert_bytes_back (P := P) w t t2 e ⟨b, 0, none⟩ cap s h1 h2 (isStr_eq ht2) (fun j hj => by
    have := hb.cell j _ (byteC_get (List.getElem?_eq_getElem hj))
    rw [Addr.add_mid]; exact this)
  simp only [execOp, ho, hx, Sem.run_bind, hr, Result.andThen_ok]
  rfl
theorem WL.b2sBs {t t2 e e2 : TypeId} {x : Operand} {b cap n : Nat} {s : List UInt8} (hS : St w0 M w H Z) (ho : o.op = .convert t t2 x) (ht : bytesOf P t = some e) (ht2 : isStr P t2 = true) (hx : ev f x = .slice (some ⟨b, 0, none⟩) n cap) (hm : bsC b e2 s ∈ H) (hn' : n = s.length)
    (hg : wants ops f o = true) {d : Nat} (hd : o.dst = some d) (hn : Nat.blt d N = true) (h : WL P N ops l (up f d (str s)) w Q) : WL P N ops (o :: l) f w Q :=
  .val hg hd hn (run_b2sBs ho ht ht2 (by rw [hx, hn']) (hS.holds _ hm).1) h
/-- Go's remainder, whatever the sign -/
theorem run_remT {ty ty' : TypeId} {x y : Operand} {a b : Int} (ho : o.op = .binOp .rem ty x y ty') (hx : ρ x = .int .i64 a) (hy : ρ y = .int .i64 b) (hb : 0 < b) :
    (execOp ρ o).run P w = .ok (.value (.int .i64 (Int.tmod a b))) w := by
  have h0 : ¬ b = 0 := by omega
  have h1 : (eqGuard .rem ty x y (.int .i64 a) (.int .i64 b)).run P w = .ok () w := by simp [eqGuard]
  have h2 : (binOp .rem ty (.int .i64 a) (.int .i64 b)).run P w = .ok (.int .i64 (Int.tmod a b)) w := by simp [binOp, Op.intDiv, h0]
  simp only [execOp, ho, hx, hy, Sem.run_bind, h1, h2, Result.andThen_ok]
  rfl
theorem WL.remT {ty ty' : TypeId} {x y : Operand} {a b : Int} (ho : o.op = .binOp .rem ty x y ty') (hx : ev f x = .int .i64 a) (hy : ev f y = .int .i64 b) (hb : 0 < b)
    (hg : wants ops f o = true) {d : Nat} (hd : o.dst = some d) (hn : Nat.blt d N = true) (h : WL P N ops l (up f d (.int .i64 (Int.tmod a b))) w Q) : WL P N ops (o :: l) f w Q :=
  .val hg hd hn (run_remT ho hx hy hb) h
theorem tmod_bound (a : Int) {n : Int} (hn : 0 < n) : -n < Int.tmod a n ∧ Int.tmod a n < n := by
  have h1 := Int.tmod_lt_of_pos a hn
  have h2 := Int.tmod_lt_of_pos (-a) hn
  rw [Int.neg_tmod] at h2
  omega
theorem tmod_twice (a : Int) {n : Int} (hn : 0 < n) : Int.tmod (Int.tmod a n + n) n = a % n := by
  have hb := tmod_bound a hn
  rw [Int.tmod_eq_emod_of_nonneg (by omega), Int.add_emod_right]
  have := Int.mul_tdiv_add_tmod a n
  have e : Int.tmod a n = a + n * (-Int.tdiv a n) := by rw [Int.mul_neg]; omega
  rw [e, Int.add_mul_emod_self_left]
end
section
variable {P : Program} {N : Nat} {f : Fr} {w w0 : World} {Q : Post} {ops : List Oper} {M : List Nat} {H0 H H' : List Chunk} {Z0 Z : List Snap} {q : Qs} {l : List Nat} {i : Nat}
theorem WD.storeBs {ty e : TypeId} {x y : Operand} {b j : Nat} {s : List UInt8} {c : UInt8} (hS : St w0 M w (bsC b e s :: H) Z) (hM : More H0 Z0 H Z) (ho : (ix ops i).op = .store ty x y) (hx : ev f x = .pointer (some ⟨b, 0 + j * 1, none⟩)) (hy : ev f y = .int .u8 (c.toNat : Int)) (hj : j < s.length) (ht : tySize P ty = some 1)
    (hq : q.contains i = false) (hi : Nat.blt i ops.length = true) (hg : wants ops f (ix ops i) = true) (hd : (ix ops i).dst = none) (h : ∀ w', St w0 M w' (bsC b e (s.set j c) :: H) Z → WD P N (SS w0 M H0 Z0) ops q l f w' Q) : WD P N (SS w0 M H0 Z0) ops q (i :: l) f w Q := by
  obtain ⟨w', hr, hb, hu⟩ := run_storeBs (P := P) ho hx hy hj (hS.holds _ (List.mem_cons_self ..)).1 ht
  have hS' : St w0 M w' (bsC b e (s.set j c) :: H) Z := hS.step .here hu ⟨hb, BsIs.local⟩ (fun b hb => .inl hb)
  exact .unit0 hq hi hg hd hr (hM.ss hS'.drop) (h w' hS')
theorem WD.pivBs {qs : List Nat} {ty e : TypeId} {x y : Operand} {b j : Nat} {s : List UInt8} {c : UInt8} {S : World → Prop} (hS : St w0 M w H Z) (ho : (ix ops i).op = .store ty x y) (hx : ev f x = .pointer (some ⟨b, 0 + j * 1, none⟩)) (hy : ev f y = .int .u8 (c.toNat : Int)) (hr : Repl (bsC b e s) (bsC b e (s.set j c)) H H') (hj : j < s.length) (ht : tySize P ty = some 1)
    (hi : Nat.blt i ops.length = true) (hg : wants ops f (ix ops i) = true) (hd : (ix ops i).dst = none) (h : ∀ w', St w0 M w' H' Z → More [] [] H' Z → WD P N (SS w0 M [] []) ops ⟨qs, .nil⟩ l f w' Q) : WD P N S ops ⟨qs, .piv i l⟩ [] f w Q := by
  refine .piv (S2 := SS w0 M [] []) ?_
  obtain ⟨w', hrun, hb, hu⟩ := run_storeBs (P := P) ho hx hy hj (hS.holds _ hr.mem).1 ht
  have hS' := hS.step hr hu ⟨hb, BsIs.local⟩ (fun b hb => .inl hb)
  exact .unit0 hi hg hd hrun (SS.any hS') (h _ hS' .none)
theorem WD.rem {S : World → Prop} {ty ty' : TypeId} {x y : Operand} {a b : Int} (ho : (ix ops i).op = .binOp .rem ty x y ty') (hx : ev f x = .int .i64 a) (hy : ev f y = .int .i64 b) (ha : 0 ≤ a) (hb : 0 < b)
    (hq : q.contains i = true) (hg : wants ops f (ix ops i) = true) {d : Nat} (hd : (ix ops i).dst = some d) (hn : Nat.blt d N = true) (h : WD P N S ops q l (up f d (.int .i64 (a % b))) w Q) : WD P N S ops q (i :: l) f w Q :=
  .take hq hd hn (.inl ⟨hg, fun _ _ => run_rem ho hx hy ha hb⟩) h
theorem WD.quo {S : World → Prop} {ty ty' : TypeId} {x y : Operand} {a b : Int} (ho : (ix ops i).op = .binOp .quo ty x y ty') (hx : ev f x = .int .i64 a) (hy : ev f y = .int .i64 b) (ha : 0 ≤ a) (ha2 : a ≤ 9223372036854775807) (hb : 0 < b)
    (hq : q.contains i = true) (hg : wants ops f (ix ops i) = true) {d : Nat} (hd : (ix ops i).dst = some d) (hn : Nat.blt d N = true) (h : WD P N S ops q l (up f d (.int .i64 (a / b))) w Q) : WD P N S ops q (i :: l) f w Q :=
  .take hq hd hn (.inl ⟨hg, fun _ _ => run_quo ho hx hy ha ha2 hb⟩) h
end
end Go.J

/- What is proved: the walk's rule for a text's bytes put behind a row of bytes of the call's own. Conditions: as the rule names them. -/
set_option linter.unusedSimpArgs false
set_option linter.unusedVariables false
namespace Go.J
open Go Go.RowKit

section
variable {P : Program} {N : Nat} {f : Fr} {w w0 : World} {Q : Post} {ops l : List Oper} {o : Oper} {M : List Nat} {H H' : List Chunk} {Z : List Snap} {ρ : Operand → Value}
/-- what is told of memory at the head of a function that may change the chunks D -/
abbrev ZL (w0 : World) (D : List Chunk) : List Snap := [⟨w0, fun b => b < w0.heap.size ∧ b ∉ fps D⟩]
theorem strCells_mk (s : List UInt8) : Lib.strCells ⟨⟨s⟩⟩ = byteC s := rfl
theorem run_appStr_off (t u ty e : TypeId) (i : TypeInfo) (ht : P.underlying t = some (.slice e)) (hu : P.underlying u = some .string) (hi : P.info? e = some i) (hs1 : i.size = 1)
    (g off sLen sCap : Nat) (cur : List Value) (hg : w.heap[g]? = some (.cells ⟨cur⟩ e (0, 0))) (s : List UInt8) (hroom : sLen + s.length ≤ sCap) (hfit : off + sLen + s.length ≤ cur.length) :
    (Builtin.append_ #[t, u] ty #[.slice (some ⟨g, off, none⟩) sLen sCap, str s]).run P w =
      .ok (.slice (some ⟨g, off, none⟩) (sLen + s.length) sCap) (w.setRow g ⟨cur.take (off + sLen) ++ byteC s ++ cur.drop (off + sLen + s.length)⟩) := by
  have hf := Lib.run_firstCells_string (P := P) w 1 ⟨⟨s⟩⟩
  have hst := run_storeCells_at P g (off + sLen) e (byteC s) 0 ⟨cur⟩ w hg (by simpa [byteC_len] using hfit) (Lib.strCells_oneCell ⟨⟨s⟩⟩)
  rw [strCells_mk, size_mk] at hf
  simp only [Nat.add_zero, byteC_len] at hst
  simp [Builtin.append_, run_underlying ht, run_underlying hu, sizeOf, typeInfo, hi, hs1, Builtin.lenOf, size_mk, hroom, hf, Addr.add_mid, hst]
theorem run_appStr {s x : Operand} {t u e : TypeId} {n cap : Nat} {A : Option Addr} {xs : List Value} {r : List UInt8} (ho : o.op = .call ⟨.builtin .append, ⟨[s, x]⟩, ⟨[t, u]⟩⟩) (hi : appOf P t = some (e, 1, 1)) (hu : isStr P u = true)
    (hs : ρ s = .slice A n cap) (hx : ρ x = str r) (hown : RowAt w e 1 (.slice A n cap) n xs) (hb : n + r.length ≤ 140737488355328) :
    ∃ A' cap' w', (execOp ρ o).run P w = .ok (.value (.slice A' (n + r.length) cap')) w' ∧ RowAt w' e 1 (.slice A' (n + r.length) cap') (n + r.length) (xs ++ byteC r) ∧ Upd (Value.slice A n cap).ownBlock.toList w w' ∧ (∀ g, (Value.slice A' (n + r.length) cap').ownBlock = some g → (Value.slice A n cap).ownBlock = some g ∨ (w.heap.size ≤ g ∧ g < w'.heap.size)) ∧ ((A = none ∨ cap ≠ 0) → (A' = none ∨ cap' ≠ 0)) := by
  obtain ⟨i, z, ht, hinfo, hz, h1s, h1b, hzs, _, _⟩ := appOf_spec hi
  have hu := isStr_eq hu
  have hmx : n + r.length ≤ maxLen := by unfold maxLen; omega
  have hxl : xs.length = n := by simpa using hown.1
  have hlen : (xs ++ byteC r).length = (n + r.length) * 1 := by rw [List.length_append, hxl, byteC_len, Nat.mul_one]
  have run : ∀ v' w', (Builtin.append_ #[t, u] o.type #[.slice A n cap, str r]).run P w = .ok v' w' → (execOp ρ o).run P w = .ok (.value v') w' := fun v' w' hr => by
    unfold execOp
    simp only [ho, resolve, invoke, builtin, Sem.run_bind, Sem.run_pure, Result.andThen_ok, List.map_toArray, List.map_cons, List.map_nil, hs, hx, hr]
  have grown : ∀ old, old < n + r.length → RowAt (w.drew.alloc (.cells (xs.toArray ++ (byteC r).toArray ++ Builtin.zeroCells z.cells (grownCap w (n + r.length) old e - (n + r.length))) e)) e 1
        (.slice (some ⟨w.heap.size, 0, none⟩) (n + r.length) (grownCap w (n + r.length) old e)) (n + r.length) (xs ++ byteC r) := by
    intro old ho
    have hge := grownCap_ge w (n + r.length) old e
    have hcm : grownCap w (n + r.length) old e ≤ maxLen := grownCap_le_maxLen w (n + r.length) old e hmx
    refine ⟨hlen, .inr ⟨w.heap.size, 0, _, (xs.toArray ++ (byteC r).toArray ++ Builtin.zeroCells z.cells (grownCap w (n + r.length) old e - (n + r.length))).toList, rfl, heap_alloc_new w.drew _, hge, hcm, ?_, ?_⟩⟩
    · simp only [Array.length_toList, Array.size_append, List.size_toArray, size_zeroCells, hzs, hxl, byteC_len, Nat.zero_add, Nat.mul_one]
      omega
    · simp only [Array.toList_append, List.append_assoc, List.drop_zero]
      rw [← List.append_assoc, ← hlen]
      exact List.take_left
  have hup : ∀ (fp : List Nat) (ob : Obj), Upd fp w (w.drew.alloc ob) := fun fp ob => (Upd.drew fp w).trans (.alloc _ _ _)
  have hnew : ∀ ob : Obj, ∀ g, (Value.slice (some ⟨w.heap.size, 0, none⟩) (n + r.length) 0).ownBlock = some g → w.heap.size ≤ g ∧ g < (w.drew.alloc ob).heap.size := fun ob g hg => by
    simp only [Value.ownBlock, Option.some.injEq] at hg
    subst hg
    simp
  rcases hown.2 with ⟨h2, rfl⟩ | ⟨g, og, cap0, cur, h2, hgg, hnc, hcm, hcs, htake⟩
  · simp only [Value.slice.injEq] at h2
    obtain ⟨rfl, _, rfl⟩ := h2
    have hx0 : xs = [] := List.eq_nil_of_length_eq_zero hxl
    subst hx0
    by_cases hm : r = []
    · subst hm
      refine ⟨none, 0, w, run _ _ ?_, ⟨by simp [byteC], .inl ⟨rfl, rfl⟩⟩, .refl _ _, fun g hg => by simp [Value.ownBlock] at hg, fun _ => .inl rfl⟩
      have hf := Lib.run_firstCells_string (P := P) w 1 ⟨⟨[]⟩⟩
      rw [strCells_mk, size_mk] at hf
      simp only [List.length_nil] at hf
      simp [Builtin.append_, run_underlying ht, run_underlying hu, sizeOf, typeInfo, hinfo, h1s, Builtin.lenOf, size_mk, hf]
    · have hr0 : 0 < r.length := List.length_pos_iff.2 hm
      have hr := run_append_nil_string (P := P) w t u o.type e i z ht hu hinfo hz ⟨⟨r⟩⟩ (by rw [size_mk]; omega) (by rw [size_mk]; omega) (by rw [h1b, size_mk]; omega)
      have hgr := grown 0 (by omega)
      rw [size_mk] at hr
      simp only [Nat.zero_add, List.nil_append, Array.empty_append] at hgr ⊢
      have e1 : ((⟨⟨r⟩⟩ : ByteArray).data.map fun b => Value.int .u8 b.toNat) = (byteC r).toArray := by
        apply Array.ext'
        simp [byteC]
      rw [e1] at hr
      have hge := grownCap_ge w r.length 0 e
      exact ⟨_, _, _, run _ _ hr, hgr, hup _ _, fun g hg => .inr (hnew _ g hg), fun _ => .inr (by omega)⟩
  · simp only [Value.slice.injEq] at h2
    obtain ⟨rfl, _, rfl⟩ := h2
    by_cases hroom : n + r.length ≤ cap
    · have hfit : og + n + r.length ≤ cur.length := by omega
      have hr := run_appStr_off (P := P) t u o.type e i ht hu hinfo h1s g og n cap cur hgg r hroom hfit
      refine ⟨_, _, _, run _ _ hr, ⟨hlen, .inr ⟨g, og, cap, _, rfl, heap_setRow hgg, hroom, hcm, ?_, ?_⟩⟩, (Upd.setRow _ _ _).mono (by simp [Value.ownBlock]), fun g' hg' => .inl hg', fun h => .inr (by rcases h with h | h; cases h; exact h)⟩
      · simp only [List.length_append, List.length_take, List.length_drop, byteC_len]; omega
      · have h3 := drop_take_app cur (byteC r) og n (by rw [byteC_len]; exact hfit)
        rw [byteC_len] at h3
        rw [Nat.mul_one, h3]
        rw [Nat.mul_one] at htake
        rw [htake]
    · have holds : ∀ j u, xs[j]? = some u → w.cell? ((⟨g, og, none⟩ : Addr).add j) = some u := fun j u hj => by rw [Addr.add_mid]; exact hown.cells j u hj
      have hr := Lib.run_append_grow_string (P := P) w t u o.type e i z ht hu hinfo hz ⟨g, og, none⟩ n cap xs (by rw [h1s]; simpa using hxl) holds ⟨⟨r⟩⟩ (by rw [size_mk]; omega) (by rw [size_mk]; omega) (by rw [h1b, size_mk]; exact growslice_fits (by omega) (by omega))
      rw [size_mk, strCells_mk] at hr
      have hge := grownCap_ge w (n + r.length) cap e
      exact ⟨_, _, _, run _ _ hr, grown cap (by omega), hup _ _, fun g hg => .inr (hnew _ g hg), fun _ => .inr (by omega)⟩
/-- the cells of the element k of a row -/
theorem flat_at {α : Type} {enc : α → List Value} {sz : Nat} (hsz : ∀ x, (enc x).length = sz) : ∀ (l : List α) {k : Nat} (h : k < l.length), ((l.flatMap enc).drop (k * sz)).take sz = enc l[k]
  | [], _, h => by simp at h
  | o :: l, 0, h => by
    simp only [List.flatMap_cons, Nat.zero_mul, List.drop_zero, List.getElem_cons_zero]
    rw [List.take_append_of_le_length (by rw [hsz]; exact Nat.le_refl _), List.take_of_length_le (by rw [hsz]; exact Nat.le_refl _)]
  | o :: l, k + 1, h => by
    simp only [List.flatMap_cons, List.getElem_cons_succ]
    rw [List.drop_append, hsz, List.drop_of_length_le (by rw [hsz, Nat.add_mul]; omega), List.nil_append, show (k + 1) * sz - sz = k * sz by rw [Nat.add_mul]; omega]
    exact flat_at hsz l (by simpa using h)
theorem getV_part {ty : TypeId} {cs es : List Value} {off n : Nat} (h0 : tyAgg P ty = some true) (hn : tySize P ty = some n) (hle : off + n ≤ cs.length) (he : (cs.drop off).take n = es) : getV P ty cs off = some (.agg ⟨es⟩) := by
  unfold getV getV0
  rw [h0, hn]
  simp only
  rw [Nat.ble_eq_true_of_le hle]
  simp only [he, nfo, nfv]
/-- an element of a row of structs -/
theorem LdOk.ownElem {α : Type} {enc : α → List Value} {sz g off n cap n' k : Nat} {e ty : TypeId} {l : List α} (hsz : ∀ x, (enc x).length = sz) (hm : Chunk.own (.slice (some ⟨g, off, none⟩) n cap) e sz n' (l.flatMap enc) ∈ H) (hk : k < l.length) (h0 : tyAgg P ty = some true) (hn : tySize P ty = some sz) :
    LdOk P H Z ty ⟨g, off + k * sz, none⟩ (.agg ⟨enc l[k]⟩) :=
  LdOk.own hm (getV_part h0 hn (by
    rw [flat_len hsz]
    have := Nat.mul_le_mul_right sz (Nat.succ_le_of_lt hk)
    rw [Nat.succ_mul] at this
    exact this) (flat_at hsz l hk))
theorem LdOk.ownElemE {α : Type} {enc : α → List Value} {sz g off n cap n' k : Nat} {e ty : TypeId} {l : List α} {o : α} (hsz : ∀ x, (enc x).length = sz) (hm : Chunk.own (.slice (some ⟨g, off, none⟩) n cap) e sz n' (l.flatMap enc) ∈ H) (hk : l[k]? = some o) (h0 : tyAgg P ty = some true) (hn : tySize P ty = some sz) :
    LdOk P H Z ty ⟨g, off + k * sz, none⟩ (.agg ⟨enc o⟩) := by
  obtain ⟨h1, rfl⟩ := List.getElem?_eq_some_iff.1 hk
  exact LdOk.ownElem hsz hm h1 h0 hn
/-! ## remainders and quotients of numbers without a sign -/
theorem run_remK {ty ty' : TypeId} {x y : Operand} {k : IntKind} {a b : Int} (ho : o.op = .binOp .rem ty x y ty') (hx : ρ x = .int k a) (hy : ρ y = .int k b) (ha : 0 ≤ a) (hb : 0 < b) (hw : k.wrap (a % b) = a % b) :
    (execOp ρ o).run P w = .ok (.value (.int k (a % b))) w := by
  have h0 : ¬ b = 0 := by omega
  have h1 : (eqGuard .rem ty x y (.int k a) (.int k b)).run P w = .ok () w := by simp [eqGuard]
  have h2 : (binOp .rem ty (.int k a) (.int k b)).run P w = .ok (.int k (a % b)) w := by
    simp [binOp, Op.intDiv, h0, Int.tmod_eq_emod_of_nonneg ha, hw]
  simp only [execOp, ho, hx, hy, Sem.run_bind, h1, h2, Result.andThen_ok]
  rfl
theorem run_quoK {ty ty' : TypeId} {x y : Operand} {k : IntKind} {a b : Int} (ho : o.op = .binOp .quo ty x y ty') (hx : ρ x = .int k a) (hy : ρ y = .int k b) (ha : 0 ≤ a) (hb : 0 < b) (hw : k.wrap (a / b) = a / b) :
    (execOp ρ o).run P w = .ok (.value (.int k (a / b))) w := by
  have h0 : ¬ b = 0 := by omega
  have h1 : (eqGuard .quo ty x y (.int k a) (.int k b)).run P w = .ok () w := by simp [eqGuard]
  have h2 : (binOp .quo ty (.int k a) (.int k b)).run P w = .ok (.int k (a / b)) w := by
    simp [binOp, Op.intDiv, h0, Int.tdiv_eq_ediv_of_nonneg ha, hw]
  simp only [execOp, ho, hx, hy, Sem.run_bind, h1, h2, Result.andThen_ok]
  rfl
theorem WL.remK {ty ty' : TypeId} {x y : Operand} {k : IntKind} {a b : Int} (ho : o.op = .binOp .rem ty x y ty') (hx : ev f x = .int k a) (hy : ev f y = .int k b) (ha : 0 ≤ a) (hb : 0 < b) (hw : k.wrap (a % b) = a % b)
    (hg : wants ops f o = true) {d : Nat} (hd : o.dst = some d) (hn : Nat.blt d N = true) (h : WL P N ops l (up f d (.int k (a % b))) w Q) : WL P N ops (o :: l) f w Q := .val hg hd hn (run_remK ho hx hy ha hb hw) h
theorem WL.quoK {ty ty' : TypeId} {x y : Operand} {k : IntKind} {a b : Int} (ho : o.op = .binOp .quo ty x y ty') (hx : ev f x = .int k a) (hy : ev f y = .int k b) (ha : 0 ≤ a) (hb : 0 < b) (hw : k.wrap (a / b) = a / b)
    (hg : wants ops f o = true) {d : Nat} (hd : o.dst = some d) (hn : Nat.blt d N = true) (h : WL P N ops l (up f d (.int k (a / b))) w Q) : WL P N ops (o :: l) f w Q := .val hg hd hn (run_quoK ho hx hy ha hb hw) h
/-- a text's bytes put behind a row of bytes -/
theorem WL.appStr {s x : Operand} {t u e : TypeId} {n cap : Nat} {A : Option Addr} {xs : List Value} {r : List UInt8} {H' : Option Addr → Nat → List Chunk} (hS : St w0 M w H Z) (ho : o.op = .call ⟨.builtin .append, ⟨[s, x]⟩, ⟨[t, u]⟩⟩) (hi : appOf P t = some (e, 1, 1)) (hu : isStr P u = true)
    (hs : ev f s = .slice A n cap) (hx : ev f x = str r)
    (hr : ∀ A' cap', Repl (.own (.slice A n cap) e 1 n xs) (.own (.slice A' (n + r.length) cap') e 1 (n + r.length) (xs ++ byteC r)) H (H' A' cap')) (hb : n + r.length ≤ 140737488355328)
    (hg : wants ops f o = true) {d : Nat} (hd : o.dst = some d) (hn : Nat.blt d N = true)
    (h : ∀ A' cap' w', ((A = none ∨ cap ≠ 0) → (A' = none ∨ cap' ≠ 0)) → St w0 M w' (H' A' cap') Z → WL P N ops l (up f d (.slice A' (n + r.length) cap')) w' Q) : WL P N ops (o :: l) f w Q := by
  obtain ⟨A', cap', w', hrun, hown', hgr, hat, h1⟩ := run_appStr (P := P) (w := w) ho hi hu hs hx (hS.holds _ (hr none 0).mem) hb
  exact .val hg hd hn hrun (h A' cap' w' h1 (hS.app (hr A' cap') hown' hgr hat))
end
section
variable {P : Program} {N : Nat} {f : Fr} {w w0 : World} {Q : Post} {ops : List Oper} {M : List Nat} {H0 H H' : List Chunk} {Z0 Z : List Snap} {q : Qs} {l : List Nat} {i : Nat}
/-- a key struck from a map, in a region that does not lean on it -/
theorem WD.mdelC0 {t k t2 : TypeId} {z : Value} {x y : Operand} {b : Nat} {m : KV} {s : List UInt8} (hS : St w0 M w (mapC b m :: H) Z) (hM : More H0 Z0 H Z) (ho : (ix ops i).op = .call ⟨.builtin .delete, ⟨[x, y]⟩, ⟨[t, t2]⟩⟩) (ht : mapOf P t = some (k, z)) (hx : ev f x = .map (some b)) (hy : ev f y = str s)
    (hq : q.contains i = false) (hi : Nat.blt i ops.length = true) (hg : wants ops f (ix ops i) = true) (hd : (ix ops i).dst = none) (h : ∀ w', St w0 M w' (mapC b (mdel m s) :: H) Z → WD P N (SS w0 M H0 Z0) ops q l f w' Q) : WD P N (SS w0 M H0 Z0) ops q (i :: l) f w Q := by
  obtain ⟨ob, h1, h2⟩ := run_delete (t2 := t2) (ty := (ix ops i).type) (s := s) ht (hS.holds _ (List.Mem.head _)).1
  have hrun : (execOp (ev f) (ix ops i)).run P w = .ok (.value (.tuple #[])) { w with heap := w.heap.setIfInBounds b ob } := by
    simp [execOp, ho, resolve, invoke, builtin, hx, hy, Sem.run_bind, h1]
  have hS' := hS.setMap .here h2
  refine .eff hq fun a ha K hK => ?_
  unfold Go.wpOp
  rw [ix_some (by simp only [List.size_toArray]; exact Nat.le_of_ble_eq_true hi)]
  simp only
  rw [if_pos ((wanted_eq ha _).trans hg)]
  refine .inl ?_
  simp only [Oper.wp, ha.eval, hrun, Oper.upon]
  exact hK _ _ _ (by rw [hd]; exact ha) (hM.ss hS'.drop) (h _ hS')
/-- a region that draws its order, does not lean on D, and of which the effect 'i' and those behind it spoil what was known -/
theorem WC.drawLV {id : Nat} (D : List Chunk) (hS : St w0 M w H Z) (hp : Pulls D H H') (q l : List Nat) (i : Nat) (l2 : List Nat) (hm : P.follows .mixedOrders = true)
    (hk : (Region.noSelect ops.toArray && ordOk ops.toArray ⟨q, .piv i l2⟩ (Array.replicate ops.toArray.size false) l && Nat.beq (l.length + (l2.length + 1)) ops.length) = true)
    (h : ∀ w', St w0 M w' (D ++ H') Z → More H' Z (D ++ H') Z → WD P N (SS w0 M H' Z) ops ⟨q, .piv i l2⟩ l f w' Q) : WC P N (.region id ops.toArray true) f w Q := by
  have hS' := hS.pulls hp
  simp only [Bool.and_eq_true] at hk
  exact WC.draw (SS w0 M H' Z) ⟨q, .piv i l2⟩ l hm hk.1.1 hk.1.2 hk.2 ((More.app (.refl _ _)).ss hS'.drew) (h _ hS'.drew (More.app (.refl _ _)))
/-- append to a row on which the region does not lean -/
theorem WD.app {s x : Operand} {t e : TypeId} {size bytes n m cap c b off : Nat} {A : Option Addr} {xs news : List Value} (hS : St w0 M w H Z) (hp : Pull (.own (.slice A n cap) e size n xs) H H') (hM : More H0 Z0 H' Z) (ho : (ix ops i).op = .call ⟨.builtin .append, ⟨[s, x]⟩, ⟨[t, t]⟩⟩) (hi0 : appOf P t = some (e, size, bytes))
    (hs : ev f s = .slice A n cap) (hx : ev f x = .slice (some ⟨b, off, none⟩) m c) (hnews : RdOk H Z b off news) (hl : news.length = m * size) (h1 : one news = true) (hb : (n + m) * bytes ≤ 140737488355328)
    (hq : q.contains i = false) (hi : Nat.blt i ops.length = true) (hg : wants ops f (ix ops i) = true) {d : Nat} (hd : (ix ops i).dst = some d) (hn : Nat.blt d N = true)
    (h : ∀ A' cap' w', St w0 M w' (.own (.slice A' (n + m) cap') e size (n + m) (xs ++ news) :: H') Z → More H0 Z0 (.own (.slice A' (n + m) cap') e size (n + m) (xs ++ news) :: H') Z → WD P N (SS w0 M H0 Z0) ops q l (up f d (.slice A' (n + m) cap')) w' Q) : WD P N (SS w0 M H0 Z0) ops q (i :: l) f w Q := by
  have hS' := hS.pull hp
  obtain ⟨A', cap', w', hrun, hown', hgr, hat⟩ := run_appOp (P := P) (w := w) ho hi0 hs hx (hS'.holds _ (List.Mem.head _)) (hnews.out w0 M w [] [] hS) hl h1 hb
  have hS2 := hS'.app (.here) hown' hgr hat
  exact .val hq hi hg hd hn hrun ((hM.chunk _).ss hS2) (h A' cap' w' hS2 (hM.chunk _))
theorem WD.remK {S : World → Prop} {ty ty' : TypeId} {x y : Operand} {k : IntKind} {a b : Int} (ho : (ix ops i).op = .binOp .rem ty x y ty') (hx : ev f x = .int k a) (hy : ev f y = .int k b) (ha : 0 ≤ a) (hb : 0 < b) (hw : k.wrap (a % b) = a % b)
    (hq : q.contains i = true) (hg : wants ops f (ix ops i) = true) {d : Nat} (hd : (ix ops i).dst = some d) (hn : Nat.blt d N = true) (h : WD P N S ops q l (up f d (.int k (a % b))) w Q) : WD P N S ops q (i :: l) f w Q :=
  .take hq hd hn (.inl ⟨hg, fun _ _ => run_remK ho hx hy ha hb hw⟩) h
theorem WD.quoK {S : World → Prop} {ty ty' : TypeId} {x y : Operand} {k : IntKind} {a b : Int} (ho : (ix ops i).op = .binOp .quo ty x y ty') (hx : ev f x = .int k a) (hy : ev f y = .int k b) (ha : 0 ≤ a) (hb : 0 < b) (hw : k.wrap (a / b) = a / b)
    (hq : q.contains i = true) (hg : wants ops f (ix ops i) = true) {d : Nat} (hd : (ix ops i).dst = some d) (hn : Nat.blt d N = true) (h : WD P N S ops q l (up f d (.int k (a / b))) w Q) : WD P N S ops q (i :: l) f w Q :=
  .take hq hd hn (.inl ⟨hg, fun _ _ => run_quoK ho hx hy ha hb hw⟩) h
end
end Go.J

/- What is proved: the walk's rules for results that lie in variables, and elements of array values. Conditions: as each rule names them. -/
set_option linter.unusedSimpArgs false
set_option linter.unusedVariables false
namespace Go.J
open Go Go.RowKit

section
variable {P : Program} {fn : Func} {rs : Array ResultVar} {R : Value → World → Prop} {f : Fr} {w w0 : World} {M : List Nat} {H : List Chunk} {Z : List Snap}
theorem St.loads (hS : St w0 M w H Z) {ty : TypeId} {a : Addr} {v : Value} (hl : LdOk P H Z ty a v) : (loadVar ty a).run P w = .ok v w := hl.out w0 M w [] [] hS
theorem resC1 {t : Tmp} {ty : TypeId} {a : Addr} {v : Value} (hS : St w0 M w H Z) (h : fn.results = #[.cell t ty]) (hx : f t = .pointer (some a)) (hl : LdOk P H Z ty a v) : ∀ b, Is b fn.ntmps f → (results fn b.tmps).run P w = .ok v w := fun b hb => by
  have h1 := hb.get t
  rw [hx] at h1
  have h2 := hS.loads hl
  simp only [Array.getD_eq_getD_getElem?] at h1
  simp [results, h, h1, h2, asAddr, Sem.run_bind]
theorem resC2 {t u : Tmp} {ty : TypeId} {a : Addr} {v : Value} (hS : St w0 M w H Z) (h : fn.results = #[.cell t ty, .tmp u]) (hx : f t = .pointer (some a)) (hl : LdOk P H Z ty a v) : ∀ b, Is b fn.ntmps f → (results fn b.tmps).run P w = .ok (.tuple #[v, f u]) w := fun b hb => by
  have h1 := hb.get t
  rw [hx] at h1
  have h2 := hS.loads hl
  rw [← hb.get u]
  simp only [Array.getD_eq_getD_getElem?] at h1
  simp [results, h, h1, h2, asAddr, Sem.run_bind]
theorem finC1r {t : Tmp} {ty : TypeId} {a : Addr} {v : Value} (hS : St w0 M w H Z) (h : fn.results = #[.cell t ty]) (hx : f t = .pointer (some a)) (hl : LdOk P H Z ty a v) (hR : R v w) : funQ P rs fn (Ret R) .ret f w := by unfold funQ; exact ⟨v, ⟨v, rfl, hR⟩, resC1 hS h hx hl⟩
theorem finC2r {t u : Tmp} {ty : TypeId} {a : Addr} {v v' : Value} (hS : St w0 M w H Z) (h : fn.results = #[.cell t ty, .tmp u]) (hx : f t = .pointer (some a)) (hl : LdOk P H Z ty a v) (hv : nfv (f u) = some v') (hR : R (.tuple #[v, v']) w) : funQ P rs fn (Ret R) .ret f w := by unfold funQ; exact ⟨_, ⟨_, rfl, hR⟩, by rw [nfv_eq hv]; exact resC2 hS h hx hl⟩
end
section
variable {P : Program} {N : Nat} {f : Fr} {w w0 : World} {Q : Post} {ops l : List Oper} {o : Oper} {M : List Nat} {H H' : List Chunk} {Z : List Snap} {ρ : Operand → Value}
theorem run_idxA {t e : TypeId} {x y : Operand} {len size j : Nat} {k : IntKind} {cs : List Value} {v : Value} (ho : o.op = .index t x y) (ht : arrOf P t = some (len, e, size)) (hx : ρ x = .agg ⟨cs⟩) (hy : ρ y = .int k (Int.ofNat j)) (hj : j < len) (hv : partOf P e cs (j * size) = some v) :
    (execOp ρ o).run P w = .ok (.value v) w := by
  have h2 : (0 : Int) ≤ Int.ofNat j ∧ Int.ofNat j < (len : Int) := ⟨Int.natCast_nonneg j, Int.ofNat_lt.2 hj⟩
  have h3 : (Int.ofNat j).toNat = j := rfl
  unfold arrOf at ht
  split at ht
  · rename_i e' hu
    split at ht
    · rename_i n' hn
      simp only [Option.some.injEq, Prod.mk.injEq] at ht
      obtain ⟨rfl, rfl, rfl⟩ := ht
      simp only [execOp, ho, hx, hy, Instr.index, asIntOf, Sem.run_bind, run_underlying hu, Result.andThen_ok, Sem.run_pure, h2, if_true, h3, run_sizeOf hn, run_part hv, and_self]
    · cases ht
  · cases ht
theorem WL.idxA {t e : TypeId} {x y : Operand} {len size j : Nat} {k : IntKind} {cs : List Value} {v : Value} (ho : o.op = .index t x y) (ht : arrOf P t = some (len, e, size)) (hx : ev f x = .agg ⟨cs⟩) (hy : ev f y = .int k (Int.ofNat j)) (hj : j < len) (hv : partOf P e cs (j * size) = some v)
    (hg : wants ops f o = true) {d : Nat} (hd : o.dst = some d) (hn : Nat.blt d N = true) (h : WL P N ops l (up f d v) w Q) : WL P N ops (o :: l) f w Q :=
  .val hg hd hn (run_idxA ho ht hx hy hj hv) h
theorem WL.b2sBox {t t2 : TypeId} {x : Operand} {e e' : TypeId} {b n : Nat} {s : List UInt8} {cs : List Value} (hS : St w0 M w H Z) (ho : o.op = .convert t t2 x) (ht : bytesOf P t = some e) (ht2 : isStr P t2 = true) (hx : ev f x = .slice (some ⟨b, 0, none⟩) n n) (hm : Chunk.box b e' cs ∈ H) (hxs : cs = byteC s) (hl : s.length = n) (hmx : n ≤ 1048576)
    (hg : wants ops f o = true) {d : Nat} (hd : o.dst = some d) (hn : Nat.blt d N = true) (h : WL P N ops l (up f d (str s)) w Q) : WL P N ops (o :: l) f w Q :=
  .val hg hd hn (run_b2s ho ht ht2 hx (hxs ▸ row_box (hS.holds _ hm) (by rw [hxs, byteC_len]; exact hl) (by unfold maxLen; omega))) h
end
end Go.J

/- What is proved: the walk's rules for appending nothing, for a slice cut to another length, and for lists of the caller's put behind a row. Conditions: as each rule names them. -/
set_option linter.unusedSimpArgs false
set_option linter.unusedVariables false
namespace Go.J
open Go Go.RowKit

section
variable {P : Program} {N : Nat} {f : Fr} {w w0 : World} {Q : Post} {ops l : List Oper} {o : Oper} {M : List Nat} {H H' : List Chunk} {Z : List Snap} {ρ : Operand → Value}
theorem run_app0B {s x : Operand} {t e : TypeId} {size bytes n cap c : Nat} {A B : Option Addr} (ho : o.op = .call ⟨.builtin .append, ⟨[s, x]⟩, ⟨[t, t]⟩⟩) (hi : appOf P t = some (e, size, bytes))
    (hs : ρ s = .slice A n cap) (hx : ρ x = .slice B 0 c) (hc : n ≤ cap) : (execOp ρ o).run P w = .ok (.value (.slice A n cap)) w := by
  obtain ⟨i, z, hu, hinfo, hz, rfl, rfl, hzs, h0, h0b⟩ := appOf_spec hi
  have hr : (Builtin.append_ #[t, t] o.type #[.slice A n cap, .slice B 0 c]).run P w = .ok (.slice A n cap) w := by
    cases A with
    | none => cases B with
      | none => simp [Builtin.append_, run_underlying hu, sizeOf, typeInfo, hinfo, Builtin.lenOf, Builtin.firstCells, hc]
      | some b => simp [Builtin.append_, run_underlying hu, sizeOf, typeInfo, hinfo, Builtin.lenOf, Builtin.firstCells, loadCells, loadCellsFrom, hc]
    | some a => cases B with
      | none => simp [Builtin.append_, run_underlying hu, sizeOf, typeInfo, hinfo, Builtin.lenOf, Builtin.firstCells, hc, storeCells]
      | some b => simp [Builtin.append_, run_underlying hu, sizeOf, typeInfo, hinfo, Builtin.lenOf, Builtin.firstCells, loadCells, loadCellsFrom, hc, storeCells]
  unfold execOp
  simp only [ho, resolve, invoke, builtin, Sem.run_bind, Sem.run_pure, Result.andThen_ok, List.map_toArray, List.map_cons, List.map_nil, hs, hx, hr]
/-- append of nothing -/
theorem WL.app0B {s x : Operand} {t e : TypeId} {size bytes n cap c : Nat} {A B : Option Addr} (ho : o.op = .call ⟨.builtin .append, ⟨[s, x]⟩, ⟨[t, t]⟩⟩) (hi : appOf P t = some (e, size, bytes))
    (hs : ev f s = .slice A n cap) (hx : ev f x = .slice B 0 c) (hc : n ≤ cap) (hg : wants ops f o = true) {d : Nat} (hd : o.dst = some d) (hn : Nat.blt d N = true)
    (h : WL P N ops l (up f d (.slice A n cap)) w Q) : WL P N ops (o :: l) f w Q := .val hg hd hn (run_app0B ho hi hs hx hc) h
/-- list[:k]: the value alone -/
theorem WL.highV {t e : TypeId} {size g off n cap j : Nat} {x y : Operand} {k : IntKind} (ho : o.op = .slice t x none (some y) none) (he : elemOf P t = some (e, size)) (hx : ev f x = .slice (some ⟨g, off, none⟩) n cap) (hy : ev f y = .int k (Int.ofNat j)) (hj : j ≤ cap)
    (hg : wants ops f o = true) {d : Nat} (hd : o.dst = some d) (hn : Nat.blt d N = true) (h : WL P N ops l (up f d (.slice (some ⟨g, off, none⟩) j cap)) w Q) : WL P N ops (o :: l) f w Q := .val hg hd hn (run_sliceHigh ho he hx hy hj) h
theorem SlAt.pre {α : Type} {c : Cod α} {F : Nat → Prop} {w : World} {A : Option Addr} {xs ys : List α} (h : SlAt c F w A (xs ++ ys)) : SlAt c F w A xs := fun k hk => by
  obtain ⟨b, o, es, h1, h2, h3, h4⟩ := h k (by rw [List.length_append]; omega)
  exact ⟨b, o, es, h1, h2, h3, by rwa [List.getElem_append_left hk] at h4⟩
theorem flat_get {α : Type} {enc : α → List Value} {sz : Nat} (hsz : ∀ x, (enc x).length = sz) (l : List α) {k i : Nat} (h : k < l.length) (hi : i < sz) : (l.flatMap enc)[k * sz + i]? = (enc l[k])[i]? := by
  have := congrArg (fun x => x[i]?) (flat_at hsz l h)
  simp only [List.getElem?_take, List.getElem?_drop, if_pos hi] at this
  exact this
/-- the caller's list as cells that lie there -/
theorem RdOk.ofSl {α : Type} {enc : α → List Value} {sz : Nat} {hsz : ∀ x, (enc x).length = sz} {F : Nat → Prop} {wz : World} {b off : Nat} {xs : List α} (h : SlAt (Cod.flat enc sz hsz) F wz (some ⟨b, off, none⟩) xs) (hz : Snap.mk wz F ∈ Z) (h0 : 0 < sz) : RdOk H Z b off (xs.flatMap enc) := by
  refine ⟨fun w0 M w Hn Zn hS j u hj => ?_⟩
  have hlt : j < xs.length * sz := by
    have := (List.getElem?_eq_some_iff.1 hj).1
    rwa [flat_len hsz] at this
  have hk : j / sz < xs.length := (Nat.div_lt_iff_lt_mul h0).2 hlt
  have hi : j % sz < sz := Nat.mod_lt _ h0
  have hje : j = j / sz * sz + j % sz := by rw [Nat.mul_comm]; exact (Nat.div_add_mod j sz).symm
  rw [hje, flat_get hsz xs hk hi] at hj
  obtain ⟨b', o', es, e0, hF, hr, hes⟩ := h.at_ hk
  simp only [Option.some.injEq, Addr.mk.injEq, and_true] at e0
  obtain ⟨rfl, rfl⟩ := e0
  have hes : es = enc xs[j / sz] := hes
  subst hes
  have := (RdOk.snap (H := H) (Z := Z) hF hr hz).out w0 M w Hn Zn hS (j % sz) u hj
  rw [hje]
  rw [← Nat.add_assoc]
  exact this
/-- append of the caller's list to a row of the call's own -/
theorem WL.appSl {α : Type} {enc : α → List Value} {sz : Nat} {hsz : ∀ x, (enc x).length = sz} {F : Nat → Prop} {wz : World} {ys : List α} {s x : Operand} {t e : TypeId} {bytes n cap c : Nat} {A B : Option Addr} {xs : List Value} {H' : Option Addr → Nat → List Chunk} (hS : St w0 M w H Z) (ho : o.op = .call ⟨.builtin .append, ⟨[s, x]⟩, ⟨[t, t]⟩⟩) (hi : appOf P t = some (e, sz, bytes))
    (hs : ev f s = .slice A n cap) (hx : ev f x = .slice B ys.length c) (h : SlAt (Cod.flat enc sz hsz) F wz B ys) (hz : Snap.mk wz F ∈ Z) (h0 : 0 < sz) (h1 : one (ys.flatMap enc) = true)
    (hr : ∀ A' cap', Repl (.own (.slice A n cap) e sz n xs) (.own (.slice A' (n + ys.length) cap') e sz (n + ys.length) (xs ++ ys.flatMap enc)) H (H' A' cap')) (hb : (n + ys.length) * bytes ≤ 140737488355328)
    (hg : wants ops f o = true) {d : Nat} (hd : o.dst = some d) (hn : Nat.blt d N = true)
    (hk : ∀ A' cap' w', St w0 M w' (H' A' cap') Z → WL P N ops l (up f d (.slice A' (n + ys.length) cap')) w' Q) : WL P N ops (o :: l) f w Q := by
  rcases ys with _ | ⟨y, ys⟩
  · have hm := (hr A cap).mem
    have hcap := (hS.own_len hm).2.2
    refine WL.app0B ho hi hs hx hcap hg hd hn ?_
    refine hk A cap w (hS.recast (hr A cap) (fun h => ?_) (fun b hb => ?_))
    · simpa using h
    · simpa using hb
  · obtain ⟨b, off, es, rfl, hF, _, _⟩ := h.at_ (k := 0) (by simp)
    exact WL.app hS ho hi hs hx (RdOk.ofSl h hz h0) (flat_len hsz _) h1 hr hb hg hd hn hk
end
end Go.J

/- What is proved: parts of rows, cut in a region that draws its order. Conditions: none beyond the rules' own. -/
set_option linter.unusedSimpArgs false
set_option linter.unusedVariables false
namespace Go.J
open Go Go.RowKit
section
variable {P : Program} {N : Nat} {f : Fr} {w w0 : World} {Q : Post} {ops : List Oper} {q : List Nat} {l : List Nat} {i : Nat} {S : World → Prop}
theorem WD.highV {pl : Qs} {t e : TypeId} {size g off n cap j : Nat} {x y : Operand} {k : IntKind} (ho : (ix ops i).op = .slice t x none (some y) none) (he : elemOf P t = some (e, size)) (hx : ev f x = .slice (some ⟨g, off, none⟩) n cap) (hy : ev f y = .int k (Int.ofNat j)) (hj : j ≤ cap)
    (hq : pl.contains i = true) (hg : wants ops f (ix ops i) = true) {d : Nat} (hd : (ix ops i).dst = some d) (hn : Nat.blt d N = true) (h : WD P N S ops pl l (up f d (.slice (some ⟨g, off, none⟩) j cap)) w Q) : WD P N S ops pl (i :: l) f w Q :=
  .take hq hd hn (.inl ⟨hg, fun _ _ => run_sliceHigh ho he hx hy hj⟩) h
theorem WD.lowV {pl : Qs} {t e : TypeId} {size n cap j : Nat} {A A' : Option Addr} {x y : Operand} {k : IntKind} (ho : (ix ops i).op = .slice t x (some y) none none) (he : elemOf P t = some (e, size)) (hx : ev f x = .slice A n cap) (hy : ev f y = .int k (Int.ofNat j)) (hj : j ≤ n) (hA : (if cap = j then A else A.map (·.add (j * size))) = A')
    (hq : pl.contains i = true) (hg : wants ops f (ix ops i) = true) {d : Nat} (hd : (ix ops i).dst = some d) (hn : Nat.blt d N = true) (h : WD P N S ops pl l (up f d (.slice A' (n - j) (cap - j))) w Q) : WD P N S ops pl (i :: l) f w Q :=
  .take hq hd hn (.inl ⟨hg, fun _ _ => hA ▸ run_sliceLow ho he hx hy hj⟩) h
variable {M : List Nat} {H0 H : List Chunk} {Z0 Z : List Snap}
/-- a look at what came within the region: in its place among the effects -/
theorem WD.loadE {pl : Qs} {ty : TypeId} {x : Operand} {a : Addr} {v : Value} (hS : St w0 M w H Z) (hM : More H0 Z0 H Z) (ho : (ix ops i).op = .load ty x) (hx : ev f x = .pointer (some a)) (hl : LdOk P H Z ty a v)
    (hq : pl.contains i = false) (hi : Nat.blt i ops.length = true) (hg : wants ops f (ix ops i) = true) {d : Nat} (hd : (ix ops i).dst = some d) (hn : Nat.blt d N = true) (h : WD P N (SS w0 M H0 Z0) ops pl l (up f d v) w Q) : WD P N (SS w0 M H0 Z0) ops pl (i :: l) f w Q :=
  .val hq hi hg hd hn (run_load ho hx (hl.more ((More.refl _ _).ss hS))) (hM.ss hS) h
end
section
variable {P : Program} {N : Nat} {f : Fr} {w : World} {Q : Post} {ops l : List Oper} {o : Oper}
theorem wrapU64 {a : Int} (h : 0 ≤ a ∧ a < 18446744073709551616) : IntKind.u64.wrap a = a := by rw [IntKind.wrap_u64]; omega
def intoU64 (P : Program) (s d : TypeId) : Bool := match P.underlying s, P.underlying d with
  | some (.int _), some (.int .u64) => true
  | _, _ => false
/-- a number that fits, as an uint -/
theorem WL.cvU {s d' : TypeId} {x : Operand} {k : IntKind} {a : Int} (ho : o.op = .convert s d' x) (ht : intoU64 P s d' = true) (hx : ev f x = .int k a) (hr : 0 ≤ a ∧ a < 18446744073709551616)
    (hg : wants ops f o = true) {d : Nat} (hd : o.dst = some d) (hn : Nat.blt d N = true) (h : WL P N ops l (up f d (.int .u64 a)) w Q) : WL P N ops (o :: l) f w Q := by
  refine .pure (v := .int .u64 a) ?_ hg hd hn h
  unfold intoU64 at ht
  split at ht
  · rename_i k1 h1 h2
    unfold pureV
    rw [ho]
    simp only [pureOp, h1, h2, hx, wrapU64 hr]
    rfl
  · cases ht
end
end Go.J

/- What is proved: append that keeps the row before it; chunks by place; rows that are marked and grown. Conditions: as each names them. -/
set_option linter.unusedSimpArgs false
set_option linter.unusedVariables false
namespace Go.J
open Go Go.RowKit

section
variable {P : Program} {N : Nat} {f : Fr} {w w0 : World} {Q : Post} {ops l : List Oper} {o : Oper} {M : List Nat} {H H' : List Chunk} {Z : List Snap} {ρ : Operand → Value}
/-- append: in its place, or as a new row beside the one before -/
theorem run_appK {s x : Operand} {t e : TypeId} {size bytes n m cap c b off : Nat} {A : Option Addr} {xs news : List Value} (ho : o.op = .call ⟨.builtin .append, ⟨[s, x]⟩, ⟨[t, t]⟩⟩) (hi : appOf P t = some (e, size, bytes))
    (hs : ρ s = .slice A n cap) (hx : ρ x = .slice (some ⟨b, off, none⟩) m c) (hown : RowAt w e size (.slice A n cap) n xs) (hnews : ∀ j u, news[j]? = some u → w.cell? ⟨b, off + j, none⟩ = some u) (hl : news.length = m * size) (h1 : one news = true) (hm0 : 0 < m)
    (hb : (n + m) * bytes ≤ 140737488355328) :
    (∃ w', (execOp ρ o).run P w = .ok (.value (.slice A (n + m) cap)) w' ∧ RowAt w' e size (.slice A (n + m) cap) (n + m) (xs ++ news) ∧ Upd (Value.slice A n cap).ownBlock.toList w w') ∨
    (∃ A' cap' w', (execOp ρ o).run P w = .ok (.value (.slice A' (n + m) cap')) w' ∧ New w w' (.own (.slice A' (n + m) cap') e size (n + m) (xs ++ news)) ∧ Upd [] w w') := by
  obtain ⟨i, z, hu, hinfo, hz, rfl, rfl, hzs, h0, h0b⟩ := appOf_spec hi
  have hle : n + m ≤ (n + m) * i.bytes := Nat.le_mul_of_pos_right _ h0b
  have hmx : n + m ≤ maxLen := by unfold maxLen; omega
  have hnews' : ∀ j u, news[j]? = some u → w.cell? ((⟨b, off, none⟩ : Addr).add j) = some u := fun j u hj => by rw [Addr.add_mid]; exact hnews j u hj
  have h1' : ∀ u ∈ news, u.oneCell' = true := by simpa [one] using h1
  have hlen : (xs ++ news).length = (n + m) * i.size := by rw [List.length_append, hown.1, hl, Nat.add_mul]
  have run : ∀ v' w', (Builtin.append_ #[t, t] o.type #[.slice A n cap, .slice (some ⟨b, off, none⟩) m c]).run P w = .ok v' w' → (execOp ρ o).run P w = .ok (.value v') w' := fun v' w' hr => by
    unfold execOp
    simp only [ho, resolve, invoke, builtin, Sem.run_bind, Sem.run_pure, Result.andThen_ok, List.map_toArray, List.map_cons, List.map_nil, hs, hx, hr]
  have grown : ∀ old, old < n + m → New w (w.drew.alloc (.cells (xs.toArray ++ news.toArray ++ Builtin.zeroCells z.cells (grownCap w (n + m) old e - (n + m))) e))
      (.own (.slice (some ⟨w.heap.size, 0, none⟩) (n + m) (grownCap w (n + m) old e)) e i.size (n + m) (xs ++ news)) := by
    intro old ho
    have hge := grownCap_ge w (n + m) old e
    have hcm : grownCap w (n + m) old e ≤ maxLen := grownCap_le_maxLen w (n + m) old e hmx
    refine ⟨⟨hlen, .inr ⟨w.heap.size, 0, _, (xs.toArray ++ news.toArray ++ Builtin.zeroCells z.cells (grownCap w (n + m) old e - (n + m))).toList, rfl, heap_alloc_new w.drew _, hge, hcm, ?_, ?_⟩⟩, fun g hg => ?_⟩
    · simp only [Array.length_toList, Array.size_append, List.size_toArray, size_zeroCells, hzs, hown.1, hl, ← Nat.add_mul, Nat.zero_add]
      exact Nat.mul_le_mul_right _ (by omega)
    · simp only [Array.toList_append, List.append_assoc, List.drop_zero]
      rw [← List.append_assoc, ← hlen]
      exact List.take_left
    · simp only [Chunk.fp, Value.ownBlock, Option.toList, List.mem_singleton] at hg
      subst hg
      simp
  have hup : ∀ (fp : List Nat) (ob : Obj), Upd fp w (w.drew.alloc ob) := fun fp ob => (Upd.drew fp w).trans (.alloc _ _ _)
  rcases hown.2 with ⟨h2, rfl⟩ | ⟨g, og, cap0, cur, h2, hgg, hnc, hcm, hcs, htake⟩
  · simp only [Value.slice.injEq] at h2
    obtain ⟨rfl, _, rfl⟩ := h2
    have hx0 : xs = [] := List.eq_nil_of_length_eq_zero (by simpa using hown.1)
    subst hx0
    have hr := run_append_nil (P := P) w t o.type e i z hu hinfo hz ⟨b, off, none⟩ m c news hl hnews' (by omega) (by omega) (by have hb := hb; simp only [Nat.zero_add] at hb; omega)
    have hgr := grown 0 (by omega)
    simp only [Nat.zero_add, List.nil_append, Array.empty_append] at hgr ⊢
    exact .inr ⟨_, _, _, run _ _ hr, hgr, hup _ _⟩
  · simp only [Value.slice.injEq] at h2
    obtain ⟨rfl, _, rfl⟩ := h2
    by_cases hroom : n + m ≤ cap
    · have hns : (n + m) * i.size ≤ cap * i.size := Nat.mul_le_mul_right _ hroom
      rw [Nat.add_mul] at hns
      have hfit : og + n * i.size + news.length ≤ cur.length := by rw [hl]; omega
      have hr := run_append_off (P := P) t o.type e i hu hinfo g og n cap cur hgg ⟨b, off, none⟩ m c news hl hnews' h1' hroom hfit
      refine .inl ⟨_, run _ _ hr, ⟨hlen, .inr ⟨g, og, cap, _, rfl, heap_setRow hgg, hroom, hcm, ?_, ?_⟩⟩, (Upd.setRow _ _ _).mono (by simp [Value.ownBlock])⟩
      · simp only [List.length_append, List.length_take, List.length_drop]; omega
      · rw [Nat.add_mul, ← hl]
        rw [drop_take_app cur news og (n * i.size) hfit, htake]
    · have holds : ∀ j u, xs[j]? = some u → w.cell? ((⟨g, og, none⟩ : Addr).add j) = some u := fun j u hj => by rw [Addr.add_mid]; exact hown.cells j u hj
      have hr := run_append_grow (P := P) w t o.type e i z hu hinfo hz ⟨g, og, none⟩ n cap xs hown.1 holds ⟨b, off, none⟩ m c news hl hnews' (by omega) (by omega) (growslice_fits (by omega) hb)
      exact .inr ⟨_, _, _, run _ _ hr, grown cap (by omega), hup _ _⟩
theorem WL.appK {s x : Operand} {t e : TypeId} {size bytes n m cap c b off : Nat} {A : Option Addr} {xs news : List Value} (hS : St w0 M w H Z) (ho : o.op = .call ⟨.builtin .append, ⟨[s, x]⟩, ⟨[t, t]⟩⟩) (hi : appOf P t = some (e, size, bytes))
    (hs : ev f s = .slice A n cap) (hx : ev f x = .slice (some ⟨b, off, none⟩) m c) (hnews : RdOk H Z b off news) (hl : news.length = m * size) (h1 : one news = true) (hm0 : 0 < m)
    (hr : Repl (.own (.slice A n cap) e size n xs) (.own (.slice A (n + m) cap) e size (n + m) (xs ++ news)) H H') (hb : (n + m) * bytes ≤ 140737488355328)
    (hg : wants ops f o = true) {d : Nat} (hd : o.dst = some d) (hn : Nat.blt d N = true)
    (ha : ∀ w', St w0 M w' H' Z → WL P N ops l (up f d (.slice A (n + m) cap)) w' Q)
    (hb2 : ∀ A' cap' w', St w0 M w' (.own (.slice A' (n + m) cap') e size (n + m) (xs ++ news) :: H) Z → WL P N ops l (up f d (.slice A' (n + m) cap')) w' Q) : WL P N ops (o :: l) f w Q := by
  rcases run_appK (P := P) (w := w) ho hi hs hx (hS.holds _ hr.mem) (hnews.out w0 M w [] [] hS) hl h1 hm0 hb with ⟨w', hrun, hown', hgr⟩ | ⟨A', cap', w', hrun, hnew, hup⟩
  · exact .val hg hd hn hrun (ha w' (hS.app hr hown' hgr fun g hg => .inl (by cases A <;> exact hg)))
  · exact .val hg hd hn hrun (hb2 A' cap' w' (hS.new hup hnew))
end
section
variable {P : Program} {N : Nat} {f : Fr} {w w0 : World} {Q : Post} {ops : List Oper} {M : List Nat} {H0 H H' : List Chunk} {Z0 Z : List Snap} {q : Qs} {l : List Nat} {i : Nat}
/-- append of the caller's list to a row on which the region does not lean -/
theorem WD.appSl {α : Type} {enc : α → List Value} {sz : Nat} {hsz : ∀ x, (enc x).length = sz} {F : Nat → Prop} {wz : World} {ys : List α} {s x : Operand} {t e : TypeId} {bytes n cap c : Nat} {A B : Option Addr} {xs : List Value} (hS : St w0 M w H Z) (hp : Pull (.own (.slice A n cap) e sz n xs) H H') (hM : More H0 Z0 H' Z) (ho : (ix ops i).op = .call ⟨.builtin .append, ⟨[s, x]⟩, ⟨[t, t]⟩⟩) (hi0 : appOf P t = some (e, sz, bytes))
    (hs : ev f s = .slice A n cap) (hx : ev f x = .slice B ys.length c) (h : SlAt (Cod.flat enc sz hsz) F wz B ys) (hz : Snap.mk wz F ∈ Z) (h0 : 0 < sz) (h1 : one (ys.flatMap enc) = true) (hb : (n + ys.length) * bytes ≤ 140737488355328)
    (hq : q.contains i = false) (hi : Nat.blt i ops.length = true) (hg : wants ops f (ix ops i) = true) {d : Nat} (hd : (ix ops i).dst = some d) (hn : Nat.blt d N = true)
    (hk : ∀ A' cap' w', St w0 M w' (.own (.slice A' (n + ys.length) cap') e sz (n + ys.length) (xs ++ ys.flatMap enc) :: H') Z → More H0 Z0 (.own (.slice A' (n + ys.length) cap') e sz (n + ys.length) (xs ++ ys.flatMap enc) :: H') Z → WD P N (SS w0 M H0 Z0) ops q l (up f d (.slice A' (n + ys.length) cap')) w' Q) : WD P N (SS w0 M H0 Z0) ops q (i :: l) f w Q := by
  rcases ys with _ | ⟨y, ys⟩
  · have hS' := hS.pull hp
    have hcap := (hS'.own_len (List.Mem.head _)).2.2
    have hS2 := hS'.recast (c' := .own (.slice A (n + 0) cap) e sz (n + 0) (xs ++ [])) .here (fun h => by simpa using h) (fun b hb => by simpa using hb)
    exact .val hq hi hg hd hn (run_app0B ho hi0 hs hx hcap) ((hM.chunk _).ss hS2) (hk A cap w hS2 (hM.chunk _))
  · obtain ⟨b, off, es, rfl, hF, _, _⟩ := h.at_ (k := 0) (by simp)
    exact WD.app hS hp hM ho hi0 hs hx (RdOk.ofSl h hz h0) (flat_len hsz _) h1 hb hq hi hg hd hn hk
end
/-- a row of the call's own that nobody changes any more -/
theorem St.keepRow {w0 w wz : World} {M : List Nat} {c : Chunk} {H : List Chunk} {Z : List Snap} {F : Nat → Prop} (hS : St w0 M w (c :: H) Z) (hz : Snap.mk wz F ∈ Z) : St w0 M w H (⟨w, fun b => b ∈ c.fp ∨ F b⟩ :: Z) :=
  ⟨hS.upd, fun d hd => hS.holds d (List.mem_cons_of_mem _ hd), fun d hd => hS.inb d (List.mem_cons_of_mem _ hd), (List.pairwise_cons.1 hS.disj).2, fun z hzm b hb => by
    rcases List.mem_cons.1 hzm with rfl | hzm
    · rcases hb with hb | hb
      · exact ⟨(hS.inb c (List.mem_cons_self ..) b hb).1, rfl, fun d hd => (List.pairwise_cons.1 hS.disj).1 d hd b hb⟩
      · obtain ⟨h1, _, h3⟩ := hS.snap _ hz b hb
        exact ⟨h1, rfl, fun d hd => h3 d (List.mem_cons_of_mem _ hd)⟩
    · obtain ⟨h1, h2, h3⟩ := hS.snap z hzm b hb
      exact ⟨h1, h2, fun d hd => h3 d (List.mem_cons_of_mem _ hd)⟩⟩
/-! ## chunks by their place -/
theorem erase_perm : ∀ {cs : List Chunk} {i : Nat} (h : i < cs.length), (cs[i] :: cs.eraseIdx i).Perm cs
  | _ :: _, 0, _ => .refl _
  | a :: cs, i + 1, h => (List.Perm.swap _ _ _).trans (.cons a (erase_perm (cs := cs) (i := i) (by simpa using h)))
theorem pfront {cs : List Chunk} {i : Nat} {c : Chunk} (h : cs[i]? = some c) : cs.Perm (c :: cs.eraseIdx i) := by
  obtain ⟨hi, rfl⟩ := List.getElem?_eq_some_iff.1 h
  exact (erase_perm hi).symm
theorem pback {cs : List Chunk} {i : Nat} (h : i < cs.length) (c : Chunk) : (c :: cs.eraseIdx i).Perm (cs.set i c) := by
  have hi : i < (cs.set i c).length := by rw [List.length_set]; exact h
  have := erase_perm hi
  rwa [List.getElem_set_self, List.eraseIdx_set_eq] at this
/-- what is there now stays as it is, for one who changes nothing any more -/
theorem St.freeze {w0 w : World} {M : List Nat} {H : List Chunk} {Z : List Snap} (hS : St w0 M w H Z) : St w0 M w [] (⟨w, fun b => b < w.heap.size⟩ :: Z) :=
  ⟨hS.upd, fun c hc => (by cases hc), fun c hc => (by cases hc), .nil, fun z hz b hb => by
    rcases List.mem_cons.1 hz with rfl | hz
    · exact ⟨hb, rfl, fun c hc => (by cases hc)⟩
    · obtain ⟨h1, h2, _⟩ := hS.snap z hz b hb
      exact ⟨h1, h2, fun c hc => (by cases hc)⟩⟩
theorem flat_set {α : Type} {enc : α → List Value} {sz : Nat} (hsz : ∀ x, (enc x).length = sz) (x : α) : ∀ {l : List α} {k : Nat}, k < l.length → (l.flatMap enc).take (k * sz) ++ enc x ++ (l.flatMap enc).drop (k * sz + (enc x).length) = (l.set k x).flatMap enc
  | [], _, h => absurd h (Nat.not_lt_zero _)
  | a :: l, 0, _ => by
    simp only [List.flatMap_cons, List.set_cons_zero, Nat.zero_mul, List.take_zero, List.nil_append, Nat.zero_add, hsz]
    rw [List.drop_append_of_le_length (by rw [hsz]; exact Nat.le_refl _), List.drop_of_length_le (by rw [hsz]; exact Nat.le_refl _), List.nil_append]
  | a :: l, k + 1, h => by
    have ih := flat_set hsz x (l := l) (k := k) (by simpa using h)
    rw [List.flatMap_cons, List.set_cons_succ, List.flatMap_cons, ← ih, show (k + 1) * sz = (enc a).length + k * sz by rw [hsz, Nat.add_mul]; omega]
    rw [List.take_append, List.take_of_length_le (show (enc a).length ≤ (enc a).length + k * sz by omega), Nat.add_sub_cancel_left, Nat.add_assoc, ← List.drop_drop, List.drop_left]
    simp only [List.append_assoc]
/-! ## rows that are marked, then grown -/
structure Rw where
  A : Option Addr
  n : Nat
  cap : Nat
def Rw.val (r : Rw) : Value := .slice r.A r.n r.cap
def encRw (r : Rw) : List Value := [r.val]
def ownRw {α : Type} (enc : α → List Value) (e : TypeId) (sz : Nat) (r : Rw) (l : List α) : Chunk := .own (.slice r.A r.n r.cap) e sz r.n (l.flatMap enc)
def grw {α : Type} (mk nw : Nat → α) (j n k : Nat) : List α := List.replicate n (mk j) ++ List.replicate k (nw j)
/-- a row that has grown by k: in its place, or beside itself -/
def GrowP {α : Type} (enc : α → List Value) (e : TypeId) (sz : Nat) (mk nw : Nat → α) (j : Nat) (r : Rw) (k : Nat) (A : Option Addr) (cap : Nat) (D : List Chunk) : Prop :=
  (A = r.A ∧ cap = r.cap ∧ D = [.own (.slice r.A (r.n + k) r.cap) e sz (r.n + k) ((grw mk nw j r.n k).flatMap enc)]) ∨
  (∃ i, D = [.own (.slice A (r.n + k) cap) e sz (r.n + k) ((grw mk nw j r.n k).flatMap enc), .own (.slice r.A (r.n + i) r.cap) e sz (r.n + i) ((grw mk nw j r.n i).flatMap enc)])
section
variable {α : Type} {enc : α → List Value} {e : TypeId} {sz : Nat} {mk nw : Nat → α} {rs ls : List Rw} {cs : List Chunk} {i j : Nat}
/-- as far as rows are marked -/
structure MarkIs (enc : α → List Value) (e : TypeId) (sz : Nat) (mk : Nat → α) (rs : List Rw) (cs : List Chunk) (i : Nat) : Prop where
  len : cs.length = rs.length
  at_ : ∀ j (h : j < rs.length), ∃ l : List α, l.length = rs[j].n ∧ cs[j]? = some (ownRw enc e sz rs[j] l) ∧ (j < i → l = List.replicate rs[j].n (mk j))
/-- as far as rows are grown -/
structure GrowIs (enc : α → List Value) (e : TypeId) (sz : Nat) (mk nw : Nat → α) (rs ls : List Rw) (cs : List Chunk) (i : Nat) : Prop where
  len : cs.length = rs.length
  llen : ls.length = i
  at_ : ∀ j (h : j < rs.length), i ≤ j → cs[j]? = some (ownRw enc e sz rs[j] (List.replicate rs[j].n (mk j)))
  got : ∀ j (h : j < rs.length), j < i → ∃ l fp, ls[j]? = some l ∧ l.n = rs[j].n + 20 ∧ cs[j]? = some (objC (GrowP enc e sz mk nw j rs[j] 20 l.A l.cap) fp)
theorem MarkIs.next (h : MarkIs enc e sz mk rs cs i) (hi : i < rs.length) : MarkIs enc e sz mk rs (cs.set i (ownRw enc e sz rs[i] (List.replicate rs[i].n (mk i)))) (i + 1) := by
  refine ⟨by rw [List.length_set]; exact h.len, fun j hj => ?_⟩
  obtain ⟨l, h0, h1, h2⟩ := h.at_ j hj
  by_cases e : i = j
  · subst e
    exact ⟨_, List.length_replicate, by rw [List.getElem?_set_self (by rw [h.len]; exact hi)], fun _ => rfl⟩
  · exact ⟨l, h0, by rw [List.getElem?_set_ne e]; exact h1, fun hlt => h2 (by omega)⟩
theorem MarkIs.grow (h : MarkIs enc e sz mk rs cs i) (hi : i = rs.length) : GrowIs enc e sz mk nw rs [] cs 0 := by
  subst hi
  refine ⟨h.len, rfl, fun j hj _ => ?_, fun j _ hj => absurd hj (Nat.not_lt_zero _)⟩
  obtain ⟨l, _, h1, h2⟩ := h.at_ j hj
  rw [h1, h2 hj]
theorem GrowIs.next (h : GrowIs enc e sz mk nw rs ls cs i) (hi : i < rs.length) {A : Option Addr} {cap : Nat} {fp : List Nat} : GrowIs enc e sz mk nw rs (ls ++ [⟨A, rs[i].n + 20, cap⟩]) (cs.set i (objC (GrowP enc e sz mk nw i rs[i] 20 A cap) fp)) (i + 1) := by
  refine ⟨by rw [List.length_set]; exact h.len, by rw [List.length_append, h.llen]; rfl, fun j hj hij => ?_, fun j hj hij => ?_⟩
  · rw [List.getElem?_set_ne (by omega)]; exact h.at_ j hj (by omega)
  · by_cases e : i = j
    · subst e
      refine ⟨⟨A, rs[i].n + 20, cap⟩, fp, ?_, rfl, by rw [List.getElem?_set_self (by rw [h.len]; exact hi)]⟩
      rw [List.getElem?_append_right (by rw [h.llen]; exact Nat.le_refl _), h.llen, Nat.sub_self]; rfl
    · obtain ⟨l, fp', h1, h2, h3⟩ := h.got j hj (by omega)
      exact ⟨l, fp', by rw [List.getElem?_append_left (by rw [h.llen]; omega)]; exact h1, h2, by rw [List.getElem?_set_ne e]; exact h3⟩
theorem ownAll {hsz : ∀ x, (enc x).length = sz} (h0 : 0 < sz) {w : World} {A : Option Addr} {n cap n' : Nat} {l : List α} (h : RowAt w e sz (.slice A n cap) n' (l.flatMap enc)) (hin : ∀ b ∈ (Value.slice A n cap).ownBlock.toList, b < w.heap.size) : SlAt (Cod.flat enc sz hsz) (fun b => b < w.heap.size) w A l :=
  SlAt.ofOwn h0 h fun g hg => hin g (by rw [hg]; simp)
/-- how they read when all are grown -/
theorem GrowIs.reads (h : GrowIs enc e sz mk nw rs ls cs i) (hi : i = rs.length) {hsz : ∀ x, (enc x).length = sz} (h0 : 0 < sz) {w w0 : World} {M : List Nat} {H : List Chunk} {Z : List Snap} (hS : St w0 M w H Z) (hc : ∀ c ∈ cs, c ∈ H) (j : Nat) (hj : j < rs.length) :
    ∃ l, ls[j]? = some l ∧ l.n = rs[j].n + 20 ∧ SlAt (Cod.flat enc sz hsz) (fun b => b < w.heap.size) w rs[j].A (List.replicate rs[j].n (mk j)) ∧ SlAt (Cod.flat enc sz hsz) (fun b => b < w.heap.size) w l.A (grw mk nw j rs[j].n 20) := by
  subst hi
  obtain ⟨l, fp, h1, h2, h3⟩ := h.got j hj hj
  have hm := hc _ (List.mem_of_getElem? h3)
  obtain ⟨D, hD, hfp, _, hh⟩ := (hS.holds _ hm).1
  have hb : ∀ d ∈ D, ∀ b ∈ d.fp, b < w.heap.size := fun d hd b hb => (hS.inb _ hm b (by show b ∈ fp; rw [hfp]; exact List.mem_flatMap.2 ⟨d, hd, hb⟩)).1
  refine ⟨l, h1, h2, ?_⟩
  rcases hD with ⟨e1, e2, rfl⟩ | ⟨k, rfl⟩
  · have hd := hh _ (List.Mem.head _)
    have hf := ownAll (hsz := hsz) h0 (show RowAt w e sz _ _ _ from hd) (hb _ (List.Mem.head _))
    rw [e1]
    exact ⟨SlAt.pre hf, hf⟩
  · have hd := hh _ (List.Mem.head _)
    have hf := ownAll (hsz := hsz) h0 (show RowAt w e sz _ _ _ from hd) (hb _ (List.Mem.head _))
    have hd2 := hh _ (List.Mem.tail _ (List.Mem.head _))
    have hf2 := ownAll (hsz := hsz) h0 (show RowAt w e sz _ _ _ from hd2) (hb _ (List.Mem.tail _ (List.Mem.head _)))
    exact ⟨SlAt.pre hf2, hf⟩
theorem grw_snoc (j n k : Nat) : grw mk nw j n (k + 1) = grw mk nw j n k ++ [nw j] := by
  unfold grw
  rw [List.append_assoc, ← List.replicate_succ']
theorem grw_flat (j n k : Nat) : (grw mk nw j n (k + 1)).flatMap enc = (grw mk nw j n k).flatMap enc ++ enc (nw j) := by
  rw [grw_snoc, List.flatMap_append]; simp
theorem grw_at {j n k p : Nat} (h : p < n + k) : (grw mk nw j n k)[p]? = some (if p < n then mk j else nw j) := by
  unfold grw
  split
  · rename_i h1
    rw [List.getElem?_append_left (by simpa using h1), List.getElem?_replicate, if_pos h1]
  · rename_i h1
    rw [List.getElem?_append_right (by simpa using h1), List.getElem?_replicate, List.length_replicate, if_pos (by omega)]
end
end Go.J

/- What is proved: rules for literals, appends and cuts whose place among a region's effects is drawn. Conditions: as each names them. -/
set_option linter.unusedSimpArgs false
set_option linter.unusedVariables false
namespace Go.J
open Go Go.RowKit
section
variable {P : Program} {N : Nat} {f : Fr} {w w0 : World} {Q : Post} {ops : List Oper} {M : List Nat} {H0 H H' : List Chunk} {Z0 Z : List Snap} {q : Qs} {l : List Nat} {i : Nat}
theorem WD.slit0 {t e : TypeId} {n size : Nat} {ps : List (Nat × Operand)} (hS : St w0 M w H Z) (hM : More H0 Z0 H Z) (ho : (ix ops i).op = .buildSlice t 0 ⟨ps⟩) (hv : buildSliceV P t 0 (evP (ev f) ps) = some (e, n, []))
    (hq : q.contains i = false) (hi : Nat.blt i ops.length = true) (hg : wants ops f (ix ops i) = true) {d : Nat} (hd : (ix ops i).dst = some d) (hn : Nat.blt d N = true)
    (h : ∀ w' b, St w0 M w' (.own (.slice (some ⟨b, 0, none⟩) 0 0) e size 0 [] :: H) Z → More H0 Z0 (.own (.slice (some ⟨b, 0, none⟩) 0 0) e size 0 [] :: H) Z → WD P N (SS w0 M H0 Z0) ops q l (up f d (.slice (some ⟨b, 0, none⟩) 0 0)) w' Q) : WD P N (SS w0 M H0 Z0) ops q (i :: l) f w Q := by
  refine .slit hS hM ho hv hq hi hg hd hn fun w' b hS' _ => ?_
  exact h w' b (hS'.boxRow (n := 0) (size := size) .here (by simp) (Nat.zero_le _)) (hM.chunk _)
theorem WDo.slit0 {t e : TypeId} {n size : Nat} {ps : List (Nat × Operand)} (hS : St w0 M w H Z) (hM : More H0 Z0 H Z) (ho : (ix ops i).op = .buildSlice t 0 ⟨ps⟩) (hv : buildSliceV P t 0 (evP (ev f) ps) = some (e, n, []))
    (hi : Nat.blt i ops.length = true) (hg : wants ops f (ix ops i) = true) {d : Nat} (hd : (ix ops i).dst = some d) (hn : Nat.blt d N = true)
    (h : ∀ w' b, St w0 M w' (.own (.slice (some ⟨b, 0, none⟩) 0 0) e size 0 [] :: H) Z → More H0 Z0 (.own (.slice (some ⟨b, 0, none⟩) 0 0) e size 0 [] :: H) Z → WD P N (SS w0 M H0 Z0) ops q l (up f d (.slice (some ⟨b, 0, none⟩) 0 0)) w' Q) : WDo P N (SS w0 M H0 Z0) ops q i l f w Q := by
  refine .slit hS hM ho hv hi hg hd hn fun w' b hS' _ => ?_
  exact h w' b (hS'.boxRow (n := 0) (size := size) .here (by simp) (Nat.zero_le _)) (hM.chunk _)
theorem WDo.app {s x : Operand} {t e : TypeId} {size bytes n m cap c b off : Nat} {A : Option Addr} {xs news : List Value} (hS : St w0 M w H Z) (hp : Pull (.own (.slice A n cap) e size n xs) H H') (hM : More H0 Z0 H' Z) (ho : (ix ops i).op = .call ⟨.builtin .append, ⟨[s, x]⟩, ⟨[t, t]⟩⟩) (hi0 : appOf P t = some (e, size, bytes))
    (hs : ev f s = .slice A n cap) (hx : ev f x = .slice (some ⟨b, off, none⟩) m c) (hnews : RdOk H Z b off news) (hl : news.length = m * size) (h1 : one news = true) (hb : (n + m) * bytes ≤ 140737488355328)
    (hi : Nat.blt i ops.length = true) (hg : wants ops f (ix ops i) = true) {d : Nat} (hd : (ix ops i).dst = some d) (hn : Nat.blt d N = true)
    (h : ∀ A' cap' w', St w0 M w' (.own (.slice A' (n + m) cap') e size (n + m) (xs ++ news) :: H') Z → More H0 Z0 (.own (.slice A' (n + m) cap') e size (n + m) (xs ++ news) :: H') Z → WD P N (SS w0 M H0 Z0) ops q l (up f d (.slice A' (n + m) cap')) w' Q) : WDo P N (SS w0 M H0 Z0) ops q i l f w Q := by
  have hS' := hS.pull hp
  obtain ⟨A', cap', w', hrun, hown', hgr, hat⟩ := run_appOp (P := P) (w := w) ho hi0 hs hx (hS'.holds _ (List.Mem.head _)) (hnews.out w0 M w [] [] hS) hl h1 hb
  have hS2 := hS'.app (.here) hown' hgr hat
  exact .val hi hg hd hn hrun ((hM.chunk _).ss hS2) (h A' cap' w' hS2 (hM.chunk _))
theorem WDo.appSl {α : Type} {enc : α → List Value} {sz : Nat} {hsz : ∀ x, (enc x).length = sz} {F : Nat → Prop} {wz : World} {ys : List α} {s x : Operand} {t e : TypeId} {bytes n cap c : Nat} {A B : Option Addr} {xs : List Value} (hS : St w0 M w H Z) (hp : Pull (.own (.slice A n cap) e sz n xs) H H') (hM : More H0 Z0 H' Z) (ho : (ix ops i).op = .call ⟨.builtin .append, ⟨[s, x]⟩, ⟨[t, t]⟩⟩) (hi0 : appOf P t = some (e, sz, bytes))
    (hs : ev f s = .slice A n cap) (hx : ev f x = .slice B ys.length c) (h : SlAt (Cod.flat enc sz hsz) F wz B ys) (hz : Snap.mk wz F ∈ Z) (h0 : 0 < sz) (h1 : one (ys.flatMap enc) = true) (hb : (n + ys.length) * bytes ≤ 140737488355328)
    (hi : Nat.blt i ops.length = true) (hg : wants ops f (ix ops i) = true) {d : Nat} (hd : (ix ops i).dst = some d) (hn : Nat.blt d N = true)
    (hk : ∀ A' cap' w', St w0 M w' (.own (.slice A' (n + ys.length) cap') e sz (n + ys.length) (xs ++ ys.flatMap enc) :: H') Z → More H0 Z0 (.own (.slice A' (n + ys.length) cap') e sz (n + ys.length) (xs ++ ys.flatMap enc) :: H') Z → WD P N (SS w0 M H0 Z0) ops q l (up f d (.slice A' (n + ys.length) cap')) w' Q) : WDo P N (SS w0 M H0 Z0) ops q i l f w Q := by
  rcases ys with _ | ⟨y, ys⟩
  · have hS' := hS.pull hp
    have hcap := (hS'.own_len (List.Mem.head _)).2.2
    have hS2 := hS'.recast (c' := .own (.slice A (n + 0) cap) e sz (n + 0) (xs ++ [])) .here (fun h => by simpa using h) (fun b hb => by simpa using hb)
    exact .val hi hg hd hn (run_app0B ho hi0 hs hx hcap) ((hM.chunk _).ss hS2) (hk A cap w hS2 (hM.chunk _))
  · obtain ⟨b, off, es, rfl, hF, _, _⟩ := h.at_ (k := 0) (by simp)
    exact WDo.app hS hp hM ho hi0 hs hx (RdOk.ofSl h hz h0) (flat_len hsz _) h1 hb hi hg hd hn hk
/-- append of another row of the call's own -/
theorem WD.appS {s x : Operand} {t e : TypeId} {size bytes n m cap c : Nat} {A B : Option Addr} {xs news : List Value} (hS : St w0 M w H Z) (hp : Pull (.own (.slice A n cap) e size n xs) H H') (hM : More H0 Z0 H' Z) (ho : (ix ops i).op = .call ⟨.builtin .append, ⟨[s, x]⟩, ⟨[t, t]⟩⟩) (hi0 : appOf P t = some (e, size, bytes))
    (hs : ev f s = .slice A n cap) (hx : ev f x = .slice B m c) (hnews : RdSl H Z B m news) (hl : news.length = m * size) (h1 : one news = true) (hb : (n + m) * bytes ≤ 140737488355328)
    (hq : q.contains i = false) (hi : Nat.blt i ops.length = true) (hg : wants ops f (ix ops i) = true) {d : Nat} (hd : (ix ops i).dst = some d) (hn : Nat.blt d N = true)
    (h : ∀ A' cap' w', St w0 M w' (.own (.slice A' (n + m) cap') e size (n + m) (xs ++ news) :: H') Z → More H0 Z0 (.own (.slice A' (n + m) cap') e size (n + m) (xs ++ news) :: H') Z → WD P N (SS w0 M H0 Z0) ops q l (up f d (.slice A' (n + m) cap')) w' Q) : WD P N (SS w0 M H0 Z0) ops q (i :: l) f w Q := by
  rcases hnews with ⟨rfl, rfl, rfl⟩ | ⟨b, off, rfl, hnews⟩
  · have hS' := hS.pull hp
    have hcap := (hS'.own_len (List.Mem.head _)).2.2
    have hS2 := hS'.recast (c' := .own (.slice A (n + 0) cap) e size (n + 0) (xs ++ [])) .here (fun h => by simpa using h) (fun b hb => by simpa using hb)
    exact .val hq hi hg hd hn (run_app0 ho hi0 hs hx hcap) ((hM.chunk _).ss hS2) (h A cap w hS2 (hM.chunk _))
  · exact .app hS hp hM ho hi0 hs hx hnews hl h1 hb hq hi hg hd hn h
theorem run_sliceHighO {o : Oper} {ρ : Operand → Value} {t e : TypeId} {size n cap j : Nat} {A : Option Addr} {x y : Operand} {k : IntKind} (ho : o.op = .slice t x none (some y) none) (he : elemOf P t = some (e, size)) (hx : ρ x = .slice A n cap) (hy : ρ y = .int k (Int.ofNat j)) (hj : j ≤ cap) (hc : A = none → cap = 0) :
    (execOp ρ o).run P w = .ok (.value (.slice A j cap)) w := by
  cases A with
  | some a =>
    obtain ⟨b, off, pt⟩ := a
    unfold elemOf at he
    split at he
    · rename_i e' hu
      split at he
      · rename_i n' hn
        simp [execOp, ho, hx, hy, Instr.sliceAt, Instr.slice, Instr.sliceBounds, Instr.sliceBound, asIntOf, Sem.run_bind, run_underlying hu, run_sizeOf hn, hj]
        try (intro _; simp [Addr.add])
      · cases he
    · cases he
  | none =>
    have hc := hc rfl
    subst hc
    have : j = 0 := by omega
    subst this
    unfold elemOf at he
    split at he
    · rename_i e' hu
      split at he
      · rename_i n' hn
        simp [execOp, ho, hx, hy, Instr.sliceAt, Instr.slice, Instr.sliceBounds, Instr.sliceBound, asIntOf, Sem.run_bind, run_underlying hu, run_sizeOf hn]
      · cases he
    · cases he
theorem WD.highO {S : World → Prop} {t e : TypeId} {size n cap j : Nat} {A : Option Addr} {x y : Operand} {k : IntKind} (ho : (ix ops i).op = .slice t x none (some y) none) (he : elemOf P t = some (e, size)) (hx : ev f x = .slice A n cap) (hy : ev f y = .int k (Int.ofNat j)) (hj : j ≤ cap) (hc : A = none → cap = 0)
    (hq : q.contains i = true) (hg : wants ops f (ix ops i) = true) {d : Nat} (hd : (ix ops i).dst = some d) (hn : Nat.blt d N = true) (h : WD P N S ops q l (up f d (.slice A j cap)) w Q) : WD P N S ops q (i :: l) f w Q :=
  .take hq hd hn (.inl ⟨hg, fun _ _ => run_sliceHighO ho he hx hy hj hc⟩) h
theorem WDo.loadE {ty : TypeId} {x : Operand} {a : Addr} {v : Value} (hS : St w0 M w H Z) (hM : More H0 Z0 H Z) (ho : (ix ops i).op = .load ty x) (hx : ev f x = .pointer (some a)) (hl : LdOk P H Z ty a v)
    (hi : Nat.blt i ops.length = true) (hg : wants ops f (ix ops i) = true) {d : Nat} (hd : (ix ops i).dst = some d) (hn : Nat.blt d N = true) (h : WD P N (SS w0 M H0 Z0) ops q l (up f d v) w Q) : WDo P N (SS w0 M H0 Z0) ops q i l f w Q :=
  .val hi hg hd hn (run_load ho hx (hl.more ((More.refl _ _).ss hS))) (hM.ss hS) h
theorem WDo.callG {fid : FuncId} {xs : List Operand} {ts : Array TypeId} {args : List Value} {R : Value → World → Prop} (ho : (ix ops i).op = .call ⟨.value (.func fid), ⟨xs⟩, ts⟩) (ha : xs.map (ev f) = args)
    (hc : Cal P fid args w R) (hi : Nat.blt i ops.length = true) (hg : wants ops f (ix ops i) = true) {d : Nat} (hd : (ix ops i).dst = some d) (hn : Nat.blt d N = true)
    (h : ∀ v w', R v w' → SS w0 M H0 Z0 w' ∧ WD P N (SS w0 M H0 Z0) ops q l (up f d v) w' Q) : WDo P N (SS w0 M H0 Z0) ops q i l f w Q :=
  .enter hi hg hd hn (run_callOp ho ha hc.ok) hc.calls h
theorem WDo.alloc {t : TypeId} {z : Value} (hS : St w0 M w H Z) (hM : More H0 Z0 H Z) (ho : (ix ops i).op = .alloc t) (hz : tyZero P t = some z) {cs : List Value} (hcs : cellsO z = some cs) (hi : Nat.blt i ops.length = true) (hg : wants ops f (ix ops i) = true) {d : Nat} (hd : (ix ops i).dst = some d) (hn : Nat.blt d N = true)
    (h : ∀ w' b, St w0 M w' (.box b t cs :: H) Z → More H0 Z0 (.box b t cs :: H) Z → WD P N (SS w0 M H0 Z0) ops q l (up f d (.pointer (some ⟨b, 0, none⟩))) w' Q) : WDo P N (SS w0 M H0 Z0) ops q i l f w Q :=
  .val hi hg hd hn (run_allocOp ho hz) ((hM.chunk _).ss (hS.newBox _ _)) (by rw [cellsO_eq hcs]; exact h _ _ (hS.newBox _ _) (hM.chunk _))
end
theorem St.ownSlY {w0 w : World} {M : List Nat} {D H : List Chunk} {Z : List Snap} {α : Type} {enc : α → List Value} {sz : Nat} {hsz : ∀ x, (enc x).length = sz} {e : TypeId} {A : Option Addr} {n cap n' : Nat} {l : List α} (h0 : 0 < sz) (hS : St w0 M w (D ++ H) Z) (hm : Chunk.own (.slice A n cap) e sz n' (l.flatMap enc) ∈ H) :
    SlAt (Cod.flat enc sz hsz) (fun b => b < w.heap.size ∧ b ∉ fps D) w A l :=
  SlAt.ofOwn h0 (hS.holds _ (List.mem_append_right _ hm)) fun g hg => by
    refine ⟨(hS.inb _ (List.mem_append_right _ hm) g (by simp [Chunk.fp, hg])).1, fun hf => ?_⟩
    obtain ⟨c, hc, hb⟩ := mem_fps.1 hf
    exact (List.pairwise_append.1 hS.disj).2.2 c hc _ hm g hb (by simp [Chunk.fp, hg])
/-- what a snapshot tells, as a callee reads it that changes chunks of the call's own -/
theorem St.slY {w0 w wz : World} {M : List Nat} {D H : List Chunk} {Z : List Snap} {α : Type} {c : Cod α} {F : Nat → Prop} {A : Option Addr} {l : List α} (hS : St w0 M w (D ++ H) Z) (hz : Snap.mk wz F ∈ Z) (h : SlAt c F wz A l) : SlAt c (fun b => b < w.heap.size ∧ b ∉ fps D) w A l :=
  (h.loc fun b hb => (hS.snap _ hz b hb).2.1).mono fun b hb => by
    obtain ⟨h1, _, h3⟩ := hS.snap _ hz b hb
    refine ⟨h1, fun hf => ?_⟩
    obtain ⟨d, hd, hbd⟩ := mem_fps.1 hf
    exact h3 d (List.mem_append_left _ hd) hbd
theorem WC.drawLP {P : Program} {N : Nat} {f : Fr} {w w0 : World} {Q : Post} {ops : List Oper} {M : List Nat} {H H' : List Chunk} {Z : List Snap} {id : Nat} (D : List Chunk) (hS : St w0 M w H Z) (hp : Pulls D H H') (q l : List Nat) (t : Pl) (hm : P.follows .mixedOrders = true)
    (hk : (Region.noSelect ops.toArray && ordOk ops.toArray ⟨q, t⟩ (Array.replicate ops.toArray.size false) l && Nat.beq (l.length + t.len) ops.length) = true)
    (h : ∀ w', St w0 M w' (D ++ H') Z → More H' Z (D ++ H') Z → WD P N (SS w0 M H' Z) ops ⟨q, t⟩ l f w' Q) : WC P N (.region id ops.toArray true) f w Q := by
  have hS' := hS.pulls hp
  simp only [Bool.and_eq_true] at hk
  exact WC.draw (SS w0 M H' Z) ⟨q, t⟩ l hm hk.1.1 hk.1.2 hk.2 ((More.app (.refl _ _)).ss hS'.drew) (h _ hS'.drew (More.app (.refl _ _)))
theorem InL.none (w : World) : InL w [] := ⟨fun c hc => (by cases hc), fun c hc => (by cases hc), .nil⟩
end Go.J

/- What is proved: what a builder of texts (strings.Builder) does. Conditions: no more than 2^40 bytes. -/
set_option linter.unusedSimpArgs false
set_option linter.unusedVariables false
namespace Go.Proofs.YtniacmoniaaolaaGreatDoor
open Go Go.J Go.RowKit

def sbD (b : Nat) (p A : Option Addr) (n cap : Nat) (s : List UInt8) : List Chunk := [.box b 119 [.pointer p, .slice A n cap], .own (.slice A n cap) 5 1 n (byteC s)]
/-- a builder that has been used -/
def sbU (b : Nat) (s : List UInt8) (D : List Chunk) : Prop := ∃ A n cap, D = sbD b (some ⟨b, 0, none⟩) A n cap s ∧ (A = none ∨ cap ≠ 0)
def sbφ (b : Nat) (s : List UInt8) (D : List Chunk) : Prop := (D = sbD b none none 0 0 [] ∧ s = []) ∨ sbU b s D
abbrev sbC (b : Nat) (s : List UInt8) (fp : List Nat) : Chunk := objC (sbφ b s) fp
abbrev sbK (b : Nat) (s : List UInt8) (fp : List Nat) : Chunk := objC (sbU b s) fp

set_option maxHeartbeats 4000000 in
set_option maxRecDepth 100000 in
theorem bcheck_c (b : Nat) (s : List UInt8) (fp : List Nat) (w0 : World) (hc : (sbC b s fp).holds w0) (hi : inB (sbC b s fp) w0) : Cal Tryz.prog 91 [.pointer (some ⟨b, 0, none⟩)] w0
    (fun v w' => v = .tuple #[] ∧ ∃ fp', Mut w0 w' (sbC b s fp) (sbK b s fp')) := by
  refine Cal.mkM hc hi (by kernel_rfl) Tryz.func91 rfl rfl fun hS => ?_
  have hne : ExtIs Tryz.prog 119 Extern.AbiNoEscape.same := ⟨_, Tryz.func119, by kernel_rfl, by kernel_rfl, by kernel_rfl, by kernel_rfl⟩
  obtain ⟨D, hφ, hfp, hS⟩ := hS.objOpen
  rcases hφ with ⟨rfl, rfl⟩ | ⟨A, n, cap, rfl, hA⟩
  · replace hS : St w0 (sbC b [] fp).fp w0 [.box b 119 [.pointer none, .slice none 0 0], .own (.slice none 0 0) 5 1 0 (byteC [])] _ := hS
    repeat' (first
      | (show WL _ _ _ _ _ _ _; first
        | refine WL.pure rfl rfl rfl rfl ?_
        | refine WL.nil ?_
        | refine WL.load hS rfl rfl (LdOk.box (by repeat (first | exact List.Mem.head _ | apply List.Mem.tail)) rfl) rfl rfl rfl ?_
        | (refine WL.toU hS rfl rfl (by kernel_rfl) rfl (by repeat (first | exact List.Mem.head _ | apply List.Mem.tail)) (by decide) rfl rfl rfl ?_)
        | (refine WL.ext rfl rfl hne (run_noEsc _) rfl rfl rfl ?_)
        | (refine WL.fromU hS rfl (by kernel_rfl) rfl rfl (by repeat (first | exact List.Mem.head _ | apply List.Mem.tail)) (by kernel_rfl) rfl rfl rfl ?_)
        | (refine WL.store hS rfl rfl rfl (by repeat (first | exact StB.here rfl | apply StB.there)) rfl rfl rfl ?_; intro w hS))
      | (show WC _ _ _ _ _ _; first
        | refine WC.seq ?_
        | refine WC.region ?_
        | refine WC.condT rfl (by with_reducible rfl) ?_)
      | refine seqQ_n ?_)
    exact fin0n rfl ⟨rfl, _, (St.objClose (H := []) (φ := sbU b []) (D := sbD b (some ⟨b, 0, none⟩) none 0 0 []) hS ⟨_, _, _, rfl, .inl rfl⟩).mutOf (List.Mem.head _)⟩
  · replace hS : St w0 (sbC b s fp).fp w0 [.box b 119 [.pointer (some ⟨b, 0, none⟩), .slice A n cap], .own (.slice A n cap) 5 1 n (byteC s)] _ := hS
    repeat' (first
      | (show WL _ _ _ _ _ _ _; first
        | refine WL.pure rfl rfl rfl rfl ?_
        | refine WL.nil ?_
        | refine WL.load hS rfl rfl (LdOk.box (by repeat (first | exact List.Mem.head _ | apply List.Mem.tail)) rfl) rfl rfl rfl ?_
        | (refine WL.neSame rfl rfl rfl rfl rfl rfl rfl ?_))
      | (show WC _ _ _ _ _ _; first
        | refine WC.seq ?_
        | refine WC.region ?_
        | refine WC.skip ?_
        | refine WC.condF rfl (by with_reducible rfl) ?_)
      | refine seqQ_n ?_)
    exact fin0n rfl ⟨rfl, _, (St.objClose (H := []) (φ := sbU b s) (D := sbD b (some ⟨b, 0, none⟩) A n cap s) hS ⟨_, _, _, rfl, hA⟩).mutOf (List.Mem.head _)⟩
set_option maxHeartbeats 4000000 in
set_option maxRecDepth 100000 in
theorem bwrite_c (q : Nat) (s : List UInt8) (fp : List Nat) (c : UInt8) (w0 : World) (hc : (sbC q s fp).holds w0) (hi : inB (sbC q s fp) w0) (hl : s.length ≤ 1099511627776) : Cal Tryz.prog 117 [.pointer (some ⟨q, 0, none⟩), .int .u8 (c.toNat : Int)] w0
    (fun v w' => v = .nilIface ∧ ∃ fp', Mut w0 w' (sbC q s fp) (sbC q (s ++ [c]) fp')) := by
  refine Cal.mkM hc hi (by kernel_rfl) Tryz.func117 rfl rfl fun hS => ?_
  repeat' (first
    | (show WL _ _ _ _ _ _ _; first
      | refine WL.pure rfl rfl rfl rfl ?_
      | refine WL.nil ?_
      | refine WL.load hS rfl rfl (LdOk.box (by repeat (first | exact List.Mem.head _ | apply List.Mem.tail)) rfl) rfl rfl rfl ?_
      | (refine WL.callG rfl rfl (bcheck_c q s fp _ (hS.holds _ (List.Mem.head _)) (hS.inB_of (List.Mem.head _))) rfl rfl rfl ?_; rintro v w ⟨rfl, fp', hmut⟩; have hS := hS.mut hmut .here; obtain ⟨D, ⟨A, n, cap, rfl, hA⟩, hfp, hS⟩ := hS.objOpen; replace hS : St w0 _ w [.box q 119 [.pointer (some ⟨q, 0, none⟩), .slice A n cap], .own (.slice A n cap) 5 1 n (byteC s)] _ := hS; have hlen := (hS.own_len (List.Mem.tail _ (List.Mem.head _))).1; rw [byteC_len, Nat.mul_one] at hlen)
      | (refine WL.app hS rfl rfl rfl rfl (.box (by repeat (first | exact List.Mem.head _ | apply List.Mem.tail))) rfl rfl (fun A' cap' => by repeat (first | exact Repl.here | apply Repl.there)) (by omega) rfl rfl rfl ?_; intro A2 cap2 w hS)
      | (refine WL.store hS rfl rfl rfl (by repeat (first | exact StB.here rfl | apply StB.there)) rfl rfl rfl ?_; intro w hS)
      | (refine WL.slit hS rfl rfl rfl rfl rfl ?_; intro w b hS))
    | (show WC _ _ _ _ _ _; first
      | refine WC.seq ?_
      | refine WC.region ?_
      | refine WC.ret ?_)
    | refine seqQ_n ?_)
  exact fin1r rfl rfl ⟨rfl, _, (St.objClose (H := []) (φ := sbφ q (s ++ [c])) (D := sbD q (some ⟨q, 0, none⟩) A2 (n + 1) cap2 (s ++ [c])) (by rw [sbD, byteC_app]; exact hS.drop) (.inr ⟨_, _, _, rfl, .inr (by have := (hS.own_len (List.Mem.tail _ (List.Mem.tail _ (List.Mem.head _)))).2.2; omega)⟩)).mutOf (List.Mem.head _)⟩

set_option maxHeartbeats 4000000 in
set_option maxRecDepth 100000 in
/-- what the text is: the builder is behind it of no more use -/
theorem bstring_c (q : Nat) (s : List UInt8) (fp : List Nat) (w0 : World) (hc : (sbC q s fp).holds w0) (hi : inB (sbC q s fp) w0) (hl : s.length ≤ 1099511627776) : Cal Tryz.prog 63 [.pointer (some ⟨q, 0, none⟩)] w0
    (fun v w' => v = str s ∧ Upd fp w0 w') := by
  refine Cal.mkM hc hi (by kernel_rfl) Tryz.func63 rfl rfl fun hS => ?_
  obtain ⟨D, hφ, hfp, hS⟩ := hS.objOpen
  obtain ⟨p, A, n, cap, rfl, hA⟩ : ∃ p A n cap, D = sbD q p A n cap s ∧ (A = none ∨ cap ≠ 0) := by
    rcases hφ with ⟨rfl, rfl⟩ | ⟨A, n, cap, rfl, hA⟩
    · exact ⟨_, _, _, _, rfl, .inl rfl⟩
    · exact ⟨_, _, _, _, rfl, hA⟩
  replace hS : St w0 (sbC q s fp).fp w0 [.box q 119 [.pointer p, .slice A n cap], .own (.slice A n cap) 5 1 n (byteC s)] _ := hS
  have hlen := (hS.own_len (List.Mem.tail _ (List.Mem.head _))).1
  rw [byteC_len, Nat.mul_one] at hlen
  subst hlen
  replace hS := hS.perm (.swap _ _ _)
  clear hφ
  repeat' (first
    | (show WL _ _ _ _ _ _ _; first
      | refine WL.pure rfl rfl rfl rfl ?_
      | refine WL.nil ?_)
    | (show WC _ _ _ _ _ _; first
      | refine WC.seq ?_
      | refine WC.region ?_)
    | refine seqQ_n ?_)
  refine WC.drawC hS [0,1,2,3,5,6,7,8,9,11] [0,1,2,3,5,6,7,8,9,4,10,11] (by kernel_rfl) (by kernel_rfl) ?_
  clear hS
  intro w hS hM
  repeat' (first
    | (show WC _ _ _ _ _ _; first
      | refine WC.ret ?_)
    | (show WD _ _ _ _ _ _ _ _ _; first
      | refine WD.pure rfl rfl rfl rfl rfl ?_
      | refine WD.nil ?_
      | refine WD.load rfl rfl (LdOk.box (by repeat (first | exact List.Mem.head _ | apply List.Mem.tail)) rfl) rfl rfl rfl rfl ?_
      | (refine WD.sliceData hS hM rfl rfl hA rfl rfl rfl rfl rfl ?_)
      | (refine WD.unsStr hS (More.refl _ _) rfl rfl rfl rfl (by omega) rfl rfl rfl rfl rfl ?_; clear hS hM; intro w hS))
    | refine seqQ_n ?_)
  exact fin1r rfl rfl ⟨rfl, hS.upd⟩
end Go.Proofs.YtniacmoniaaolaaGreatDoor

/- What is proved: plain facts on numbers and texts as bytes. Conditions: none. -/
set_option linter.unusedSimpArgs false
set_option linter.unusedVariables false
namespace Go.J
open Go

/-- seven bits a byte, the lowest first -/
def putN (n : Nat) : List UInt8 := if h : n < 128 then [UInt8.ofNat n] else UInt8.ofNat (n % 128 + 128) :: putN (n / 128)
termination_by n
decreasing_by omega
theorem putN_small {n : Nat} (h : n < 128) : putN n = [UInt8.ofNat n] := by rw [putN, dif_pos h]
theorem putN_big {n : Nat} (h : ¬ n < 128) : putN n = UInt8.ofNat (n % 128 + 128) :: putN (n / 128) := by rw [putN, dif_neg h]
theorem putN_ne (n : Nat) : putN n ≠ [] := by
  by_cases h : n < 128
  · rw [putN_small h]; simp
  · rw [putN_big h]; simp
theorem putN_len : ∀ (k n : Nat), n < 128 ^ (k + 1) → (putN n).length ≤ k + 1
  | k, n, h => by
    by_cases hn : n < 128
    · rw [putN_small hn]; simp
    · rw [putN_big hn]
      cases k with
      | zero => simp at h; omega
      | succ k =>
        have := putN_len k (n / 128) (by
          rw [Nat.div_lt_iff_lt_mul (by omega)]
          rwa [Nat.pow_succ] at h)
        simp only [List.length_cons]; omega
theorem putN_len10 {n : Nat} (h : n < 18446744073709551616) : (putN n).length ≤ 10 := putN_len 9 n (by
  have : (128 : Nat) ^ (9 + 1) = 1180591620717411303424 := by decide
  omega)
def textE (s : List UInt8) : List UInt8 := putN s.length ++ s
theorem ofNat_toNat {n : Nat} (h : n < 256) : (UInt8.ofNat n).toNat = n := by simp; omega
theorem byte_low {n : Nat} (h : n < 128) : IntKind.u8.wrap (n : Int) = (((UInt8.ofNat n).toNat : Nat) : Int) := by
  rw [IntKind.wrap_u8', ofNat_toNat (by omega)]; omega
set_option maxRecDepth 100000 in
theorem or128 : ∀ a, a < 256 → a ||| 128 = a % 128 + 128 := by decide
theorem byte_high (n : Nat) : bits .or .u8 (IntKind.u8.wrap (n : Int)) 128 = (((UInt8.ofNat (n % 128 + 128)).toNat : Nat) : Int) := by
  have e : IntKind.u8.wrap (n : Int) = ((n % 256 : Nat) : Int) := by rw [IntKind.wrap_u8']; omega
  have := u8_or_nat (n % 256) 128 (by omega) (by omega)
  rw [e]
  refine Eq.trans this ?_
  rw [or128 _ (by omega), ofNat_toNat (by omega)]
  omega
theorem shrI_nat (k : IntKind) (n m : Nat) (h : m ≤ k.bits) : shrI k (n : Int) (m : Int) = ((n / 2 ^ m : Nat) : Int) := by
  unfold shrI
  have : min ((m : Int).toNat) k.bits = m := by simp; omega
  rw [this, Int.fdiv_eq_ediv_of_nonneg _ (by exact Int.le_of_lt (Int.pow_pos (by decide)))]
  rw [Int.natCast_ediv, Int.natCast_pow]; rfl
theorem shr7 (n : Nat) : shrI .u64 (n : Int) 7 = ((n / 128 : Nat) : Int) := shrI_nat .u64 n 7 (by decide)

/-! ## read back -/
/-- the number that stands at the head of the bytes, how many bytes it has, the error -/
def varE : List UInt8 → Nat → Nat → Nat × Nat × Int
  | [], _, _ => (0, 0, 2)
  | c :: t, i, x => if i = 9 ∧ 1 < c.toNat then (0, 0, 3)
    else if 128 ≤ c.toNat then varE t (i + 1) (x + c.toNat % 128 * 128 ^ i)
    else if c.toNat = 0 ∧ 0 < i then (0, 0, 3)
    else (x + c.toNat % 128 * 128 ^ i, i + 1, 0)
theorem pow128 (i : Nat) : 128 ^ i = 2 ^ (7 * i) := by rw [Nat.pow_mul]
theorem pow128_9 : 128 ^ 9 = 9223372036854775808 := by decide
theorem pow128_le {i : Nat} (h : i ≤ 8) : 128 ^ i ≤ 72057594037927936 := by
  have := Nat.pow_le_pow_right (n := 128) (by omega) h
  have e : 128 ^ 8 = 72057594037927936 := by decide
  omega
theorem u64_var {x i : Nat} {c : UInt8} (hx : x < 128 ^ i) (hi : i ≤ 9) (h9 : i = 9 → c.toNat ≤ 1) :
    bits .or .u64 (x : Int) (shlI .u64 (IntKind.u64.wrap (bits .and .u8 (c.toNat : Int) 127)) (7 * (i : Int))) = ((x + c.toNat % 128 * 128 ^ i : Nat) : Int) := by
  have hc := c.toNat_lt
  have h1 : bits .and .u8 (c.toNat : Int) 127 = ((c.toNat % 128 : Nat) : Int) := by
    have := u8_and_nat c.toNat 127 (by omega) (by omega)
    rw [nat_mask7] at this
    exact this
  have hw : ∀ m : Nat, m < 18446744073709551616 → IntKind.u64.wrap (m : Int) = (m : Int) := fun m hm => by
    simp only [IntKind.wrap, IntKind.bits, IntKind.signed, Bool.false_and, Bool.false_eq_true, if_false]; omega
  have hb : c.toNat % 128 * 128 ^ i < 18446744073709551616 := by
    rcases Nat.lt_or_ge i 9 with h | h
    · have := pow128_le (i := i) (by omega)
      have h2 : c.toNat % 128 * 128 ^ i ≤ 127 * 128 ^ i := Nat.mul_le_mul_right _ (by omega)
      omega
    · obtain rfl : i = 9 := by omega
      have := h9 rfl
      have h2 : c.toNat % 128 * 128 ^ 9 ≤ 1 * 128 ^ 9 := Nat.mul_le_mul_right _ (by omega)
      rw [pow128_9] at h2 ⊢
      omega
  rw [h1, hw _ (by omega)]
  have h3 : shlI .u64 ((c.toNat % 128 : Nat) : Int) (7 * (i : Int)) = ((c.toNat % 128 * 128 ^ i : Nat) : Int) := by
    unfold shlI
    have e : min (7 * (i : Int)).toNat (IntKind.u64.bits) = 7 * i := by
      have : IntKind.u64.bits = 64 := rfl
      rw [this]; omega
    rw [e, show (2 : Int) ^ (7 * i) = ((2 ^ (7 * i) : Nat) : Int) by rw [Int.natCast_pow]; rfl, ← pow128, ← Int.natCast_mul]
    exact hw _ hb
  rw [h3]
  have hx64 : x < 18446744073709551616 := by
    rcases Nat.lt_or_ge i 9 with h | h
    · have := pow128_le (i := i) (by omega); omega
    · obtain rfl : i = 9 := by omega
      rw [pow128_9] at hx; omega
  rw [u64_or_nat _ _ hx64 hb, Nat.or_comm, nat_join (7 * i) _ _ (by rw [pow128]; exact Nat.mul_mod_left _ _) (by rw [← pow128]; exact hx), Nat.add_comm]
theorem varE_put : ∀ (k m : Nat), m ≤ k → ∀ (i x : Nat) (t : List UInt8), (m ≠ 0 ∨ i = 0) → i ≤ 9 → m * 128 ^ i < 18446744073709551616 → varE (putN m ++ t) i x = (x + m * 128 ^ i, i + (putN m).length, 0)
  | k, m, hk, i, x, t, h0, hi, hm => by
    have h9 : i = 9 → m ≤ 1 := by
      rintro rfl
      rw [pow128_9] at hm; omega
    by_cases h : m < 128
    · rw [putN_small h]
      simp only [List.singleton_append, varE, ofNat_toNat (show m < 256 by omega)]
      rw [if_neg (by omega), if_neg (by omega), if_neg (by omega), Nat.mod_eq_of_lt h]
      rfl
    · have hm0 : m / 128 < m := by omega
      cases k with
      | zero => omega
      | succ k =>
        rw [putN_big h]
        simp only [List.cons_append, varE, ofNat_toNat (show m % 128 + 128 < 256 by omega)]
        have hi9 : i ≠ 9 := fun e => by have := h9 e; omega
        rw [if_neg (by omega), if_pos (by omega)]
        have e1 : m / 128 * 128 ^ (i + 1) ≤ m * 128 ^ i := by
          rw [Nat.pow_succ, Nat.mul_comm (128 ^ i) 128, ← Nat.mul_assoc]
          exact Nat.mul_le_mul_right _ (by omega)
        rw [varE_put k (m / 128) (by omega) (i + 1) _ t (.inl (by omega)) (by omega) (by omega)]
        have e2 : (m % 128 + 128) % 128 = m % 128 := by omega
        have e3 : m % 128 * 128 ^ i + m / 128 * 128 ^ (i + 1) = m * 128 ^ i := by
          rw [Nat.pow_succ, Nat.mul_comm (128 ^ i) 128, ← Nat.mul_assoc, ← Nat.add_mul]
          congr 1; omega
        simp only [List.length_cons, Prod.mk.injEq, and_true]
        refine ⟨by rw [e2, Nat.add_assoc, e3], by omega⟩
theorem varE_ok : ∀ (t : List UInt8) (i x : Nat), x < 128 ^ i → i ≤ 9 → (varE t i x).2.2 = 0 → (varE t i x).1 < 18446744073709551616 ∧ (varE t i x).2.1 ≤ i + t.length
  | [], i, x, hx, hi, h => by simp [varE] at h
  | c :: t, i, x, hx, hi, h => by
    have hp : 0 < 128 ^ i := Nat.pow_pos (by omega)
    simp only [varE] at h ⊢
    split at h
    · simp at h
    · rename_i h9
      rw [if_neg h9]
      split at h
      · rename_i hc
        rw [if_pos hc]
        have hi8 : i ≤ 8 := by
          rcases Nat.lt_or_ge i 9 with h2 | h2
          · omega
          · exact absurd ⟨by omega, by omega⟩ h9
        have hn : x + c.toNat % 128 * 128 ^ i < 128 ^ (i + 1) := by
          rw [Nat.pow_succ]
          have : c.toNat % 128 * 128 ^ i ≤ 127 * 128 ^ i := Nat.mul_le_mul_right _ (by omega)
          omega
        have := varE_ok t (i + 1) _ hn (by omega) h
        simp only [List.length_cons]
        omega
      · rename_i hc
        rw [if_neg hc]
        split at h
        · simp at h
        · rename_i hz
          rw [if_neg hz]
          simp only [List.length_cons]
          refine ⟨?_, by omega⟩
          rcases Nat.lt_or_ge i 9 with h2 | h2
          · have := pow128_le (i := i) (by omega)
            have : c.toNat % 128 * 128 ^ i ≤ 127 * 128 ^ i := Nat.mul_le_mul_right _ (by omega)
            omega
          · obtain rfl : i = 9 := by omega
            have h1 : c.toNat ≤ 1 := by
              rcases Nat.lt_or_ge 1 c.toNat with h3 | h3
              · exact absurd ⟨rfl, h3⟩ h9
              · exact h3
            have : c.toNat % 128 * 128 ^ 9 ≤ 1 * 128 ^ 9 := Nat.mul_le_mul_right _ (by omega)
            rw [pow128_9] at *
            omega
end Go.J

/- What is proved: what the package wire writes. Conditions: as each names them. -/
set_option linter.unusedSimpArgs false
set_option linter.unusedVariables false
namespace Go.Proofs.YtniacmoniaaolaaGreatDoor
open Go Go.J Go.RowKit

set_option maxHeartbeats 4000000 in
set_option maxRecDepth 100000 in
theorem put_c (n : Nat) (w0 : World) (hn : n < 18446744073709551616) : Cal Tryz.prog 87 [.int .u64 (n : Int)] w0 (fun v w' => Upd [] w0 w' ∧ v = str (putN n)) := by
  refine Cal.mk' (by kernel_rfl) Tryz.func87 rfl rfl fun hS => ?_
  have hmax := putN_len10 hn
  repeat' (first
    | (show WL _ _ _ _ _ _ _; first
      | refine WL.pure rfl rfl rfl rfl ?_
      | refine WL.nil ?_
      | (refine WL.alloc hS rfl rfl rfl rfl rfl rfl ?_; intro w b hS))
    | (show WC _ _ _ _ _ _; first
      | refine WC.seq ?_
      | refine WC.region ?_
      | refine WC.block ?_)
    | refine seqQ_n ?_)
  revert b
  intro q hS
  have hS := (hS.nilRow 5 1).perm (.swap _ _ _)
  have hS := St.objClose (H := []) (φ := sbφ q []) (D := sbD q none none 0 0 []) hS (.inl ⟨rfl, rfl⟩)
  refine WC.loop (σ := Nat × List UInt8 × List Nat) [3] (fun (m, s, fp) => [(0, .int .u64 (m : Int))]) (fun (m, s, fp) w => m ≤ n ∧ s ++ putN m = putN n ∧ St w0 [] w [sbC q s fp] _) (fun (m, _) => m) (n, [], _) ⟨Nat.le_refl _, rfl, hS⟩ ⟨rfl, trivial⟩ ?_
  clear hS
  rintro ⟨m, s, fp⟩ g w ⟨hm, hs, hS⟩
  by_cases h : m < 128
  · rw [putN_small h] at hs
    have hb := byte_low h
    have hl : s.length < 10 := by rw [← hs] at hmax; simp at hmax; omega
    repeat' (first
      | (show WL _ _ _ _ _ _ _; first
        | refine WL.pure rfl rfl rfl rfl ?_
        | refine WL.nil ?_
        | (refine WL.callG rfl (by rw [← hb]; rfl) (bwrite_c q s fp (UInt8.ofNat m) _ (hS.holds _ (List.Mem.head _)) (hS.inB_of (List.Mem.head _)) (by omega)) rfl rfl rfl ?_; rintro v w ⟨rfl, fp', hmut⟩; have hS := hS.mut hmut .here; rw [hs] at hS)
        | (refine WL.callG rfl rfl (bstring_c q (putN n) fp' _ (hS.holds _ (List.Mem.head _)) (hS.inB_of (List.Mem.head _)) (by omega)) rfl rfl rfl ?_; rintro v w ⟨rfl, hu⟩; have hS := hS.lose hu))
      | (show WC _ _ _ _ _ _; first
        | refine WC.seq ?_
        | refine WC.region ?_
        | refine WC.exit ?_
        | refine WC.ret ?_
        | refine WC.condF rfl (decide_eq_false (by first | with_reducible assumption | omega)) ?_)
      | refine seqQ_n ?_
      | refine seqQ_x ?_
      | refine blkQ_hit rfl ?_
      | refine rndQ_x ?_)
    exact fin1r rfl rfl ⟨hS.upd, rfl⟩
  · rw [putN_big h] at hs
    have hb := byte_high m
    have hq := shr7 m
    have hl : s.length < 10 := by rw [← hs] at hmax; simp at hmax; omega
    repeat' (first
      | (show WL _ _ _ _ _ _ _; first
        | refine WL.pure rfl rfl rfl rfl ?_
        | refine WL.nil ?_
        | (refine WL.callG rfl (by rw [← hb]; rfl) (bwrite_c q s fp (UInt8.ofNat (m % 128 + 128)) _ (hS.holds _ (List.Mem.head _)) (hS.inB_of (List.Mem.head _)) (by omega)) rfl rfl rfl ?_; rintro v w ⟨rfl, fp', hmut⟩; have hS := hS.mut hmut .here)
        | (refine WL.shr rfl rfl rfl (by decide) rfl rfl rfl ?_; rw [hq]))
      | (show WC _ _ _ _ _ _; first
        | refine WC.seq ?_
        | refine WC.region ?_
        | refine WC.block ?_
        | refine WC.skip ?_
        | refine WC.condT rfl (decide_eq_true (by first | with_reducible assumption | omega)) ?_)
      | refine seqQ_n ?_
      | refine blkQ_n ?_)
    exact rndQ_n (m / 128, s ++ [UInt8.ofNat (m % 128 + 128)], fp') ⟨by omega, by rw [← hs]; simp, hS⟩ (by show m / 128 < m; omega) ⟨rfl, trivial⟩ ⟨rfl, trivial⟩

set_option maxHeartbeats 4000000 in
set_option maxRecDepth 100000 in
theorem wtext_c (s : List UInt8) (w0 : World) (hl : s.length ≤ 1099511627776) : Cal Tryz.prog 56 [str s] w0 (fun v w' => Upd [] w0 w' ∧ v = str (textE s)) := by
  refine Cal.mk' (by kernel_rfl) Tryz.func56 rfl rfl fun hS => ?_
  have hp := putN_len10 (n := s.length) (by omega)
  have hw : IntKind.u64.wrap (s.length : Int) = (s.length : Int) := by
    simp only [IntKind.wrap, IntKind.bits, IntKind.signed, Bool.false_and, Bool.false_eq_true, if_false]; omega
  repeat' (first
    | (show WL _ _ _ _ _ _ _; first
      | refine WL.pure rfl rfl rfl rfl ?_
      | refine WL.nil ?_
      | (refine WL.calls hS rfl (congrArg (fun z => [Value.int .u64 z]) hw) (put_c s.length _ (by omega)) rfl rfl rfl ?_; rintro v w rfl hS)
      | refine WL.cat rfl rfl rfl (by omega) rfl rfl rfl ?_)
    | (show WC _ _ _ _ _ _; first
      | refine WC.seq ?_
      | refine WC.region ?_
      | refine WC.ret ?_)
    | refine seqQ_n ?_)
  exact fin1r rfl rfl ⟨hS.upd, rfl⟩
end Go.Proofs.YtniacmoniaaolaaGreatDoor

/- What is proved: what a reader of the package wire reads. Conditions: no more than 2^40 bytes. -/
set_option linter.unusedSimpArgs false
set_option linter.unusedVariables false
namespace Go.Proofs.YtniacmoniaaolaaGreatDoor
open Go Go.J Go.RowKit

/-- a reader's cells -/
abbrev rdCells (s : List UInt8) (p : Nat) : List Value := [str s, .int .i64 (p : Int)]
def RdAt (r : Nat) (s : List UInt8) (p : Nat) (w : World) : Prop := w.heap[r]? = some (.cells ⟨rdCells s p⟩ 142 (0, 0))
def varV (p : Nat) (r : Nat × Nat × Int) : Value := if r.2.2 = 0 then .tuple #[.int .u64 (r.1 : Int), .int .i64 ((p + r.2.1 : Nat) : Int), .int .i64 0] else .tuple #[.int .u64 0, .int .i64 0, .int .i64 r.2.2]

theorem varV_ok {p n u : Nat} {a b : Int} (ha : a = (n : Int)) (hb : b = ((p + u : Nat) : Int)) : Value.tuple #[.int .u64 a, .int .i64 b, .int .i64 0] = varV p (n, u, 0) := by subst ha hb; simp [varV]
set_option maxHeartbeats 8000000 in
set_option maxRecDepth 100000 in
theorem varint_c (r : Nat) (s : List UInt8) (p : Nat) (w0 : World) (h : RdAt r s p w0) (hp : p ≤ s.length) (hl : s.length ≤ 1099511627776) : Cal Tryz.prog 82 [.pointer (some ⟨r, 0, none⟩)] w0
    (fun v w' => Upd [] w0 w' ∧ v = varV p (varE (s.drop p) 0 0)) := by
  refine Cal.mk' (by kernel_rfl) Tryz.func82 rfl rfl fun hS => ?_
  have hrd : w0.heap[r]? = some (.cells ⟨[str s, .int .i64 (p : Int)]⟩ 142 (0, 0)) := h
  clear h
  repeat' (first
    | (show WL _ _ _ _ _ _ _; first
      | refine WL.pure rfl rfl rfl rfl ?_
      | refine WL.nil ?_)
    | (show WC _ _ _ _ _ _; first
      | refine WC.seq ?_
      | refine WC.region ?_
      | refine WC.block ?_)
    | refine seqQ_n ?_)
  refine WC.loop (σ := Nat × Nat) [0] (fun (i, x) => [(5, .int .u64 (x : Int)), (6, .int .i64 (i : Int))]) (fun (i, x) w => i ≤ 9 ∧ p + i ≤ s.length ∧ x < 128 ^ i ∧ varE (s.drop p) 0 0 = varE (s.drop (p + i)) i x ∧ St w0 [] w [] [⟨w0, Old w0⟩]) (fun (i, _) => 10 - i) (0, 0) ⟨by omega, hp, by decide, rfl, hS⟩ ⟨rfl, rfl, trivial⟩ ?_
  clear hS
  rintro ⟨i, x⟩ g w ⟨hi, hpi, hx, hv, hS⟩
  rw [hv]
  clear hv
  by_cases hlt : p + i < s.length
  · have hd : s.drop (p + i) = s[p + i] :: s.drop (p + i + 1) := List.drop_eq_getElem_cons hlt
    have hc : s[p + i]? = some s[p + i] := List.getElem?_eq_getElem hlt
    rw [hd]
    generalize s[p + i] = c at *
    have hc256 := c.toNat_lt
    by_cases h9 : i = 9 ∧ 1 < c.toNat
    · have hres : varE (c :: s.drop (p + i + 1)) i x = (0, 0, 3) := by rw [varE, if_pos h9]
      rw [hres]
      obtain ⟨h9, h91⟩ := h9
      subst h9
      repeat' (first
        | (show WL _ _ _ _ _ _ _; first
          | refine WL.pure rfl rfl rfl rfl ?_
          | refine WL.nil ?_)
        | (show WC _ _ _ _ _ _; first
          | refine WC.seq ?_
          | refine WC.region ?_
          | refine WC.block ?_
          | refine WC.skip ?_
          | refine WC.ret ?_
          | (show WC _ _ (Code.region _ (List.toArray [_, _, _, _, _, _, _, _, _, _, _, _]) true) _ _ _; refine WC.drawS hS [0, 1, 2, 3, 4, 5, 6, 7, 8, 9, 10, 11] [0, 1, 2, 3, 4, 5, 6, 7, 8, 9, 10, 11] (by kernel_rfl) (by kernel_rfl) ?_; clear hS; intro w hS hM)
          | refine WC.condT rfl (decide_eq_true (by first | with_reducible assumption | omega)) ?_
          | refine WC.condF rfl (decide_eq_false (by first | with_reducible assumption | omega)) ?_)
        | (show WD _ _ _ _ _ _ _ _ _; first
          | refine WD.pure rfl rfl rfl rfl rfl ?_
          | refine WD.nil ?_
          | refine WD.add rfl rfl rfl (by omega) rfl rfl rfl rfl ?_
          | (refine WD.load rfl rfl (LdOk.old hrd (by repeat (first | exact List.Mem.head _ | apply List.Mem.tail)) rfl) rfl rfl rfl rfl ?_)
          | (refine WD.idxS (j := p + 9) (c := c) rfl rfl rfl rfl hc rfl rfl rfl rfl ?_))
        | refine seqQ_n ?_
        | refine seqQ_r ?_
        | refine blkQ_r ?_
        | refine rndQ_r ?_)
      exact fin3r rfl rfl rfl rfl ⟨hS.upd, rfl⟩
    · have h91 : i = 9 → c.toNat ≤ 1 := fun e => by
        rcases Nat.lt_or_ge 1 c.toNat with h3 | h3
        · exact absurd ⟨e, h3⟩ h9
        · exact h3
      have huv := u64_var (c := c) hx hi h91
      have hn9 : ¬ ((i : Int) = 9 ∧ (c.toNat : Int) > 1) := fun e => h9 ⟨by omega, by omega⟩
      by_cases h128 : 128 ≤ c.toNat
      · have hi8 : i ≤ 8 := by
          rcases Nat.lt_or_ge i 9 with h2 | h2
          · omega
          · have := h91 (by omega); omega
        have hres : varE (c :: s.drop (p + i + 1)) i x = varE (s.drop (p + (i + 1))) (i + 1) (x + c.toNat % 128 * 128 ^ i) := by rw [varE, if_neg h9, if_pos h128]; rfl
        have hxn : x + c.toNat % 128 * 128 ^ i < 128 ^ (i + 1) := by
          rw [Nat.pow_succ]
          have : c.toNat % 128 * 128 ^ i ≤ 127 * 128 ^ i := Nat.mul_le_mul_right _ (by omega)
          omega
        rw [hres]
        clear hres h9 h91 hn9
        repeat' (first
          | (show WL _ _ _ _ _ _ _; first
            | refine WL.pure rfl rfl rfl rfl ?_
            | refine WL.nil ?_
            | refine WL.add rfl rfl rfl (by omega) rfl rfl rfl ?_
            | (refine WL.mul rfl rfl rfl (by omega) rfl rfl rfl ?_)
            | (refine WL.shl rfl rfl rfl (by omega) rfl rfl rfl ?_)
            | refine WL.skip rfl rfl rfl ?_
            | ((fail_if_success (refine WL.wanted rfl ?_)); refine WL.guard rfl rfl rfl (fun h => ?_) (fun h => ?_) <;> (try simp only [Classical.not_not, Bool.not_eq_true', Bool.not_eq_false', Bool.not_eq_eq_eq_not, Bool.not_true, Bool.not_false, beq_iff_eq, beq_eq_false_iff_ne, ne_eq, decide_eq_decide, decide_eq_true_eq, decide_eq_false_iff_not, Bool.and_eq_true, Bool.or_eq_true, Bool.and_eq_false_iff, Bool.or_eq_false_iff] at h) <;> (try (exfalso; first | omega | contradiction))))
          | (show WC _ _ _ _ _ _; first
            | refine WC.seq ?_
            | refine WC.region ?_
            | refine WC.block ?_
            | refine WC.skip ?_
            | refine WC.exit ?_
            | (show WC _ _ (Code.region _ (List.toArray [_, _, _, _, _, _, _, _, _, _, _, _]) true) _ _ _; refine WC.drawS hS [0, 1, 2, 3, 4, 5, 6, 7, 8, 9, 10, 11] [0, 1, 2, 3, 4, 5, 6, 7, 8, 9, 10, 11] (by kernel_rfl) (by kernel_rfl) ?_; clear hS; intro w hS hM)
            | refine WC.condF rfl (by with_reducible rfl) ?_
            | refine WC.condT rfl (decide_eq_true (by first | with_reducible assumption | omega)) ?_
            | refine WC.condF rfl (decide_eq_false (by first | with_reducible assumption | omega)) ?_)
          | (show WD _ _ _ _ _ _ _ _ _; first
            | refine WD.pure rfl rfl rfl rfl rfl ?_
            | refine WD.nil ?_
            | refine WD.add rfl rfl rfl (by omega) rfl rfl rfl rfl ?_
            | (refine WD.load rfl rfl (LdOk.old hrd (by repeat (first | exact List.Mem.head _ | apply List.Mem.tail)) rfl) rfl rfl rfl rfl ?_)
            | (refine WD.idxS (j := p + i) (c := c) rfl rfl rfl rfl hc rfl rfl rfl rfl ?_))
          | refine seqQ_n ?_
          | refine seqQ_x ?_
          | refine blkQ_hit rfl ?_)
        exact rndQ_n (i + 1, x + c.toNat % 128 * 128 ^ i) ⟨by omega, by omega, hxn, rfl, hS⟩ (by show 10 - (i + 1) < 10 - i; omega) ⟨congrArg (Value.int .u64) huv, vint (by omega), trivial⟩ ⟨rfl, trivial⟩
      · by_cases h0 : c.toNat = 0 ∧ 0 < i
        · have hres : varE (c :: s.drop (p + i + 1)) i x = (0, 0, 3) := by rw [varE, if_neg h9, if_neg h128, if_pos h0]
          rw [hres]
          obtain ⟨h0, h00⟩ := h0
          clear hres h9 h91 hn9
          repeat' (first
            | (show WL _ _ _ _ _ _ _; first
              | refine WL.pure rfl rfl rfl rfl ?_
              | refine WL.nil ?_
              | (refine WL.mul rfl rfl rfl (by omega) rfl rfl rfl ?_)
              | (refine WL.shl rfl rfl rfl (by omega) rfl rfl rfl ?_)
              | refine WL.skip rfl rfl rfl ?_
              | ((fail_if_success (refine WL.wanted rfl ?_)); refine WL.guard rfl rfl rfl (fun h => ?_) (fun h => ?_) <;> (try simp only [Classical.not_not, Bool.not_eq_true', Bool.not_eq_false', Bool.not_eq_eq_eq_not, Bool.not_true, Bool.not_false, beq_iff_eq, beq_eq_false_iff_ne, ne_eq, decide_eq_decide, decide_eq_true_eq, decide_eq_false_iff_not, Bool.and_eq_true, Bool.or_eq_true, Bool.and_eq_false_iff, Bool.or_eq_false_iff] at h) <;> (try (exfalso; first | omega | contradiction))))
            | (show WC _ _ _ _ _ _; first
              | refine WC.seq ?_
              | refine WC.region ?_
              | refine WC.block ?_
              | refine WC.skip ?_
              | refine WC.ret ?_
              | (show WC _ _ (Code.region _ (List.toArray [_, _, _, _, _, _, _, _, _, _, _, _]) true) _ _ _; refine WC.drawS hS [0, 1, 2, 3, 4, 5, 6, 7, 8, 9, 10, 11] [0, 1, 2, 3, 4, 5, 6, 7, 8, 9, 10, 11] (by kernel_rfl) (by kernel_rfl) ?_; clear hS; intro w hS hM)
              | refine WC.condF rfl (by with_reducible rfl) ?_
              | refine WC.condT rfl (decide_eq_true (by first | with_reducible assumption | omega)) ?_
              | refine WC.condF rfl (decide_eq_false (by first | with_reducible assumption | omega)) ?_)
            | (show WD _ _ _ _ _ _ _ _ _; first
              | refine WD.pure rfl rfl rfl rfl rfl ?_
              | refine WD.nil ?_
              | refine WD.add rfl rfl rfl (by omega) rfl rfl rfl rfl ?_
              | (refine WD.load rfl rfl (LdOk.old hrd (by repeat (first | exact List.Mem.head _ | apply List.Mem.tail)) rfl) rfl rfl rfl rfl ?_)
              | (refine WD.idxS (j := p + i) (c := c) rfl rfl rfl rfl hc rfl rfl rfl rfl ?_))
            | refine seqQ_n ?_
            | refine seqQ_r ?_
            | refine blkQ_r ?_
            | refine rndQ_r ?_)
          all_goals exact fin3r rfl rfl rfl rfl ⟨hS.upd, rfl⟩
        · have hres : varE (c :: s.drop (p + i + 1)) i x = (x + c.toNat % 128 * 128 ^ i, i + 1, 0) := by rw [varE, if_neg h9, if_neg h128, if_neg h0]
          rw [hres]
          by_cases hz : c.toNat = 0
          · have hi0 : i = 0 := by
              rcases Nat.eq_zero_or_pos i with h | h
              · exact h
              · exact absurd ⟨hz, h⟩ h0
            clear hres h9 h91 hn9 h0
            repeat' (first
              | (show WL _ _ _ _ _ _ _; first
                | refine WL.pure rfl rfl rfl rfl ?_
                | refine WL.nil ?_
                | (refine WL.mul rfl rfl rfl (by omega) rfl rfl rfl ?_)
                | (refine WL.shl rfl rfl rfl (by omega) rfl rfl rfl ?_)
                | refine WL.skip rfl rfl rfl ?_
                | ((fail_if_success (refine WL.wanted rfl ?_)); refine WL.guard rfl rfl rfl (fun h => ?_) (fun h => ?_) <;> (try simp only [Classical.not_not, Bool.not_eq_true', Bool.not_eq_false', Bool.not_eq_eq_eq_not, Bool.not_true, Bool.not_false, beq_iff_eq, beq_eq_false_iff_ne, ne_eq, decide_eq_decide, decide_eq_true_eq, decide_eq_false_iff_not, Bool.and_eq_true, Bool.or_eq_true, Bool.and_eq_false_iff, Bool.or_eq_false_iff] at h) <;> (try (exfalso; first | omega | contradiction))))
              | (show WC _ _ _ _ _ _; first
                | refine WC.seq ?_
                | refine WC.region ?_
                | refine WC.block ?_
                | refine WC.skip ?_
                | refine WC.ret ?_
                | (show WC _ _ (Code.region _ (List.toArray [_, _, _, _, _, _, _, _, _, _, _, _]) true) _ _ _; refine WC.drawS hS [0, 1, 2, 3, 4, 5, 6, 7, 8, 9, 10, 11] [0, 1, 2, 3, 4, 5, 6, 7, 8, 9, 10, 11] (by kernel_rfl) (by kernel_rfl) ?_; clear hS; intro w hS hM)
                | (show WC _ _ (Code.region _ (List.toArray [_, _, _, _, _, _, _, _, _, _, _]) true) _ _ _; refine WC.drawS hS [0, 1, 2, 3, 4, 5, 6, 7, 8, 9, 10] [0, 1, 2, 3, 4, 5, 6, 7, 8, 9, 10] (by kernel_rfl) (by kernel_rfl) ?_; clear hS; intro w hS hM)
                | refine WC.condF rfl (by with_reducible rfl) ?_
                | refine WC.condF rfl (decide_eq_false (by first | with_reducible assumption | omega)) ?_)
              | (show WD _ _ _ _ _ _ _ _ _; first
                | refine WD.pure rfl rfl rfl rfl rfl ?_
                | refine WD.nil ?_
                | refine WD.add rfl rfl rfl (by omega) rfl rfl rfl rfl ?_
                | (refine WD.load rfl rfl (LdOk.old hrd (by repeat (first | exact List.Mem.head _ | apply List.Mem.tail)) rfl) rfl rfl rfl rfl ?_)
                | (refine WD.idxS (j := p + i) (c := c) rfl rfl rfl rfl hc rfl rfl rfl rfl ?_))
              | refine seqQ_n ?_
              | refine seqQ_r ?_
              | refine blkQ_r ?_
              | refine rndQ_r ?_)
            all_goals exact fin3r rfl rfl rfl rfl ⟨hS.upd, varV_ok huv (by omega)⟩
          · clear hres hn9 h0
            rcases Nat.lt_or_ge i 9 with h99 | h99
            · clear h9 h91
              repeat' (first
                | (show WL _ _ _ _ _ _ _; first
                  | refine WL.pure rfl rfl rfl rfl ?_
                  | refine WL.nil ?_
                  | (refine WL.mul rfl rfl rfl (by omega) rfl rfl rfl ?_)
                  | (refine WL.shl rfl rfl rfl (by omega) rfl rfl rfl ?_)
                  | refine WL.skip rfl rfl rfl ?_
                  | ((fail_if_success (refine WL.wanted rfl ?_)); refine WL.guard rfl rfl rfl (fun h => ?_) (fun h => ?_) <;> (try simp only [Classical.not_not, Bool.not_eq_true', Bool.not_eq_false', Bool.not_eq_eq_eq_not, Bool.not_true, Bool.not_false, beq_iff_eq, beq_eq_false_iff_ne, ne_eq, decide_eq_decide, decide_eq_true_eq, decide_eq_false_iff_not, Bool.and_eq_true, Bool.or_eq_true, Bool.and_eq_false_iff, Bool.or_eq_false_iff] at h) <;> (try (exfalso; first | omega | contradiction))))
                | (show WC _ _ _ _ _ _; first
                  | refine WC.seq ?_
                  | refine WC.region ?_
                  | refine WC.block ?_
                  | refine WC.skip ?_
                  | refine WC.ret ?_
                  | (show WC _ _ (Code.region _ (List.toArray [_, _, _, _, _, _, _, _, _, _, _, _]) true) _ _ _; refine WC.drawS hS [0, 1, 2, 3, 4, 5, 6, 7, 8, 9, 10, 11] [0, 1, 2, 3, 4, 5, 6, 7, 8, 9, 10, 11] (by kernel_rfl) (by kernel_rfl) ?_; clear hS; intro w hS hM)
                  | (show WC _ _ (Code.region _ (List.toArray [_, _, _, _, _, _, _, _, _, _, _]) true) _ _ _; refine WC.drawS hS [0, 1, 2, 3, 4, 5, 6, 7, 8, 9, 10] [0, 1, 2, 3, 4, 5, 6, 7, 8, 9, 10] (by kernel_rfl) (by kernel_rfl) ?_; clear hS; intro w hS hM)
                  | refine WC.condF rfl (by with_reducible rfl) ?_
                  | refine WC.condF rfl (decide_eq_false (by first | with_reducible assumption | omega)) ?_)
                | (show WD _ _ _ _ _ _ _ _ _; first
                  | refine WD.pure rfl rfl rfl rfl rfl ?_
                  | refine WD.nil ?_
                  | refine WD.add rfl rfl rfl (by omega) rfl rfl rfl rfl ?_
                  | (refine WD.load rfl rfl (LdOk.old hrd (by repeat (first | exact List.Mem.head _ | apply List.Mem.tail)) rfl) rfl rfl rfl rfl ?_)
                  | (refine WD.idxS (j := p + i) (c := c) rfl rfl rfl rfl hc rfl rfl rfl rfl ?_))
                | refine seqQ_n ?_
                | refine seqQ_r ?_
                | refine blkQ_r ?_
                | refine rndQ_r ?_)
              all_goals exact fin3r rfl rfl rfl rfl ⟨hS.upd, varV_ok huv (by omega)⟩
            · have h92 := h91 (by omega)
              clear h9 h91
              repeat' (first
                | (show WL _ _ _ _ _ _ _; first
                  | refine WL.pure rfl rfl rfl rfl ?_
                  | refine WL.nil ?_
                  | (refine WL.mul rfl rfl rfl (by omega) rfl rfl rfl ?_)
                  | (refine WL.shl rfl rfl rfl (by omega) rfl rfl rfl ?_)
                  | refine WL.skip rfl rfl rfl ?_
                  | ((fail_if_success (refine WL.wanted rfl ?_)); refine WL.guard rfl rfl rfl (fun h => ?_) (fun h => ?_) <;> (try simp only [Classical.not_not, Bool.not_eq_true', Bool.not_eq_false', Bool.not_eq_eq_eq_not, Bool.not_true, Bool.not_false, beq_iff_eq, beq_eq_false_iff_ne, ne_eq, decide_eq_decide, decide_eq_true_eq, decide_eq_false_iff_not, Bool.and_eq_true, Bool.or_eq_true, Bool.and_eq_false_iff, Bool.or_eq_false_iff] at h) <;> (try (exfalso; first | omega | contradiction))))
                | (show WC _ _ _ _ _ _; first
                  | refine WC.seq ?_
                  | refine WC.region ?_
                  | refine WC.block ?_
                  | refine WC.skip ?_
                  | refine WC.ret ?_
                  | (show WC _ _ (Code.region _ (List.toArray [_, _, _, _, _, _, _, _, _, _, _, _]) true) _ _ _; refine WC.drawS hS [0, 1, 2, 3, 4, 5, 6, 7, 8, 9, 10, 11] [0, 1, 2, 3, 4, 5, 6, 7, 8, 9, 10, 11] (by kernel_rfl) (by kernel_rfl) ?_; clear hS; intro w hS hM)
                  | (show WC _ _ (Code.region _ (List.toArray [_, _, _, _, _, _, _, _, _, _, _]) true) _ _ _; refine WC.drawS hS [0, 1, 2, 3, 4, 5, 6, 7, 8, 9, 10] [0, 1, 2, 3, 4, 5, 6, 7, 8, 9, 10] (by kernel_rfl) (by kernel_rfl) ?_; clear hS; intro w hS hM)
                  | refine WC.condF rfl (by with_reducible rfl) ?_
                  | refine WC.condF rfl (decide_eq_false (by first | with_reducible assumption | omega)) ?_)
                | (show WD _ _ _ _ _ _ _ _ _; first
                  | refine WD.pure rfl rfl rfl rfl rfl ?_
                  | refine WD.nil ?_
                  | refine WD.add rfl rfl rfl (by omega) rfl rfl rfl rfl ?_
                  | (refine WD.load rfl rfl (LdOk.old hrd (by repeat (first | exact List.Mem.head _ | apply List.Mem.tail)) rfl) rfl rfl rfl rfl ?_)
                  | (refine WD.idxS (j := p + i) (c := c) rfl rfl rfl rfl hc rfl rfl rfl rfl ?_))
                | refine seqQ_n ?_
                | refine seqQ_r ?_
                | refine blkQ_r ?_
                | refine rndQ_r ?_)
              all_goals exact fin3r rfl rfl rfl rfl ⟨hS.upd, varV_ok huv (by omega)⟩
  · have hd : s.drop (p + i) = [] := List.drop_of_length_le (by omega)
    rw [hd]
    have hres : varE [] i x = (0, 0, 2) := rfl
    rw [hres]
    repeat' (first
      | (show WL _ _ _ _ _ _ _; first
        | refine WL.pure rfl rfl rfl rfl ?_
        | refine WL.nil ?_)
      | (show WC _ _ _ _ _ _; first
        | refine WC.seq ?_
        | refine WC.region ?_
        | refine WC.block ?_
        | refine WC.ret ?_
        | (show WC _ _ (Code.region _ (List.toArray [_, _, _, _, _, _, _, _, _, _, _, _]) true) _ _ _; refine WC.drawS hS [0, 1, 2, 3, 4, 5, 6, 7, 8, 9, 10, 11] [0, 1, 2, 3, 4, 5, 6, 7, 8, 9, 10, 11] (by kernel_rfl) (by kernel_rfl) ?_; clear hS; intro w hS hM)
        | refine WC.condT rfl (decide_eq_true (by first | with_reducible assumption | omega)) ?_)
      | (show WD _ _ _ _ _ _ _ _ _; first
        | refine WD.pure rfl rfl rfl rfl rfl ?_
        | refine WD.nil ?_
        | refine WD.add rfl rfl rfl (by omega) rfl rfl rfl rfl ?_
        | (refine WD.load rfl rfl (LdOk.old hrd (by repeat (first | exact List.Mem.head _ | apply List.Mem.tail)) rfl) rfl rfl rfl rfl ?_))
      | refine seqQ_n ?_
      | refine seqQ_r ?_
      | refine blkQ_r ?_
      | refine rndQ_r ?_)
    exact fin3r rfl rfl rfl rfl ⟨hS.upd, rfl⟩

/-! a number from 0 on, and a text -/
def uintE (t : List UInt8) : Nat × Nat × Int := if (varE t 0 0).2.2 = 0 then (if (varE t 0 0).1 < 9223372036854775808 then varE t 0 0 else (0, 0, 3)) else (0, 0, (varE t 0 0).2.2)
/-- the text at the head of the bytes, how many bytes it has with its length, the error -/
def rtextE (t : List UInt8) : List UInt8 × Nat × Int := if (uintE t).2.2 = 0 then (if (uintE t).1 + (uintE t).2.1 ≤ t.length then ((t.drop (uintE t).2.1).take (uintE t).1, (uintE t).1 + (uintE t).2.1, 0) else ([], 0, 2)) else ([], 0, (uintE t).2.2)
abbrev rdC (r : Nat) (s : List UInt8) (p : Nat) : Chunk := .box r 142 (rdCells s p)

set_option maxHeartbeats 8000000 in
set_option maxRecDepth 100000 in
theorem left_c (r : Nat) (s : List UInt8) (p : Nat) (w0 : World) (h : RdAt r s p w0) (hp : p ≤ s.length) (hl : s.length ≤ 1099511627776) : Cal Tryz.prog 68 [.pointer (some ⟨r, 0, none⟩)] w0
    (fun v w' => Upd [] w0 w' ∧ v = .int .i64 ((s.length : Int) - p)) := by
  refine Cal.mk' (by kernel_rfl) Tryz.func68 rfl rfl fun hS => ?_
  have hrd : w0.heap[r]? = some (.cells ⟨[str s, .int .i64 (p : Int)]⟩ 142 (0, 0)) := h
  clear h
  repeat' (first
    | (show WL _ _ _ _ _ _ _; first
      | refine WL.pure rfl rfl rfl rfl ?_
      | refine WL.nil ?_)
    | (show WC _ _ _ _ _ _; first
      | refine WC.seq ?_
      | refine WC.region ?_
      | refine WC.skip ?_
      | refine WC.ret ?_
      | (show WC _ _ (Code.region _ (List.toArray [_, _, _, _, _, _, _, _, _, _, _]) true) _ _ _; refine WC.drawS hS [0, 1, 2, 3, 4, 5, 6, 7, 8, 9, 10] [0, 1, 2, 3, 4, 5, 6, 7, 8, 9, 10] (by kernel_rfl) (by kernel_rfl) ?_; clear hS; intro w hS hM)
      | refine WC.condF rfl (by with_reducible rfl) ?_)
    | (show WD _ _ _ _ _ _ _ _ _; first
      | refine WD.pure rfl rfl rfl rfl rfl ?_
      | refine WD.nil ?_
      | refine WD.sub rfl rfl rfl (by omega) rfl rfl rfl rfl ?_
      | (refine WD.load rfl rfl (LdOk.old hrd (by repeat (first | exact List.Mem.head _ | apply List.Mem.tail)) rfl) rfl rfl rfl rfl ?_))
    | refine seqQ_n ?_)
  exact fin1r rfl rfl ⟨hS.upd, rfl⟩

set_option maxHeartbeats 8000000 in
set_option maxRecDepth 100000 in
theorem uint_c (r : Nat) (s : List UInt8) (p : Nat) (w0 : World) (h : RdAt r s p w0) (hi : inB (rdC r s p) w0) (hp : p ≤ s.length) (hl : s.length ≤ 1099511627776) : Cal Tryz.prog 46 [.pointer (some ⟨r, 0, none⟩)] w0
    (fun v w' => v = .tuple #[.int .i64 ((uintE (s.drop p)).1 : Int), .int .i64 (uintE (s.drop p)).2.2] ∧ Mut w0 w' (rdC r s p) (rdC r s (p + (uintE (s.drop p)).2.1))) := by
  refine Cal.mkM (k := rdC r s p) h hi (by kernel_rfl) Tryz.func46 rfl rfl fun hS => ?_
  have hok := varE_ok (s.drop p) 0 0 (by decide) (by omega)
  have hlen : (s.drop p).length = s.length - p := by simp
  rcases hv : varE (s.drop p) 0 0 with ⟨n, u, e⟩
  have hu : uintE (s.drop p) = if e = 0 then (if n < 9223372036854775808 then (n, u, 0) else (0, 0, 3)) else (0, 0, e) := by unfold uintE; rw [hv]; by_cases he : e = 0 <;> simp [he]
  rw [hv] at hok
  rw [hu]
  clear hu
  by_cases he : e = 0
  · subst he
    obtain ⟨hn, hul⟩ := hok rfl
    dsimp only at hn hul
    clear hok
    rw [if_pos rfl]
    have hvv : varV p (n, u, 0) = .tuple #[.int .u64 (n : Int), .int .i64 ((p + u : Nat) : Int), .int .i64 0] := by simp [varV]
    have hsh : shrI .u64 (n : Int) 63 = ((n / 9223372036854775808 : Nat) : Int) := shrI_nat .u64 n 63 (by decide)
    by_cases h63 : n < 9223372036854775808
    · rw [if_pos h63]
      have h0 : n / 9223372036854775808 = 0 := by omega
      rw [h0] at hsh
      repeat' (first
        | (show WL _ _ _ _ _ _ _; first
          | refine WL.pure rfl rfl rfl rfl ?_
          | refine WL.nil ?_
          | (refine WL.callG rfl rfl (varint_c r s p _ (hS.holds _ (List.Mem.head _)) hp hl) rfl rfl rfl ?_; rintro v w ⟨hu, rfl⟩; have hS := hS.upd0 hu; rw [hv, hvv])
          | (refine WL.shr rfl rfl rfl (by decide) rfl rfl rfl ?_; rw [hsh])
          | refine WL.conv64 rfl rfl rfl (by omega) rfl rfl rfl ?_
          | (refine WL.store hS rfl rfl rfl (by repeat (first | exact StB.here rfl | apply StB.there)) rfl rfl rfl ?_; intro w hS))
        | (show WC _ _ _ _ _ _; first
          | refine WC.seq ?_
          | refine WC.region ?_
          | refine WC.skip ?_
          | refine WC.ret ?_
          | refine WC.condF rfl (by with_reducible rfl) ?_
          | refine WC.condF rfl (by decide) ?_)
        | refine seqQ_n ?_)
      all_goals exact fin2r rfl rfl rfl ⟨rfl, hS.mutOf (List.Mem.head _)⟩
    · rw [if_neg h63]
      have h0 : n / 9223372036854775808 = 1 := by omega
      rw [h0] at hsh
      repeat' (first
        | (show WL _ _ _ _ _ _ _; first
          | refine WL.pure rfl rfl rfl rfl ?_
          | refine WL.nil ?_
          | (refine WL.callG rfl rfl (varint_c r s p _ (hS.holds _ (List.Mem.head _)) hp hl) rfl rfl rfl ?_; rintro v w ⟨hu, rfl⟩; have hS := hS.upd0 hu; rw [hv, hvv])
          | (refine WL.shr rfl rfl rfl (by decide) rfl rfl rfl ?_; rw [hsh]))
        | (show WC _ _ _ _ _ _; first
          | refine WC.seq ?_
          | refine WC.region ?_
          | refine WC.skip ?_
          | refine WC.ret ?_
          | refine WC.condF rfl (by with_reducible rfl) ?_
          | refine WC.condT rfl (by decide) ?_)
        | refine seqQ_n ?_
        | refine seqQ_r ?_)
      all_goals exact fin2r rfl rfl rfl ⟨rfl, hS.mutOf (List.Mem.head _)⟩
  · rw [if_neg he]
    have hvv : varV p (n, u, e) = .tuple #[.int .u64 0, .int .i64 0, .int .i64 e] := by simp [varV, he]
    clear hok
    repeat' (first
      | (show WL _ _ _ _ _ _ _; first
        | refine WL.pure rfl rfl rfl rfl ?_
        | refine WL.nil ?_
        | (refine WL.callG rfl rfl (varint_c r s p _ (hS.holds _ (List.Mem.head _)) hp hl) rfl rfl rfl ?_; rintro v w ⟨hu, rfl⟩; have hS := hS.upd0 hu; rw [hv, hvv])
        | refine WL.skip rfl rfl rfl ?_
        | ((fail_if_success (refine WL.wanted rfl ?_)); refine WL.guard rfl rfl rfl (fun h => ?_) (fun h => ?_) <;> (try simp only [Classical.not_not, Bool.not_eq_true', Bool.not_eq_false', Bool.not_eq_eq_eq_not, Bool.not_true, Bool.not_false, beq_iff_eq, beq_eq_false_iff_ne, ne_eq, decide_eq_decide, decide_eq_true_eq, decide_eq_false_iff_not, Bool.and_eq_true, Bool.or_eq_true, Bool.and_eq_false_iff, Bool.or_eq_false_iff] at h) <;> (try (exfalso; first | omega | contradiction))))
      | (show WC _ _ _ _ _ _; first
        | refine WC.seq ?_
        | refine WC.region ?_
        | refine WC.skip ?_
        | refine WC.ret ?_
        | refine WC.condF rfl (by with_reducible rfl) ?_
        | refine WC.condT rfl (decide_eq_true (by first | with_reducible assumption | omega)) ?_)
      | refine seqQ_n ?_
      | refine seqQ_r ?_)
    all_goals exact fin2r rfl rfl rfl ⟨rfl, hS.mutOf (List.Mem.head _)⟩
end Go.Proofs.YtniacmoniaaolaaGreatDoor

/- What is proved: what a reader of the package wire reads as a text. Conditions: no more than 2^40 bytes. -/
set_option linter.unusedSimpArgs false
set_option linter.unusedVariables false
namespace Go.Proofs.YtniacmoniaaolaaGreatDoor
open Go Go.J Go.RowKit

theorem uintE_ok (t : List UInt8) (h : (uintE t).2.2 = 0) : (uintE t).1 < 9223372036854775808 ∧ (uintE t).2.1 ≤ t.length := by
  have hok := varE_ok t 0 0 (by decide) (by omega)
  unfold uintE at *
  by_cases h1 : (varE t 0 0).2.2 = 0
  · rw [if_pos h1] at h ⊢
    by_cases h2 : (varE t 0 0).1 < 9223372036854775808
    · rw [if_pos h2]
      exact ⟨h2, by have := (hok h1).2; omega⟩
    · rw [if_neg h2] at h; simp at h
  · rw [if_neg h1] at h; exact absurd h h1
theorem uint_e {r : Nat} {s : List UInt8} {p n u : Nat} {e : Int} (hu : uintE (s.drop p) = (n, u, e)) {w0 : World} (h : RdAt r s p w0) (hi : inB (rdC r s p) w0) (hp : p ≤ s.length) (hl : s.length ≤ 1099511627776) : Cal Tryz.prog 46 [.pointer (some ⟨r, 0, none⟩)] w0
    (fun v w' => v = .tuple #[.int .i64 (n : Int), .int .i64 e] ∧ Mut w0 w' (rdC r s p) (rdC r s (p + u))) := by
  have := uint_c r s p w0 h hi hp hl
  rw [hu] at this
  exact this
set_option maxHeartbeats 4000000 in
set_option maxRecDepth 100000 in
theorem wnew_c (s : List UInt8) (w0 : World) : Cal Tryz.prog 45 [str s] w0 (fun v w' => Upd [] w0 w' ∧ ∃ r, v = .pointer (some ⟨r, 0, none⟩) ∧ New w0 w' (rdC r s 0)) := by
  refine Cal.mk' (by kernel_rfl) Tryz.func45 rfl rfl fun hS => ?_
  repeat' (first
    | (show WL _ _ _ _ _ _ _; first
      | refine WL.pure rfl rfl rfl rfl ?_
      | refine WL.nil ?_
      | (refine WL.box hS rfl rfl rfl rfl rfl ?_; intro w b hS)
      | refine WL.build rfl rfl rfl rfl rfl ?_)
    | (show WC _ _ _ _ _ _; first
      | refine WC.seq ?_
      | refine WC.region ?_
      | refine WC.ret ?_)
    | refine seqQ_n ?_)
  exact fin1r rfl rfl ⟨hS.upd, _, rfl, hS.newOf (List.Mem.head _)⟩
set_option maxHeartbeats 8000000 in
set_option maxRecDepth 100000 in
theorem rtext_c (r : Nat) (s : List UInt8) (p : Nat) (w0 : World) (h : RdAt r s p w0) (hi : inB (rdC r s p) w0) (hp : p ≤ s.length) (hl : s.length ≤ 1099511627776) : Cal Tryz.prog 47 [.pointer (some ⟨r, 0, none⟩)] w0
    (fun v w' => v = .tuple #[str (rtextE (s.drop p)).1, .int .i64 (rtextE (s.drop p)).2.2] ∧ Mut w0 w' (rdC r s p) (rdC r s (p + (rtextE (s.drop p)).2.1))) := by
  refine Cal.mkM (k := rdC r s p) h hi (by kernel_rfl) Tryz.func47 rfl rfl fun hS => ?_
  have hlen : (s.drop p).length = s.length - p := by simp
  have hok := uintE_ok (s.drop p)
  rcases hu : uintE (s.drop p) with ⟨n, u, e⟩
  rw [hu] at hok
  have hr : rtextE (s.drop p) = if e = 0 then (if n + u ≤ (s.drop p).length then (((s.drop p).drop u).take n, n + u, 0) else ([], 0, 2)) else ([], 0, e) := by unfold rtextE; rw [hu]
  rw [hr, hlen]
  clear hr
  by_cases he : e = 0
  · subst he
    obtain ⟨hn, hul⟩ := hok rfl
    dsimp only at hn hul
    rw [hlen] at hul
    clear hok
    rw [if_pos rfl]
    by_cases hnu : n + u ≤ s.length - p
    · rw [if_pos hnu]
      have hcut : (s.take (p + u + n)).drop (p + u) = ((s.drop p).drop u).take n := by rw [List.drop_take, List.drop_drop, show p + u + n - (p + u) = n by omega]
      rw [← hcut]
      have hsub : (((p + u : Nat) : Int) + (n : Int)) - (n : Int) = Int.ofNat (p + u) := by show _ = ((p + u : Nat) : Int); omega
      have hend : ((p + u : Nat) : Int) + (n : Int) = ((p + (n + u) : Nat) : Int) := by omega
      repeat' (first
        | (show WL _ _ _ _ _ _ _; first
          | refine WL.pure rfl rfl rfl rfl ?_
          | refine WL.nil ?_
          | refine WL.load hS rfl rfl (LdOk.box (by repeat (first | exact List.Mem.head _ | apply List.Mem.tail)) rfl) rfl rfl rfl ?_
          | refine WL.add rfl rfl rfl (by omega) rfl rfl rfl ?_
          | (refine WL.callG rfl rfl (uint_e hu (hS.holds _ (List.Mem.head _)) (hS.inB_of (List.Mem.head _)) hp hl) rfl rfl rfl ?_; rintro v w ⟨rfl, hmut⟩; have hS := hS.mut hmut .here; clear hmut)
          | (refine WL.callG rfl rfl (left_c r s (p + u) _ (hS.holds _ (List.Mem.head _)) (by omega) hl) rfl rfl rfl ?_; rintro v w ⟨hup, rfl⟩; have hS := hS.upd0 hup; clear hup)
          | (refine WL.store hS rfl rfl rfl (by repeat (first | exact StB.here rfl | apply StB.there)) rfl rfl rfl ?_; intro w hS))
        | (show WC _ _ _ _ _ _; first
          | refine WC.seq ?_
          | refine WC.region ?_
          | refine WC.skip ?_
          | refine WC.ret ?_
          | (show WC _ _ (Code.region _ (List.toArray [_, _, _, _, _, _, _, _, _, _, _, _, _, _, _, _, _]) true) _ _ _; refine WC.drawS hS [0, 1, 2, 3, 4, 5, 6, 7, 8, 9, 10, 11, 12, 13, 14, 15, 16] [0, 1, 2, 3, 4, 5, 6, 7, 8, 9, 10, 11, 12, 13, 14, 15, 16] (by kernel_rfl) (by kernel_rfl) ?_; clear hS; intro w hS hM)
          | refine WC.condF rfl (by with_reducible rfl) ?_
          | refine WC.condF rfl (by decide) ?_
          | refine WC.condF rfl (decide_eq_false (by first | with_reducible assumption | omega)) ?_)
        | (show WD _ _ _ _ _ _ _ _ _; first
          | refine WD.pure rfl rfl rfl rfl rfl ?_
          | refine WD.nil ?_
          | refine WD.load rfl rfl (LdOk.box (by repeat (first | exact List.Mem.head _ | apply List.Mem.tail)) rfl) rfl rfl rfl rfl ?_
          | refine WD.sub rfl rfl rfl (by omega) rfl rfl rfl rfl ?_
          | (refine WD.midS (a := p + u) (b := p + u + n) rfl rfl rfl (congrArg (Value.int .i64) hsub) rfl (by omega) (by omega) rfl rfl rfl rfl ?_))
        | refine seqQ_n ?_)
      rw [hend] at hS
      exact fin2r rfl rfl rfl ⟨rfl, hS.mutOf (List.Mem.head _)⟩
    · rw [if_neg hnu]
      repeat' (first
        | (show WL _ _ _ _ _ _ _; first
          | refine WL.pure rfl rfl rfl rfl ?_
          | refine WL.nil ?_
          | refine WL.load hS rfl rfl (LdOk.box (by repeat (first | exact List.Mem.head _ | apply List.Mem.tail)) rfl) rfl rfl rfl ?_
          | (refine WL.callG rfl rfl (uint_e hu (hS.holds _ (List.Mem.head _)) (hS.inB_of (List.Mem.head _)) hp hl) rfl rfl rfl ?_; rintro v w ⟨rfl, hmut⟩; have hS := hS.mut hmut .here; clear hmut)
          | (refine WL.callG rfl rfl (left_c r s (p + u) _ (hS.holds _ (List.Mem.head _)) (by omega) hl) rfl rfl rfl ?_; rintro v w ⟨hup, rfl⟩; have hS := hS.upd0 hup; clear hup)
          | (refine WL.store hS rfl rfl rfl (by repeat (first | exact StB.here rfl | apply StB.there)) rfl rfl rfl ?_; intro w hS))
        | (show WC _ _ _ _ _ _; first
          | refine WC.seq ?_
          | refine WC.region ?_
          | refine WC.skip ?_
          | refine WC.ret ?_
          | refine WC.condF rfl (by with_reducible rfl) ?_
          | refine WC.condT rfl (by decide) ?_
          | refine WC.condT rfl (decide_eq_true (by first | with_reducible assumption | omega)) ?_)
        | refine seqQ_n ?_
        | refine seqQ_r ?_)
      all_goals exact fin2r rfl rfl rfl ⟨rfl, hS.mutOf (List.Mem.head _)⟩
  · rw [if_neg he]
    repeat' (first
      | (show WL _ _ _ _ _ _ _; first
        | refine WL.pure rfl rfl rfl rfl ?_
        | refine WL.nil ?_
        | refine WL.load hS rfl rfl (LdOk.box (by repeat (first | exact List.Mem.head _ | apply List.Mem.tail)) rfl) rfl rfl rfl ?_
        | (refine WL.callG rfl rfl (uint_e hu (hS.holds _ (List.Mem.head _)) (hS.inB_of (List.Mem.head _)) hp hl) rfl rfl rfl ?_; rintro v w ⟨rfl, hmut⟩; have hS := hS.mut hmut .here; clear hmut)
        | (refine WL.store hS rfl rfl rfl (by repeat (first | exact StB.here rfl | apply StB.there)) rfl rfl rfl ?_; intro w hS)
        | refine WL.skip rfl rfl rfl ?_
        | ((fail_if_success (refine WL.wanted rfl ?_)); refine WL.guard rfl rfl rfl (fun h => ?_) (fun h => ?_) <;> (try simp only [Classical.not_not, Bool.not_eq_true', Bool.not_eq_false', Bool.not_eq_eq_eq_not, Bool.not_true, Bool.not_false, beq_iff_eq, beq_eq_false_iff_ne, ne_eq, decide_eq_decide, decide_eq_true_eq, decide_eq_false_iff_not, Bool.and_eq_true, Bool.or_eq_true, Bool.and_eq_false_iff, Bool.or_eq_false_iff] at h) <;> (try (exfalso; first | omega | contradiction))))
      | (show WC _ _ _ _ _ _; first
        | refine WC.seq ?_
        | refine WC.region ?_
        | refine WC.skip ?_
        | refine WC.ret ?_
        | refine WC.condF rfl (by with_reducible rfl) ?_
        | refine WC.condT rfl (decide_eq_true (by first | with_reducible assumption | omega)) ?_)
      | refine seqQ_n ?_
      | refine seqQ_r ?_)
    all_goals exact fin2r rfl rfl rfl ⟨rfl, hS.mutOf (List.Mem.head _)⟩
theorem rtext_e {r : Nat} {s : List UInt8} {p u : Nat} {t : List UInt8} {e : Int} (hu : rtextE (s.drop p) = (t, u, e)) {w0 : World} (h : RdAt r s p w0) (hi : inB (rdC r s p) w0) (hp : p ≤ s.length) (hl : s.length ≤ 1099511627776) : Cal Tryz.prog 47 [.pointer (some ⟨r, 0, none⟩)] w0
    (fun v w' => v = .tuple #[str t, .int .i64 e] ∧ Mut w0 w' (rdC r s p) (rdC r s (p + u))) := by
  have := rtext_c r s p w0 h hi hp hl
  rw [hu] at this
  exact this
end Go.Proofs.YtniacmoniaaolaaGreatDoor

/- What is proved: plain facts on checksums. Conditions: none. -/
set_option linter.unusedSimpArgs false
set_option linter.unusedVariables false
namespace Go.J
open Go

/-- one bit of the checksum -/
def crcS (c : Nat) : Nat := (c / 2) ^^^ (if c % 2 = 1 then 3988292384 else 0)
def crcN : Nat → Nat → Nat
  | 0, c => c
  | j + 1, c => crcN j (crcS c)
def crcB (c : Nat) (x : UInt8) : Nat := crcN 8 (c ^^^ x.toNat)
def crcL (c : Nat) (s : List UInt8) : Nat := s.foldl crcB c
def sumE (s : List UInt8) : Nat := 4294967295 ^^^ crcL 4294967295 s
def le4 (n : Nat) : List UInt8 := [UInt8.ofNat (n % 256), UInt8.ofNat (n / 256 % 256), UInt8.ofNat (n / 65536 % 256), UInt8.ofNat (n / 16777216 % 256)]
def packE (s : List UInt8) : List UInt8 := textE s ++ le4 (sumE s)
theorem crcS_lt {c : Nat} (h : c < 4294967296) : crcS c < 4294967296 := by
  unfold crcS
  refine Nat.xor_lt_two_pow (n := 32) (by omega) ?_
  split <;> omega
theorem crcN_lt : ∀ (j : Nat) {c : Nat}, c < 4294967296 → crcN j c < 4294967296
  | 0, _, h => h
  | j + 1, _, h => crcN_lt j (crcS_lt h)
theorem crcB_lt {c : Nat} (h : c < 4294967296) (x : UInt8) : crcB c x < 4294967296 :=
  crcN_lt 8 (Nat.xor_lt_two_pow (n := 32) h (by have := x.toNat_lt; omega))
theorem crcL_lt : ∀ (s : List UInt8) {c : Nat}, c < 4294967296 → crcL c s < 4294967296
  | [], _, h => h
  | x :: s, _, h => crcL_lt s (crcB_lt h x)
theorem sumE_lt (s : List UInt8) : sumE s < 4294967296 := Nat.xor_lt_two_pow (n := 32) (by omega) (crcL_lt s (by omega))
theorem crcL_snoc (c : Nat) (s : List UInt8) (x : UInt8) : crcL c (s ++ [x]) = crcB (crcL c s) x := by unfold crcL; rw [List.foldl_append]; rfl
theorem u32_step {c : Nat} (h : c < 4294967296) : bits .xor .u32 (shrI .u32 (c : Int) 1) (bits .and .u32 3988292384 (IntKind.u32.wrap (0 - bits .and .u32 (c : Int) 1))) = ((crcS c : Nat) : Int) := by
  have h1 : bits .and .u32 (c : Int) 1 = ((c % 2 : Nat) : Int) := by
    have := u32_and_nat c 1 h (by omega)
    rw [Nat.and_one_is_mod] at this
    exact this
  have h2 : shrI .u32 (c : Int) 1 = ((c / 2 : Nat) : Int) := shrI_nat .u32 c 1 (by decide)
  rw [h1, h2, IntKind.wrap_u32']
  unfold crcS
  by_cases hp : c % 2 = 1
  · rw [hp, if_pos rfl]
    have h3 : (0 - ((1 : Nat) : Int)) % 4294967296 = ((4294967295 : Nat) : Int) := by decide
    have h4 := u32_and_nat 3988292384 4294967295 (by omega) (by omega)
    rw [h3, show (3988292384 : Int) = ((3988292384 : Nat) : Int) from rfl, h4]
    have h5 : 3988292384 &&& 4294967295 = 3988292384 := by decide
    rw [h5]
    exact u32_xor_nat _ _ (by omega) (by omega)
  · have hp : c % 2 = 0 := by omega
    rw [hp, if_neg (by omega)]
    have h3 : (0 - ((0 : Nat) : Int)) % 4294967296 = ((0 : Nat) : Int) := by decide
    have h4 := u32_and_nat 3988292384 0 (by omega) (by omega)
    rw [h3, show (3988292384 : Int) = ((3988292384 : Nat) : Int) from rfl, h4, Nat.and_zero]
    exact u32_xor_nat _ _ (by omega) (by omega)
theorem u32_mix {c : Nat} (h : c < 4294967296) (x : UInt8) : bits .xor .u32 (c : Int) (IntKind.u32.wrap (x.toNat : Int)) = ((c ^^^ x.toNat : Nat) : Int) := by
  have hx := x.toNat_lt
  have e : IntKind.u32.wrap (x.toNat : Int) = ((x.toNat : Nat) : Int) := by rw [IntKind.wrap_u32']; omega
  rw [e]
  exact u32_xor_nat _ _ h (by omega)
theorem u32_comp {c : Nat} (h : c < 4294967296) : compI .u32 (c : Int) = ((4294967295 ^^^ c : Nat) : Int) := u32_xor_nat 4294967295 c (by omega) h
theorem le4_bytes {n : Nat} (h : n < 4294967296) : [Value.int .u8 (IntKind.u8.wrap (n : Int)), .int .u8 (IntKind.u8.wrap (shrI .u32 (n : Int) 8)), .int .u8 (IntKind.u8.wrap (shrI .u32 (n : Int) 16)), .int .u8 (IntKind.u8.wrap (shrI .u32 (n : Int) 24))] = byteC (le4 n) := by
  have h1 : shrI .u32 (n : Int) 8 = ((n / 256 : Nat) : Int) := shrI_nat .u32 n 8 (by decide)
  have h2 : shrI .u32 (n : Int) 16 = ((n / 65536 : Nat) : Int) := shrI_nat .u32 n 16 (by decide)
  have h3 : shrI .u32 (n : Int) 24 = ((n / 16777216 : Nat) : Int) := shrI_nat .u32 n 24 (by decide)
  have hw : ∀ m : Nat, IntKind.u8.wrap (m : Int) = (((UInt8.ofNat (m % 256)).toNat : Nat) : Int) := fun m => by rw [IntKind.wrap_u8', ofNat_toNat (by omega)]; omega
  rw [h1, h2, h3, hw, hw, hw, hw]
  rfl
end Go.J

/- What is proved: what the package frame reckons and writes. Conditions: as each names them. -/
set_option linter.unusedSimpArgs false
set_option linter.unusedVariables false
namespace Go.Proofs.YtniacmoniaaolaaGreatDoor
open Go Go.J Go.RowKit

set_option maxHeartbeats 4000000 in
set_option maxRecDepth 100000 in
theorem sum_c (s : List UInt8) (w0 : World) (hl : s.length ≤ 1099511627776) : Cal Tryz.prog 55 [str s] w0 (fun v w' => Upd [] w0 w' ∧ v = .int .u32 ((sumE s : Nat) : Int)) := by
  refine Cal.mk' (by kernel_rfl) Tryz.func55 rfl rfl fun hS => ?_
  repeat' (first
    | (show WL _ _ _ _ _ _ _; first
      | refine WL.pure rfl rfl rfl rfl ?_
      | refine WL.nil ?_)
    | (show WC _ _ _ _ _ _; first
      | refine WC.seq ?_
      | refine WC.region ?_
      | refine WC.block ?_)
    | refine seqQ_n ?_)
  refine WC.loop (σ := Nat × Nat) [0, 6] (fun (k, c) => [(3, .int .u32 (c : Int)), (7, .int .i64 (k : Int))]) (fun (k, c) w => k ≤ s.length ∧ c = crcL 4294967295 (s.take k) ∧ St w0 [] w [] _) (fun (k, _) => s.length - k) (0, 4294967295) ⟨Nat.zero_le _, rfl, hS⟩ ⟨rfl, rfl, trivial⟩ ?_
  clear hS
  rintro ⟨k, c⟩ g w ⟨hk, hc, hS⟩
  have hclt : c < 4294967296 := by rw [hc]; exact crcL_lt _ (by omega)
  by_cases hlt : k < s.length
  · have hx : s[k]? = some s[k] := List.getElem?_eq_getElem hlt
    have hnx : crcL 4294967295 (s.take (k + 1)) = crcB c s[k] := by rw [List.take_succ_eq_append_getElem hlt, crcL_snoc, ← hc]
    generalize s[k] = x at *
    clear hc
    have hm := u32_mix hclt x
    have hx0 := crcB_lt hclt x
    have hx1 : c ^^^ x.toNat < 4294967296 := Nat.xor_lt_two_pow (n := 32) hclt (by have := x.toNat_lt; omega)
    repeat' (first
      | (show WL _ _ _ _ _ _ _; first
        | refine WL.pure rfl rfl rfl rfl ?_
        | refine WL.nil ?_
        | refine WL.idxS rfl rfl rfl rfl (by with_reducible assumption) rfl rfl rfl ?_)
      | (show WC _ _ _ _ _ _; first
        | refine WC.seq ?_
        | refine WC.region ?_
        | refine WC.block ?_
        | refine WC.skip ?_
        | refine WC.condT rfl (decide_eq_true (by first | with_reducible assumption | omega)) ?_)
      | refine seqQ_n ?_)
    refine WC.loop (σ := Nat × Nat) [0, 6, 7] (fun (j, e) => [(3, .int .u32 (e : Int)), (16, .int .i64 (j : Int))]) (fun (j, e) w => j ≤ 8 ∧ crcN (8 - j) e = crcB c x ∧ e < 4294967296 ∧ St w0 [] w [] _) (fun (j, _) => 8 - j) (0, c ^^^ x.toNat) ⟨by omega, rfl, hx1, hS⟩ ⟨congrArg (Value.int .u32) hm, rfl, trivial⟩ ?_
    clear hS
    rintro ⟨j, e⟩ g w ⟨hj, he, helt, hS⟩
    by_cases h8 : j < 8
    · have hst := u32_step helt
      repeat' (first
        | (show WL _ _ _ _ _ _ _; first
          | refine WL.pure rfl rfl rfl rfl ?_
          | refine WL.nil ?_
          | refine WL.add rfl rfl rfl (by omega) rfl rfl rfl ?_
          | (refine WL.shr rfl rfl rfl (by decide) rfl rfl rfl ?_))
        | (show WC _ _ _ _ _ _; first
          | refine WC.seq ?_
          | refine WC.region ?_
          | refine WC.block ?_
          | refine WC.skip ?_
          | refine WC.condT rfl (decide_eq_true (by first | with_reducible assumption | omega)) ?_)
        | refine seqQ_n ?_
        | refine blkQ_n ?_)
      exact rndQ_n (j + 1, crcS e) ⟨by omega, by rw [← he, show 8 - j = (8 - (j + 1)) + 1 by omega]; rfl, crcS_lt helt, hS⟩ (by show 8 - (j + 1) < 8 - j; omega) ⟨congrArg (Value.int .u32) hst, vint (by omega), trivial⟩ ⟨rfl, rfl, rfl, trivial⟩
    · obtain rfl : j = 8 := by omega
      have he : e = crcB c x := he
      subst he
      repeat' (first
        | (show WL _ _ _ _ _ _ _; first
          | refine WL.pure rfl rfl rfl rfl ?_
          | refine WL.nil ?_
          | refine WL.add rfl rfl rfl (by omega) rfl rfl rfl ?_)
        | (show WC _ _ _ _ _ _; first
          | refine WC.seq ?_
          | refine WC.region ?_
          | refine WC.exit ?_
          | refine WC.condF rfl (by decide) ?_)
        | refine seqQ_n ?_
        | refine blkQ_n ?_
        | refine seqQ_x ?_
        | refine blkQ_hit rfl ?_
        | refine rndQ_x ?_)
      exact rndQ_n (k + 1, crcB c x) ⟨by omega, hnx.symm, hS⟩ (by show s.length - (k + 1) < s.length - k; omega) ⟨rfl, vint (by omega), trivial⟩ ⟨rfl, rfl, trivial⟩
  · have hks : s.take k = s := List.take_of_length_le (by omega)
    rw [hks] at hc
    subst hc
    have hcm := u32_comp hclt
    repeat' (first
      | (show WL _ _ _ _ _ _ _; first
        | refine WL.pure rfl rfl rfl rfl ?_
        | refine WL.nil ?_
        | (refine WL.comp rfl rfl rfl rfl rfl ?_))
      | (show WC _ _ _ _ _ _; first
        | refine WC.seq ?_
        | refine WC.region ?_
        | refine WC.exit ?_
        | refine WC.ret ?_
        | refine WC.condF rfl (decide_eq_false (by first | with_reducible assumption | omega)) ?_)
      | refine seqQ_n ?_
      | refine seqQ_x ?_
      | refine blkQ_hit rfl ?_
      | refine rndQ_x ?_)
    exact fin1r rfl rfl ⟨hS.upd, congrArg (Value.int .u32) hcm⟩

set_option maxHeartbeats 4000000 in
set_option maxRecDepth 100000 in
theorem pack_c (s : List UInt8) (w0 : World) (hl : s.length ≤ 1099511627776) : Cal Tryz.prog 26 [str s] w0 (fun v w' => Upd [] w0 w' ∧ v = str (packE s)) := by
  refine Cal.mk' (by kernel_rfl) Tryz.func26 rfl rfl fun hS => ?_
  have h4 := le4_bytes (sumE_lt s)
  have hp := putN_len10 (n := s.length) (by omega)
  have htl : (textE s).length = (putN s.length).length + s.length := by unfold textE; simp
  have hl4 : (le4 (sumE s)).length = 4 := rfl
  repeat' (first
    | (show WL _ _ _ _ _ _ _; first
      | refine WL.pure rfl rfl rfl rfl ?_
      | refine WL.nil ?_
      | (refine WL.calls hS rfl rfl (sum_c s _ (by omega)) rfl rfl rfl ?_; rintro v w rfl hS))
    | (show WC _ _ _ _ _ _; first
      | refine WC.seq ?_
      | refine WC.region ?_)
    | refine seqQ_n ?_)
  refine WC.drawP hS [0,2,3,4,5,6,7,8,9,10,11,12,15,16] [0,2,3,4,5,6,7,8,9,10,11,12] (.two 1 [13,14,15,16] .nil 13 [] (.two 1 [14,15,16] .nil 14 [1,15,16] .nil)) (by kernel_rfl) (by kernel_rfl) ?_
  clear hS
  intro w hS hM
  repeat' (first
    | (show WC _ _ _ _ _ _; first
      | refine WC.ret ?_)
    | (show WD _ _ _ _ _ _ _ _ _; first
      | refine WD.pure rfl rfl rfl rfl rfl ?_
      | refine WD.nil ?_
      | (refine WD.shr rfl rfl rfl (by decide) rfl rfl rfl rfl ?_)
      | (refine WD.fork ?_ ?_)
      | (refine WD.calls hS hM rfl rfl (wtext_c s _ (by omega)) rfl rfl rfl rfl rfl ?_; clear hS; rintro v w rfl hS)
      | (refine WD.b2sBox (s := le4 (sumE s)) hS hM rfl rfl (by kernel_rfl) rfl (by repeat (first | exact List.Mem.head _ | apply List.Mem.tail)) h4 rfl (by decide) rfl rfl rfl rfl rfl ?_)
      | (refine WD.cat rfl rfl rfl (by omega) rfl rfl rfl rfl ?_)
      | (refine WD.slit hS hM rfl rfl rfl rfl rfl rfl rfl ?_; intro w b hS hM))
    | (refine WDo.calls hS hM rfl rfl (wtext_c s _ (by omega)) rfl rfl rfl rfl ?_; clear hS; rintro v w rfl hS)
    | (refine WDo.slit hS hM rfl rfl rfl rfl rfl rfl ?_; clear hS hM; intro w b hS hM)
    | (refine WDo.b2sBox (s := le4 (sumE s)) hS hM rfl rfl (by kernel_rfl) rfl (by repeat (first | exact List.Mem.head _ | apply List.Mem.tail)) h4 rfl (by decide) rfl rfl rfl rfl ?_)
    | refine seqQ_n ?_)
  all_goals exact fin1r rfl rfl ⟨hS.upd, rfl⟩
end Go.Proofs.YtniacmoniaaolaaGreatDoor

/- What is proved: what the package frame reads. Conditions: no more than 2^40 bytes. -/
set_option linter.unusedSimpArgs false
set_option linter.unusedVariables false
namespace Go.Proofs.YtniacmoniaaolaaGreatDoor
open Go Go.J Go.RowKit

/-- the text of the frame at the head of the bytes, the frame's length, the error -/
def readE (t : List UInt8) : List UInt8 × Nat × Int :=
  if (rtextE t).2.2 = 0 then (if t.length < (rtextE t).2.1 + 4 then ([], 0, 2) else if packE (rtextE t).1 = t.take ((rtextE t).2.1 + 4) then ((rtextE t).1, (rtextE t).2.1 + 4, 0) else ([], 0, 6)) else ([], 0, (rtextE t).2.2)
def frV (p : Nat) (r : List UInt8 × Nat × Int) : Value := if r.2.2 = 0 then .tuple #[str r.1, .int .i64 ((p + r.2.1 : Nat) : Int), .int .i64 0] else .tuple #[str [], .int .i64 0, .int .i64 r.2.2]
theorem frV_ok {p u : Nat} {x : List UInt8} {b : Int} (hb : b = ((p + u : Nat) : Int)) : Value.tuple #[str x, .int .i64 b, .int .i64 0] = frV p (x, u, 0) := by subst hb; simp [frV]
theorem frV_no {p u : Nat} {x : List UInt8} {e : Int} (he : e ≠ 0) : Value.tuple #[str [], .int .i64 0, .int .i64 e] = frV p (x, u, e) := by simp [frV, he]
theorem rtextE_le (t : List UInt8) (h : (rtextE t).2.2 = 0) : (rtextE t).2.1 ≤ t.length ∧ (rtextE t).1.length ≤ t.length := by
  unfold rtextE at *
  by_cases h1 : (uintE t).2.2 = 0
  · rw [if_pos h1] at h ⊢
    by_cases h2 : (uintE t).1 + (uintE t).2.1 ≤ t.length
    · rw [if_pos h2]; exact ⟨h2, by simp; omega⟩
    · rw [if_neg h2] at h; simp at h
  · rw [if_neg h1] at h; exact absurd h h1

set_option maxHeartbeats 8000000 in
set_option maxRecDepth 100000 in
theorem fread_c (s : List UInt8) (p : Nat) (w0 : World) (hp : p ≤ s.length) (hl : s.length ≤ 1099511627776) : Cal Tryz.prog 32 [str s, .int .i64 (p : Int)] w0
    (fun v w' => Upd [] w0 w' ∧ v = frV p (readE (s.drop p))) := by
  refine Cal.mk' (by kernel_rfl) Tryz.func32 rfl rfl fun hS => ?_
  have hlen : (s.drop p).length = s.length - p := by simp
  have hok := rtextE_le (s.drop p)
  rcases hu : rtextE (s.drop p) with ⟨x, u, e⟩
  rw [hu] at hok
  have hu0 : rtextE ((s.drop p).drop 0) = (x, u, e) := hu
  have hr : readE (s.drop p) = if e = 0 then (if s.length - p < u + 4 then ([], 0, 2) else if packE x = (s.drop p).take (u + 4) then (x, u + 4, 0) else ([], 0, 6)) else ([], 0, e) := by unfold readE; rw [hu, hlen]
  rw [hr]
  clear hr hu
  by_cases he : e = 0
  · subst he
    obtain ⟨hul, hxl⟩ := hok rfl
    dsimp only at hul hxl
    rw [hlen] at hul hxl
    clear hok
    rw [if_pos rfl]
    have hle : (((s.drop p).length : Nat) : Int) - ((0 + u : Nat) : Int) = ((s.length - p - u : Nat) : Int) := by rw [hlen]; omega
    by_cases h4 : s.length - p < u + 4
    · rw [if_pos h4]
      repeat' (first
        | (show WL _ _ _ _ _ _ _; first
          | refine WL.pure rfl rfl rfl rfl ?_
          | refine WL.nil ?_
          | (refine WL.lowS (j := p) rfl rfl rfl rfl (by omega) rfl rfl rfl ?_)
          | (refine WL.callG rfl rfl (wnew_c (s.drop p) _) rfl rfl rfl ?_; rintro v w ⟨hup, r, rfl, hnew⟩; have hS := hS.new hup hnew)
          | (refine WL.callG rfl rfl (rtext_e hu0 (hS.holds _ (List.Mem.head _)) (hS.inB_of (List.Mem.head _)) (by omega) (by omega)) rfl rfl rfl ?_; rintro v w ⟨rfl, hmut⟩; have hS := hS.mut hmut .here; clear hmut)
          | (refine WL.callG rfl rfl (left_c r (s.drop p) (0 + u) _ (hS.holds _ (List.Mem.head _)) (by omega) (by omega)) rfl rfl rfl ?_; rintro v w ⟨hup, rfl⟩; have hS := hS.upd0 hup; clear hup; rw [hle]))
        | (show WC _ _ _ _ _ _; first
          | refine WC.seq ?_
          | refine WC.region ?_
          | refine WC.skip ?_
          | refine WC.ret ?_
          | refine WC.condF rfl (by decide) ?_
          | refine WC.condT rfl (decide_eq_true (by first | with_reducible assumption | omega)) ?_
          | refine WC.condF rfl (decide_eq_false (by first | with_reducible assumption | omega)) ?_)
        | refine seqQ_n ?_
        | refine seqQ_r ?_)
      exact fin3r rfl rfl rfl rfl ⟨hS.upd, frV_no (by decide)⟩
    · rw [if_neg h4]
      have hnext : (s.length : Int) - ((s.length - p - u : Nat) : Int) + 4 = Int.ofNat (p + u + 4) := by show _ = ((p + u + 4 : Nat) : Int); omega
      have hcut : (s.take (p + u + 4)).drop p = (s.drop p).take (u + 4) := by rw [List.drop_take]; congr 1; omega
      by_cases hpk : packE x = (s.drop p).take (u + 4)
      case' pos => rw [if_pos hpk]
      case' neg => rw [if_neg hpk]
      all_goals
        repeat' (first
          | (show WL _ _ _ _ _ _ _; first
            | refine WL.pure rfl rfl rfl rfl ?_
            | refine WL.nil ?_
            | refine WL.add rfl rfl rfl (by omega) rfl rfl rfl ?_
            | refine WL.sub rfl rfl rfl (by omega) rfl rfl rfl ?_
            | (refine WL.lowS (j := p) rfl rfl rfl rfl (by omega) rfl rfl rfl ?_)
            | (refine WL.callG rfl rfl (wnew_c (s.drop p) _) rfl rfl rfl ?_; rintro v w ⟨hup, r, rfl, hnew⟩; have hS := hS.new hup hnew)
            | (refine WL.callG rfl rfl (rtext_e hu0 (hS.holds _ (List.Mem.head _)) (hS.inB_of (List.Mem.head _)) (by omega) (by omega)) rfl rfl rfl ?_; rintro v w ⟨rfl, hmut⟩; have hS := hS.mut hmut .here; clear hmut)
            | (refine WL.callG rfl rfl (left_c r (s.drop p) (0 + u) _ (hS.holds _ (List.Mem.head _)) (by omega) (by omega)) rfl rfl rfl ?_; rintro v w ⟨hup, rfl⟩; have hS := hS.upd0 hup; clear hup; rw [hle]))
          | (show WC _ _ _ _ _ _; first
            | refine WC.seq ?_
            | refine WC.region ?_
            | refine WC.skip ?_
            | refine WC.ret ?_
            | (show WC _ _ (Code.region _ (List.toArray [_, _, _, _, _, _, _]) true) _ _ _; refine WC.drawS hS [0,2,3,4,5,6] [0,2,3,4,5,1,6] (by kernel_rfl) (by kernel_rfl) ?_; clear hS; intro w hS hM)
            | refine WC.condF rfl (by decide) ?_
            | refine WC.condT rfl (decide_eq_true (by first | with_reducible assumption | omega)) ?_
            | refine WC.condF rfl (decide_eq_false (by first | with_reducible assumption | omega)) ?_
            | refine WC.condF rfl (by first | (simp; done) | (simp; omega)) ?_)
          | (show WD _ _ _ _ _ _ _ _ _; first
            | refine WD.pure rfl rfl rfl rfl rfl ?_
            | refine WD.nil ?_
            | (refine WD.midS (a := p) (b := p + u + 4) rfl rfl rfl rfl (congrArg (Value.int .i64) hnext) (by omega) (by omega) rfl rfl rfl rfl ?_; rw [hcut])
            | (refine WD.calls hS hM rfl rfl (pack_c x _ (by omega)) rfl rfl rfl rfl rfl ?_; clear hS; rintro v w rfl hS))
          | refine seqQ_n ?_
          | refine seqQ_r ?_)
        all_goals first
          | exact fin3r rfl rfl rfl rfl ⟨hS.upd, frV_no (by decide)⟩
          | exact fin3r rfl rfl rfl rfl ⟨hS.upd, frV_ok (by omega)⟩
  · rw [if_neg he]
    repeat' (first
      | (show WL _ _ _ _ _ _ _; first
        | refine WL.pure rfl rfl rfl rfl ?_
        | refine WL.nil ?_
        | (refine WL.lowS (j := p) rfl rfl rfl rfl (by omega) rfl rfl rfl ?_)
        | (refine WL.callG rfl rfl (wnew_c (s.drop p) _) rfl rfl rfl ?_; rintro v w ⟨hup, r, rfl, hnew⟩; have hS := hS.new hup hnew)
        | (refine WL.callG rfl rfl (rtext_e hu0 (hS.holds _ (List.Mem.head _)) (hS.inB_of (List.Mem.head _)) (by omega) (by omega)) rfl rfl rfl ?_; rintro v w ⟨rfl, hmut⟩; have hS := hS.mut hmut .here; clear hmut))
      | (show WC _ _ _ _ _ _; first
        | refine WC.seq ?_
        | refine WC.region ?_
        | refine WC.skip ?_
        | refine WC.ret ?_
        | refine WC.condT rfl (decide_eq_true (by first | with_reducible assumption | omega)) ?_
        | refine WC.condF rfl (decide_eq_false (by first | with_reducible assumption | omega)) ?_)
      | refine seqQ_n ?_
      | refine seqQ_r ?_)
    exact fin3r rfl rfl rfl rfl ⟨hS.upd, frV_no he⟩
end Go.Proofs.YtniacmoniaaolaaGreatDoor

/- What is proved: plain facts on texts cut at strokes, on names and on paths. Conditions: none. -/
set_option linter.unusedSimpArgs false
set_option linter.unusedVariables false
namespace Go.J
open Go

/-- a text cut at each stroke; 'one' is what stands ahead -/
def splitA (one : List UInt8) : List UInt8 → List (List UInt8)
  | [] => [one]
  | c :: s => if c = 47 then one :: splitA [] s else splitA (one ++ [c]) s
def splitL (s : List UInt8) : List (List UInt8) := splitA [] s
theorem splitA_len (s : List UInt8) : ∀ one, (splitA one s).length = s.count 47 + 1 := by
  induction s with
  | nil => intro one; simp [splitA]
  | cons c s ih =>
    intro one
    by_cases h : c = 47
    · subst h; simp [splitA, ih]
    · simp [splitA, h, ih, List.count_cons]
theorem splitA_none (s : List UInt8) (h : s.count 47 = 0) : ∀ one, splitA one s = [one ++ s] := by
  induction s with
  | nil => intro one; simp [splitA]
  | cons c s ih =>
    intro one
    rw [List.count_cons] at h
    have hc : c ≠ 47 := by rintro rfl; simp at h
    have h0 : s.count 47 = 0 := by omega
    simp [splitA, hc, ih h0]
/-- where the first stroke stands -/
theorem indexByte_spec (s : List UInt8) (c : UInt8) (h : 0 < s.count c) : ∃ j : Nat, Lib.indexByte s c = (j : Int) ∧ j < s.length ∧ (s.take j).count c = 0 ∧ s[j]? = some c := by
  induction s with
  | nil => simp at h
  | cons b s ih =>
    by_cases hb : b = c
    · exact ⟨0, by simp [Lib.indexByte, hb], by simp, by simp, by simp [hb]⟩
    · rw [List.count_cons] at h
      have h0 : 0 < s.count c := by simpa [hb] using h
      obtain ⟨j, h1, h2, h3, h4⟩ := ih h0
      refine ⟨j + 1, ?_, by simp; omega, ?_, by simpa using h4⟩
      · unfold Lib.indexByte
        have : (b == c) = false := by simpa using hb
        rw [this, h1]
        have h2 : (((j : Nat) : Int) == -1) = false := by rw [beq_eq_false_iff_ne]; omega
        rw [h2]; simp
      · rw [List.take_succ_cons, List.count_cons, h3]; simp [hb]
theorem splitA_first (s : List UInt8) : ∀ (one : List UInt8) (j : Nat), (s.take j).count 47 = 0 → s[j]? = some 47 → splitA one s = (one ++ s.take j) :: splitA [] (s.drop (j + 1)) := by
  induction s with
  | nil => intro one j _ h; simp at h
  | cons c s ih =>
    intro one j h1 h2
    cases j with
    | zero =>
      simp only [List.getElem?_cons_zero, Option.some.injEq] at h2
      subst h2
      simp [splitA]
    | succ j =>
      rw [List.take_succ_cons, List.count_cons] at h1
      have hc : c ≠ 47 := by rintro rfl; simp at h1
      have h0 : (s.take j).count 47 = 0 := by omega
      simp only [List.getElem?_cons_succ] at h2
      simp only [splitA, if_neg hc]
      rw [ih (one ++ [c]) j h0 h2]
      simp
theorem count_first (s : List UInt8) (j : Nat) (h1 : (s.take j).count 47 = 0) (h2 : s[j]? = some 47) : s.count 47 = (s.drop (j + 1)).count 47 + 1 := by
  have hlt : j < s.length := (List.getElem?_eq_some_iff.1 h2).1
  have hj : s[j] = 47 := (List.getElem?_eq_some_iff.1 h2).2
  have e : s = s.take j ++ s[j] :: s.drop (j + 1) := by rw [← List.drop_eq_getElem_cons hlt]; exact (List.take_append_drop j s).symm
  conv => lhs; rw [e]
  rw [List.count_append, List.count_cons, h1, hj]; simp

/-- letters of names -/
def okC (c : UInt8) : Bool := decide (97 ≤ c.toNat ∧ c.toNat ≤ 122 ∨ 48 ≤ c.toNat ∧ c.toNat ≤ 57 ∨ c.toNat = 95)
def nameB (s : List UInt8) : Bool := decide (1 ≤ s.length ∧ s.length ≤ 12) && s.all okC
theorem nameB_no (s : List UInt8) (k : Nat) (h : k < s.length) (hc : okC s[k] = false) : nameB s = false := by
  unfold nameB
  have : s.all okC = false := by
    rw [List.all_eq_false]
    exact ⟨s[k], List.getElem_mem h, by rw [hc]; decide⟩
  rw [this, Bool.and_false]
theorem nameB_len (s : List UInt8) (h : ¬ (1 ≤ s.length ∧ s.length ≤ 12)) : nameB s = false := by
  unfold nameB
  rw [decide_eq_false h, Bool.false_and]
theorem nameB_yes (s : List UInt8) (h : 1 ≤ s.length ∧ s.length ≤ 12) (ha : ∀ k (h : k < s.length), okC s[k] = true) : nameB s = true := by
  unfold nameB
  rw [decide_eq_true h, Bool.true_and, List.all_eq_true]
  intro x hx
  obtain ⟨k, hk, rfl⟩ := List.mem_iff_getElem.1 hx
  exact ha k hk

/-- the answer of a check -/
def checkE (p : List UInt8) (deep : Int) : Int := if deep < ((splitL p).length : Int) then 10 else if (splitL p).all nameB then 0 else 10
theorem checkE_deep (p : List UInt8) (deep : Int) (h : deep < ((splitL p).length : Int)) : checkE p deep = 10 := by unfold checkE; rw [if_pos h]
theorem checkE_no (p : List UInt8) (deep : Int) (k : Nat) (h : k < (splitL p).length) (hn : nameB (splitL p)[k] = false) : checkE p deep = 10 := by
  unfold checkE
  have : (splitL p).all nameB = false := by
    rw [List.all_eq_false]
    exact ⟨_, List.getElem_mem h, by rw [hn]; decide⟩
  rw [this]; simp
theorem checkE_yes (p : List UInt8) (deep : Int) (h : ¬ deep < ((splitL p).length : Int)) (ha : ∀ k (h : k < (splitL p).length), nameB (splitL p)[k] = true) : checkE p deep = 0 := by
  unfold checkE
  rw [if_neg h, if_pos]
  rw [List.all_eq_true]
  intro x hx
  obtain ⟨k, hk, rfl⟩ := List.mem_iff_getElem.1 hx
  exact ha k hk
theorem splitL_pos (p : List UInt8) : 0 < (splitL p).length := by unfold splitL; rw [splitA_len]; omega
theorem checkE_empty (deep : Int) : checkE [] deep = 10 := by
  unfold checkE splitL splitA
  split
  · rfl
  · simp [nameB]

/-- where the last stroke of the first k letters stands; -1 -/
def lastL (s : List UInt8) : Nat → Int
  | 0 => -1
  | k + 1 => if s[k]? = some 47 then (k : Int) else lastL s k
theorem lastL_ge (s : List UInt8) (k : Nat) : -1 ≤ lastL s k ∧ lastL s k < k := by
  induction k with
  | zero => simp [lastL]
  | succ k ih => simp only [lastL]; split <;> omega
def lastE (s : List UInt8) : Int := lastL s s.length
theorem lastE_ge (s : List UInt8) : -1 ≤ lastE s ∧ lastE s < s.length := lastL_ge s s.length
def parentE (s : List UInt8) : List UInt8 := s.take (lastE s).toNat
def baseE (s : List UInt8) : List UInt8 := s.drop (lastE s + 1).toNat
def joinE (a b : List UInt8) : List UInt8 := if a = [] then b else if b = [] then a else a ++ [47] ++ b
def underB (p top : List UInt8) : Bool := decide (top = []) || decide (p = top) || decide (p.take (top.length + 1) = top ++ [47])
def deepE (p : List UInt8) : Int := if p = [] then 0 else (p.count 47 : Nat) + 1
end Go.J

/- What is proved: what Split, Count, Index (at a separator of one letter), LastIndexByte and HasPrefix answer. Conditions: texts of bounded length. -/
set_option linter.unusedSimpArgs false
set_option linter.unusedVariables false
namespace Go.Proofs.YtniacmoniaaolaaGreatDoor
open Go Go.J Go.RowKit

theorem ext_index : ExtIs Tryz.prog 172 Extern.BytealgIndexByte.indexByte := ⟨_, Tryz.func172, by kernel_rfl, by kernel_rfl, by kernel_rfl, by kernel_rfl⟩
theorem ext_count : ExtIs Tryz.prog 130 Extern.BytealgCount.count := ⟨_, Tryz.func130, by kernel_rfl, by kernel_rfl, by kernel_rfl, by kernel_rfl⟩

set_option maxHeartbeats 4000000 in
set_option maxRecDepth 100000 in
theorem sindexByte_c (s : List UInt8) (c : UInt8) (w0 : World) : Cal Tryz.prog 160 [str s, .int .u8 (c.toNat : Int)] w0 (fun v w' => Upd [] w0 w' ∧ v = .int .i64 (Lib.indexByte s c)) := by
  refine Cal.mk' (by kernel_rfl) Tryz.func160 rfl rfl fun hS => ?_
  repeat' (first
    | (show WL _ _ _ _ _ _ _; first
      | refine WL.pure rfl rfl rfl rfl ?_
      | refine WL.nil ?_
      | refine WL.ext rfl rfl ext_index (run_indexByte s c) rfl rfl rfl ?_)
    | (show WC _ _ _ _ _ _; first
      | refine WC.seq ?_
      | refine WC.region ?_
      | refine WC.ret ?_)
    | refine seqQ_n ?_)
  exact fin1r rfl rfl ⟨hS.upd, rfl⟩
set_option maxHeartbeats 4000000 in
set_option maxRecDepth 100000 in
theorem sindex_c (s : List UInt8) (c : UInt8) (w0 : World) : Cal Tryz.prog 144 [str s, str [c]] w0 (fun v w' => Upd [] w0 w' ∧ v = .int .i64 (Lib.indexByte s c)) := by
  refine Cal.mk' (by kernel_rfl) Tryz.func144 rfl rfl fun hS => ?_
  have hc : ([c] : List UInt8)[0]? = some c := rfl
  by_cases hs : [c] = s
  · subst hs
    repeat' (first
      | (show WL _ _ _ _ _ _ _; first
        | refine WL.pure rfl rfl rfl rfl ?_
        | refine WL.nil ?_)
      | (show WC _ _ _ _ _ _; first
        | refine WC.seq ?_
        | refine WC.region ?_
        | refine WC.block ?_
        | refine WC.ret ?_
        | refine WC.condT rfl (by first | (simp; done) | (simp; omega)) ?_)
      | refine seqQ_n ?_
      | refine seqQ_r ?_
      | refine blkQ_r ?_)
    exact fin1r rfl rfl ⟨hS.upd, by simp [Lib.indexByte]⟩
  · repeat' (first
      | (show WL _ _ _ _ _ _ _; first
        | refine WL.pure rfl rfl rfl rfl ?_
        | refine WL.nil ?_
        | (refine WL.calls hS rfl rfl (sindexByte_c s c _) rfl rfl rfl ?_; rintro v w rfl hS)
        | refine WL.idxS rfl rfl rfl rfl (by with_reducible assumption) rfl rfl rfl ?_)
      | (show WC _ _ _ _ _ _; first
        | refine WC.seq ?_
        | refine WC.region ?_
        | refine WC.block ?_
        | refine WC.ret ?_
        | refine WC.condF rfl (decide_eq_false (by first | with_reducible assumption | omega)) ?_
        | refine WC.condT rfl (by first | (simp; done) | (simp; omega)) ?_)
      | refine seqQ_n ?_
      | refine seqQ_r ?_
      | refine blkQ_r ?_)
    exact fin1r rfl rfl ⟨hS.upd, rfl⟩
set_option maxHeartbeats 4000000 in
set_option maxRecDepth 100000 in
theorem index_c (s : List UInt8) (c : UInt8) (w0 : World) : Cal Tryz.prog 131 [str s, str [c]] w0 (fun v w' => Upd [] w0 w' ∧ v = .int .i64 (Lib.indexByte s c)) := by
  refine Cal.mk' (by kernel_rfl) Tryz.func131 rfl rfl fun hS => ?_
  repeat' (first
    | (show WL _ _ _ _ _ _ _; first
      | refine WL.pure rfl rfl rfl rfl ?_
      | refine WL.nil ?_
      | (refine WL.calls hS rfl rfl (sindex_c s c _) rfl rfl rfl ?_; rintro v w rfl hS))
    | (show WC _ _ _ _ _ _; first
      | refine WC.seq ?_
      | refine WC.region ?_
      | refine WC.ret ?_)
    | refine seqQ_n ?_)
  exact fin1r rfl rfl ⟨hS.upd, rfl⟩
set_option maxHeartbeats 4000000 in
set_option maxRecDepth 100000 in
theorem count_c (s : List UInt8) (c : UInt8) (w0 : World) : Cal Tryz.prog 108 [str s, str [c]] w0 (fun v w' => Upd [] w0 w' ∧ v = .int .i64 ((s.count c : Nat) : Int)) := by
  refine Cal.mk' (by kernel_rfl) Tryz.func108 rfl rfl fun hS => ?_
  have hc : ([c] : List UInt8)[0]? = some c := rfl
  repeat' (first
    | (show WL _ _ _ _ _ _ _; first
      | refine WL.pure rfl rfl rfl rfl ?_
      | refine WL.nil ?_
      | refine WL.ext rfl rfl ext_count (run_countByte s c) rfl rfl rfl ?_
      | refine WL.idxS rfl rfl rfl rfl (by with_reducible assumption) rfl rfl rfl ?_)
    | (show WC _ _ _ _ _ _; first
      | refine WC.seq ?_
      | refine WC.region ?_
      | refine WC.skip ?_
      | refine WC.ret ?_
      | refine WC.condT rfl (by first | (simp; done) | (simp; omega)) ?_
      | refine WC.condF rfl (by first | (simp; done) | (simp; omega)) ?_)
    | refine seqQ_n ?_
    | refine seqQ_r ?_)
  exact fin1r rfl rfl ⟨hS.upd, rfl⟩
set_option maxHeartbeats 4000000 in
set_option maxRecDepth 100000 in
theorem hasPrefix_c (s p : List UInt8) (w0 : World) : Cal Tryz.prog 36 [str s, str p] w0 (fun v w' => Upd [] w0 w' ∧ v = .bool (decide (s.take p.length = p))) := by
  have h0 : ∀ w0, Cal Tryz.prog 73 [str s, str p] w0 (fun v w' => Upd [] w0 w' ∧ v = .bool (decide (s.take p.length = p))) := by
    intro w0
    refine Cal.mk' (by kernel_rfl) Tryz.func73 rfl rfl fun hS => ?_
    by_cases hl : p.length ≤ s.length
    · repeat' (first
        | (show WL _ _ _ _ _ _ _; first
          | refine WL.pure rfl rfl rfl rfl ?_
          | refine WL.nil ?_
          | refine WL.highS rfl rfl rfl rfl (by omega) rfl rfl rfl ?_
          | ((fail_if_success (refine WL.wanted rfl ?_)); refine WL.guard rfl rfl rfl (fun h => ?_) (fun h => ?_) <;> (try simp only [Classical.not_not, Bool.not_eq_true', Bool.not_eq_false', Bool.not_eq_eq_eq_not, Bool.not_true, Bool.not_false, beq_iff_eq, beq_eq_false_iff_ne, ne_eq, decide_eq_decide, decide_eq_true_eq, decide_eq_false_iff_not, Bool.and_eq_true, Bool.or_eq_true, Bool.and_eq_false_iff, Bool.or_eq_false_iff] at h) <;> (try (exfalso; first | omega | contradiction))))
        | (show WC _ _ _ _ _ _; first
          | refine WC.seq ?_
          | refine WC.region ?_
          | refine WC.ret ?_)
        | refine seqQ_n ?_)
      exact fin1r rfl rfl ⟨hS.upd, rfl⟩
    · have hne : decide (s.take p.length = p) = false := decide_eq_false fun e => hl (by rw [← e]; simp; omega)
      rw [hne]
      repeat' (first
        | (show WL _ _ _ _ _ _ _; first
          | refine WL.pure rfl rfl rfl rfl ?_
          | refine WL.nil ?_
          | refine WL.skip rfl rfl rfl ?_
          | ((fail_if_success (refine WL.wanted rfl ?_)); refine WL.guard rfl rfl rfl (fun h => ?_) (fun h => ?_) <;> (try simp only [Classical.not_not, Bool.not_eq_true', Bool.not_eq_false', Bool.not_eq_eq_eq_not, Bool.not_true, Bool.not_false, beq_iff_eq, beq_eq_false_iff_ne, ne_eq, decide_eq_decide, decide_eq_true_eq, decide_eq_false_iff_not, Bool.and_eq_true, Bool.or_eq_true, Bool.and_eq_false_iff, Bool.or_eq_false_iff] at h) <;> (try (exfalso; first | omega | contradiction))))
        | (show WC _ _ _ _ _ _; first
          | refine WC.seq ?_
          | refine WC.region ?_
          | refine WC.ret ?_)
        | refine seqQ_n ?_)
      exact fin1r rfl rfl ⟨hS.upd, rfl⟩
  refine Cal.mk' (by kernel_rfl) Tryz.func36 rfl rfl fun hS => ?_
  repeat' (first
    | (show WL _ _ _ _ _ _ _; first
      | refine WL.pure rfl rfl rfl rfl ?_
      | refine WL.nil ?_
      | (refine WL.calls hS rfl rfl (h0 _) rfl rfl rfl ?_; rintro v w rfl hS))
    | (show WC _ _ _ _ _ _; first
      | refine WC.seq ?_
      | refine WC.region ?_
      | refine WC.ret ?_)
    | refine seqQ_n ?_)
  exact fin1r rfl rfl ⟨hS.upd, rfl⟩
theorem lastL_stop (s : List UInt8) (k : Nat) (h : s[k]? = some 47) : lastL s (k + 1) = k := by simp [lastL, h]
theorem lastL_go (s : List UInt8) (k : Nat) (h : s[k]? ≠ some 47) : lastL s (k + 1) = lastL s k := by simp [lastL, h]
set_option maxHeartbeats 4000000 in
set_option maxRecDepth 100000 in
theorem lastIndexByte_c (s : List UInt8) (w0 : World) (hl : s.length ≤ 4611686018427387904) : Cal Tryz.prog 109 [str s, .int .u8 47] w0 (fun v w' => Upd [] w0 w' ∧ v = .int .i64 (lastE s)) := by
  have h0 : ∀ w0, Cal Tryz.prog 132 [str s, .int .u8 47] w0 (fun v w' => Upd [] w0 w' ∧ v = .int .i64 (lastE s)) := by
    intro w0
    refine Cal.mk' (by kernel_rfl) Tryz.func132 rfl rfl fun hS => ?_
    repeat' (first
      | (show WL _ _ _ _ _ _ _; first
        | refine WL.pure rfl rfl rfl rfl ?_
        | refine WL.nil ?_
        | refine WL.sub rfl rfl rfl (by omega) rfl rfl rfl ?_)
      | (show WC _ _ _ _ _ _; first
        | refine WC.seq ?_
        | refine WC.region ?_
        | refine WC.block ?_)
      | refine seqQ_n ?_)
    refine WC.loop (σ := Nat) [0, 1] (fun k => [(5, .int .i64 ((k : Int) - 1))]) (fun k w => k ≤ s.length ∧ lastE s = lastL s k ∧ St w0 [] w _ _) (fun k => k) s.length ⟨Nat.le_refl _, rfl, hS⟩ ⟨rfl, trivial⟩ ?_
    clear hS
    rintro k g w ⟨hk, he, hS⟩
    rcases k with _ | k
    · rw [he]
      repeat' (first
        | (show WL _ _ _ _ _ _ _; first
          | refine WL.pure rfl rfl rfl rfl ?_
          | refine WL.nil ?_)
        | (show WC _ _ _ _ _ _; first
          | refine WC.seq ?_
          | refine WC.region ?_
          | refine WC.exit ?_
          | refine WC.ret ?_
          | refine WC.condF rfl (by decide) ?_)
        | refine seqQ_n ?_
        | refine seqQ_x ?_
        | refine blkQ_hit rfl ?_
        | refine rndQ_x ?_)
      exact fin1r rfl rfl ⟨hS.upd, rfl⟩
    · have hlt : k < s.length := by omega
      have hc : s[k]? = some s[k] := List.getElem?_eq_getElem hlt
      have hst := lastL_stop s k
      have hgo := lastL_go s k
      rw [hc] at hst hgo
      generalize s[k] = c at *
      by_cases h47 : c = 47
      · rw [he, hst (by rw [h47])]
        have h47' : (c.toNat : Int) = 47 := by rw [h47]; rfl
        repeat' (first
          | (show WL _ _ _ _ _ _ _; first
            | refine WL.pure rfl rfl rfl rfl ?_
            | refine WL.nil ?_
            | refine WL.idxS (j := k) rfl rfl rfl (congrArg (Value.int .i64) (pred_ofNat k)) hc rfl rfl rfl ?_)
          | (show WC _ _ _ _ _ _; first
            | refine WC.seq ?_
            | refine WC.region ?_
            | refine WC.block ?_
            | refine WC.skip ?_
            | refine WC.ret ?_
            | refine WC.condT rfl (decide_eq_true (by first | with_reducible assumption | omega)) ?_)
          | refine seqQ_n ?_
          | refine seqQ_r ?_
          | refine blkQ_r ?_
          | refine rndQ_r ?_)
        exact fin1r rfl rfl ⟨hS.upd, vint (by omega)⟩
      · have h47' : ¬ (c.toNat : Int) = 47 := fun e => h47 (UInt8.toNat_inj.1 (by show c.toNat = 47; omega))
        have hgo := hgo (by simpa using h47)
        repeat' (first
          | (show WL _ _ _ _ _ _ _; first
            | refine WL.pure rfl rfl rfl rfl ?_
            | refine WL.nil ?_
            | refine WL.sub rfl rfl rfl (by omega) rfl rfl rfl ?_
            | refine WL.idxS (j := k) rfl rfl rfl (congrArg (Value.int .i64) (pred_ofNat k)) hc rfl rfl rfl ?_)
          | (show WC _ _ _ _ _ _; first
            | refine WC.seq ?_
            | refine WC.region ?_
            | refine WC.block ?_
            | refine WC.skip ?_
            | refine WC.condT rfl (decide_eq_true (by first | with_reducible assumption | omega)) ?_
            | refine WC.condF rfl (decide_eq_false (by first | with_reducible assumption | omega)) ?_)
          | refine seqQ_n ?_
          | refine blkQ_n ?_)
        exact rndQ_n k ⟨by omega, by omega, hS⟩ (by omega) ⟨vint (by omega), trivial⟩ ⟨rfl, rfl, trivial⟩
  refine Cal.mk' (by kernel_rfl) Tryz.func109 rfl rfl fun hS => ?_
  repeat' (first
    | (show WL _ _ _ _ _ _ _; first
      | refine WL.pure rfl rfl rfl rfl ?_
      | refine WL.nil ?_
      | (refine WL.calls hS rfl rfl (h0 _) rfl rfl rfl ?_; rintro v w rfl hS))
    | (show WC _ _ _ _ _ _; first
      | refine WC.seq ?_
      | refine WC.region ?_
      | refine WC.ret ?_)
    | refine seqQ_n ?_)
  exact fin1r rfl rfl ⟨hS.upd, rfl⟩

def strs (l : List (List UInt8)) : List Value := l.flatMap fun s => [str s]
theorem strs_len (l : List (List UInt8)) : (strs l).length = l.length := by unfold strs; rw [flat_len (sz := 1) (fun _ => rfl), Nat.mul_one]
theorem strs_snoc (l : List (List UInt8)) (x : List UInt8) : strs l ++ [str x] = strs (l ++ [x]) := by simp [strs]
theorem strs_put (l : List (List UInt8)) (x : List UInt8) (zs : List Value) (k m : Nat) (hk : l.length = k) :
    (strs l ++ repZ [str []] (m + 1)).take (k * 1) ++ [str x] ++ (strs l ++ repZ [str []] (m + 1)).drop (k * 1 + 1) = strs (l ++ [x]) ++ repZ [str []] m := by
  have h1 : (strs l).length = k := by rw [strs_len, hk]
  rw [Nat.mul_one, List.take_append_of_le_length (by omega), List.take_of_length_le (by omega), List.drop_append, List.drop_of_length_le (by omega), List.nil_append, h1, show k + 1 - k = 1 by omega]
  rw [← strs_snoc]
  rfl
set_option maxHeartbeats 8000000 in
set_option maxRecDepth 100000 in
theorem split_c (s : List UInt8) (w0 : World) (hl : s.length ≤ 4611686018427) : Cal Tryz.prog 106 [str s, str [47]] w0
    (fun v w' => Upd [] w0 w' ∧ ∃ A cap, v = .slice A (splitL s).length cap ∧ New w0 w' (.own (.slice A (splitL s).length cap) 9 1 (splitL s).length (strs (splitL s)))) := by
  have h0 : ∀ w0, Cal Tryz.prog 128 [str s, str [47], .int .i64 0, .int .i64 (-1)] w0
      (fun v w' => Upd [] w0 w' ∧ ∃ A cap, v = .slice A (splitL s).length cap ∧ New w0 w' (.own (.slice A (splitL s).length cap) 9 1 (splitL s).length (strs (splitL s)))) := by
    intro w0
    refine Cal.mk' (by kernel_rfl) Tryz.func128 rfl rfl fun hS => ?_
    have hcl : s.count 47 ≤ s.length := List.count_le_length
    have hsep : ([47] : List UInt8).length = 1 := rfl
    have hmin : min ((s.count 47 : Int) + 1) ((s.length : Int) + 1) = ((s.count 47 + 1 : Nat) : Int) := by omega
    repeat' (first
      | (show WL _ _ _ _ _ _ _; first
        | refine WL.pure rfl rfl rfl rfl ?_
        | refine WL.nil ?_
        | refine WL.add rfl rfl rfl (by omega) rfl rfl rfl ?_
        | refine WL.sub rfl rfl rfl (by omega) rfl rfl rfl ?_
        | (refine WL.calls hS rfl rfl (count_c s 47 _) rfl rfl rfl ?_; rintro v w rfl hS)
        | (refine WL.minI rfl rfl rfl rfl rfl rfl ?_; rw [hmin])
        | (refine WL.mkS (n := s.count 47 + 1) hS rfl rfl ⟨_, rfl, rfl⟩ rfl rfl (by omega) rfl rfl rfl ?_; intro w b hS))
      | (show WC _ _ _ _ _ _; first
        | refine WC.seq ?_
        | refine WC.region ?_
        | refine WC.block ?_
        | refine WC.skip ?_
        | refine WC.condT rfl (by decide) ?_
        | refine WC.condF rfl (by decide) ?_)
      | refine seqQ_n ?_)
    refine WC.loop (σ := List (List UInt8) × List UInt8 × List Value) [1, 2, 3, 9] (fun (done, r, xs) => [(0, str r), (10, .int .i64 (done.length : Int))])
      (fun (done, r, xs) w => done.length + r.count 47 = s.count 47 ∧ splitL s = done ++ splitL r ∧ r.length ≤ s.length ∧ xs = strs done ++ repZ [str []] (r.count 47 + 1) ∧ St w0 [] w [.own _ 9 1 _ xs] _)
      (fun (done, r, xs) => r.count 47) ([], s, _) ⟨by simp, rfl, Nat.le_refl _, rfl, hS⟩ ⟨rfl, rfl, trivial⟩ ?_
    clear hS
    rintro ⟨done, r, xs⟩ g w ⟨hk, hsp, hrl, hx, hS⟩
    have hxl := (hS.own_len (List.Mem.head _)).1
    by_cases hlt : 0 < r.count 47
    · obtain ⟨j, hj1, hj2, hj3, hj4⟩ := indexByte_spec r 47 hlt
      have hcf := count_first r j hj3 hj4
      have hsf := splitA_first r [] j hj3 hj4
      obtain ⟨m, hm⟩ : ∃ m, r.count 47 = m + 1 := ⟨r.count 47 - 1, by omega⟩
      rw [hm] at hx
      have hp := strs_put done (r.take j) [] done.length (m + 1) rfl
      repeat' (first
        | (show WL _ _ _ _ _ _ _; first
          | refine WL.pure rfl rfl rfl rfl ?_
          | refine WL.nil ?_
          | refine WL.add rfl rfl rfl (by omega) rfl rfl rfl ?_
          | (refine WL.calls hS rfl rfl (index_c r 47 _) rfl rfl rfl ?_; rintro v w rfl hS; rw [hj1])
          | refine WL.highS (j := j) rfl rfl rfl (congrArg (Value.int .i64) (Int.add_zero _)) (by omega) rfl rfl rfl ?_
          | refine WL.lowS (j := j + 1) rfl rfl rfl (show Value.int .i64 ((j : Int) + (([47] : List UInt8).length : Int)) = .int .i64 (Int.ofNat (j + 1)) from rfl) (by omega) rfl rfl rfl ?_
          | (refine WL.storeOwn hS rfl rfl rfl (by repeat (first | exact Repl.here | apply Repl.there)) (by show done.length * 1 + 1 ≤ _; omega) rfl rfl rfl rfl ?_; intro w hS)
          | refine WL.index rfl rfl rfl rfl (by first | with_reducible assumption | omega) rfl rfl rfl rfl ?_)
        | (show WC _ _ _ _ _ _; first
          | refine WC.seq ?_
          | refine WC.region ?_
          | refine WC.block ?_
          | refine WC.skip ?_
          | refine WC.condT rfl (decide_eq_true (by first | with_reducible assumption | omega)) ?_
          | refine WC.condF rfl (decide_eq_false (by first | with_reducible assumption | omega)) ?_)
        | refine seqQ_n ?_
        | refine blkQ_n ?_)
      rw [hx] at hS
      have hS : St _ _ _ [.own _ _ _ _ _] _ := hS
      exact rndQ_n (done ++ [r.take j], r.drop (j + 1), _) ⟨by simp; omega, by rw [hsp]; unfold splitL; rw [hsf]; simp, by simp; omega, by rw [show (r.drop (j + 1)).count 47 + 1 = m + 1 by omega]; exact hp, hS⟩ (by show (r.drop (j + 1)).count 47 < r.count 47; omega) ⟨rfl, vint (by simp), trivial⟩ ⟨rfl, rfl, rfl, rfl, trivial⟩
    · have h47 : r.count 47 = 0 := by omega
      have hsn := splitA_none r h47 []
      rw [h47] at hx
      have hp := strs_put done r [] done.length 0 rfl
      have hle : (splitL s).length = done.length + 1 := by rw [hsp]; unfold splitL; rw [hsn]; simp
      have hfull : splitL s = done ++ [r] := by rw [hsp]; unfold splitL; rw [hsn]; simp
      rw [hle, hfull]
      repeat' (first
        | (show WL _ _ _ _ _ _ _; first
          | refine WL.pure rfl rfl rfl rfl ?_
          | refine WL.nil ?_
          | refine WL.add rfl rfl rfl (by omega) rfl rfl rfl ?_
          | (refine WL.storeOwn hS rfl rfl rfl (by repeat (first | exact Repl.here | apply Repl.there)) (by show done.length * 1 + 1 ≤ _; omega) rfl rfl rfl rfl ?_; intro w hS)
          | (refine WL.sliceHigh (j := done.length + 1) hS rfl rfl rfl rfl (by repeat (first | exact Repl.here | apply Repl.there)) (by omega) (by omega) rfl rfl rfl ?_; intro hS)
          | refine WL.index rfl rfl rfl rfl (by first | with_reducible assumption | omega) rfl rfl rfl rfl ?_)
        | (show WC _ _ _ _ _ _; first
          | refine WC.seq ?_
          | refine WC.region ?_
          | refine WC.exit ?_
          | refine WC.ret ?_
          | refine WC.condF rfl (decide_eq_false (by first | with_reducible assumption | omega)) ?_)
        | refine seqQ_n ?_
        | refine seqQ_x ?_
        | refine blkQ_hit rfl ?_
        | refine rndQ_x ?_)
      have he : ((strs (done ++ [r]) ++ repZ [str []] 0).take ((done.length + 1) * 1)) = strs (done ++ [r]) := by
        simp only [repZ, List.append_nil, Nat.mul_one]
        exact List.take_of_length_le (by rw [strs_len]; simp)
      rw [hx] at hS
      have hS2 : St w0 [] w [.own (.slice (some ⟨b, 0, none⟩) (done.length + 1) (s.count 47 + 1)) 9 1 (done.length + 1) (strs (done ++ [r]))] [⟨w0, Old w0⟩] := by rw [← he, ← hp]; exact hS
      exact fin1r rfl rfl ⟨hS2.upd, _, _, rfl, hS2.newOf (List.Mem.head _)⟩
  refine Cal.mk' (by kernel_rfl) Tryz.func106 rfl rfl fun hS => ?_
  repeat' (first
    | (show WL _ _ _ _ _ _ _; first
      | refine WL.pure rfl rfl rfl rfl ?_
      | refine WL.nil ?_
      | (refine WL.callG rfl rfl (h0 _) rfl rfl rfl ?_; rintro v w ⟨hu, A, cap, rfl, hn⟩; have hS := hS.new hu hn; clear hu hn))
    | (show WC _ _ _ _ _ _; first
      | refine WC.seq ?_
      | refine WC.region ?_
      | refine WC.ret ?_)
    | refine seqQ_n ?_)
  exact fin1r rfl rfl ⟨hS.upd, A, cap, rfl, hS.newOf (List.Mem.head _)⟩
end Go.Proofs.YtniacmoniaaolaaGreatDoor

/- What is proved: what the program's and the reference's functions on paths answer. Conditions: texts of bounded length. -/
set_option linter.unusedSimpArgs false
set_option linter.unusedVariables false
namespace Go.Proofs.YtniacmoniaaolaaGreatDoor
open Go Go.J Go.RowKit

theorem okC_cases (c : UInt8) : (okC c = true ∧ (97 ≤ c.toNat ∧ c.toNat ≤ 122)) ∨ (okC c = true ∧ (48 ≤ c.toNat ∧ c.toNat ≤ 57)) ∨ (okC c = true ∧ c.toNat = 95) ∨ (okC c = false ∧ ¬ (97 ≤ c.toNat ∧ c.toNat ≤ 122) ∧ ¬ (48 ≤ c.toNat ∧ c.toNat ≤ 57) ∧ c.toNat ≠ 95) := by
  unfold okC
  by_cases h1 : 97 ≤ c.toNat ∧ c.toNat ≤ 122
  · exact .inl ⟨decide_eq_true (.inl h1), h1⟩
  · by_cases h2 : 48 ≤ c.toNat ∧ c.toNat ≤ 57
    · exact .inr (.inl ⟨decide_eq_true (.inr (.inl h2)), h2⟩)
    · by_cases h3 : c.toNat = 95
      · exact .inr (.inr (.inl ⟨decide_eq_true (.inr (.inr h3)), h3⟩))
      · exact .inr (.inr (.inr ⟨decide_eq_false (fun h => by rcases h with h | h | h <;> contradiction), h1, h2, h3⟩))

set_option maxHeartbeats 8000000 in
set_option maxRecDepth 100000 in
theorem pname_c (s : List UInt8) (w0 : World) (hl : s.length ≤ 4611686018427) : Cal Tryz.prog 107 [str s] w0 (fun v w' => Upd [] w0 w' ∧ v = .bool (nameB s)) := by
  refine Cal.mk' (by kernel_rfl) Tryz.func107 rfl rfl fun hS => ?_
  by_cases hb : 1 ≤ s.length ∧ s.length ≤ 12
  · have hne : ¬ s = [] := by rintro rfl; simp at hb
    repeat' (first
      | (show WL _ _ _ _ _ _ _; first
        | refine WL.pure rfl rfl rfl rfl ?_
        | refine WL.nil ?_
        | (refine WL.rangeS hS rfl rfl rfl rfl rfl rfl ?_; intro w b hS)
        | ((fail_if_success (refine WL.wanted rfl ?_)); refine WL.guard rfl rfl rfl (fun h => ?_) (fun h => ?_) <;> (try simp only [Classical.not_not, Bool.not_eq_true', Bool.not_eq_false', Bool.not_eq_eq_eq_not, Bool.not_true, Bool.not_false, beq_iff_eq, beq_eq_false_iff_ne, ne_eq, decide_eq_decide, decide_eq_true_eq, decide_eq_false_iff_not, Bool.and_eq_true, Bool.or_eq_true, Bool.and_eq_false_iff, Bool.or_eq_false_iff] at h) <;> (try (exfalso; first | omega | contradiction))))
      | (show WC _ _ _ _ _ _; first
        | refine WC.seq ?_
        | refine WC.region ?_
        | refine WC.block ?_
        | refine WC.skip ?_
        | refine WC.condF rfl (decide_eq_false (by first | with_reducible assumption | omega)) ?_)
      | refine seqQ_n ?_)
    refine WC.loop (σ := Nat) [13] (fun k => []) (fun k w => k ≤ s.length ∧ (∀ j (h : j < s.length), j < k → okC s[j] = true) ∧ St w0 [] w [itC _ s k] _) (fun k => s.length - k) 0 ⟨Nat.zero_le _, fun j h hj => absurd hj (Nat.not_lt_zero _), hS⟩ trivial ?_
    clear hS
    rintro k g w ⟨hk, hall, hS⟩
    obtain ⟨Hall, rfl⟩ : ∃ h : (∀ j (h : j < s.length), j < k → okC s[j] = true), h = hall := ⟨_, rfl⟩
    by_cases hlt : k < s.length
    · have hno := nameB_no s k hlt
      have hnx : okC s[k] = true → ∀ j (h : j < s.length), j < k + 1 → okC s[j] = true := fun ho j h hj => if e : j = k then (by subst e; exact ho) else Hall j h (by omega)
      clear Hall
      by_cases h8 : s[k].toNat < 128
      · have hdec := decode_small s k hlt h8
        generalize s[k] = c at *
        rcases okC_cases c with ⟨ho, h1, h2⟩ | ⟨ho, h1, h2⟩ | ⟨ho, h1⟩ | ⟨ho, h1, h2, h3⟩
        case' inr.inr.inr => rw [hno ho]
        all_goals
          clear hno
          repeat' (first
            | (show WL _ _ _ _ _ _ _; first
              | refine WL.pure rfl rfl rfl rfl ?_
              | refine WL.nil ?_
              | (refine WL.nextS hS rfl rfl (by repeat (first | exact Repl.here | apply Repl.there)) hlt hdec rfl rfl rfl ?_; intro w hS)
              | refine WL.skip rfl rfl rfl ?_
              | ((fail_if_success (refine WL.wanted rfl ?_)); refine WL.guard rfl rfl rfl (fun h => ?_) (fun h => ?_) <;> (try simp only [Classical.not_not, Bool.not_eq_true', Bool.not_eq_false', Bool.not_eq_eq_eq_not, Bool.not_true, Bool.not_false, beq_iff_eq, beq_eq_false_iff_ne, ne_eq, decide_eq_decide, decide_eq_true_eq, decide_eq_false_iff_not, Bool.and_eq_true, Bool.or_eq_true, Bool.and_eq_false_iff, Bool.or_eq_false_iff] at h) <;> (try (exfalso; first | omega | contradiction))))
            | (show WC _ _ _ _ _ _; first
              | refine WC.seq ?_
              | refine WC.region ?_
              | refine WC.block ?_
              | refine WC.skip ?_
              | refine WC.ret ?_
              | refine WC.condT rfl (by with_reducible rfl) ?_
              | refine WC.condF rfl (by with_reducible rfl) ?_
              | refine WC.condT rfl (decide_eq_true (by first | with_reducible assumption | omega)) ?_
              | refine WC.condF rfl (decide_eq_false (by first | with_reducible assumption | omega)) ?_)
            | refine seqQ_n ?_
            | refine blkQ_n ?_
            | refine seqQ_r ?_
            | refine blkQ_r ?_
            | refine rndQ_r ?_)
          all_goals first
            | exact rndQ_n (k + 1) ⟨by omega, hnx ho, hS⟩ (by omega) trivial ⟨rfl, trivial⟩
            | exact fin1r rfl rfl ⟨hS.upd, rfl⟩
      · have hdec := decode_big s k hlt h8
        have ho : okC s[k] = false := by unfold okC; exact decide_eq_false (by omega)
        rw [hno ho]
        rcases hde : Utf8.decode ⟨⟨s⟩⟩ k with ⟨c, width⟩
        rw [hde] at hdec
        obtain ⟨hd1, hd2⟩ := hdec
        dsimp only at hd1 hd2
        clear hno hnx ho
        repeat' (first
          | (show WL _ _ _ _ _ _ _; first
            | refine WL.pure rfl rfl rfl rfl ?_
            | refine WL.nil ?_
            | (refine WL.nextS hS rfl rfl (by repeat (first | exact Repl.here | apply Repl.there)) hlt hde rfl rfl rfl ?_; intro w hS)
            | ((fail_if_success (refine WL.wanted rfl ?_)); refine WL.guard rfl rfl rfl (fun h => ?_) (fun h => ?_) <;> (try simp only [Classical.not_not, Bool.not_eq_true', Bool.not_eq_false', Bool.not_eq_eq_eq_not, Bool.not_true, Bool.not_false, beq_iff_eq, beq_eq_false_iff_ne, ne_eq, decide_eq_decide, decide_eq_true_eq, decide_eq_false_iff_not, Bool.and_eq_true, Bool.or_eq_true, Bool.and_eq_false_iff, Bool.or_eq_false_iff] at h) <;> (try (exfalso; first | omega | contradiction))))
          | (show WC _ _ _ _ _ _; first
            | refine WC.seq ?_
            | refine WC.region ?_
            | refine WC.block ?_
            | refine WC.skip ?_
            | refine WC.ret ?_
            | refine WC.condT rfl (by with_reducible rfl) ?_
            | refine WC.condT rfl (decide_eq_true (by first | with_reducible assumption | omega)) ?_)
          | refine seqQ_n ?_
          | refine seqQ_r ?_
          | refine blkQ_r ?_
          | refine rndQ_r ?_)
        all_goals exact fin1r rfl rfl ⟨hS.upd, rfl⟩
    · have hke : k = s.length := by omega
      subst hke
      rw [nameB_yes s hb fun j h => Hall j h h]
      clear Hall
      repeat' (first
        | (show WL _ _ _ _ _ _ _; first
          | refine WL.pure rfl rfl rfl rfl ?_
          | refine WL.nil ?_
          | refine WL.nextS_end hS rfl rfl (by repeat (first | exact List.Mem.head _ | apply List.Mem.tail)) (Nat.le_refl _) rfl rfl rfl ?_)
        | (show WC _ _ _ _ _ _; first
          | refine WC.seq ?_
          | refine WC.region ?_
          | refine WC.exit ?_
          | refine WC.ret ?_
          | refine WC.condF rfl (by with_reducible rfl) ?_)
        | refine seqQ_n ?_
        | refine seqQ_x ?_
        | refine blkQ_hit rfl ?_
        | refine rndQ_x ?_)
      exact fin1r rfl rfl ⟨hS.upd, rfl⟩
  · rw [nameB_len s hb]
    have hcase : s = [] ∨ (¬ s = [] ∧ 12 < s.length) := by
      rcases s with _ | ⟨a, s⟩
      · exact .inl rfl
      · refine .inr ⟨by simp, ?_⟩
        simp only [List.length_cons] at hb ⊢
        omega
    rcases hcase with rfl | ⟨hne, h12⟩
    all_goals
      repeat' (first
        | (show WL _ _ _ _ _ _ _; first
          | refine WL.pure rfl rfl rfl rfl ?_
          | refine WL.nil ?_
          | refine WL.skip rfl rfl rfl ?_
          | ((fail_if_success (refine WL.wanted rfl ?_)); refine WL.guard rfl rfl rfl (fun h => ?_) (fun h => ?_) <;> (try simp only [Classical.not_not, Bool.not_eq_true', Bool.not_eq_false', Bool.not_eq_eq_eq_not, Bool.not_true, Bool.not_false, beq_iff_eq, beq_eq_false_iff_ne, ne_eq, decide_eq_decide, decide_eq_true_eq, decide_eq_false_iff_not, Bool.and_eq_true, Bool.or_eq_true, Bool.and_eq_false_iff, Bool.or_eq_false_iff] at h) <;> (try (exfalso; first | omega | contradiction))))
        | (show WC _ _ _ _ _ _; first
          | refine WC.seq ?_
          | refine WC.region ?_
          | refine WC.ret ?_
          | refine WC.condT rfl (by with_reducible rfl) ?_
          | refine WC.condT rfl (decide_eq_true (by first | with_reducible assumption | omega)) ?_)
        | refine seqQ_n ?_
        | refine seqQ_r ?_)
      all_goals exact fin1r rfl rfl ⟨hS.upd, rfl⟩

theorem strs_at {l : List (List UInt8)} {k : Nat} (h : k < l.length) : (strs l)[k]? = some (str l[k]) := by
  induction l generalizing k with
  | nil => simp at h
  | cons a l ih =>
    cases k with
    | zero => rfl
    | succ k => simpa [strs] using ih (by simpa using h)
theorem splitA_max (s : List UInt8) : ∀ one x, x ∈ splitA one s → x.length ≤ one.length + s.length := by
  induction s with
  | nil => intro one x h; simp [splitA] at h; subst h; simp
  | cons c s ih =>
    intro one x h
    simp only [splitA] at h
    split at h
    · rcases List.mem_cons.1 h with rfl | h
      · simp
      · have := ih [] x h; simp at this ⊢; omega
    · have := ih _ x h; simp at this ⊢; omega
theorem splitL_max (s : List UInt8) (k : Nat) (h : k < (splitL s).length) : (splitL s)[k].length ≤ s.length := by
  have := splitA_max s [] _ (List.getElem_mem h)
  simpa using this

set_option maxHeartbeats 8000000 in
set_option maxRecDepth 100000 in
theorem pcheck_c (p : List UInt8) (deep : Int) (w0 : World) (hl : p.length ≤ 4611686018) : Cal Tryz.prog 76 [str p, .int .i64 deep] w0 (fun v w' => Upd [] w0 w' ∧ v = .int .i64 (checkE p deep)) := by
  refine Cal.mk' (by kernel_rfl) Tryz.func76 rfl rfl fun hS => ?_
  have hsl := splitA_len p []
  have hcl : p.count 47 ≤ p.length := List.count_le_length
  change (splitL p).length = _ at hsl
  by_cases hp : p = []
  · subst hp
    rw [checkE_empty]
    repeat' (first
      | (show WL _ _ _ _ _ _ _; first
        | refine WL.pure rfl rfl rfl rfl ?_
        | refine WL.nil ?_
        | refine WL.skip rfl rfl rfl ?_)
      | (show WC _ _ _ _ _ _; first
        | refine WC.seq ?_
        | refine WC.region ?_
        | refine WC.ret ?_
        | refine WC.condT rfl (by with_reducible rfl) ?_)
      | refine seqQ_n ?_
      | refine seqQ_r ?_)
    exact fin1r rfl rfl ⟨hS.upd, rfl⟩
  · by_cases hd : deep < ((splitL p).length : Int)
    · rw [checkE_deep p deep hd]
      repeat' (first
        | (show WL _ _ _ _ _ _ _; first
          | refine WL.pure rfl rfl rfl rfl ?_
          | refine WL.nil ?_
          | (refine WL.callG rfl rfl (split_c p _ (by omega)) rfl rfl rfl ?_; rintro v w ⟨hu, A, cap, rfl, hn⟩; have hS := hS.new hu hn; clear hu hn)
          | ((fail_if_success (refine WL.wanted rfl ?_)); refine WL.guard rfl rfl rfl (fun h => ?_) (fun h => ?_) <;> (try simp only [Classical.not_not, Bool.not_eq_true', Bool.not_eq_false', Bool.not_eq_eq_eq_not, Bool.not_true, Bool.not_false, beq_iff_eq, beq_eq_false_iff_ne, ne_eq, decide_eq_decide, decide_eq_true_eq, decide_eq_false_iff_not, Bool.and_eq_true, Bool.or_eq_true, Bool.and_eq_false_iff, Bool.or_eq_false_iff] at h) <;> (try (exfalso; first | omega | contradiction))))
        | (show WC _ _ _ _ _ _; first
          | refine WC.seq ?_
          | refine WC.region ?_
          | refine WC.skip ?_
          | refine WC.ret ?_
          | refine WC.condT rfl (decide_eq_true (by first | with_reducible assumption | omega)) ?_
          | (refine WC.cond rfl (fun h => ?_) (fun h => ?_) <;> (try simp only [Classical.not_not, Bool.not_eq_true', Bool.not_eq_false', Bool.not_eq_eq_eq_not, Bool.not_true, Bool.not_false, beq_iff_eq, beq_eq_false_iff_ne, ne_eq, decide_eq_decide, decide_eq_true_eq, decide_eq_false_iff_not, Bool.and_eq_true, Bool.or_eq_true, Bool.and_eq_false_iff, Bool.or_eq_false_iff] at h) <;> (try (exfalso; first | omega | contradiction))))
        | refine seqQ_n ?_
        | refine seqQ_r ?_)
      all_goals exact fin1r rfl rfl ⟨hS.upd, rfl⟩
    · repeat' (first
        | (show WL _ _ _ _ _ _ _; first
          | refine WL.pure rfl rfl rfl rfl ?_
          | refine WL.nil ?_
          | (refine WL.callG rfl rfl (split_c p _ (by omega)) rfl rfl rfl ?_; rintro v w ⟨hu, A, cap, rfl, hn⟩; have hS := hS.new hu hn; clear hu hn)
          | ((fail_if_success (refine WL.wanted rfl ?_)); refine WL.guard rfl rfl rfl (fun h => ?_) (fun h => ?_) <;> (try simp only [Classical.not_not, Bool.not_eq_true', Bool.not_eq_false', Bool.not_eq_eq_eq_not, Bool.not_true, Bool.not_false, beq_iff_eq, beq_eq_false_iff_ne, ne_eq, decide_eq_decide, decide_eq_true_eq, decide_eq_false_iff_not, Bool.and_eq_true, Bool.or_eq_true, Bool.and_eq_false_iff, Bool.or_eq_false_iff] at h) <;> (try (exfalso; first | omega | contradiction))))
        | (show WC _ _ _ _ _ _; first
          | refine WC.seq ?_
          | refine WC.region ?_
          | refine WC.block ?_
          | refine WC.skip ?_
          | refine WC.condF rfl (decide_eq_false (by first | with_reducible assumption | omega)) ?_)
        | refine seqQ_n ?_)
      refine WC.loop (σ := Nat) [20, 21] (fun k => [(22, .int .i64 (k : Int))]) (fun k w => k ≤ (splitL p).length ∧ (∀ j (h : j < (splitL p).length), j < k → nameB (splitL p)[j] = true) ∧ St w0 [] w [_] _) (fun k => (splitL p).length - k) 0 ⟨Nat.zero_le _, fun j h hj => absurd hj (Nat.not_lt_zero _), hS⟩ ⟨rfl, trivial⟩ ?_
      clear hS
      rintro k g w ⟨hk, hall, hS⟩
      obtain ⟨Hall, rfl⟩ : ∃ h : (∀ j (h : j < (splitL p).length), j < k → nameB (splitL p)[j] = true), h = hall := ⟨_, rfl⟩
      by_cases hlt : k < (splitL p).length
      · obtain ⟨ga, oa, rfl⟩ := hS.own_addr (List.Mem.head _) (by omega)
        have hx : (strs (splitL p))[k * 1]? = some (str (splitL p)[k]) := by rw [Nat.mul_one]; exact strs_at hlt
        have hno := checkE_no p deep k hlt
        have hmx := splitL_max p k hlt
        have hnx : nameB (splitL p)[k] = true → ∀ j (h : j < (splitL p).length), j < k + 1 → nameB (splitL p)[j] = true := fun ho j h hj => if e : j = k then (by subst e; exact ho) else Hall j h (by omega)
        clear Hall
        generalize (splitL p)[k] = c at *
        rcases hn : nameB c
        · rw [hno hn]
          clear hno hnx
          repeat' (first
            | (show WL _ _ _ _ _ _ _; first
              | refine WL.pure rfl rfl rfl rfl ?_
              | refine WL.nil ?_
              | refine WL.load hS rfl rfl (LdOk.ownAt (by repeat (first | exact List.Mem.head _ | apply List.Mem.tail)) rfl ⟨_, rfl⟩ hx rfl) rfl rfl rfl ?_
              | (refine WL.calls hS rfl rfl (pname_c c _ (by omega)) rfl rfl rfl ?_; rintro v w rfl hS; rw [hn])
              | refine WL.index rfl rfl rfl rfl (by first | with_reducible assumption | omega) rfl rfl rfl rfl ?_)
            | (show WC _ _ _ _ _ _; first
              | refine WC.seq ?_
              | refine WC.region ?_
              | refine WC.block ?_
              | refine WC.skip ?_
              | refine WC.ret ?_
              | refine WC.condT rfl (by decide) ?_
              | refine WC.condT rfl (decide_eq_true (by first | with_reducible assumption | omega)) ?_)
            | refine seqQ_n ?_
            | refine seqQ_r ?_
            | refine blkQ_r ?_
            | refine rndQ_r ?_)
          exact fin1r rfl rfl ⟨hS.upd, rfl⟩
        · clear hno
          repeat' (first
            | (show WL _ _ _ _ _ _ _; first
              | refine WL.pure rfl rfl rfl rfl ?_
              | refine WL.nil ?_
              | refine WL.add rfl rfl rfl (by omega) rfl rfl rfl ?_
              | refine WL.load hS rfl rfl (LdOk.ownAt (by repeat (first | exact List.Mem.head _ | apply List.Mem.tail)) rfl ⟨_, rfl⟩ hx rfl) rfl rfl rfl ?_
              | (refine WL.calls hS rfl rfl (pname_c c _ (by omega)) rfl rfl rfl ?_; rintro v w rfl hS; rw [hn])
              | refine WL.index rfl rfl rfl rfl (by first | with_reducible assumption | omega) rfl rfl rfl rfl ?_)
            | (show WC _ _ _ _ _ _; first
              | refine WC.seq ?_
              | refine WC.region ?_
              | refine WC.block ?_
              | refine WC.skip ?_
              | refine WC.condF rfl (by decide) ?_
              | refine WC.condT rfl (decide_eq_true (by first | with_reducible assumption | omega)) ?_)
            | refine seqQ_n ?_
            | refine blkQ_n ?_)
          exact rndQ_n (k + 1) ⟨by omega, hnx hn, hS⟩ (by omega) ⟨vint (by omega), trivial⟩ ⟨rfl, rfl, trivial⟩
      · rw [checkE_yes p deep hd fun j h => Hall j h (by omega)]
        clear Hall
        repeat' (first
          | (show WL _ _ _ _ _ _ _; first
            | refine WL.pure rfl rfl rfl rfl ?_
            | refine WL.nil ?_)
          | (show WC _ _ _ _ _ _; first
            | refine WC.seq ?_
            | refine WC.region ?_
            | refine WC.exit ?_
            | refine WC.ret ?_
            | refine WC.condF rfl (decide_eq_false (by first | with_reducible assumption | omega)) ?_)
          | refine seqQ_n ?_
          | refine seqQ_x ?_
          | refine blkQ_hit rfl ?_
          | refine rndQ_x ?_)
        exact fin1r rfl rfl ⟨hS.upd, rfl⟩
end Go.Proofs.YtniacmoniaaolaaGreatDoor
