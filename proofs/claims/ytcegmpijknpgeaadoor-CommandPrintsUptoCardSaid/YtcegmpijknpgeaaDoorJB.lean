/- What is proved: struct and slice literals, in the walk. Conditions: as each rule names them. -/
import Derived.Test.YtcegmpijknpgeaaDoorJE
set_option linter.unusedSimpArgs false
set_option linter.unusedVariables false
namespace Go.J
open Go Go.RowKit

/-- cells put over others from a place on, whatever they hold -/
def rpl : List Value → Nat → List Value → Option (List Value)
  | cs, 0, [] => some cs
  | _ :: r, 0, v :: vs => match rpl r 0 vs with
    | some t => some (v :: t)
    | none => none
  | c :: r, o + 1, vs => match rpl r o vs with
    | some t => some (c :: t)
    | none => none
  | _, _, _ => none
theorem rpl_spec : ∀ {cs : List Value} {o : Nat} {vs cs' : List Value}, rpl cs o vs = some cs' → o + vs.length ≤ cs.length ∧ cs' = cs.take o ++ vs ++ cs.drop (o + vs.length)
  | cs, 0, [], cs', h => by
    have : cs = cs' := by cases cs <;> simpa [rpl] using h
    subst this; simp
  | [], 0, v :: vs, cs', h => by simp [rpl] at h
  | c :: r, 0, v :: vs, cs', h => by
    simp only [rpl] at h
    split at h
    · rename_i t ht
      obtain ⟨h1, h2⟩ := rpl_spec ht
      simp only [Option.some.injEq] at h
      subst h
      exact ⟨by simp at h1 ⊢; omega, by rw [h2]; simp⟩
    · cases h
  | [], o + 1, vs, cs', h => by simp [rpl] at h
  | c :: r, o + 1, vs, cs', h => by
    simp only [rpl] at h
    split at h
    · rename_i t ht
      obtain ⟨h1, h2⟩ := rpl_spec ht
      simp only [Option.some.injEq] at h
      subst h
      refine ⟨by simp; omega, ?_⟩
      rw [h2]
      simp [show o + 1 + vs.length = o + vs.length + 1 by omega]
    · cases h
theorem foldl_set (off : Nat) : ∀ (vs : List Value) (k : Nat) (cs : Array Value), off + k + vs.length ≤ cs.size →
    ((vs.zipIdx k).foldl (fun cs (c, j) => cs.setIfInBounds (off + j) c) cs).toList = cs.toList.take (off + k) ++ vs ++ cs.toList.drop (off + k + vs.length)
  | [], k, cs, h => by simp
  | v :: vs, k, cs, h => by
    simp only [List.zipIdx_cons, List.foldl_cons]
    rw [foldl_set off vs (k + 1) _ (by simp at h ⊢; omega)]
    simp only [List.length_cons] at h
    have hlt : off + k < cs.toList.length := by simp; omega
    simp only [Array.toList_setIfInBounds]
    rw [show off + (k + 1) = (off + k) + 1 by omega, List.take_set, List.drop_set_of_lt (by omega)]
    rw [List.take_succ_eq_append_getElem hlt, List.set_append_right _ _ (by simp; omega)]
    simp only [List.length_take, Nat.min_eq_left (Nat.le_of_lt hlt), Nat.sub_self, List.set_cons_zero, List.append_assoc, List.cons_append, List.nil_append, List.length_cons]
    rw [show off + k + 1 + vs.length = off + k + (vs.length + 1) by omega]
def fillL (place : Nat → Option (Nat × Nat)) : List Value → List (Nat × Value) → Option (List Value)
  | cs, [] => some cs
  | cs, (i, v) :: rest => match place i with
    | some (off, size) => match cellsO v with
      | some vs => match Nat.beq vs.length size with
        | true => match rpl cs off vs with
          | some cs' => fillL place cs' rest
          | none => none
        | false => none
      | none => none
    | none => none
theorem fillL_spec {place : Nat → Option (Nat × Nat)} : ∀ {l : List (Nat × Value)} {cs cs' : List Value}, fillL place cs l = some cs' → Instr.fill place ⟨cs⟩ l = some ⟨cs'⟩
  | [], cs, cs', h => by simp only [fillL, Option.some.injEq] at h; subst h; rfl
  | (i, v) :: rest, cs, cs', h => by
    unfold fillL at h
    split at h
    · rename_i off size hp
      split at h
      · rename_i vs hvs
        split at h
        · rename_i hsz
          split at h
          · rename_i cs1 hc
            obtain ⟨h1, h2⟩ := rpl_spec hc
            have hvc : v.cells = ⟨vs⟩ := by rw [cells_mk, cellsO_eq hvs]
            have hsz' : vs.length = size := Nat.eq_of_beq_eq_true hsz
            unfold Instr.fill
            rw [hp]
            simp only [hvc, List.size_toArray]
            rw [if_neg (by simp; omega)]
            have e : (Array.mk vs).zipIdx.foldl (fun (cs : Array Value) ((c, j) : Value × Nat) => cs.setIfInBounds (off + j) c) (Array.mk cs) = Array.mk cs1 := by
              apply Array.toList_inj.1
              rw [← Array.foldl_toList, Array.toList_zipIdx]
              have := foldl_set off vs 0 ⟨cs⟩ (by simpa using h1)
              simp only [Nat.add_zero] at this
              rw [this, h2]
            rw [e]
            exact fillL_spec h
          · cases h
        · cases h
      · cases h
    · cases h

def placesOf (P : Program) : List Field → List (Nat × Nat)
  | [] => []
  | ⟨_, ty, off, _, _, _, _⟩ :: fs => (off, (tySize P ty).getD 0) :: placesOf P fs
def sizesKnown (P : Program) : List Field → Bool
  | [] => true
  | ⟨_, ty, _, _, _, _, _⟩ :: fs => (tySize P ty).isSome && sizesKnown P fs
/-- a struct literal -/
def buildV (P : Program) (t : TypeId) (l : List (Nat × Value)) : Option Value := match tyZero P t with
  | some z => match cellsO z with
    | some zs => match P.underlying t with
      | some (.struct ⟨fs⟩) => match sizesKnown P fs with
        | true => match fillL ((placesOf P fs)[·]?) zs l with
          | some cs => some (.agg ⟨cs⟩)
          | none => none
        | false => none
      | some (.array _ e) => match tySize P e with
        | some n => match fillL (fun i => some (i * n, n)) zs l with
          | some cs => some (.agg ⟨cs⟩)
          | none => none
        | none => none
      | _ => none
    | none => none
  | none => none
theorem run_places {P : Program} {w : World} : ∀ {fs : List Field}, sizesKnown P fs = true → (fs.mapM fun (f : Field) => (do pure (f.offset, ← sizeOf f.type) : Sem (Nat × Nat))).run P w = .ok (placesOf P fs) w
  | [], _ => by simp [placesOf]
  | ⟨nm, ty, off, em, tg, pk, bo⟩ :: fs, h => by
    simp only [sizesKnown, Bool.and_eq_true] at h
    obtain ⟨n, hn⟩ := Option.isSome_iff_exists.1 h.1
    simp only [List.mapM_cons, Sem.run_bind, run_sizeOf hn, Result.andThen_ok, Sem.run_pure, run_places h.2, placesOf, hn, Option.getD_some]
theorem run_build {P : Program} {w : World} {t : TypeId} {l : List (Nat × Value)} {v : Value} (h : buildV P t l = some v) : (Instr.build t ⟨l⟩).run P w = .ok v w := by
  unfold buildV at h
  split at h
  · rename_i z hz
    split at h
    · rename_i zs hzs
      have hzc : z.cells = ⟨zs⟩ := by rw [cells_mk, cellsO_eq hzs]
      split at h
      · rename_i fs hu
        split at h
        · rename_i hk
          split at h
          · rename_i cs hf
            simp only [Option.some.injEq] at h
            subst h
            have hp := run_places (P := P) (w := w) hk
            have hp' : ((Array.mk fs).mapM fun (f : Field) => (do pure (f.offset, ← sizeOf f.type) : Sem (Nat × Nat))).run P w = .ok ⟨placesOf P fs⟩ w := by
              rw [Array.mapM_eq_mapM_toList]
              show (List.mapM (fun (f : Field) => (do pure (f.offset, ← sizeOf f.type) : Sem (Nat × Nat))) fs >>= (pure ∘ List.toArray)).run P w = _
              rw [Sem.run_bind, hp]
              rfl
            have hfl : Instr.fill (fun i => (Array.mk (placesOf P fs))[i]?) ⟨zs⟩ l = some ⟨cs⟩ := by
              have := fillL_spec hf
              simpa using this
            simp only [Instr.build, Sem.run_bind, run_zero hz, Result.andThen_ok, run_underlying hu, hp', hzc, hfl]
            rfl
          · cases h
        · cases h
      · rename_i len e hu
        split at h
        · rename_i n hn
          split at h
          · rename_i cs hf
            simp only [Option.some.injEq] at h
            subst h
            simp only [Instr.build, Sem.run_bind, run_zero hz, Result.andThen_ok, run_underlying hu, run_sizeOf hn, hzc, fillL_spec hf]
            rfl
          · cases h
        · cases h
      · cases h
    · cases h
  · cases h

section
variable {P : Program} {N : Nat} {f : Fr} {w w0 : World} {Q : Post} {ops l : List Oper} {o : Oper} {M : List Nat} {H H' : List Chunk} {Z : List Snap} {ρ : Operand → Value}
def evP (ρ : Operand → Value) : List (Nat × Operand) → List (Nat × Value)
  | [] => []
  | (i, x) :: r => (i, ρ x) :: evP ρ r
theorem evP_eq (ρ : Operand → Value) (l : List (Nat × Operand)) : (Array.mk l).map (fun (i, x) => (i, ρ x)) = ⟨evP ρ l⟩ := by
  apply Array.toList_inj.1
  simp only [Array.toList_map]
  induction l with
  | nil => rfl
  | cons a l ih => obtain ⟨i, x⟩ := a; simp only [List.map_cons, evP, ih]
theorem run_buildOp {t : TypeId} {ps : List (Nat × Operand)} {v : Value} (ho : o.op = .build t ⟨ps⟩) (h : buildV P t (evP ρ ps) = some v) : (execOp ρ o).run P w = .ok (.value v) w := by
  simp only [execOp, ho, evP_eq, Sem.run_bind, run_build h]
  rfl
theorem WL.build {t : TypeId} {ps : List (Nat × Operand)} {v : Value} (ho : o.op = .build t ⟨ps⟩) (hv : buildV P t (evP (ev f) ps) = some v) (hg : wants ops f o = true) {d : Nat} (hd : o.dst = some d) (hn : Nat.blt d N = true)
    (h : WL P N ops l (up f d v) w Q) : WL P N ops (o :: l) f w Q := .val hg hd hn (run_buildOp ho hv) h

/-- a slice literal: a row of the call's own -/
def repZ (zs : List Value) : Nat → List Value
  | 0 => []
  | n + 1 => zs ++ repZ zs n
theorem repZ_len (zs : List Value) : ∀ n, (repZ zs n).length = n * zs.length
  | 0 => by simp [repZ]
  | n + 1 => by simp only [repZ, List.length_append, repZ_len zs n, Nat.add_mul]; omega
theorem repZ_get (zs : List Value) (h : 0 < zs.length) : ∀ n i, i < n * zs.length → (repZ zs n)[i]? = zs[i % zs.length]?
  | 0, i, hi => by simp at hi
  | n + 1, i, hi => by
    simp only [repZ]
    by_cases hlt : i < zs.length
    · rw [List.getElem?_append_left hlt, Nat.mod_eq_of_lt hlt]
    · rw [List.getElem?_append_right (by omega), repZ_get zs h n (i - zs.length) (by rw [Nat.add_mul] at hi; omega)]
      rw [← Nat.mod_eq_sub_mod (by omega)]
theorem repZ_arr (zs : List Value) (h : 0 < zs.length) (n : Nat) : (Array.range (n * zs.length)).map ((Array.mk zs)[· % (Array.mk zs).size]!) = ⟨repZ zs n⟩ := by
  apply Array.ext_getElem?
  intro i
  simp only [Array.getElem?_map, List.getElem?_toArray]
  by_cases hi : i < n * zs.length
  · rw [repZ_get zs h n i hi]
    have hm : i % zs.length < zs.length := Nat.mod_lt _ h
    simp [Array.getElem?_range, hi, hm]
  · have h1 : (repZ zs n)[i]? = none := List.getElem?_eq_none (by rw [repZ_len]; omega)
    rw [h1]
    simp [Array.getElem?_range, hi]
def buildSliceV (P : Program) (t : TypeId) (len : Nat) (l : List (Nat × Value)) : Option (TypeId × Nat × List Value) := match P.underlying t with
  | some (.slice e) => match tySize P e with
    | some n => match tyZero P e with
      | some z => match cellsO z with
        | some zs => match Nat.beq zs.length n && Nat.blt 0 n && Nat.ble (len * n) 16777216 with
          | true => match fillL (fun i => some (i * n, n)) (repZ zs len) l with
            | some cs => some (e, n, cs)
            | none => none
          | false => none
        | none => none
      | none => none
    | none => none
  | _ => none
theorem run_buildSlice {t e : TypeId} {len n : Nat} {l : List (Nat × Value)} {cs : List Value} (h : buildSliceV P t len l = some (e, n, cs)) :
    (Instr.buildSlice t len ⟨l⟩).run P w = .ok (.slice (some ⟨w.heap.size, 0, none⟩) len len) (w.alloc (.cells ⟨cs⟩ e)) := by
  unfold buildSliceV at h
  split at h
  · rename_i e' hu
    split at h
    · rename_i n' hn
      split at h
      · rename_i z hz
        split at h
        · rename_i zs hzs
          split at h
          · rename_i hb
            simp only [Bool.and_eq_true] at hb
            obtain ⟨⟨h1, h2⟩, h3⟩ := hb
            have h1 := Nat.eq_of_beq_eq_true h1
            have h2 : 0 < n' := Nat.le_of_ble_eq_true h2
            have h3 := Nat.le_of_ble_eq_true h3
            split at h
            · rename_i cs' hf
              simp only [Option.some.injEq, Prod.mk.injEq] at h
              obtain ⟨rfl, rfl, rfl⟩ := h
              subst h1
              have hzc : z.cells = ⟨zs⟩ := by rw [cells_mk, cellsO_eq hzs]
              have hfl := fillL_spec hf
              have hnot : ¬ (len * zs.length > 2 ^ 24) := by omega
              by_cases hl0 : len = 0
              · subst hl0
                simp only [repZ] at hfl
                simp only [Instr.buildSlice, Sem.run_bind, run_underlying hu, run_sizeOf hn, Result.andThen_ok]
                simp [newRow, newObj]
                have e0 : (Array.map (fun (_ : Nat) => (default : Value)) (Array.range 0)) = ⟨[]⟩ := by simp
                rw [e0, hfl]
                rfl
              · have hne : ¬ (len * zs.length = 0) := by
                  intro h0
                  rcases Nat.mul_eq_zero.1 h0 with h0 | h0 <;> omega
                simp only [Instr.buildSlice, Sem.run_bind, run_underlying hu, run_sizeOf hn, Result.andThen_ok, hnot, if_false, hne, run_zero hz, hzc, Sem.run_pure, repZ_arr zs h2 len, hfl]
                simp [newRow, newObj]
                rfl
            · cases h
          · cases h
        · cases h
      · cases h
    · cases h
  · cases h
theorem run_sliceLit {t e : TypeId} {len n : Nat} {ps : List (Nat × Operand)} {cs : List Value} (ho : o.op = .buildSlice t len ⟨ps⟩) (h : buildSliceV P t len (evP ρ ps) = some (e, n, cs)) :
    (execOp ρ o).run P w = .ok (.value (.slice (some ⟨w.heap.size, 0, none⟩) len len)) (w.alloc (.cells ⟨cs⟩ e)) := by
  simp only [execOp, ho, evP_eq, Sem.run_bind, run_buildSlice h]
  rfl
theorem WL.slit {t e : TypeId} {len n : Nat} {ps : List (Nat × Operand)} {cs : List Value} (hS : St w0 M w H Z) (ho : o.op = .buildSlice t len ⟨ps⟩) (hv : buildSliceV P t len (evP (ev f) ps) = some (e, n, cs))
    (hg : wants ops f o = true) {d : Nat} (hd : o.dst = some d) (hn : Nat.blt d N = true)
    (h : ∀ w' b, St w0 M w' (.box b e cs :: H) Z → WL P N ops l (up f d (.slice (some ⟨b, 0, none⟩) len len)) w' Q) : WL P N ops (o :: l) f w Q :=
  .val hg hd hn (run_sliceLit ho hv) (h _ _ (hS.newBox _ _))
/-- a part of a box, as cells that lie there -/
theorem St.range {b : Nat} {t : TypeId} {cs es : List Value} (hS : St w0 M w H Z) (hm : Chunk.box b t cs ∈ H) (off : Nat) (he : (cs.drop off).take es.length = es) : b < w.heap.size ∧ w.rangeAt b off es := by
  have hb : w.heap[b]? = some (.cells ⟨cs⟩ t (0, 0)) := hS.holds _ hm
  refine ⟨(hS.inb _ hm b (by simp [Chunk.fp])).1, fun j v hv => ?_⟩
  rw [cell_of_row w b (off + j) ⟨cs⟩ t (0, 0) hb]
  rw [← he, List.getElem?_take] at hv
  split at hv
  · rw [List.getElem?_drop] at hv; simpa using hv
  · cases hv
end
section
variable {P : Program} {N : Nat} {f : Fr} {w w0 : World} {Q : Post} {ops : List Oper} {M : List Nat} {H0 H H' : List Chunk} {Z0 Z : List Snap} {q : Qs} {l : List Nat} {i : Nat} {S : World → Prop}
theorem WD.build {t : TypeId} {ps : List (Nat × Operand)} {v : Value} (ho : (ix ops i).op = .build t ⟨ps⟩) (hv : buildV P t (evP (ev f) ps) = some v) (hq : q.contains i = true) (hg : wants ops f (ix ops i) = true) {d : Nat} (hd : (ix ops i).dst = some d) (hn : Nat.blt d N = true)
    (h : WD P N S ops q l (up f d v) w Q) : WD P N S ops q (i :: l) f w Q := .take hq hd hn (.inl ⟨hg, fun _ _ => run_buildOp ho hv⟩) h
theorem WD.slit {t e : TypeId} {len n : Nat} {ps : List (Nat × Operand)} {cs : List Value} (hS : St w0 M w H Z) (hM : More H0 Z0 H Z) (ho : (ix ops i).op = .buildSlice t len ⟨ps⟩) (hv : buildSliceV P t len (evP (ev f) ps) = some (e, n, cs))
    (hq : q.contains i = false) (hi : Nat.blt i ops.length = true) (hg : wants ops f (ix ops i) = true) {d : Nat} (hd : (ix ops i).dst = some d) (hn : Nat.blt d N = true)
    (h : ∀ w' b, St w0 M w' (.box b e cs :: H) Z → More H0 Z0 (.box b e cs :: H) Z → WD P N (SS w0 M H0 Z0) ops q l (up f d (.slice (some ⟨b, 0, none⟩) len len)) w' Q) : WD P N (SS w0 M H0 Z0) ops q (i :: l) f w Q :=
  .val hq hi hg hd hn (run_sliceLit ho hv) ((hM.chunk _).ss (hS.newBox _ _)) (h _ _ (hS.newBox _ _) (hM.chunk _))
end
end Go.J
