/- What is proved: the walk's rules for operations on memory, over chunks and snapshots. Conditions: as each rule names them. -/
import Derived.Test.YtcegmpijknpgeaaDoorJH
set_option linter.unusedSimpArgs false
set_option linter.unusedVariables false
namespace Go.J
open Go Go.RowKit

/-! ## Cells of a value -/
def cellsL : Value → List Value
  | .agg ⟨cs⟩ => cs
  | v => [v]
def cellsO : Value → Option (List Value)
  | .agg ⟨cs⟩ => some cs
  | v => match nfv v with
    | some u => some [u]
    | none => none
theorem cellsO_eq {v : Value} {cs : List Value} (h : cellsO v = some cs) : cellsL v = cs := by
  cases v <;> simp [cellsO, nfv, cellsL] at h ⊢ <;> exact h
theorem cellsL_eq (v : Value) : v.cells.toList = cellsL v := by cases v <;> simp [Value.cells, cellsL]
theorem cells_mk (v : Value) : v.cells = ⟨cellsL v⟩ := by cases v <;> simp [Value.cells, cellsL]
def tyZero (P : Program) (t : TypeId) : Option Value := match P.info? t with
  | some ⟨_, _, _, _, _, _, _, some z, _, _⟩ => some z
  | _ => none
theorem run_zero {P : Program} {t : TypeId} {z : Value} (h : tyZero P t = some z) (w : World) : (zeroValue t).run P w = .ok z w := by
  unfold tyZero at h
  split at h
  · rename_i hi
    simp only [Option.some.injEq] at h
    subst h
    simp [zeroValue, typeInfo, hi]
  · cases h

/-- cells written over others from a place on -/
def spl : List Value → Nat → List Value → Option (List Value)
  | cs, 0, [] => some cs
  | _ :: r, 0, v :: vs => match v.oneCell' with
    | true => match spl r 0 vs with
      | some t => some (v :: t)
      | none => none
    | false => none
  | c :: r, o + 1, vs => match spl r o vs with
    | some t => some (c :: t)
    | none => none
  | _, _, _ => none
theorem spl_spec : ∀ {cs : List Value} {o : Nat} {vs cs' : List Value}, spl cs o vs = some cs' → o + vs.length ≤ cs.length ∧ cs' = cs.take o ++ vs ++ cs.drop (o + vs.length) ∧ ∀ v ∈ vs, v.oneCell' = true
  | cs, 0, [], cs', h => by
    have : cs = cs' := by cases cs <;> simpa [spl] using h
    subst this; simp
  | [], 0, v :: vs, cs', h => by simp [spl] at h
  | c :: r, 0, v :: vs, cs', h => by
    simp only [spl] at h
    split at h
    · rename_i hv
      split at h
      · rename_i t ht
        obtain ⟨h1, h2, h3⟩ := spl_spec ht
        simp only [Option.some.injEq] at h
        subst h
        refine ⟨by simp at h1 ⊢; omega, ?_, ?_⟩
        · rw [h2]; simp
        · intro u hu; rcases List.mem_cons.1 hu with rfl | hu
          · exact hv
          · exact h3 u hu
      · cases h
    · cases h
  | [], o + 1, vs, cs', h => by simp [spl] at h
  | c :: r, o + 1, vs, cs', h => by
    simp only [spl] at h
    split at h
    · rename_i t ht
      obtain ⟨h1, h2, h3⟩ := spl_spec ht
      simp only [Option.some.injEq] at h
      subst h
      refine ⟨by simp; omega, ?_, h3⟩
      rw [h2]
      simp [show o + 1 + vs.length = o + vs.length + 1 by omega]
    · cases h

/-- what a variable of a type at a place of known cells holds -/
def getV0 (P : Program) (ty : TypeId) (cs : List Value) (off : Nat) : Option Value := match tyAgg P ty, tySize P ty with
  | some true, some n => match Nat.ble (off + n) cs.length with
    | true => some (.agg ⟨(cs.drop off).take n⟩)
    | false => none
  | some false, some _ => match cs[off]? with
    | some v => some v
    | none => none
  | _, _ => none

def getV (P : Program) (ty : TypeId) (cs : List Value) (off : Nat) : Option Value := nfo (getV0 P ty cs off)
theorem run_loadVar_cells {P : Program} {w : World} {b o : Nat} {ty : TypeId} {cs : List Value} {off : Nat} {v : Value} (h : getV P ty cs off = some v)
    (hc : ∀ j u, cs[j]? = some u → w.cell? ⟨b, o + j, none⟩ = some u) : (loadVar ty ⟨b, o + off, none⟩).run P w = .ok v w := by
  have h := nfo_eq h
  unfold getV0 at h
  split at h
  · rename_i n hb hn
    split at h
    · rename_i hle
      simp only [Option.some.injEq] at h
      subst h
      have hle := Nat.le_of_ble_eq_true hle
      have hl : (loadCells ⟨b, o + off, none⟩ n).run P w = .ok ((cs.drop off).take n).toArray w := by
        have := run_loadCells_list (P := P) w ⟨b, o + off, none⟩ ((cs.drop off).take n) (fun j u hu => by
          rw [Addr.add_mid, Nat.add_assoc]
          rw [List.getElem?_take] at hu
          split at hu
          · rw [List.getElem?_drop] at hu; exact hc _ _ hu
          · cases hu)
        rwa [show ((cs.drop off).take n).length = n by simp; omega] at this
      simp [loadVar, Sem.run_bind, run_isAgg hb, run_sizeOf hn, hl]
    · cases h
  · rename_i n hb hn
    split at h
    · rename_i u hu
      simp only [Option.some.injEq] at h
      subst h
      simp [loadVar, Sem.run_bind, run_isAgg hb, Go.load, Sem.run, hc _ _ hu]
    · cases h
  · cases h

/-! ## Loads -/
structure LdOk (P : Program) (H : List Chunk) (Z : List Snap) (ty : TypeId) (a : Addr) (v : Value) : Prop where
  out : ∀ w0 M w (Hn : List Chunk) (Zn : List Snap), St w0 M w (Hn ++ H) (Zn ++ Z) → (loadVar ty a).run P w = .ok v w

section
variable {P : Program} {H : List Chunk} {Z : List Snap} {ty : TypeId} {v : Value} {b o : Nat}
theorem cell_box {w : World} {cs : List Value} {t : TypeId} (h : w.heap[b]? = some (.cells ⟨cs⟩ t (0, 0))) : ∀ j u, cs[j]? = some u → w.cell? ⟨b, 0 + j, none⟩ = some u := fun j u hu => by
  rw [Nat.zero_add, cell_of_row w b j ⟨cs⟩ t (0, 0) h]; simpa using hu
theorem LdOk.box {t : TypeId} {cs : List Value} (hm : Chunk.box b t cs ∈ H) (hv : getV P ty cs o = some v) : LdOk P H Z ty ⟨b, o, none⟩ v := by
  refine ⟨fun w0 M w Hn Zn hS => ?_⟩
  have hb : w.heap[b]? = some (.cells ⟨cs⟩ t (0, 0)) := hS.holds _ (List.mem_append_right _ hm)
  have := run_loadVar_cells hv (cell_box hb)
  rwa [Nat.zero_add] at this
/-- cells of memory that stays -/
theorem LdOk.snap {wz : World} {F : Nat → Prop} {off : Nat} {cs : List Value} (hF : F b) (hr : wz.rangeAt b o cs) (hz : Snap.mk wz F ∈ Z) (hv : getV P ty cs off = some v) : LdOk P H Z ty ⟨b, o + off, none⟩ v := by
  refine ⟨fun w0 M w Hn Zn hS => ?_⟩
  obtain ⟨_, h2, _⟩ := hS.snap _ (List.mem_append_right _ hz) b hF
  refine run_loadVar_cells hv fun j u hu => ?_
  rw [World.cell?_of_block (w := wz) h2]
  exact hr j u hu
theorem LdOk.snap0 {wz : World} {F : Nat → Prop} {cs : List Value} (hF : F b) (hr : wz.rangeAt b o cs) (hz : Snap.mk wz F ∈ Z) (hv : getV P ty cs 0 = some v) : LdOk P H Z ty ⟨b, o, none⟩ v := LdOk.snap (off := 0) hF hr hz hv
/-- an element of a row of the call's own -/
theorem LdOk.own {g off n cap : Nat} {e : TypeId} {size n' : Nat} {xs : List Value} (hm : Chunk.own (.slice (some ⟨g, off, none⟩) n cap) e size n' xs ∈ H) (hv : getV P ty xs o = some v) : LdOk P H Z ty ⟨g, off + o, none⟩ v := by
  refine ⟨fun w0 M w Hn Zn hS => ?_⟩
  have hb : RowAt w e size _ n' xs := hS.holds _ (List.mem_append_right _ hm)
  exact run_loadVar_cells (P := P) (w := w) (b := g) (o := off) hv hb.cells
end

section
variable {P : Program} {N : Nat} {f : Fr} {w w0 : World} {Q : Post} {ops l : List Oper} {o : Oper} {M : List Nat} {H H' : List Chunk} {Z : List Snap}

theorem WL.pure {v : Value} (hv : pureV P (ev f) o.op = some v) (hg : wants ops f o = true) {d : Nat} (hd : o.dst = some d) (hn : Nat.blt d N = true) (h : WL P N ops l (up f d v) w Q) : WL P N ops (o :: l) f w Q :=
  .val hg hd hn (pureV_sound hv w) h
theorem WL.mov {x : Operand} (ho : o.op = .move x ∨ o.op = .assign x) (hg : wants ops f o = true) {d : Nat} (hd : o.dst = some d) (hn : Nat.blt d N = true) (h : WL P N ops l (up f d (ev f x)) w Q) : WL P N ops (o :: l) f w Q :=
  .val hg hd hn (pure_sound (by rcases ho with ho | ho <;> rw [ho] <;> rfl) w) h
/-- sums that an int holds -/
theorem wrap_in {n : Int} (h : -9223372036854775808 ≤ n ∧ n ≤ 9223372036854775807) : IntKind.i64.wrap n = n := IntWalk.i64_in n h
theorem run_add {ρ : Operand → Value} {ty ty' : TypeId} {x y : Operand} {a b : Int} (ho : o.op = .binOp .add ty x y ty') (hx : ρ x = .int .i64 a) (hy : ρ y = .int .i64 b) (hr : -9223372036854775808 ≤ a + b ∧ a + b ≤ 9223372036854775807) :
    (execOp ρ o).run P w = .ok (.value (.int .i64 (a + b))) w := by
  obtain ⟨h1, h2, h3, h4, h5, h6⟩ := run_arith (P := P) (t := ty) (x := x) (y := y) (k := .i64) (a := a) (b := b) w
  simp only [execOp, ho, hx, hy, Sem.run_bind, h1, h2, h3, h4, h5, h6, Result.andThen_ok, wrap_in hr]
  rfl
theorem run_addW {ρ : Operand → Value} {ty ty' : TypeId} {x y : Operand} {k : IntKind} {a b : Int} (ho : o.op = .binOp .add ty x y ty') (hx : ρ x = .int k a) (hy : ρ y = .int k b) :
    (execOp ρ o).run P w = .ok (.value (.int k (k.wrap (a + b)))) w := by
  obtain ⟨h1, h2, h3, h4, h5, h6⟩ := run_arith (P := P) (t := ty) (x := x) (y := y) (k := k) (a := a) (b := b) w
  simp only [execOp, ho, hx, hy, Sem.run_bind, h1, h2, h3, h4, h5, h6, Result.andThen_ok]
  rfl
theorem WL.addW {ty ty' : TypeId} {x y : Operand} {k : IntKind} {a b : Int} (ho : o.op = .binOp .add ty x y ty') (hx : ev f x = .int k a) (hy : ev f y = .int k b) (hg : wants ops f o = true) {d : Nat} (hd : o.dst = some d) (hn : Nat.blt d N = true)
    (h : WL P N ops l (up f d (.int k (k.wrap (a + b)))) w Q) : WL P N ops (o :: l) f w Q :=
  .val hg hd hn (run_addW ho hx hy) h
theorem WL.add {ty ty' : TypeId} {x y : Operand} {a b : Int} (ho : o.op = .binOp .add ty x y ty') (hx : ev f x = .int .i64 a) (hy : ev f y = .int .i64 b) (hr : -9223372036854775808 ≤ a + b ∧ a + b ≤ 9223372036854775807)
    (hg : wants ops f o = true) {d : Nat} (hd : o.dst = some d) (hn : Nat.blt d N = true) (h : WL P N ops l (up f d (.int .i64 (a + b))) w Q) : WL P N ops (o :: l) f w Q :=
  .val hg hd hn (run_add ho hx hy hr) h
theorem run_sub {ρ : Operand → Value} {ty ty' : TypeId} {x y : Operand} {a b : Int} (ho : o.op = .binOp .sub ty x y ty') (hx : ρ x = .int .i64 a) (hy : ρ y = .int .i64 b) (hr : -9223372036854775808 ≤ a - b ∧ a - b ≤ 9223372036854775807) :
    (execOp ρ o).run P w = .ok (.value (.int .i64 (a - b))) w := by
  obtain ⟨h1, h2, h3, h4, h5, h6⟩ := run_arith (P := P) (t := ty) (x := x) (y := y) (k := .i64) (a := a) (b := b) w
  simp only [execOp, ho, hx, hy, Sem.run_bind, h1, h2, h3, h4, h5, h6, Result.andThen_ok, wrap_in hr]
  rfl
theorem run_subW {ρ : Operand → Value} {ty ty' : TypeId} {x y : Operand} {k : IntKind} {a b : Int} (ho : o.op = .binOp .sub ty x y ty') (hx : ρ x = .int k a) (hy : ρ y = .int k b) :
    (execOp ρ o).run P w = .ok (.value (.int k (k.wrap (a - b)))) w := by
  obtain ⟨h1, h2, h3, h4, h5, h6⟩ := run_arith (P := P) (t := ty) (x := x) (y := y) (k := k) (a := a) (b := b) w
  simp only [execOp, ho, hx, hy, Sem.run_bind, h1, h2, h3, h4, h5, h6, Result.andThen_ok]
  rfl
theorem WL.subW {ty ty' : TypeId} {x y : Operand} {k : IntKind} {a b : Int} (ho : o.op = .binOp .sub ty x y ty') (hx : ev f x = .int k a) (hy : ev f y = .int k b) (hg : wants ops f o = true) {d : Nat} (hd : o.dst = some d) (hn : Nat.blt d N = true)
    (h : WL P N ops l (up f d (.int k (k.wrap (a - b)))) w Q) : WL P N ops (o :: l) f w Q :=
  .val hg hd hn (run_subW ho hx hy) h
theorem WL.sub {ty ty' : TypeId} {x y : Operand} {a b : Int} (ho : o.op = .binOp .sub ty x y ty') (hx : ev f x = .int .i64 a) (hy : ev f y = .int .i64 b) (hr : -9223372036854775808 ≤ a - b ∧ a - b ≤ 9223372036854775807)
    (hg : wants ops f o = true) {d : Nat} (hd : o.dst = some d) (hn : Nat.blt d N = true) (h : WL P N ops l (up f d (.int .i64 (a - b))) w Q) : WL P N ops (o :: l) f w Q :=
  .val hg hd hn (run_sub ho hx hy hr) h
theorem run_mul {ρ : Operand → Value} {ty ty' : TypeId} {x y : Operand} {a b : Int} (ho : o.op = .binOp .mul ty x y ty') (hx : ρ x = .int .i64 a) (hy : ρ y = .int .i64 b) (hr : -9223372036854775808 ≤ a * b ∧ a * b ≤ 9223372036854775807) :
    (execOp ρ o).run P w = .ok (.value (.int .i64 (a * b))) w := by
  obtain ⟨h1, h2, h3, h4, h5, h6⟩ := run_arith (P := P) (t := ty) (x := x) (y := y) (k := .i64) (a := a) (b := b) w
  simp only [execOp, ho, hx, hy, Sem.run_bind, h1, h2, h3, h4, h5, h6, Result.andThen_ok, wrap_in hr]
  rfl
theorem run_mulW {ρ : Operand → Value} {ty ty' : TypeId} {x y : Operand} {k : IntKind} {a b : Int} (ho : o.op = .binOp .mul ty x y ty') (hx : ρ x = .int k a) (hy : ρ y = .int k b) :
    (execOp ρ o).run P w = .ok (.value (.int k (k.wrap (a * b)))) w := by
  obtain ⟨h1, h2, h3, h4, h5, h6⟩ := run_arith (P := P) (t := ty) (x := x) (y := y) (k := k) (a := a) (b := b) w
  simp only [execOp, ho, hx, hy, Sem.run_bind, h1, h2, h3, h4, h5, h6, Result.andThen_ok]
  rfl
theorem WL.mulW {ty ty' : TypeId} {x y : Operand} {k : IntKind} {a b : Int} (ho : o.op = .binOp .mul ty x y ty') (hx : ev f x = .int k a) (hy : ev f y = .int k b) (hg : wants ops f o = true) {d : Nat} (hd : o.dst = some d) (hn : Nat.blt d N = true)
    (h : WL P N ops l (up f d (.int k (k.wrap (a * b)))) w Q) : WL P N ops (o :: l) f w Q :=
  .val hg hd hn (run_mulW ho hx hy) h
theorem WL.mul {ty ty' : TypeId} {x y : Operand} {a b : Int} (ho : o.op = .binOp .mul ty x y ty') (hx : ev f x = .int .i64 a) (hy : ev f y = .int .i64 b) (hr : -9223372036854775808 ≤ a * b ∧ a * b ≤ 9223372036854775807)
    (hg : wants ops f o = true) {d : Nat} (hd : o.dst = some d) (hn : Nat.blt d N = true) (h : WL P N ops l (up f d (.int .i64 (a * b))) w Q) : WL P N ops (o :: l) f w Q :=
  .val hg hd hn (run_mul ho hx hy hr) h

theorem run_load {ρ : Operand → Value} {ty : TypeId} {x : Operand} {a : Addr} {v : Value} (ho : o.op = .load ty x) (hx : ρ x = .pointer (some a)) (h : (loadVar ty a).run P w = .ok v w) :
    (execOp ρ o).run P w = .ok (.value v) w := by
  simp [execOp, ho, hx, Instr.loadAt, Instr.sureAddr, Sem.run_bind, h]
theorem WL.load {ty : TypeId} {x : Operand} {a : Addr} {v : Value} (hS : St w0 M w H Z) (ho : o.op = .load ty x) (hx : ev f x = .pointer (some a)) (hl : LdOk P H Z ty a v)
    (hg : wants ops f o = true) {d : Nat} (hd : o.dst = some d) (hn : Nat.blt d N = true) (h : WL P N ops l (up f d v) w Q) : WL P N ops (o :: l) f w Q :=
  .val hg hd hn (run_load ho hx (hl.out w0 M w [] [] hS)) h

theorem run_newVar (t : TypeId) (v : Value) (w : World) : (newVar t v).run P w = .ok ⟨w.heap.size, 0, none⟩ (w.alloc (.cells ⟨cellsL v⟩ t)) := by
  simp only [newVar, newRow, cells_mk, newObj, Sem.run_bind]
  rfl
/-- a new variable -/
theorem run_box {ρ : Operand → Value} {t : TypeId} {x : Operand} (ho : o.op = .box t x) : (execOp ρ o).run P w = .ok (.value (.pointer (some ⟨w.heap.size, 0, none⟩))) (w.alloc (.cells ⟨cellsL (ρ x)⟩ t)) := by
  simp [execOp, ho, Instr.box, Sem.run_bind, run_newVar]
theorem run_allocOp {ρ : Operand → Value} {t : TypeId} {z : Value} (ho : o.op = .alloc t) (hz : tyZero P t = some z) : (execOp ρ o).run P w = .ok (.value (.pointer (some ⟨w.heap.size, 0, none⟩))) (w.alloc (.cells ⟨cellsL z⟩ t)) := by
  simp [execOp, ho, Instr.alloc, Sem.run_bind, run_newVar, run_zero hz]
theorem St.newBox (hS : St w0 M w H Z) (t : TypeId) (cs : List Value) : St w0 M (w.alloc (.cells ⟨cs⟩ t)) (.box w.heap.size t cs :: H) Z :=
  hS.push (.alloc _ _ _) (heap_alloc_new w _) fun b hb => by
    have : b = w.heap.size := by simpa [Chunk.fp] using hb
    subst this; simp
theorem WL.box {t : TypeId} {x : Operand} (hS : St w0 M w H Z) (ho : o.op = .box t x) {cs : List Value} (hcs : cellsO (ev f x) = some cs) (hg : wants ops f o = true) {d : Nat} (hd : o.dst = some d) (hn : Nat.blt d N = true)
    (h : ∀ w' b, St w0 M w' (.box b t cs :: H) Z → WL P N ops l (up f d (.pointer (some ⟨b, 0, none⟩))) w' Q) : WL P N ops (o :: l) f w Q :=
  .val hg hd hn (run_box ho) (by rw [cellsO_eq hcs]; exact h _ _ (hS.newBox _ _))
theorem WL.alloc {t : TypeId} {z : Value} (hS : St w0 M w H Z) (ho : o.op = .alloc t) (hz : tyZero P t = some z) {cs : List Value} (hcs : cellsO z = some cs) (hg : wants ops f o = true) {d : Nat} (hd : o.dst = some d) (hn : Nat.blt d N = true)
    (h : ∀ w' b, St w0 M w' (.box b t cs :: H) Z → WL P N ops l (up f d (.pointer (some ⟨b, 0, none⟩))) w' Q) : WL P N ops (o :: l) f w Q :=
  .val hg hd hn (run_allocOp ho hz) (by rw [cellsO_eq hcs]; exact h _ _ (hS.newBox _ _))

/-- a store into a variable of the call's own -/
theorem run_storeBox {ρ : Operand → Value} {ty t : TypeId} {x y : Operand} {b off : Nat} {cs cs' : List Value} (ho : o.op = .store ty x y) (hx : ρ x = .pointer (some ⟨b, off, none⟩))
    (hb : w.heap[b]? = some (.cells ⟨cs⟩ t (0, 0))) (hs : spl cs off (cellsL (ρ y)) = some cs') (hn : tySize P ty = some (cellsL (ρ y)).length) :
    (execOp ρ o).run P w = .ok .skip (w.setRow b ⟨cs'⟩) := by
  obtain ⟨h1, h2, h3⟩ := spl_spec hs
  have := run_storeCells_at P b off t (cellsL (ρ y)) 0 ⟨cs⟩ w hb (by simpa using h1) h3
  simp only [Nat.add_zero] at this
  have hst : (storeVar ty ⟨b, off, none⟩ (ρ y)).run P w = .ok () (w.setRow b ⟨cs'⟩) := by
    unfold storeVar
    rw [Sem.run_bind, run_sizeOf hn]
    have hsz : (ρ y).cells.size = (cellsL (ρ y)).length := by rw [← cellsL_eq]; simp
    simp only [Result.andThen_ok, hsz, ne_eq, not_true, if_false, cellsL_eq]
    rw [h2]
    simpa using this
  simp [execOp, ho, hx, Instr.storeAt, Instr.sureAddr, Sem.run_bind, hst]
theorem heap_setRow {w : World} {b : Nat} {cs : Array Value} {t : TypeId} {cs' : Array Value} (hb : w.heap[b]? = some (.cells cs t (0, 0))) : (w.setRow b cs').heap[b]? = some (.cells cs' t (0, 0)) := by
  simp [World.setRow, Array.getElem?_modify, hb]
theorem Upd.setRow (w : World) (b : Nat) (cs : Array Value) : Upd [b] w (w.setRow b cs) :=
  ⟨rfl, rfl, rfl, by simp [World.setRow], fun k _ hn => by
    have hne : b ≠ k := fun e => hn (by simp [e])
    simp [World.setRow, Array.getElem?_modify, hne]⟩
theorem St.setBox {b : Nat} {t : TypeId} {cs cs' : List Value} (hS : St w0 M w H Z) (hr : Repl (.box b t cs) (.box b t cs') H H') : St w0 M (w.setRow b ⟨cs'⟩) H' Z :=
  hS.step hr (.setRow _ _ _) (heap_setRow (hS.holds _ hr.mem)) fun _ h => .inl h
/-- cells of one of the boxes written over -/
inductive StB (b off : Nat) (vs : List Value) : List Chunk → List Chunk → Prop where
  | here {t : TypeId} {cs cs' : List Value} {r : List Chunk} (h : spl cs off vs = some cs') : StB b off vs (.box b t cs :: r) (.box b t cs' :: r)
  | there {d : Chunk} {r r' : List Chunk} : StB b off vs r r' → StB b off vs (d :: r) (d :: r')
theorem StB.repl {b off : Nat} {vs : List Value} {H H' : List Chunk} (h : StB b off vs H H') : ∃ t cs cs', Repl (.box b t cs) (.box b t cs') H H' ∧ spl cs off vs = some cs' := by
  induction h with
  | here h => exact ⟨_, _, _, .here, h⟩
  | there _ ih => obtain ⟨t, cs, cs', h1, h2⟩ := ih; exact ⟨t, cs, cs', .there h1, h2⟩
theorem WL.store {ty : TypeId} {x y : Operand} {b off : Nat} {vs : List Value} (hS : St w0 M w H Z) (ho : o.op = .store ty x y) (hx : ev f x = .pointer (some ⟨b, off, none⟩)) (hy : cellsO (ev f y) = some vs)
    (hr : StB b off vs H H') (hn : tySize P ty = some vs.length) (hg : wants ops f o = true) (hd : o.dst = none)
    (h : ∀ w', St w0 M w' H' Z → WL P N ops l f w' Q) : WL P N ops (o :: l) f w Q := by
  obtain ⟨t, cs, cs', hr, hs⟩ := hr.repl
  exact .unit0 hg hd (run_storeBox ho hx (hS.holds _ hr.mem) (by rw [cellsO_eq hy]; exact hs) (by rw [cellsO_eq hy]; exact hn)) (h _ (hS.setBox hr))

/-- the address of an element -/
theorem run_indexSlice {ρ : Operand → Value} {t e : TypeId} {size : Nat} {x y : Operand} {A : Option Addr} {n cap j b of : Nat} {k : IntKind} (ho : o.op = .indexAddr t x y) (he : elemOf P t = some (e, size))
    (hx : ρ x = .slice A n cap) (hy : ρ y = .int k (Int.ofNat j)) (hj : j < n) (hA : A = some ⟨b, of, none⟩) :
    (execOp ρ o).run P w = .ok (.value (.pointer (some ⟨b, of + j * size, none⟩))) w := by
  unfold elemOf at he
  split at he
  · rename_i e' hu
    split at he
    · rename_i n' hn
      simp only [Option.some.injEq, Prod.mk.injEq] at he
      obtain ⟨rfl, rfl⟩ := he
      subst hA
      have hlt : (Int.ofNat j : Int) < (n : Int) := by simpa using hj
      have h0 : (0 : Int) ≤ Int.ofNat j := Int.natCast_nonneg j
      have ht : (Int.ofNat j).toNat = j := rfl
      simp [execOp, ho, hx, hy, Instr.indexAt, asIntOf, Sem.run_bind, run_underlying hu, run_sizeOf hn, hj, Addr.add_mid]
    · cases he
  · cases he
theorem WL.index {t e : TypeId} {size : Nat} {x y : Operand} {A : Option Addr} {n cap j b of : Nat} {k : IntKind} (ho : o.op = .indexAddr t x y) (he : elemOf P t = some (e, size))
    (hx : ev f x = .slice A n cap) (hy : ev f y = .int k (Int.ofNat j)) (hj : j < n) (hA : A = some ⟨b, of, none⟩)
    (hg : wants ops f o = true) {d : Nat} (hd : o.dst = some d) (hn : Nat.blt d N = true) (h : WL P N ops l (up f d (.pointer (some ⟨b, of + j * size, none⟩))) w Q) : WL P N ops (o :: l) f w Q :=
  .val hg hd hn (run_indexSlice ho he hx hy hj hA) h
def arrOf (P : Program) (t : TypeId) : Option (Nat × TypeId × Nat) := match P.underlying t with
  | some (.array len e) => match tySize P e with
    | some n => some (len, e, n)
    | none => none
  | _ => none
theorem run_indexArr {ρ : Operand → Value} {t e : TypeId} {size len : Nat} {x y : Operand} {j b of : Nat} {k : IntKind} (ho : o.op = .indexAddr t x y) (he : arrOf P t = some (len, e, size))
    (hx : ρ x = .pointer (some ⟨b, of, none⟩)) (hy : ρ y = .int k (Int.ofNat j)) (hj : j < len) :
    (execOp ρ o).run P w = .ok (.value (.pointer (some ⟨b, of + j * size, none⟩))) w := by
  unfold arrOf at he
  split at he
  · rename_i e' hu
    split at he
    · rename_i n' hn
      simp only [Option.some.injEq, Prod.mk.injEq] at he
      obtain ⟨rfl, rfl, rfl⟩ := he
      simp [execOp, ho, hx, hy, Instr.indexAt, Instr.sureAddr, asIntOf, Sem.run_bind, run_underlying hu, run_sizeOf hn, hj, Addr.add_mid]
    · cases he
  · cases he
theorem WL.indexArr {t e : TypeId} {size len : Nat} {x y : Operand} {j b of : Nat} {k : IntKind} (ho : o.op = .indexAddr t x y) (he : arrOf P t = some (len, e, size))
    (hx : ev f x = .pointer (some ⟨b, of, none⟩)) (hy : ev f y = .int k (Int.ofNat j)) (hj : j < len)
    (hg : wants ops f o = true) {d : Nat} (hd : o.dst = some d) (hn : Nat.blt d N = true) (h : WL P N ops l (up f d (.pointer (some ⟨b, of + j * size, none⟩))) w Q) : WL P N ops (o :: l) f w Q :=
  .val hg hd hn (run_indexArr ho he hx hy hj) h

/-! ## Calls -/
def Ret (R : Value → World → Prop) : Ending → World → Prop := fun e w' => ∃ v, e = .returned v ∧ R v w'
def callOk (P : Program) (fid : FuncId) : Bool := match P.funcs[fid]? with
  | some fn => !(fn.name == "runtime.NumGoroutine") && fn.body.isSome
  | none => false
/-- the call of function 'fid' returns, and R holds of what it returns -/
structure Cal (P : Program) (fid : FuncId) (args : List Value) (w : World) (R : Value → World → Prop) : Prop where
  ok : callOk P fid = true
  calls : Calls P fid ⟨args⟩ w (Ret R)
theorem Cal.mono {fid : FuncId} {args : List Value} {R R' : Value → World → Prop} (h : Cal P fid args w R) (hr : ∀ v w', R v w' → R' v w') : Cal P fid args w R' :=
  ⟨h.ok, h.calls.mono fun _ _ ⟨v, e, r⟩ => ⟨v, e, hr _ _ r⟩⟩
theorem run_callFunc {fid : FuncId} (hk : callOk P fid = true) (args : Array Value) : (callFunc fid args).run P w = .ok (.enter fid args) w := by
  unfold callOk at hk
  cases hf : P.funcs[fid]? with
  | none => simp [hf] at hk
  | some fn =>
    simp only [hf, Bool.and_eq_true, Bool.not_eq_true'] at hk
    obtain ⟨h1, h2⟩ := hk
    have h3 : fn.body.isNone = false := by cases hb : fn.body <;> simp_all
    unfold callFunc
    simp only [Sem.run_bind, program, Sem.run, Result.andThen_ok, hf, h1, h3, Bool.false_eq_true, if_false]
    rfl
theorem run_callOp {fid : FuncId} {xs : List Operand} {ts : Array TypeId} (ho : o.op = .call ⟨.value (.func fid), ⟨xs⟩, ts⟩) {args : List Value} (ha : xs.map (ev f) = args) (hk : callOk P fid = true) :
    (execOp (ev f) o).run P w = .ok (.enter fid ⟨args⟩) w := by
  have e : execOp (ev f) o = callFunc fid (#[] ++ (Array.mk xs).map (ev f) ++ #[]) := by
    obtain ⟨dst, op, type, pos, after, guard⟩ := o
    simp only at ho
    subst ho
    rfl
  rw [e, run_callFunc hk]
  simp [ha]
/-- a call that makes new memory at most -/
theorem WL.call {fid : FuncId} {xs : List Operand} {ts : Array TypeId} {args : List Value} {R : Value → World → Prop} (hS : St w0 M w H Z) (ho : o.op = .call ⟨.value (.func fid), ⟨xs⟩, ts⟩) (ha : xs.map (ev f) = args)
    (hc : Cal P fid args w fun v w' => Upd [] w w' ∧ R v w') (hg : wants ops f o = true) {d : Nat} (hd : o.dst = some d) (hn : Nat.blt d N = true)
    (h : ∀ v w', R v w' → St w0 M w' H (⟨w', fresh w w'⟩ :: Z) → WL P N ops l (up f d v) w' Q) : WL P N ops (o :: l) f w Q :=
  .enter hg hd hn (run_callOp ho ha hc.ok) hc.calls fun v w' ⟨hu, hR⟩ => h v w' hR (hS.fresh hu)
/-- .. what it answers leads to no memory -/
theorem WL.calls {fid : FuncId} {xs : List Operand} {ts : Array TypeId} {args : List Value} {R : Value → World → Prop} (hS : St w0 M w H Z) (ho : o.op = .call ⟨.value (.func fid), ⟨xs⟩, ts⟩) (ha : xs.map (ev f) = args)
    (hc : Cal P fid args w fun v w' => Upd [] w w' ∧ R v w') (hg : wants ops f o = true) {d : Nat} (hd : o.dst = some d) (hn : Nat.blt d N = true)
    (h : ∀ v w', R v w' → St w0 M w' H Z → WL P N ops l (up f d v) w' Q) : WL P N ops (o :: l) f w Q :=
  .enter hg hd hn (run_callOp ho ha hc.ok) hc.calls fun v w' ⟨hu, hR⟩ => h v w' hR (hS.upd0 hu)
end

/-! ## In a region that draws its order -/
/-- what stays true while the region runs: what was known at its head, and more -/
def SS (w0 : World) (M : List Nat) (H : List Chunk) (Z : List Snap) : World → Prop := fun w => ∃ Hn Zn, St w0 M w (Hn ++ H) (Zn ++ Z)
/-- .. and what is known now is more than that -/
def More (H0 : List Chunk) (Z0 : List Snap) (H : List Chunk) (Z : List Snap) : Prop := ∃ Hn Zn, H = Hn ++ H0 ∧ Z = Zn ++ Z0
theorem More.refl (H : List Chunk) (Z : List Snap) : More H Z H Z := ⟨[], [], rfl, rfl⟩
theorem More.chunk {H0 H : List Chunk} {Z0 Z : List Snap} (h : More H0 Z0 H Z) (c : Chunk) : More H0 Z0 (c :: H) Z := by
  obtain ⟨Hn, Zn, rfl, rfl⟩ := h; exact ⟨c :: Hn, Zn, rfl, rfl⟩
theorem More.snap {H0 H : List Chunk} {Z0 Z : List Snap} (h : More H0 Z0 H Z) (z : Snap) : More H0 Z0 H (z :: Z) := by
  obtain ⟨Hn, Zn, rfl, rfl⟩ := h; exact ⟨Hn, z :: Zn, rfl, rfl⟩
theorem More.ss {H0 H : List Chunk} {Z0 Z : List Snap} (h : More H0 Z0 H Z) {w0 w : World} {M : List Nat} (hS : St w0 M w H Z) : SS w0 M H0 Z0 w := by
  obtain ⟨Hn, Zn, rfl, rfl⟩ := h; exact ⟨Hn, Zn, hS⟩
theorem LdOk.more {P : Program} {H0 : List Chunk} {Z0 : List Snap} {ty : TypeId} {a : Addr} {v : Value} (h : LdOk P H0 Z0 ty a v) : ∀ {w0 M w}, SS w0 M H0 Z0 w → (loadVar ty a).run P w = .ok v w :=
  fun ⟨Hn, Zn, hS⟩ => h.out _ _ _ Hn Zn hS

section
variable {P : Program} {N : Nat} {f : Fr} {w w0 : World} {Q : Post} {ops : List Oper} {M : List Nat} {H0 H H' : List Chunk} {Z0 Z : List Snap} {q : Qs} {l : List Nat} {i : Nat}

theorem WC.drawS {id : Nat} (hS : St w0 M w H Z) (q l : List Nat) (hm : P.follows .mixedOrders = true)
    (hk : (Region.noSelect ops.toArray && ordOk ops.toArray ⟨q, .nil⟩ (Array.replicate ops.toArray.size false) l && Nat.beq l.length ops.length) = true)
    (h : ∀ w', St w0 M w' H Z → More H Z H Z → WD P N (SS w0 M H Z) ops ⟨q, .nil⟩ l f w' Q) : WC P N (.region id ops.toArray true) f w Q := by
  simp only [Bool.and_eq_true] at hk
  exact WC.draw (SS w0 M H Z) ⟨q, .nil⟩ l hm hk.1.1 hk.1.2 hk.2 ((More.refl H Z).ss hS.drew) (h _ hS.drew (.refl _ _))
/-- .. with effects of which either of two may be first -/
theorem WC.drawP {id : Nat} (hS : St w0 M w H Z) (q l : List Nat) (t : Pl) (hm : P.follows .mixedOrders = true)
    (hk : (Region.noSelect ops.toArray && ordOk ops.toArray ⟨q, t⟩ (Array.replicate ops.toArray.size false) l && Nat.beq (l.length + t.len) ops.length) = true)
    (h : ∀ w', St w0 M w' H Z → More H Z H Z → WD P N (SS w0 M H Z) ops ⟨q, t⟩ l f w' Q) : WC P N (.region id ops.toArray true) f w Q := by
  simp only [Bool.and_eq_true] at hk
  exact WC.draw (SS w0 M H Z) ⟨q, t⟩ l hm hk.1.1 hk.1.2 hk.2 ((More.refl H Z).ss hS.drew) (h _ hS.drew (.refl _ _))
/-- .. of which the first chunk is known no longer behind it -/
theorem WC.drawC {id : Nat} {c : Chunk} (hS : St w0 M w (c :: H) Z) (q l : List Nat) (hm : P.follows .mixedOrders = true)
    (hk : (Region.noSelect ops.toArray && ordOk ops.toArray ⟨q, .nil⟩ (Array.replicate ops.toArray.size false) l && Nat.beq l.length ops.length) = true)
    (h : ∀ w', St w0 M w' (c :: H) Z → More H Z (c :: H) Z → WD P N (SS w0 M H Z) ops ⟨q, .nil⟩ l f w' Q) : WC P N (.region id ops.toArray true) f w Q := by
  simp only [Bool.and_eq_true] at hk
  exact WC.draw (SS w0 M H Z) ⟨q, .nil⟩ l hm hk.1.1 hk.1.2 hk.2 (((More.refl H Z).chunk c).ss hS.drew) (h _ hS.drew ((More.refl H Z).chunk c))
theorem WD.pure {S : World → Prop} {v : Value} (hv : pureV P (ev f) (ix ops i).op = some v) (hq : q.contains i = true) (hg : wants ops f (ix ops i) = true) {d : Nat} (hd : (ix ops i).dst = some d) (hn : Nat.blt d N = true)
    (h : WD P N S ops q l (up f d v) w Q) : WD P N S ops q (i :: l) f w Q :=
  .take hq hd hn (.inl ⟨hg, fun w' _ => pureV_sound hv w'⟩) h
theorem WD.pass {S : World → Prop} (hq : q.contains i = true) (hg : wants ops f (ix ops i) = false) {d : Nat} (hd : (ix ops i).dst = some d) (hn : Nat.blt d N = true)
    (h : WD P N S ops q l (up f d undef) w Q) : WD P N S ops q (i :: l) f w Q :=
  .take hq hd hn (.inr ⟨hg, rfl⟩) h
theorem WD.add {S : World → Prop} {ty ty' : TypeId} {x y : Operand} {a b : Int} (ho : (ix ops i).op = .binOp .add ty x y ty') (hx : ev f x = .int .i64 a) (hy : ev f y = .int .i64 b) (hr : -9223372036854775808 ≤ a + b ∧ a + b ≤ 9223372036854775807)
    (hq : q.contains i = true) (hg : wants ops f (ix ops i) = true) {d : Nat} (hd : (ix ops i).dst = some d) (hn : Nat.blt d N = true) (h : WD P N S ops q l (up f d (.int .i64 (a + b))) w Q) : WD P N S ops q (i :: l) f w Q :=
  .take hq hd hn (.inl ⟨hg, fun _ _ => run_add ho hx hy hr⟩) h
theorem WD.sub {S : World → Prop} {ty ty' : TypeId} {x y : Operand} {a b : Int} (ho : (ix ops i).op = .binOp .sub ty x y ty') (hx : ev f x = .int .i64 a) (hy : ev f y = .int .i64 b) (hr : -9223372036854775808 ≤ a - b ∧ a - b ≤ 9223372036854775807)
    (hq : q.contains i = true) (hg : wants ops f (ix ops i) = true) {d : Nat} (hd : (ix ops i).dst = some d) (hn : Nat.blt d N = true) (h : WD P N S ops q l (up f d (.int .i64 (a - b))) w Q) : WD P N S ops q (i :: l) f w Q :=
  .take hq hd hn (.inl ⟨hg, fun _ _ => run_sub ho hx hy hr⟩) h
theorem WD.load {ty : TypeId} {x : Operand} {a : Addr} {v : Value} (ho : (ix ops i).op = .load ty x) (hx : ev f x = .pointer (some a)) (hl : LdOk P H0 Z0 ty a v)
    (hq : q.contains i = true) (hg : wants ops f (ix ops i) = true) {d : Nat} (hd : (ix ops i).dst = some d) (hn : Nat.blt d N = true) (h : WD P N (SS w0 M H0 Z0) ops q l (up f d v) w Q) : WD P N (SS w0 M H0 Z0) ops q (i :: l) f w Q :=
  .takeS hq (by unfold blind; rw [ho]) hd hn hg (fun w' hw' => run_load ho hx (hl.more hw')) h
theorem WD.index {S : World → Prop} {t e : TypeId} {size : Nat} {x y : Operand} {A : Option Addr} {n cap j b of : Nat} {k : IntKind} (ho : (ix ops i).op = .indexAddr t x y) (he : elemOf P t = some (e, size))
    (hx : ev f x = .slice A n cap) (hy : ev f y = .int k (Int.ofNat j)) (hj : j < n) (hA : A = some ⟨b, of, none⟩)
    (hq : q.contains i = true) (hg : wants ops f (ix ops i) = true) {d : Nat} (hd : (ix ops i).dst = some d) (hn : Nat.blt d N = true) (h : WD P N S ops q l (up f d (.pointer (some ⟨b, of + j * size, none⟩))) w Q) : WD P N S ops q (i :: l) f w Q :=
  .take hq hd hn (.inl ⟨hg, fun _ _ => run_indexSlice ho he hx hy hj hA⟩) h
theorem WD.indexArr {S : World → Prop} {t e : TypeId} {size len : Nat} {x y : Operand} {j b of : Nat} {k : IntKind} (ho : (ix ops i).op = .indexAddr t x y) (he : arrOf P t = some (len, e, size))
    (hx : ev f x = .pointer (some ⟨b, of, none⟩)) (hy : ev f y = .int k (Int.ofNat j)) (hj : j < len)
    (hq : q.contains i = true) (hg : wants ops f (ix ops i) = true) {d : Nat} (hd : (ix ops i).dst = some d) (hn : Nat.blt d N = true) (h : WD P N S ops q l (up f d (.pointer (some ⟨b, of + j * size, none⟩))) w Q) : WD P N S ops q (i :: l) f w Q :=
  .take hq hd hn (.inl ⟨hg, fun _ _ => run_indexArr ho he hx hy hj⟩) h
theorem WD.box {t : TypeId} {x : Operand} (hS : St w0 M w H Z) (hM : More H0 Z0 H Z) (ho : (ix ops i).op = .box t x) {cs : List Value} (hcs : cellsO (ev f x) = some cs) (hq : q.contains i = false) (hi : Nat.blt i ops.length = true) (hg : wants ops f (ix ops i) = true) {d : Nat} (hd : (ix ops i).dst = some d) (hn : Nat.blt d N = true)
    (h : ∀ w' b, St w0 M w' (.box b t cs :: H) Z → More H0 Z0 (.box b t cs :: H) Z → WD P N (SS w0 M H0 Z0) ops q l (up f d (.pointer (some ⟨b, 0, none⟩))) w' Q) : WD P N (SS w0 M H0 Z0) ops q (i :: l) f w Q :=
  .val hq hi hg hd hn (run_box ho) ((hM.chunk _).ss (hS.newBox _ _)) (by rw [cellsO_eq hcs]; exact h _ _ (hS.newBox _ _) (hM.chunk _))
theorem WD.alloc {t : TypeId} {z : Value} (hS : St w0 M w H Z) (hM : More H0 Z0 H Z) (ho : (ix ops i).op = .alloc t) (hz : tyZero P t = some z) {cs : List Value} (hcs : cellsO z = some cs) (hq : q.contains i = false) (hi : Nat.blt i ops.length = true) (hg : wants ops f (ix ops i) = true) {d : Nat} (hd : (ix ops i).dst = some d) (hn : Nat.blt d N = true)
    (h : ∀ w' b, St w0 M w' (.box b t cs :: H) Z → More H0 Z0 (.box b t cs :: H) Z → WD P N (SS w0 M H0 Z0) ops q l (up f d (.pointer (some ⟨b, 0, none⟩))) w' Q) : WD P N (SS w0 M H0 Z0) ops q (i :: l) f w Q :=
  .val hq hi hg hd hn (run_allocOp ho hz) ((hM.chunk _).ss (hS.newBox _ _)) (by rw [cellsO_eq hcs]; exact h _ _ (hS.newBox _ _) (hM.chunk _))
theorem WD.store {ty : TypeId} {x y : Operand} {b off : Nat} {vs : List Value} (hS : St w0 M w H Z) (ho : (ix ops i).op = .store ty x y) (hx : ev f x = .pointer (some ⟨b, off, none⟩)) (hy : cellsO (ev f y) = some vs)
    (hr : StB b off vs H H') (hn : tySize P ty = some vs.length) (hM : More H0 Z0 H' Z) (hq : q.contains i = false) (hi : Nat.blt i ops.length = true) (hg : wants ops f (ix ops i) = true) (hd : (ix ops i).dst = none)
    (h : ∀ w', St w0 M w' H' Z → More H0 Z0 H' Z → WD P N (SS w0 M H0 Z0) ops q l f w' Q) : WD P N (SS w0 M H0 Z0) ops q (i :: l) f w Q := by
  obtain ⟨t, cs, cs', hr, hs⟩ := hr.repl
  exact .unit0 hq hi hg hd (run_storeBox ho hx (hS.holds _ hr.mem) (by rw [cellsO_eq hy]; exact hs) (by rw [cellsO_eq hy]; exact hn)) (hM.ss (hS.setBox hr)) (h _ (hS.setBox hr) hM)
theorem WD.call {fid : FuncId} {xs : List Operand} {ts : Array TypeId} {args : List Value} {R : Value → World → Prop} (hS : St w0 M w H Z) (hM : More H0 Z0 H Z) (ho : (ix ops i).op = .call ⟨.value (.func fid), ⟨xs⟩, ts⟩) (ha : xs.map (ev f) = args)
    (hc : Cal P fid args w fun v w' => Upd [] w w' ∧ R v w') (hq : q.contains i = false) (hi : Nat.blt i ops.length = true) (hg : wants ops f (ix ops i) = true) {d : Nat} (hd : (ix ops i).dst = some d) (hn : Nat.blt d N = true)
    (h : ∀ v w', R v w' → St w0 M w' H (⟨w', fresh w w'⟩ :: Z) → More H0 Z0 H (⟨w', fresh w w'⟩ :: Z) → WD P N (SS w0 M H0 Z0) ops q l (up f d v) w' Q) : WD P N (SS w0 M H0 Z0) ops q (i :: l) f w Q :=
  .enter hq hi hg hd hn (run_callOp ho ha hc.ok) hc.calls fun v w' ⟨hu, hR⟩ => ⟨(hM.snap _).ss (hS.fresh hu), h v w' hR (hS.fresh hu) (hM.snap _)⟩
theorem WD.calls {fid : FuncId} {xs : List Operand} {ts : Array TypeId} {args : List Value} {R : Value → World → Prop} (hS : St w0 M w H Z) (hM : More H0 Z0 H Z) (ho : (ix ops i).op = .call ⟨.value (.func fid), ⟨xs⟩, ts⟩) (ha : xs.map (ev f) = args)
    (hc : Cal P fid args w fun v w' => Upd [] w w' ∧ R v w') (hq : q.contains i = false) (hi : Nat.blt i ops.length = true) (hg : wants ops f (ix ops i) = true) {d : Nat} (hd : (ix ops i).dst = some d) (hn : Nat.blt d N = true)
    (h : ∀ v w', R v w' → St w0 M w' H Z → WD P N (SS w0 M H0 Z0) ops q l (up f d v) w' Q) : WD P N (SS w0 M H0 Z0) ops q (i :: l) f w Q :=
  .enter hq hi hg hd hn (run_callOp ho ha hc.ok) hc.calls fun v w' ⟨hu, hR⟩ => ⟨hM.ss (hS.upd0 hu), h v w' hR (hS.upd0 hu)⟩
end

/-! ## The end of a function -/
section
variable {P : Program} {fn : Func} {rs : Array ResultVar} {R : Value → World → Prop} {f : Fr} {w : World}
theorem res1 {t : Tmp} (h : fn.results = #[.tmp t]) : ∀ a, Is a fn.ntmps f → (results fn a.tmps).run P w = .ok (f t) w := fun a ha => by
  rw [results_tmp h]; rw [← ha.get t]
theorem fin1n {t : Tmp} {v : Value} (h : fn.results = #[.tmp t]) (hv : nfv (f t) = some v) (hR : R v w) : funQ P rs fn (Ret R) .normal f w := by unfold funQ; exact ⟨v, ⟨v, rfl, hR⟩, by rw [nfv_eq hv]; exact res1 h⟩
theorem fin1r {t : Tmp} {v : Value} (h : fn.results = #[.tmp t]) (hv : nfv (f t) = some v) (hR : R v w) : funQ P rs fn (Ret R) .ret f w := by unfold funQ; exact ⟨v, ⟨v, rfl, hR⟩, by rw [nfv_eq hv]; exact res1 h⟩
theorem res2 {t u : Tmp} (h : fn.results = #[.tmp t, .tmp u]) : ∀ a, Is a fn.ntmps f → (results fn a.tmps).run P w = .ok (.tuple #[f t, f u]) w := fun a ha => by
  rw [results_tmp2 h]; rw [← ha.get t, ← ha.get u]
theorem fin2n {t u : Tmp} {v v' : Value} (h : fn.results = #[.tmp t, .tmp u]) (hv : nfv (f t) = some v) (hv' : nfv (f u) = some v') (hR : R (.tuple #[v, v']) w) : funQ P rs fn (Ret R) .normal f w := by unfold funQ; exact ⟨_, ⟨_, rfl, hR⟩, by rw [nfv_eq hv, nfv_eq hv']; exact res2 h⟩
theorem fin2r {t u : Tmp} {v v' : Value} (h : fn.results = #[.tmp t, .tmp u]) (hv : nfv (f t) = some v) (hv' : nfv (f u) = some v') (hR : R (.tuple #[v, v']) w) : funQ P rs fn (Ret R) .ret f w := by unfold funQ; exact ⟨_, ⟨_, rfl, hR⟩, by rw [nfv_eq hv, nfv_eq hv']; exact res2 h⟩
end
theorem vint {k : IntKind} {a b : Int} (h : a = b) : Value.int k a = Value.int k b := by rw [h]
theorem vbool {a b : Bool} (h : a = b) : Value.bool a = Value.bool b := by rw [h]
theorem Cal.mk' {P : Program} {fid : FuncId} {fn : Func} {c : Code} {args : List Value} {w : World} {R : Value → World → Prop} (hk : callOk P fid = true)
    (hf : P.funcs[fid]? = some fn) (hb : fn.body = some c) (hn : Nat.ble args.length fn.ntmps = true)
    (h : St w [] w [] [⟨w, Old w⟩] → WC P fn.ntmps c (fr0 args) w (funQ P fn.results fn (Ret R))) : Cal P fid args w R :=
  ⟨hk, J.calls hf hb hn (h (St.init w))⟩
end Go.J
