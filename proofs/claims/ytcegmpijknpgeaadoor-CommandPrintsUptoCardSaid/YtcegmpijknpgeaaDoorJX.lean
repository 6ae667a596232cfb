/- What is proved: the walk's rules for texts (joined, indexed, cut, gone through letter by letter), for functions of the library that the model stands in for, for make, and for max and min. Conditions: as each rule names them. -/
import Derived.Test.YtcegmpijknpgeaaDoorJQ
import Derived.Lib.Bytealg
import Derived.OwnWalk
set_option linter.unusedSimpArgs false
set_option linter.unusedVariables false
namespace Go.J
open Go Go.RowKit

section
variable {P : Program} {N : Nat} {f : Fr} {w w0 : World} {Q : Post} {ops l : List Oper} {o : Oper} {M : List Nat} {H H' : List Chunk} {Z : List Snap} {ρ : Operand → Value}

/-! ## Texts -/
theorem run_cat {ty ty' : TypeId} {x y : Operand} {a b : List UInt8} (ho : o.op = .binOp .add ty x y ty') (hx : ρ x = str a) (hy : ρ y = str b) (hr : a.length + b.length ≤ 9223372036854775807) :
    (execOp ρ o).run P w = .ok (.value (str (a ++ b))) w := by
  have h1 : (eqGuard .add ty x y (str a) (str b)).run P w = .ok () w := by simp [eqGuard]
  have hm : ¬ (((a.length + b.length : Nat) : Int) > IntKind.i64.max) := by
    have : IntKind.i64.max = 9223372036854775807 := by decide
    omega
  have h2 : (binOp .add ty (str a) (str b)).run P w = .ok (str (a ++ b)) w := by
    show (Op.stringOp .add ⟨⟨a⟩⟩ ⟨⟨b⟩⟩).run P w = _
    unfold Op.stringOp
    simp only [size_mk, hm, if_false]
    have : (ByteArray.mk ⟨a⟩ ++ ByteArray.mk ⟨b⟩) = ByteArray.mk ⟨a ++ b⟩ := by
      apply ByteArray.ext
      rw [ByteArray.data_append]
      simp
    rw [this]
    rfl
  simp only [execOp, ho, hx, hy, Sem.run_bind, h1, h2, Result.andThen_ok]
  rfl
theorem WL.cat {ty ty' : TypeId} {x y : Operand} {a b : List UInt8} (ho : o.op = .binOp .add ty x y ty') (hx : ev f x = str a) (hy : ev f y = str b) (hr : a.length + b.length ≤ 9223372036854775807)
    (hg : wants ops f o = true) {d : Nat} (hd : o.dst = some d) (hn : Nat.blt d N = true) (h : WL P N ops l (up f d (str (a ++ b))) w Q) : WL P N ops (o :: l) f w Q :=
  .val hg hd hn (run_cat ho hx hy hr) h
def isStr (P : Program) (t : TypeId) : Bool := match P.underlying t with
  | some .string => true
  | _ => false
theorem isStr_eq {t : TypeId} (h : isStr P t = true) : P.underlying t = some .string := by
  unfold isStr at h
  split at h
  · assumption
  · cases h
theorem run_idxS {t : TypeId} {x y : Operand} {s : List UInt8} {k : IntKind} {j : Nat} {c : UInt8} (ho : o.op = .index t x y) (ht : isStr P t = true) (hx : ρ x = str s) (hy : ρ y = .int k (Int.ofNat j)) (hj : s[j]? = some c) :
    (execOp ρ o).run P w = .ok (.value (.int .u8 (c.toNat : Int))) w := by
  have hu := isStr_eq ht
  have hlt : j < s.length := (List.getElem?_eq_some_iff.1 hj).1
  have h1 : (ByteArray.mk ⟨s⟩)[j]? = some c := by
    have hs : j < (ByteArray.mk ⟨s⟩).size := hlt
    rw [getElem?_pos (ByteArray.mk ⟨s⟩) j hs]
    have : (ByteArray.mk ⟨s⟩)[j] = s[j] := rfl
    rw [this, ← hj, List.getElem?_eq_getElem hlt]
  have h3 : (asIntOf (.int k (Int.ofNat j))).run P w = .ok (k, Int.ofNat j) w := by simp [asIntOf]
  have h0 : (0 : Int) ≤ Int.ofNat j := Int.natCast_nonneg j
  have h2 : (Int.ofNat j).toNat = j := rfl
  simp only [execOp, ho, hx, hy, Instr.index, Sem.run_bind, h3, run_underlying hu, Result.andThen_ok, h0, if_true, h2, h1]
  rfl
theorem WL.idxS {t : TypeId} {x y : Operand} {s : List UInt8} {k : IntKind} {j : Nat} {c : UInt8} (ho : o.op = .index t x y) (ht : isStr P t = true) (hx : ev f x = str s) (hy : ev f y = .int k (Int.ofNat j)) (hj : s[j]? = some c)
    (hg : wants ops f o = true) {d : Nat} (hd : o.dst = some d) (hn : Nat.blt d N = true) (h : WL P N ops l (up f d (.int .u8 (c.toNat : Int))) w Q) : WL P N ops (o :: l) f w Q :=
  .val hg hd hn (run_idxS ho ht hx hy hj) h
theorem extract_mk (s : List UInt8) (l h : Nat) : (ByteArray.mk ⟨s⟩).extract l h = ByteArray.mk ⟨(s.take h).drop l⟩ := by
  apply ByteArray.ext
  rw [ByteArray.data_extract]
  simp
  rw [List.drop_take]
theorem run_cutS {t : TypeId} {x : Operand} {lo hi : Option Operand} {s : List UInt8} {l h : Nat} (ho : o.op = .slice t x lo hi none) (ht : isStr P t = true) (hx : ρ x = str s)
    (hl : match lo with | none => l = 0 | some y => ∃ k, ρ y = .int k (Int.ofNat l)) (hh : match hi with | none => h = s.length | some y => ∃ k, ρ y = .int k (Int.ofNat h)) (hlh : l ≤ h) (hhs : h ≤ s.length) :
    (execOp ρ o).run P w = .ok (.value (str ((s.take h).drop l))) w := by
  have hu := isStr_eq ht
  have h3 : ∀ k j, (asIntOf (.int k (Int.ofNat j))).run P w = .ok (k, Int.ofNat j) w := by intro k j; simp [asIntOf]
  have hb : ∀ k j y c, j ≤ y → (Instr.sliceBound (.int k (Int.ofNat j)) y c).run P w = .ok j w := by
    intro k j y c hjy
    have : (0 : Int) ≤ Int.ofNat j ∧ Int.ofNat j ≤ (y : Int) := ⟨Int.natCast_nonneg j, by show (j : Int) ≤ y; omega⟩
    simp only [Instr.sliceBound, Sem.run_bind, h3, Result.andThen_ok, this, if_true, and_self]
    rfl
  have hsz : (ByteArray.mk ⟨s⟩).size = s.length := rfl
  cases lo with
  | none =>
    cases hi with
    | none =>
      simp only at hl hh
      subst hl hh
      simp [execOp, ho, hx, Instr.sliceAt, Instr.slice, Instr.sliceBounds, Sem.run_bind, run_underlying hu, hsz, extract_mk]
    | some y =>
      obtain ⟨k, hk⟩ := hh
      simp only at hl
      subst hl
      simp [execOp, ho, hx, hk, Instr.sliceAt, Instr.slice, Instr.sliceBounds, Sem.run_bind, run_underlying hu, hsz, extract_mk, hb _ _ _ _ hhs]
      rw [show ((h : Int)) = Int.ofNat h from rfl, hb _ _ _ _ hhs]
      simp [extract_mk]
  | some x' =>
    obtain ⟨k, hk⟩ := hl
    cases hi with
    | none =>
      simp only at hh
      subst hh
      simp [execOp, ho, hx, hk, Instr.sliceAt, Instr.slice, Instr.sliceBounds, Sem.run_bind, run_underlying hu, hsz, extract_mk]
      rw [show ((l : Int)) = Int.ofNat l from rfl, hb _ _ _ _ hlh]
      simp [extract_mk]
    | some y =>
      obtain ⟨k', hk'⟩ := hh
      simp [execOp, ho, hx, hk, hk', Instr.sliceAt, Instr.slice, Instr.sliceBounds, Sem.run_bind, run_underlying hu, hsz, extract_mk]
      rw [show ((h : Int)) = Int.ofNat h from rfl, show ((l : Int)) = Int.ofNat l from rfl, hb _ _ _ _ hhs]
      simp only [Result.andThen_ok]
      rw [hb _ _ _ _ hlh]
      simp [extract_mk]
/-- s[lo:] -/
theorem WL.lowS {t : TypeId} {x y : Operand} {s : List UInt8} {k : IntKind} {j : Nat} (ho : o.op = .slice t x (some y) none none) (ht : isStr P t = true) (hx : ev f x = str s) (hy : ev f y = .int k (Int.ofNat j)) (hj : j ≤ s.length)
    (hg : wants ops f o = true) {d : Nat} (hd : o.dst = some d) (hn : Nat.blt d N = true) (h : WL P N ops l (up f d (str (s.drop j))) w Q) : WL P N ops (o :: l) f w Q :=
  .val hg hd hn (by have := run_cutS (P := P) (w := w) (l := j) (h := s.length) ho ht hx ⟨k, hy⟩ rfl hj (Nat.le_refl _); rwa [List.take_length] at this) h
/-- s[:hi] -/
theorem WL.highS {t : TypeId} {x y : Operand} {s : List UInt8} {k : IntKind} {j : Nat} (ho : o.op = .slice t x none (some y) none) (ht : isStr P t = true) (hx : ev f x = str s) (hy : ev f y = .int k (Int.ofNat j)) (hj : j ≤ s.length)
    (hg : wants ops f o = true) {d : Nat} (hd : o.dst = some d) (hn : Nat.blt d N = true) (h : WL P N ops l (up f d (str (s.take j))) w Q) : WL P N ops (o :: l) f w Q :=
  .val hg hd hn (by have := run_cutS (P := P) (w := w) (l := 0) (h := j) ho ht hx rfl ⟨k, hy⟩ (Nat.zero_le _) hj; rwa [List.drop_zero] at this) h
/-- s[lo:hi] -/
theorem WL.midS {t : TypeId} {x y z : Operand} {s : List UInt8} {k k' : IntKind} {i j : Nat} (ho : o.op = .slice t x (some y) (some z) none) (ht : isStr P t = true) (hx : ev f x = str s) (hy : ev f y = .int k (Int.ofNat i)) (hz : ev f z = .int k' (Int.ofNat j)) (hij : i ≤ j) (hj : j ≤ s.length)
    (hg : wants ops f o = true) {d : Nat} (hd : o.dst = some d) (hn : Nat.blt d N = true) (h : WL P N ops l (up f d (str ((s.take j).drop i))) w Q) : WL P N ops (o :: l) f w Q :=
  .val hg hd hn (run_cutS (P := P) (w := w) (l := i) (h := j) ho ht hx ⟨k, hy⟩ ⟨k', hz⟩ hij hj) h

/-! ## max and min -/
theorem run_max {x y : Operand} {ts : Array TypeId} {a b : Int} (ho : o.op = .call ⟨.builtin .max, ⟨[x, y]⟩, ts⟩) (hx : ρ x = .int .i64 a) (hy : ρ y = .int .i64 b) : (execOp ρ o).run P w = .ok (.value (.int .i64 (max a b))) w := by
  have e : max a b = if b > a then b else a := by split <;> omega
  rw [e]
  simp [execOp, ho, resolve, invoke, builtin, Sem.run_bind, hx, hy, Builtin.max_, Builtin.max2]
theorem WL.maxI {x y : Operand} {ts : Array TypeId} {a b : Int} (ho : o.op = .call ⟨.builtin .max, ⟨[x, y]⟩, ts⟩) (hx : ev f x = .int .i64 a) (hy : ev f y = .int .i64 b)
    (hg : wants ops f o = true) {d : Nat} (hd : o.dst = some d) (hn : Nat.blt d N = true) (h : WL P N ops l (up f d (.int .i64 (max a b))) w Q) : WL P N ops (o :: l) f w Q := .val hg hd hn (run_max ho hx hy) h
theorem run_min {x y : Operand} {ts : Array TypeId} {a b : Int} (ho : o.op = .call ⟨.builtin .min, ⟨[x, y]⟩, ts⟩) (hx : ρ x = .int .i64 a) (hy : ρ y = .int .i64 b) : (execOp ρ o).run P w = .ok (.value (.int .i64 (min a b))) w := by
  have e : min a b = if b < a then b else a := by split <;> omega
  rw [e]
  simp [execOp, ho, resolve, invoke, builtin, Sem.run_bind, hx, hy, Builtin.min_, Builtin.min2]
theorem WL.minI {x y : Operand} {ts : Array TypeId} {a b : Int} (ho : o.op = .call ⟨.builtin .min, ⟨[x, y]⟩, ts⟩) (hx : ev f x = .int .i64 a) (hy : ev f y = .int .i64 b)
    (hg : wants ops f o = true) {d : Nat} (hd : o.dst = some d) (hn : Nat.blt d N = true) (h : WL P N ops l (up f d (.int .i64 (min a b))) w Q) : WL P N ops (o :: l) f w Q := .val hg hd hn (run_min ho hx hy) h

/-! ## what the model stands in for -/
structure ExtIs (P : Program) (fid : FuncId) (e : Array Value → Sem Value) : Prop where
  out : ∃ fn, P.funcs[fid]? = some fn ∧ (fn.name == "runtime.NumGoroutine") = false ∧ fn.body.isNone = true ∧ Extern.findNext fn = none ∧ Extern.find fn = some e
theorem run_ext {fid : FuncId} {e : Array Value → Sem Value} {xs : List Operand} {ts : Array TypeId} {args : List Value} {v : Value} {w' : World} (ho : o.op = .call ⟨.value (.func fid), ⟨xs⟩, ts⟩) (ha : xs.map (ev f) = args) (he : ExtIs P fid e) (hr : (e ⟨args⟩).run P w = .ok v w') :
    (execOp (ev f) o).run P w = .ok (.value v) w' := by
  have e1 : execOp (ev f) o = callFunc fid (#[] ++ (Array.mk xs).map (ev f) ++ #[]) := by
    obtain ⟨dst, op, type, pos, after, guard⟩ := o
    simp only at ho
    subst ho
    rfl
  obtain ⟨fn, h1, h2, h3, h4, h5⟩ := he.out
  have e2 : (#[] ++ (Array.mk xs).map (ev f) ++ #[] : Array Value) = ⟨args⟩ := by simp [ha]
  rw [e1, e2, run_callFunc_extern h1 h2 h3 h4 h5, hr]
  rfl
theorem WL.ext {fid : FuncId} {e : Array Value → Sem Value} {xs : List Operand} {ts : Array TypeId} {args : List Value} {v : Value} (ho : o.op = .call ⟨.value (.func fid), ⟨xs⟩, ts⟩) (ha : xs.map (ev f) = args) (he : ExtIs P fid e) (hr : (e ⟨args⟩).run P w = .ok v w)
    (hg : wants ops f o = true) {d : Nat} (hd : o.dst = some d) (hn : Nat.blt d N = true) (h : WL P N ops l (up f d v) w Q) : WL P N ops (o :: l) f w Q := .val hg hd hn (run_ext ho ha he hr) h
theorem run_indexByte (s : List UInt8) (c : UInt8) : (Extern.BytealgIndexByte.indexByte ⟨[str s, .int .u8 (c.toNat : Int)]⟩).run P w = .ok (.int .i64 (Lib.indexByte s c)) w := by
  have := Lib.run_indexByteString (P := P) ⟨⟨s⟩⟩ (c.toNat : Int) w
  simpa using this
theorem run_countByte (s : List UInt8) (c : UInt8) : (Extern.BytealgCount.count ⟨[str s, .int .u8 (c.toNat : Int)]⟩).run P w = .ok (.int .i64 ((s.count c : Nat) : Int)) w := by
  have := Lib.run_countString (P := P) ⟨⟨s⟩⟩ (c.toNat : Int) w
  simpa [Lib.countByte] using this

/-! ## make([]T, n) -/
theorem run_mk {t e : TypeId} {size bytes : Nat} {x y : Operand} {n : Nat} {zs : List Value} (ho : o.op = .makeSlice t x y) (hi : appOf P t = some (e, size, bytes)) (hz : ∃ z, tyZero P e = some z ∧ cellsO z = some zs) (hx : ρ x = .int .i64 (Int.ofNat n)) (hy : ρ y = .int .i64 (Int.ofNat n)) (hb : bytes * n ≤ 281474976710656) :
    ∃ w', (execOp ρ o).run P w = .ok (.value (.slice (some ⟨w.heap.size, 0, none⟩) n n)) w' ∧ RowAt w' e size (.slice (some ⟨w.heap.size, 0, none⟩) n n) n (repZ zs n) ∧ Upd [] w w' ∧ w.heap.size < w'.heap.size := by
  obtain ⟨i, z, hu, hinfo, hz', rfl, rfl, hzs, h0, h0b⟩ := appOf_spec hi
  obtain ⟨z', hz1, hz2⟩ := hz
  have hzz : z' = z := by
    unfold tyZero at hz1
    split at hz1
    · rename_i hi'
      rw [hinfo] at hi'
      simp only [Option.some.injEq] at hi' hz1
      subst hi'
      simp only [Option.some.injEq] at hz'
      rw [← hz1, ← hz']
    · cases hz1
  subst hzz
  have hle : n ≤ i.bytes * n := Nat.le_mul_of_pos_left _ h0b
  obtain ⟨w', hrun, hown, hgr⟩ := run_make_full (P := P) w 0 t e i z' i.size hu hinfo hz' rfl .i64 .i64 n hb (by unfold maxLen; omega) (Nat.zero_le _)
  refine ⟨w', ?_, ?_, ⟨hgr.os, hgr.tape, hgr.output, hgr.size, fun b hb' _ => hgr.block b hb' (by simp)⟩, ?_⟩
  · simp only [execOp, ho, hx, hy, Sem.run_bind]
    have h := hrun
    rw [show ((n : Int)) = Int.ofNat n from rfl] at h
    rw [h]
    rfl
  · have := RowAt.of_owns hown
    have e1 : (madeCells z'.cells (n * i.size)).toList = repZ zs n := by
      have hzc : z'.cells = ⟨zs⟩ := by rw [cells_mk, cellsO_eq hz2]
      have hl : zs.length = i.size := by rw [← hzs, hzc]; simp
      have h1 := repZ_arr zs (by omega) n
      rw [hl] at h1
      unfold madeCells
      rw [hzc, h1]
    rwa [e1] at this
  · have := hown.lt w.heap.size rfl
    exact this.2
theorem WL.mkS {t e : TypeId} {size bytes : Nat} {x y : Operand} {n : Nat} {zs : List Value} (hS : St w0 M w H Z) (ho : o.op = .makeSlice t x y) (hi : appOf P t = some (e, size, bytes)) (hz : ∃ z, tyZero P e = some z ∧ cellsO z = some zs) (hx : ev f x = .int .i64 (Int.ofNat n)) (hy : ev f y = .int .i64 (Int.ofNat n)) (hb : bytes * n ≤ 281474976710656)
    (hg : wants ops f o = true) {d : Nat} (hd : o.dst = some d) (hn : Nat.blt d N = true)
    (h : ∀ w' b, St w0 M w' (.own (.slice (some ⟨b, 0, none⟩) n n) e size n (repZ zs n) :: H) Z → WL P N ops l (up f d (.slice (some ⟨b, 0, none⟩) n n)) w' Q) : WL P N ops (o :: l) f w Q := by
  obtain ⟨w', hrun, hown, hu, hlt⟩ := run_mk (P := P) (w := w) ho hi hz hx hy hb
  exact .val hg hd hn hrun (h w' _ (hS.push hu hown fun b hb => by simp [Chunk.fp, Value.ownBlock] at hb; subst hb; exact ⟨Nat.le_refl _, hlt⟩))

/-! ## list[:k] of a row -/
theorem run_sliceHigh {t e : TypeId} {size : Nat} {x y : Operand} {g off n cap j : Nat} {k : IntKind} (ho : o.op = .slice t x none (some y) none) (he : elemOf P t = some (e, size)) (hx : ρ x = .slice (some ⟨g, off, none⟩) n cap) (hy : ρ y = .int k (Int.ofNat j)) (hj : j ≤ cap) :
    (execOp ρ o).run P w = .ok (.value (.slice (some ⟨g, off, none⟩) j cap)) w := by
  unfold elemOf at he
  split at he
  · rename_i e' hu
    split at he
    · rename_i n' hn
      simp only [Option.some.injEq, Prod.mk.injEq] at he
      obtain ⟨rfl, rfl⟩ := he
      simp [execOp, ho, hx, hy, Instr.sliceAt, Instr.slice, Instr.sliceBounds, Instr.sliceBound, asIntOf, Sem.run_bind, run_underlying hu, run_sizeOf hn, hj, Addr.add_mid]
    · cases he
  · cases he
theorem RowAt.high {e : TypeId} {size n cap j g off : Nat} {xs : List Value} (h : RowAt w e size (.slice (some ⟨g, off, none⟩) n cap) n xs) (hj : j ≤ n) : RowAt w e size (.slice (some ⟨g, off, none⟩) j cap) j (xs.take (j * size)) := by
  obtain ⟨h1, h2⟩ := h
  have hle : j * size ≤ n * size := Nat.mul_le_mul_right _ hj
  rcases h2 with ⟨h2, h3⟩ | ⟨g', og, cap', cur, h2, hh, hnc, hcm, hcs, htake⟩
  · simp at h2
  · simp only [Value.slice.injEq, Option.some.injEq, Addr.mk.injEq, and_true] at h2
    obtain ⟨⟨rfl, rfl⟩, _, rfl⟩ := h2
    refine ⟨by rw [List.length_take, h1]; omega, .inr ⟨g, off, cap, cur, rfl, hh, by omega, hcm, hcs, ?_⟩⟩
    rw [← htake, List.take_take, Nat.min_eq_left hle]
theorem WL.sliceHigh {t e : TypeId} {size g off n cap j : Nat} {x y : Operand} {k : IntKind} {xs : List Value} (hS : St w0 M w H Z) (ho : o.op = .slice t x none (some y) none) (he : elemOf P t = some (e, size)) (hx : ev f x = .slice (some ⟨g, off, none⟩) n cap) (hy : ev f y = .int k (Int.ofNat j))
    (hr : Repl (.own (.slice (some ⟨g, off, none⟩) n cap) e size n xs) (.own (.slice (some ⟨g, off, none⟩) j cap) e size j (xs.take (j * size))) H H') (hj : j ≤ n) (hc : n ≤ cap)
    (hg : wants ops f o = true) {d : Nat} (hd : o.dst = some d) (hn : Nat.blt d N = true) (h : St w0 M w H' Z → WL P N ops l (up f d (.slice (some ⟨g, off, none⟩) j cap)) w Q) : WL P N ops (o :: l) f w Q :=
  .val hg hd hn (run_sliceHigh ho he hx hy (by omega)) (h (hS.recast hr (fun h => RowAt.high h hj) fun b hb => hb))

/-! ## a text gone through -/
def ItIs (b : Nat) (s : List UInt8) (pos : Nat) (w : World) : Prop := w.heap[b]? = some (.stringIter ⟨⟨s⟩⟩ pos)
theorem ItIs.local {b : Nat} {s : List UInt8} {pos : Nat} : Local [b] (ItIs b s pos) := fun w w' h e => (h b (by simp)).trans e
abbrev itC (b : Nat) (s : List UInt8) (pos : Nat) : Chunk := .obj [b] (ItIs b s pos)
theorem WL.rangeS {t : TypeId} {x : Operand} {s : List UInt8} (hS : St w0 M w H Z) (ho : o.op = .range t x) (ht : isStr P t = true) (hx : ev f x = str s) (hg : wants ops f o = true) {d : Nat} (hd : o.dst = some d) (hn : Nat.blt d N = true)
    (h : ∀ w' b, St w0 M w' (itC b s 0 :: H) Z → WL P N ops l (up f d (.pointer (some ⟨b, 0, none⟩))) w' Q) : WL P N ops (o :: l) f w Q := by
  have hrun : (execOp (ev f) o).run P w = .ok (.value (.pointer (some ⟨w.heap.size, 0, none⟩))) (w.alloc (.stringIter ⟨⟨s⟩⟩ 0)) := by
    simp only [execOp, ho, hx, Instr.range, Sem.run_bind, run_underlying (isStr_eq ht), Result.andThen_ok, Sem.run_pure]
    rfl
  refine .val hg hd hn hrun (h _ _ (hS.push (.alloc _ _ _) ⟨heap_alloc_new w _, ItIs.local⟩ fun b hb => ?_))
  have : b = w.heap.size := by simpa [Chunk.fp] using hb
  subst this; simp
theorem run_nextS_end {x : Operand} {b : Nat} {s : List UInt8} {pos : Nat} (ho : o.op = .next x true) (hx : ρ x = .pointer (some ⟨b, 0, none⟩)) (hb : ItIs b s pos w) (hp : s.length ≤ pos) : (execOp ρ o).run P w = .ok (.value (.tuple #[.bool false])) w := by
  have hn : ¬ pos < (ByteArray.mk ⟨s⟩).size := by show ¬ pos < s.length; omega
  have hget : (getObj b).run P w = .ok (.stringIter ⟨⟨s⟩⟩ pos) w := by simp [getObj, Sem.run, ItIs] at hb ⊢; simp [hb, Sem.run]
  simp only [execOp, ho, hx, Instr.next, Sem.run_bind, hget, Result.andThen_ok, hn, if_false]
  rfl
theorem get_lt (s : List UInt8) (i : Nat) (h : i < s.length) : (ByteArray.mk ⟨s⟩).get! i = s[i] := by
  show (Array.mk s)[i]! = s[i]
  simp [h]
/-- the letter and its width at a place: a letter below 128 is itself -/
theorem decode_small (s : List UInt8) (pos : Nat) (h : pos < s.length) (h8 : s[pos].toNat < 128) : Utf8.decode ⟨⟨s⟩⟩ pos = (s[pos].toNat, 1) := by
  unfold Utf8.decode
  simp only [Nat.add_zero, get_lt s pos h, if_pos h8]
theorem decode_big (s : List UInt8) (pos : Nat) (h : pos < s.length) (h8 : ¬ s[pos].toNat < 128) : 128 ≤ (Utf8.decode ⟨⟨s⟩⟩ pos).1 ∧ 1 ≤ (Utf8.decode ⟨⟨s⟩⟩ pos).2 := by
  unfold Utf8.decode
  simp only [Nat.add_zero, get_lt s pos h, if_neg h8, Utf8.runeError]
  repeat' split
  all_goals (simp only [Bool.and_eq_true, decide_eq_true_eq, ge_iff_le] at *; omega)
theorem run_nextS {x : Operand} {b : Nat} {s : List UInt8} {pos : Nat} (ho : o.op = .next x true) (hx : ρ x = .pointer (some ⟨b, 0, none⟩)) (hb : ItIs b s pos w) (hp : pos < s.length) :
    (execOp ρ o).run P w = .ok (.value (.tuple #[.bool true, .int .i64 (pos : Int), .int .i32 ((Utf8.decode ⟨⟨s⟩⟩ pos).1 : Int)])) { w with heap := w.heap.setIfInBounds b (.stringIter ⟨⟨s⟩⟩ (pos + (Utf8.decode ⟨⟨s⟩⟩ pos).2)) } := by
  have hn : pos < (ByteArray.mk ⟨s⟩).size := hp
  have hb' : w.heap[b]? = some (.stringIter ⟨⟨s⟩⟩ pos) := hb
  have hget : (getObj b).run P w = .ok (.stringIter ⟨⟨s⟩⟩ pos) w := by simp [getObj, Sem.run, hb']
  have hset : ∀ ob, (setObj b ob).run P w = .ok () { w with heap := w.heap.setIfInBounds b ob } := by intro ob; simp [setObj, Sem.run, hb']
  simp only [execOp, ho, hx, Instr.next, Sem.run_bind, hget, Result.andThen_ok, hn, if_true]
  rcases hd : Utf8.decode ⟨⟨s⟩⟩ pos with ⟨c, width⟩
  simp only [Sem.run_bind, hset, Result.andThen_ok]
  rfl
theorem WL.nextS_end {x : Operand} {b : Nat} {s : List UInt8} {pos : Nat} (hS : St w0 M w H Z) (ho : o.op = .next x true) (hx : ev f x = .pointer (some ⟨b, 0, none⟩)) (hm : itC b s pos ∈ H) (hp : s.length ≤ pos)
    (hg : wants ops f o = true) {d : Nat} (hd : o.dst = some d) (hn : Nat.blt d N = true) (h : WL P N ops l (up f d (.tuple #[.bool false])) w Q) : WL P N ops (o :: l) f w Q :=
  .val hg hd hn (run_nextS_end ho hx (hS.holds _ hm).1 hp) h
theorem WL.nextS {x : Operand} {b : Nat} {s : List UInt8} {pos c width : Nat} (hS : St w0 M w H Z) (ho : o.op = .next x true) (hx : ev f x = .pointer (some ⟨b, 0, none⟩)) (hr : Repl (itC b s pos) (itC b s (pos + width)) H H') (hp : pos < s.length) (hc : Utf8.decode ⟨⟨s⟩⟩ pos = (c, width))
    (hg : wants ops f o = true) {d : Nat} (hd : o.dst = some d) (hn : Nat.blt d N = true) (h : ∀ w', St w0 M w' H' Z → WL P N ops l (up f d (.tuple #[.bool true, .int .i64 (pos : Int), .int .i32 (c : Int)])) w' Q) : WL P N ops (o :: l) f w Q := by
  have hI := (hS.holds _ hr.mem).1
  have hrun := run_nextS (P := P) ho hx hI hp
  rw [hc] at hrun
  have hlt : b < w.heap.size := (hS.inb _ hr.mem b (by simp [Chunk.fp])).1
  refine .val hg hd hn hrun (h _ (hS.step hr ⟨rfl, rfl, rfl, by simp, fun k hk hn => ?_⟩ ⟨?_, ItIs.local⟩ fun b hb => .inl hb))
  · have hne : k ≠ b := fun e => hn (by simp [Chunk.fp, e])
    show (w.heap.setIfInBounds b _)[k]? = _
    rw [Array.getElem?_setIfInBounds_ne (by omega)]
  · show (w.heap.setIfInBounds b _)[b]? = _
    simp [hlt]
end
end Go.J
