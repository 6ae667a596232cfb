/- What is proved: rules for the bytes of a text ('[]byte(s)'), and remainders of any sign. Conditions: as each rule names them. -/
import Derived.Test.YtcegmpijknpgeaaDoorJL
import Derived.Laws.IdiomStrings
import Derived.Laws.IdiomCopy
set_option linter.unusedSimpArgs false
set_option linter.unusedVariables false
namespace Go.J
open Go Go.RowKit

/-- the bytes of a text, in a row of their own -/
def BsIs (b : Nat) (e : TypeId) (s : List UInt8) (w : World) : Prop := ∃ cs lo, w.heap[b]? = some (.cells ⟨byteC s ++ cs⟩ e (lo, lo + 1)) ∧ (byteC s ++ cs).length ≤ lo
theorem BsIs.local {b : Nat} {e : TypeId} {s : List UInt8} : Local [b] (BsIs b e s) := fun w w' h ⟨cs, lo, h1, h2⟩ => ⟨cs, lo, (h b (by simp)).trans h1, h2⟩
abbrev bsC (b : Nat) (e : TypeId) (s : List UInt8) : Chunk := .obj [b] (BsIs b e s)
theorem byteC_get {s : List UInt8} {j : Nat} {c : UInt8} (h : s[j]? = some c) : (byteC s)[j]? = some (.int .u8 (c.toNat : Int)) := by simp [byteC, h]
theorem byteC_set (s : List UInt8) (j : Nat) (c : UInt8) : byteC (s.set j c) = (byteC s).set j (.int .u8 (c.toNat : Int)) := by simp [byteC, List.map_set]
theorem BsIs.cell {b : Nat} {e : TypeId} {s : List UInt8} {w : World} (h : BsIs b e s w) : ∀ j u, (byteC s)[j]? = some u → w.cell? ⟨b, 0 + j, none⟩ = some u := by
  obtain ⟨cs, lo, h1, h2⟩ := h
  intro j u hj
  rw [Nat.zero_add, cell_of_row w b j _ e _ h1]
  have hlt := (List.getElem?_eq_some_iff.1 hj).1
  simp only [List.getElem?_toArray]
  rw [List.getElem?_append_left hlt]
  exact hj
section
variable {P : Program} {N : Nat} {f : Fr} {w w0 : World} {Q : Post} {ops l : List Oper} {o : Oper} {M : List Nat} {H H' : List Chunk} {Z : List Snap} {ρ : Operand → Value}
theorem run_s2b {t t2 e : TypeId} {x : Operand} {s : List UInt8} (ho : o.op = .convert t t2 x) (ht : isStr P t = true) (ht2 : bytesOf P t2 = some e) (hx : ρ x = str s) :
    ∃ cap w', (execOp ρ o).run P w = .ok (.value (.slice (some ⟨w.heap.size, 0, none⟩) s.length cap)) w' ∧ BsIs w.heap.size e s w' ∧ Upd [] w w' ∧ w.heap.size < w'.heap.size ∧ s.length ≤ cap := by
  obtain ⟨h1, h2⟩ := bytesOf_spec ht2
  have hr := run_bytes_of_string (P := P) w t t2 e ⟨⟨s⟩⟩ (isStr_eq ht) h1 h2
  have hb : bytesRow ⟨⟨s⟩⟩ (grownCap w s.length 0 e) = ⟨byteC s ++ List.replicate (grownCap w s.length 0 e - s.length) (.int .u8 0)⟩ := by
    simp [bytesRow, byteC, ByteArray.size]
  have hsz : (⟨⟨s⟩⟩ : ByteArray).size = s.length := rfl
  rw [hsz, hb] at hr
  generalize List.replicate (grownCap w s.length 0 e - s.length) (Value.int .u8 0) = C at hr
  refine ⟨grownCap w s.length 0 e, w.drew.alloc (.cells ⟨byteC s ++ C⟩ e ((byteC s ++ C).length, (byteC s ++ C).length + 1)), ?_, ⟨C, _, heap_alloc_new w.drew _, Nat.le_refl _⟩, (Upd.drew [] w).trans (.alloc _ _ _), by simp, grownCap_ge w _ _ _⟩
  simp only [execOp, ho, hx, Sem.run_bind, hr, Result.andThen_ok]
  rfl
theorem WL.s2b {t t2 e : TypeId} {x : Operand} {s : List UInt8} (hS : St w0 M w H Z) (ho : o.op = .convert t t2 x) (ht : isStr P t = true) (ht2 : bytesOf P t2 = some e) (hx : ev f x = str s)
    (hg : wants ops f o = true) {d : Nat} (hd : o.dst = some d) (hn : Nat.blt d N = true) (h : ∀ w' b cap, s.length ≤ cap → St w0 M w' (bsC b e s :: H) Z → WL P N ops l (up f d (.slice (some ⟨b, 0, none⟩) s.length cap)) w' Q) : WL P N ops (o :: l) f w Q := by
  obtain ⟨cap, w', hr, hb, hu, hlt, hc⟩ := run_s2b (P := P) (w := w) ho ht ht2 hx
  exact .val hg hd hn hr (h w' _ cap hc (hS.push hu ⟨hb, BsIs.local⟩ fun b hb => by simp [Chunk.fp] at hb; subst hb; exact ⟨Nat.le_refl _, hlt⟩))
theorem LdOk.bs {b j : Nat} {e ty : TypeId} {s : List UInt8} {c : UInt8} (hm : bsC b e s ∈ H) (hj : s[j]? = some c) (h0 : tyAgg P ty = some false) (h1 : ∃ n, tySize P ty = some n) : LdOk P H Z ty ⟨b, 0 + j * 1, none⟩ (.int .u8 (c.toNat : Int)) :=
  ⟨fun w0 M w Hn Zn hS => run_loadVar_cells (getV_at h0 h1 (byteC_get (by rwa [Nat.mul_one])) rfl) (BsIs.cell (hS.holds _ (List.mem_append_right _ hm)).1)⟩
theorem run_storeBs {ty e : TypeId} {x y : Operand} {b j : Nat} {s : List UInt8} {c : UInt8} (ho : o.op = .store ty x y) (hx : ρ x = .pointer (some ⟨b, 0 + j * 1, none⟩)) (hy : ρ y = .int .u8 (c.toNat : Int)) (hj : j < s.length) (hb : BsIs b e s w) (hn : tySize P ty = some 1) :
    ∃ w', (execOp ρ o).run P w = .ok .skip w' ∧ BsIs b e (s.set j c) w' ∧ Upd [b] w w' := by
  obtain ⟨cs, lo, h1, h2⟩ := hb
  have hbl : (byteC s).length = s.length := byteC_len s
  have hjl : j < (byteC s ++ cs).length := by rw [List.length_append]; omega
  have hc : w.cell? ⟨b, 0 + j * 1, none⟩ = (byteC s ++ cs)[j]? := by rw [Nat.zero_add, Nat.mul_one, cell_of_row w b j _ e _ h1]; simp
  have hf : w.frozen? ⟨b, 0 + j * 1, none⟩ = false := by
    simp only [World.frozen?, h1, Nat.zero_add, Nat.mul_one]
    simp; omega
  have hst := run_storeCells_cells (P := P) b (0 + j * 1) [.int .u8 (c.toNat : Int)] 0 w (fun i hi => by
      obtain rfl : i = 0 := by simpa using hi
      simp only [Nat.add_zero]
      rw [hc, List.getElem?_eq_getElem hjl]; rfl) (fun i hi => by
      obtain rfl : i = 0 := by simpa using hi
      simpa using hf) (fun v hv => by rw [List.mem_singleton.1 hv]; rfl)
  have hsv : (storeVar ty ⟨b, 0 + j * 1, none⟩ (.int .u8 (c.toNat : Int))).run P w = .ok () (w.setCells b (0 + j * 1 + 0) [.int .u8 (c.toNat : Int)]) := by
    unfold storeVar
    rw [Sem.run_bind, run_sizeOf hn]
    simp only [Result.andThen_ok, Value.cells]
    simpa using hst
  simp only [Nat.zero_add, Nat.mul_one, Nat.add_zero] at hsv hx
  refine ⟨w.setCells b j [.int .u8 (c.toNat : Int)], by simp [execOp, ho, hx, hy, Instr.storeAt, Instr.sureAddr, Sem.run_bind, hsv], ?_, ?_⟩
  · refine ⟨cs, lo, ?_, by rw [byteC_set, List.length_append, List.length_set, ← List.length_append]; exact h2⟩
    simp only [World.setCells, World.setCell, Array.getElem?_modify, h1, if_true, Option.map_some, Nat.zero_add, Nat.mul_one, Nat.add_zero]
    rw [byteC_set]
    simp [List.set_append_left _ _ (show j < (byteC s).length by omega)]
  · refine ⟨rfl, rfl, rfl, by simp [World.setCells, World.setCell], fun k _ hk => ?_⟩
    have hne : b ≠ k := fun e => hk (by simp [e])
    simp [World.setCells, World.setCell, Array.getElem?_modify, hne]
theorem run_b2sBs {t t2 e e2 : TypeId} {x : Operand} {b cap : Nat} {s : List UInt8} (ho : o.op = .convert t t2 x) (ht : bytesOf P t = some e) (ht2 : isStr P t2 = true) (hx : ρ x = .slice (some ⟨b, 0, none⟩) s.length cap) (hb : BsIs b e2 s w) :
    (execOp ρ o).run P w = .ok (.value (str s)) w := by
  obtain ⟨h1, h2⟩ := bytesOf_spec ht
  have hr := run_convert_bytes_back (P := P) w t t2 e ⟨b, 0, none⟩ cap s h1 h2 (isStr_eq ht2) (fun j hj => by
    have := hb.cell j _ (byteC_get (List.getElem?_eq_getElem hj))
    rw [Addr.add_mid]; exact this)
  simp only [execOp, ho, hx, Sem.run_bind, hr, Result.andThen_ok]
  rfl
theorem WL.b2sBs {t t2 e e2 : TypeId} {x : Operand} {b cap n : Nat} {s : List UInt8} (hS : St w0 M w H Z) (ho : o.op = .convert t t2 x) (ht : bytesOf P t = some e) (ht2 : isStr P t2 = true) (hx : ev f x = .slice (some ⟨b, 0, none⟩) n cap) (hm : bsC b e2 s ∈ H) (hn' : n = s.length)
    (hg : wants ops f o = true) {d : Nat} (hd : o.dst = some d) (hn : Nat.blt d N = true) (h : WL P N ops l (up f d (str s)) w Q) : WL P N ops (o :: l) f w Q :=
  .val hg hd hn (run_b2sBs ho ht ht2 (by rw [hx, hn']) (hS.holds _ hm).1) h
/-- Go's remainder, whatever the sign -/
theorem run_remT {ty ty' : TypeId} {x y : Operand} {a b : Int} (ho : o.op = .binOp .rem ty x y ty') (hx : ρ x = .int .i64 a) (hy : ρ y = .int .i64 b) (hb : 0 < b) :
    (execOp ρ o).run P w = .ok (.value (.int .i64 (Int.tmod a b))) w := by
  have h0 : ¬ b = 0 := by omega
  have h1 : (eqGuard .rem ty x y (.int .i64 a) (.int .i64 b)).run P w = .ok () w := by simp [eqGuard]
  have h2 : (binOp .rem ty (.int .i64 a) (.int .i64 b)).run P w = .ok (.int .i64 (Int.tmod a b)) w := by simp [binOp, Op.intDiv, h0]
  simp only [execOp, ho, hx, hy, Sem.run_bind, h1, h2, Result.andThen_ok]
  rfl
theorem WL.remT {ty ty' : TypeId} {x y : Operand} {a b : Int} (ho : o.op = .binOp .rem ty x y ty') (hx : ev f x = .int .i64 a) (hy : ev f y = .int .i64 b) (hb : 0 < b)
    (hg : wants ops f o = true) {d : Nat} (hd : o.dst = some d) (hn : Nat.blt d N = true) (h : WL P N ops l (up f d (.int .i64 (Int.tmod a b))) w Q) : WL P N ops (o :: l) f w Q :=
  .val hg hd hn (run_remT ho hx hy hb) h
theorem tmod_bound (a : Int) {n : Int} (hn : 0 < n) : -n < Int.tmod a n ∧ Int.tmod a n < n := by
  have h1 := Int.tmod_lt_of_pos a hn
  have h2 := Int.tmod_lt_of_pos (-a) hn
  rw [Int.neg_tmod] at h2
  omega
theorem tmod_twice (a : Int) {n : Int} (hn : 0 < n) : Int.tmod (Int.tmod a n + n) n = a % n := by
  have hb := tmod_bound a hn
  rw [Int.tmod_eq_emod_of_nonneg (by omega), Int.add_emod_right]
  have := Int.mul_tdiv_add_tmod a n
  have e : Int.tmod a n = a + n * (-Int.tdiv a n) := by rw [Int.mul_neg]; omega
  rw [e, Int.add_mul_emod_self_left]
end
section
variable {P : Program} {N : Nat} {f : Fr} {w w0 : World} {Q : Post} {ops : List Oper} {M : List Nat} {H0 H H' : List Chunk} {Z0 Z : List Snap} {q : Qs} {l : List Nat} {i : Nat}
theorem WD.storeBs {ty e : TypeId} {x y : Operand} {b j : Nat} {s : List UInt8} {c : UInt8} (hS : St w0 M w (bsC b e s :: H) Z) (hM : More H0 Z0 H Z) (ho : (ix ops i).op = .store ty x y) (hx : ev f x = .pointer (some ⟨b, 0 + j * 1, none⟩)) (hy : ev f y = .int .u8 (c.toNat : Int)) (hj : j < s.length) (ht : tySize P ty = some 1)
    (hq : q.contains i = false) (hi : Nat.blt i ops.length = true) (hg : wants ops f (ix ops i) = true) (hd : (ix ops i).dst = none) (h : ∀ w', St w0 M w' (bsC b e (s.set j c) :: H) Z → WD P N (SS w0 M H0 Z0) ops q l f w' Q) : WD P N (SS w0 M H0 Z0) ops q (i :: l) f w Q := by
  obtain ⟨w', hr, hb, hu⟩ := run_storeBs (P := P) ho hx hy hj (hS.holds _ (List.mem_cons_self ..)).1 ht
  have hS' : St w0 M w' (bsC b e (s.set j c) :: H) Z := hS.step .here hu ⟨hb, BsIs.local⟩ (fun b hb => .inl hb)
  exact .unit0 hq hi hg hd hr (hM.ss hS'.drop) (h w' hS')
theorem WD.pivBs {qs : List Nat} {ty e : TypeId} {x y : Operand} {b j : Nat} {s : List UInt8} {c : UInt8} {S : World → Prop} (hS : St w0 M w H Z) (ho : (ix ops i).op = .store ty x y) (hx : ev f x = .pointer (some ⟨b, 0 + j * 1, none⟩)) (hy : ev f y = .int .u8 (c.toNat : Int)) (hr : Repl (bsC b e s) (bsC b e (s.set j c)) H H') (hj : j < s.length) (ht : tySize P ty = some 1)
    (hi : Nat.blt i ops.length = true) (hg : wants ops f (ix ops i) = true) (hd : (ix ops i).dst = none) (h : ∀ w', St w0 M w' H' Z → More [] [] H' Z → WD P N (SS w0 M [] []) ops ⟨qs, .nil⟩ l f w' Q) : WD P N S ops ⟨qs, .piv i l⟩ [] f w Q := by
  refine .piv (S2 := SS w0 M [] []) ?_
  obtain ⟨w', hrun, hb, hu⟩ := run_storeBs (P := P) ho hx hy hj (hS.holds _ hr.mem).1 ht
  have hS' := hS.step hr hu ⟨hb, BsIs.local⟩ (fun b hb => .inl hb)
  exact .unit0 hi hg hd hrun (SS.any hS') (h _ hS' .none)
theorem WD.rem {S : World → Prop} {ty ty' : TypeId} {x y : Operand} {a b : Int} (ho : (ix ops i).op = .binOp .rem ty x y ty') (hx : ev f x = .int .i64 a) (hy : ev f y = .int .i64 b) (ha : 0 ≤ a) (hb : 0 < b)
    (hq : q.contains i = true) (hg : wants ops f (ix ops i) = true) {d : Nat} (hd : (ix ops i).dst = some d) (hn : Nat.blt d N = true) (h : WD P N S ops q l (up f d (.int .i64 (a % b))) w Q) : WD P N S ops q (i :: l) f w Q :=
  .take hq hd hn (.inl ⟨hg, fun _ _ => run_rem ho hx hy ha hb⟩) h
theorem WD.quo {S : World → Prop} {ty ty' : TypeId} {x y : Operand} {a b : Int} (ho : (ix ops i).op = .binOp .quo ty x y ty') (hx : ev f x = .int .i64 a) (hy : ev f y = .int .i64 b) (ha : 0 ≤ a) (ha2 : a ≤ 9223372036854775807) (hb : 0 < b)
    (hq : q.contains i = true) (hg : wants ops f (ix ops i) = true) {d : Nat} (hd : (ix ops i).dst = some d) (hn : Nat.blt d N = true) (h : WD P N S ops q l (up f d (.int .i64 (a / b))) w Q) : WD P N S ops q (i :: l) f w Q :=
  .take hq hd hn (.inl ⟨hg, fun _ _ => run_quo ho hx hy ha ha2 hb⟩) h
end
end Go.J
