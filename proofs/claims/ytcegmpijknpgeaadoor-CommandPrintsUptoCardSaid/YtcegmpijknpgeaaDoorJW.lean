/- What is proved: the walk's rules for shifts, complements, bytes to texts and back, closures, functions without results, and a builder of texts. Conditions: as each rule names them. -/
import Derived.Test.YtcegmpijknpgeaaDoorJX
import Derived.Laws.BitsAllLaws
import Derived.Laws.IdiomStrings
import Derived.Lib.ConvBytes
import Derived.Lib.Builder
import Derived.Lib.UnsafeStr
set_option linter.unusedSimpArgs false
set_option linter.unusedVariables false
namespace Go.J
open Go Go.RowKit

def shrI (k : IntKind) (a b : Int) : Int := a.fdiv (2 ^ (min b.toNat k.bits))
def shlI (k : IntKind) (a b : Int) : Int := k.wrap (a * 2 ^ (min b.toNat k.bits))
def compI (k : IntKind) (a : Int) : Int := bits .xor k (if k.signed then -1 else k.max) a
section
variable {P : Program} {N : Nat} {f : Fr} {w w0 : World} {Q : Post} {ops l : List Oper} {o : Oper} {M : List Nat} {H H' : List Chunk} {Z : List Snap} {ρ : Operand → Value}

/-- what stood at the head of the call, and stays -/
theorem LdOk.old {r off : Nat} {t ty : TypeId} {cs : List Value} {v : Value} (h : w0.heap[r]? = some (.cells ⟨cs⟩ t (0, 0))) (hz : Snap.mk w0 (Old w0) ∈ Z) (hv : getV P ty cs off = some v) : LdOk P H Z ty ⟨r, off, none⟩ v := by
  have hlt : r < w0.heap.size := by
    rcases Nat.lt_or_ge r w0.heap.size with h2 | h2
    · exact h2
    · rw [Array.getElem?_eq_none (by omega)] at h; cases h
  have := LdOk.snap (P := P) (H := H) (Z := Z) (b := r) (o := 0) (off := off) (wz := w0) (F := Old w0) (cs := cs) hlt (fun j u hj => by
    rw [Nat.zero_add, cell_of_row w0 r j ⟨cs⟩ t (0, 0) h]; simpa using hj) hz hv
  rwa [Nat.zero_add] at this
/-! ## shifts and complements -/
theorem run_shr {ty ty' : TypeId} {x y : Operand} {k k2 : IntKind} {a b : Int} (ho : o.op = .binOp .shr ty x y ty') (hx : ρ x = .int k a) (hy : ρ y = .int k2 b) (hb : 0 ≤ b) : (execOp ρ o).run P w = .ok (.value (.int k (shrI k a b))) w := by
  have h0 : ¬ b < 0 := by omega
  have h1 : (eqGuard .shr ty x y (.int k a) (.int k2 b)).run P w = .ok () w := by simp [eqGuard]
  simp only [execOp, ho, hx, hy, Sem.run_bind, h1, Result.andThen_ok, binOp, Op.shift, h0, if_false, Sem.run_pure]
  rfl
theorem run_shl {ty ty' : TypeId} {x y : Operand} {k k2 : IntKind} {a b : Int} (ho : o.op = .binOp .shl ty x y ty') (hx : ρ x = .int k a) (hy : ρ y = .int k2 b) (hb : 0 ≤ b) : (execOp ρ o).run P w = .ok (.value (.int k (shlI k a b))) w := by
  have h0 : ¬ b < 0 := by omega
  have h1 : (eqGuard .shl ty x y (.int k a) (.int k2 b)).run P w = .ok () w := by simp [eqGuard]
  simp only [execOp, ho, hx, hy, Sem.run_bind, h1, Result.andThen_ok, binOp, Op.shift, h0, if_false, Sem.run_pure]
  rfl
theorem run_comp {ty : TypeId} {x : Operand} {k : IntKind} {a : Int} (ho : o.op = .unOp .xor ty x) (hx : ρ x = .int k a) : (execOp ρ o).run P w = .ok (.value (.int k (compI k a))) w := by
  simp only [execOp, ho, hx, Sem.run_bind, Op.unary, Op.intBits, Result.andThen_ok, Sem.run_pure]
  rfl
theorem WL.shr {ty ty' : TypeId} {x y : Operand} {k k2 : IntKind} {a b : Int} (ho : o.op = .binOp .shr ty x y ty') (hx : ev f x = .int k a) (hy : ev f y = .int k2 b) (hb : 0 ≤ b)
    (hg : wants ops f o = true) {d : Nat} (hd : o.dst = some d) (hn : Nat.blt d N = true) (h : WL P N ops l (up f d (.int k (shrI k a b))) w Q) : WL P N ops (o :: l) f w Q :=
  .val hg hd hn (run_shr ho hx hy hb) h
theorem WL.shl {ty ty' : TypeId} {x y : Operand} {k k2 : IntKind} {a b : Int} (ho : o.op = .binOp .shl ty x y ty') (hx : ev f x = .int k a) (hy : ev f y = .int k2 b) (hb : 0 ≤ b)
    (hg : wants ops f o = true) {d : Nat} (hd : o.dst = some d) (hn : Nat.blt d N = true) (h : WL P N ops l (up f d (.int k (shlI k a b))) w Q) : WL P N ops (o :: l) f w Q :=
  .val hg hd hn (run_shl ho hx hy hb) h
theorem WL.comp {ty : TypeId} {x : Operand} {k : IntKind} {a : Int} (ho : o.op = .unOp .xor ty x) (hx : ev f x = .int k a)
    (hg : wants ops f o = true) {d : Nat} (hd : o.dst = some d) (hn : Nat.blt d N = true) (h : WL P N ops l (up f d (.int k (compI k a))) w Q) : WL P N ops (o :: l) f w Q :=
  .val hg hd hn (run_comp ho hx) h

/-! ## closures -/
theorem run_callF {x : Operand} {xs : List Operand} {ts : Array TypeId} {fid : FuncId} {first cap args : List Value} (ho : o.op = .call ⟨.value x, ⟨xs⟩, ts⟩) (hx : ev f x = .func (.func fid) ⟨first⟩ ⟨cap⟩) (ha : first ++ xs.map (ev f) ++ cap = args) (hk : callOk P fid = true) :
    (execOp (ev f) o).run P w = .ok (.enter fid ⟨args⟩) w := by
  have e : execOp (ev f) o = callFunc fid (#[] ++ (Array.mk first ++ (Array.mk xs).map (ev f)) ++ Array.mk cap) := by
    obtain ⟨dst, op, type, pos, after, guard⟩ := o
    simp only at ho
    subst ho
    simp [execOp, resolve, hx, Deferred.ofValue, invoke]
  rw [e, run_callFunc hk]
  simp [← ha]
theorem WL.callF {x : Operand} {xs : List Operand} {ts : Array TypeId} {fid : FuncId} {first cap args : List Value} {R : Value → World → Prop} (ho : o.op = .call ⟨.value x, ⟨xs⟩, ts⟩) (hx : ev f x = .func (.func fid) ⟨first⟩ ⟨cap⟩) (ha : first ++ xs.map (ev f) ++ cap = args)
    (hc : Cal P fid args w R) (hg : wants ops f o = true) {d : Nat} (hd : o.dst = some d) (hn : Nat.blt d N = true) (h : ∀ v w', R v w' → WL P N ops l (up f d v) w' Q) : WL P N ops (o :: l) f w Q :=
  .enter hg hd hn (run_callF ho hx ha hc.ok) hc.calls h

/-! ## texts out of bytes -/
def byteC (l : List UInt8) : List Value := l.map fun b => Value.int .u8 b.toNat
theorem byteC_len (l : List UInt8) : (byteC l).length = l.length := by simp [byteC]
theorem byteC_app (a b : List UInt8) : byteC (a ++ b) = byteC a ++ byteC b := by simp [byteC]
/-- a slice of bytes -/
def bytesOf (P : Program) (t : TypeId) : Option TypeId := match P.underlying t with
  | some (.slice e) => match P.underlying e with
    | some (.int .u8) => some e
    | _ => none
  | _ => none
theorem bytesOf_spec {t e : TypeId} (h : bytesOf P t = some e) : P.underlying t = some (.slice e) ∧ P.underlying e = some (.int .u8) := by
  unfold bytesOf at h
  split at h
  · rename_i e' hu
    split at h
    · rename_i he
      simp only [Option.some.injEq] at h
      subst h; exact ⟨hu, he⟩
    · cases h
  · cases h
theorem run_b2s {t t2 : TypeId} {x : Operand} {e e' : TypeId} {A : Option Addr} {n cap n' : Nat} {l : List UInt8} (ho : o.op = .convert t t2 x) (ht : bytesOf P t = some e) (ht2 : isStr P t2 = true) (hx : ρ x = .slice A n cap) (hb : RowAt w e' 1 (.slice A n cap) n' (byteC l)) :
    (execOp ρ o).run P w = .ok (.value (str l)) w := by
  obtain ⟨hs, he⟩ := bytesOf_spec ht
  have hd := isStr_eq ht2
  have h1 := hb.1
  rw [byteC_len, Nat.mul_one] at h1
  rcases hb.2 with ⟨h2, h3⟩ | ⟨g, off, cap', cur, h2, hh, _⟩
  · simp only [Value.slice.injEq] at h2
    obtain ⟨rfl, rfl, rfl⟩ := h2
    have : l = [] := by rw [← List.length_eq_zero_iff]; omega
    subst this
    simp only [execOp, ho, hx, Sem.run_bind]
    rw [run_convert_bytes_string w t t2 e none 0 0 hs he hd]
    rfl
  · simp only [Value.slice.injEq] at h2
    obtain ⟨rfl, rfl, rfl⟩ := h2
    have hcells := hb.cells
    subst h1
    have := run_convert_bytes_back (P := P) w t t2 e ⟨g, off, none⟩ cap l hs he hd (fun j hj => by
      rw [Addr.add_mid]
      exact hcells j _ (by simp [byteC, List.getElem?_eq_getElem hj]))
    simp only [execOp, ho, hx, Sem.run_bind, this, Result.andThen_ok]
    rfl
theorem WL.b2s {t t2 : TypeId} {x : Operand} {e e' : TypeId} {A : Option Addr} {n cap n' : Nat} {s : List UInt8} {xs : List Value} (hS : St w0 M w H Z) (ho : o.op = .convert t t2 x) (ht : bytesOf P t = some e) (ht2 : isStr P t2 = true) (hx : ev f x = .slice A n cap) (hm : Chunk.own (.slice A n cap) e' 1 n' xs ∈ H) (hxs : xs = byteC s)
    (hg : wants ops f o = true) {d : Nat} (hd : o.dst = some d) (hn : Nat.blt d N = true) (h : WL P N ops l (up f d (str s)) w Q) : WL P N ops (o :: l) f w Q :=
  .val hg hd hn (run_b2s ho ht ht2 hx (hxs ▸ hS.holds _ hm)) h
end
section
variable {P : Program} {N : Nat} {f : Fr} {w w0 : World} {Q : Post} {ops : List Oper} {M : List Nat} {H0 H H' : List Chunk} {Z0 Z : List Snap} {q : Qs} {l : List Nat} {i : Nat} {S : World → Prop}
theorem WD.shr {ty ty' : TypeId} {x y : Operand} {k k2 : IntKind} {a b : Int} (ho : (ix ops i).op = .binOp .shr ty x y ty') (hx : ev f x = .int k a) (hy : ev f y = .int k2 b) (hb : 0 ≤ b)
    (hq : q.contains i = true) (hg : wants ops f (ix ops i) = true) {d : Nat} (hd : (ix ops i).dst = some d) (hn : Nat.blt d N = true) (h : WD P N S ops q l (up f d (.int k (shrI k a b))) w Q) : WD P N S ops q (i :: l) f w Q :=
  .take hq hd hn (.inl ⟨hg, fun _ _ => run_shr ho hx hy hb⟩) h
theorem WD.shl {ty ty' : TypeId} {x y : Operand} {k k2 : IntKind} {a b : Int} (ho : (ix ops i).op = .binOp .shl ty x y ty') (hx : ev f x = .int k a) (hy : ev f y = .int k2 b) (hb : 0 ≤ b)
    (hq : q.contains i = true) (hg : wants ops f (ix ops i) = true) {d : Nat} (hd : (ix ops i).dst = some d) (hn : Nat.blt d N = true) (h : WD P N S ops q l (up f d (.int k (shlI k a b))) w Q) : WD P N S ops q (i :: l) f w Q :=
  .take hq hd hn (.inl ⟨hg, fun _ _ => run_shl ho hx hy hb⟩) h
theorem WD.cat {ty ty' : TypeId} {x y : Operand} {a b : List UInt8} (ho : (ix ops i).op = .binOp .add ty x y ty') (hx : ev f x = str a) (hy : ev f y = str b) (hr : a.length + b.length ≤ 9223372036854775807)
    (hq : q.contains i = true) (hg : wants ops f (ix ops i) = true) {d : Nat} (hd : (ix ops i).dst = some d) (hn : Nat.blt d N = true) (h : WD P N S ops q l (up f d (str (a ++ b))) w Q) : WD P N S ops q (i :: l) f w Q :=
  .take hq hd hn (.inl ⟨hg, fun _ _ => run_cat ho hx hy hr⟩) h
theorem WD.idxS {t : TypeId} {x y : Operand} {s : List UInt8} {k : IntKind} {j : Nat} {c : UInt8} (ho : (ix ops i).op = .index t x y) (ht : isStr P t = true) (hx : ev f x = str s) (hy : ev f y = .int k (Int.ofNat j)) (hj : s[j]? = some c)
    (hq : q.contains i = true) (hg : wants ops f (ix ops i) = true) {d : Nat} (hd : (ix ops i).dst = some d) (hn : Nat.blt d N = true) (h : WD P N S ops q l (up f d (.int .u8 (c.toNat : Int))) w Q) : WD P N S ops q (i :: l) f w Q :=
  .take hq hd hn (.inl ⟨hg, fun _ _ => run_idxS ho ht hx hy hj⟩) h
theorem WD.lowS {t : TypeId} {x y : Operand} {s : List UInt8} {k : IntKind} {j : Nat} (ho : (ix ops i).op = .slice t x (some y) none none) (ht : isStr P t = true) (hx : ev f x = str s) (hy : ev f y = .int k (Int.ofNat j)) (hj : j ≤ s.length)
    (hq : q.contains i = true) (hg : wants ops f (ix ops i) = true) {d : Nat} (hd : (ix ops i).dst = some d) (hn : Nat.blt d N = true) (h : WD P N S ops q l (up f d (str (s.drop j))) w Q) : WD P N S ops q (i :: l) f w Q :=
  .take hq hd hn (.inl ⟨hg, fun w' _ => by have := run_cutS (P := P) (w := w') (l := j) (h := s.length) ho ht hx ⟨k, hy⟩ rfl hj (Nat.le_refl _); rwa [List.take_length] at this⟩) h
theorem WD.highS {t : TypeId} {x y : Operand} {s : List UInt8} {k : IntKind} {j : Nat} (ho : (ix ops i).op = .slice t x none (some y) none) (ht : isStr P t = true) (hx : ev f x = str s) (hy : ev f y = .int k (Int.ofNat j)) (hj : j ≤ s.length)
    (hq : q.contains i = true) (hg : wants ops f (ix ops i) = true) {d : Nat} (hd : (ix ops i).dst = some d) (hn : Nat.blt d N = true) (h : WD P N S ops q l (up f d (str (s.take j))) w Q) : WD P N S ops q (i :: l) f w Q :=
  .take hq hd hn (.inl ⟨hg, fun w' _ => by have := run_cutS (P := P) (w := w') (l := 0) (h := j) ho ht hx rfl ⟨k, hy⟩ (Nat.zero_le _) hj; rwa [List.drop_zero] at this⟩) h
theorem WD.midS {t : TypeId} {x y z : Operand} {s : List UInt8} {k k' : IntKind} {a b : Nat} (ho : (ix ops i).op = .slice t x (some y) (some z) none) (ht : isStr P t = true) (hx : ev f x = str s) (hy : ev f y = .int k (Int.ofNat a)) (hz : ev f z = .int k' (Int.ofNat b)) (hij : a ≤ b) (hj : b ≤ s.length)
    (hq : q.contains i = true) (hg : wants ops f (ix ops i) = true) {d : Nat} (hd : (ix ops i).dst = some d) (hn : Nat.blt d N = true) (h : WD P N S ops q l (up f d (str ((s.take b).drop a))) w Q) : WD P N S ops q (i :: l) f w Q :=
  .take hq hd hn (.inl ⟨hg, fun w' _ => run_cutS (P := P) (w := w') (l := a) (h := b) ho ht hx ⟨k, hy⟩ ⟨k', hz⟩ hij hj⟩) h
/-- bytes to a text, an effect as far as the order goes -/
theorem WDo.b2s {t t2 : TypeId} {x : Operand} {e e' : TypeId} {A : Option Addr} {n cap n' : Nat} {s : List UInt8} {xs : List Value} (hS : St w0 M w H Z) (hM : More H0 Z0 H Z) (ho : (ix ops i).op = .convert t t2 x) (ht : bytesOf P t = some e) (ht2 : isStr P t2 = true) (hx : ev f x = .slice A n cap) (hm : Chunk.own (.slice A n cap) e' 1 n' xs ∈ H) (hxs : xs = byteC s)
    (hi : Nat.blt i ops.length = true) (hg : wants ops f (ix ops i) = true) {d : Nat} (hd : (ix ops i).dst = some d) (hn : Nat.blt d N = true) (h : WD P N (SS w0 M H0 Z0) ops q l (up f d (str s)) w Q) : WDo P N (SS w0 M H0 Z0) ops q i l f w Q :=
  .val hi hg hd hn (run_b2s ho ht ht2 hx (hxs ▸ hS.holds _ hm)) (hM.ss hS) h
theorem WD.b2s {t t2 : TypeId} {x : Operand} {e e' : TypeId} {A : Option Addr} {n cap n' : Nat} {s : List UInt8} {xs : List Value} (hS : St w0 M w H Z) (hM : More H0 Z0 H Z) (ho : (ix ops i).op = .convert t t2 x) (ht : bytesOf P t = some e) (ht2 : isStr P t2 = true) (hx : ev f x = .slice A n cap) (hm : Chunk.own (.slice A n cap) e' 1 n' xs ∈ H) (hxs : xs = byteC s)
    (hq : q.contains i = false) (hi : Nat.blt i ops.length = true) (hg : wants ops f (ix ops i) = true) {d : Nat} (hd : (ix ops i).dst = some d) (hn : Nat.blt d N = true) (h : WD P N (SS w0 M H0 Z0) ops q l (up f d (str s)) w Q) : WD P N (SS w0 M H0 Z0) ops q (i :: l) f w Q :=
  .val hq hi hg hd hn (run_b2s ho ht ht2 hx (hxs ▸ hS.holds _ hm)) (hM.ss hS) h
theorem WDo.calls {fid : FuncId} {xs : List Operand} {ts : Array TypeId} {args : List Value} {R : Value → World → Prop} (hS : St w0 M w H Z) (hM : More H0 Z0 H Z) (ho : (ix ops i).op = .call ⟨.value (.func fid), ⟨xs⟩, ts⟩) (ha : xs.map (ev f) = args)
    (hc : Cal P fid args w fun v w' => Upd [] w w' ∧ R v w') (hi : Nat.blt i ops.length = true) (hg : wants ops f (ix ops i) = true) {d : Nat} (hd : (ix ops i).dst = some d) (hn : Nat.blt d N = true)
    (h : ∀ v w', R v w' → St w0 M w' H Z → WD P N (SS w0 M H0 Z0) ops q l (up f d v) w' Q) : WDo P N (SS w0 M H0 Z0) ops q i l f w Q :=
  .enter hi hg hd hn (run_callOp ho ha hc.ok) hc.calls fun v w' ⟨hu, hR⟩ => ⟨hM.ss (hS.upd0 hu), h v w' hR (hS.upd0 hu)⟩
theorem row_box {b n : Nat} {e : TypeId} {cs : List Value} (hb : w.heap[b]? = some (.cells ⟨cs⟩ e (0, 0))) (hl : cs.length = n) (hm : n ≤ maxLen) : RowAt w e 1 (.slice (some ⟨b, 0, none⟩) n n) n cs :=
  ⟨by omega, .inr ⟨b, 0, n, cs, rfl, hb, Nat.le_refl _, hm, by omega, by subst hl; simp⟩⟩
theorem WDo.b2sBox {t t2 : TypeId} {x : Operand} {e e' : TypeId} {b n : Nat} {s : List UInt8} {cs : List Value} (hS : St w0 M w H Z) (hM : More H0 Z0 H Z) (ho : (ix ops i).op = .convert t t2 x) (ht : bytesOf P t = some e) (ht2 : isStr P t2 = true) (hx : ev f x = .slice (some ⟨b, 0, none⟩) n n) (hm : Chunk.box b e' cs ∈ H) (hxs : cs = byteC s) (hl : s.length = n) (hmx : n ≤ 1048576)
    (hi : Nat.blt i ops.length = true) (hg : wants ops f (ix ops i) = true) {d : Nat} (hd : (ix ops i).dst = some d) (hn : Nat.blt d N = true) (h : WD P N (SS w0 M H0 Z0) ops q l (up f d (str s)) w Q) : WDo P N (SS w0 M H0 Z0) ops q i l f w Q :=
  .val hi hg hd hn (run_b2s ho ht ht2 hx (hxs ▸ row_box (hS.holds _ hm) (by rw [hxs, byteC_len]; exact hl) (by unfold maxLen; omega))) (hM.ss hS) h
theorem WD.b2sBox {t t2 : TypeId} {x : Operand} {e e' : TypeId} {b n : Nat} {s : List UInt8} {cs : List Value} (hS : St w0 M w H Z) (hM : More H0 Z0 H Z) (ho : (ix ops i).op = .convert t t2 x) (ht : bytesOf P t = some e) (ht2 : isStr P t2 = true) (hx : ev f x = .slice (some ⟨b, 0, none⟩) n n) (hm : Chunk.box b e' cs ∈ H) (hxs : cs = byteC s) (hl : s.length = n) (hmx : n ≤ 1048576)
    (hq : q.contains i = false) (hi : Nat.blt i ops.length = true) (hg : wants ops f (ix ops i) = true) {d : Nat} (hd : (ix ops i).dst = some d) (hn : Nat.blt d N = true) (h : WD P N (SS w0 M H0 Z0) ops q l (up f d (str s)) w Q) : WD P N (SS w0 M H0 Z0) ops q (i :: l) f w Q :=
  .eff hq (WDo.b2sBox hS hM ho ht ht2 hx hm hxs hl hmx hi hg hd hn h).out
theorem WDo.slit {t e : TypeId} {len n : Nat} {ps : List (Nat × Operand)} {cs : List Value} (hS : St w0 M w H Z) (hM : More H0 Z0 H Z) (ho : (ix ops i).op = .buildSlice t len ⟨ps⟩) (hv : buildSliceV P t len (evP (ev f) ps) = some (e, n, cs))
    (hi : Nat.blt i ops.length = true) (hg : wants ops f (ix ops i) = true) {d : Nat} (hd : (ix ops i).dst = some d) (hn : Nat.blt d N = true)
    (h : ∀ w' b, St w0 M w' (.box b e cs :: H) Z → More H0 Z0 (.box b e cs :: H) Z → WD P N (SS w0 M H0 Z0) ops q l (up f d (.slice (some ⟨b, 0, none⟩) len len)) w' Q) : WDo P N (SS w0 M H0 Z0) ops q i l f w Q :=
  .val hi hg hd hn (run_sliceLit ho hv) ((hM.chunk _).ss (hS.newBox _ _)) (h _ _ (hS.newBox _ _) (hM.chunk _))
/-- any call: what is known behind it the user says -/
theorem WD.callH {fid : FuncId} {xs : List Operand} {ts : Array TypeId} {args : List Value} {R : Value → World → Prop} (ho : (ix ops i).op = .call ⟨.value (.func fid), ⟨xs⟩, ts⟩) (ha : xs.map (ev f) = args)
    (hc : Cal P fid args w R) (hq : q.contains i = false) (hi : Nat.blt i ops.length = true) (hg : wants ops f (ix ops i) = true) {d : Nat} (hd : (ix ops i).dst = some d) (hn : Nat.blt d N = true)
    (h : ∀ v w', R v w' → S w' ∧ WD P N S ops q l (up f d v) w' Q) : WD P N S ops q (i :: l) f w Q :=
  .enter hq hi hg hd hn (run_callOp ho ha hc.ok) hc.calls h
end

/-! ## addresses seen as plain ones, and bytes read as a text -/
section
variable {P : Program} {N : Nat} {f : Fr} {w w0 : World} {Q : Post} {ops l : List Oper} {o : Oper} {M : List Nat} {H H' : List Chunk} {Z : List Snap} {ρ : Operand → Value}
def ptrTo (P : Program) (t : TypeId) : Option (TypeId × Nat) := match P.underlying t with
  | some (.pointer e) => match P.info? e with
    | some ⟨_, _, size, _, _, _, _, _, _, _⟩ => some (e, size)
    | none => none
  | _ => none
theorem ptrTo_spec {t e : TypeId} {n : Nat} (h : ptrTo P t = some (e, n)) : P.underlying t = some (.pointer e) ∧ ∃ i, P.info? e = some i ∧ i.size = n := by
  unfold ptrTo at h
  split at h
  · rename_i e' hu
    split at h
    · rename_i d s sz by_ hp al fa z x y hi
      simp only [Option.some.injEq, Prod.mk.injEq] at h
      obtain ⟨rfl, rfl⟩ := h
      exact ⟨hu, _, hi, rfl⟩
    · cases h
  · cases h
def isUns (P : Program) (t : TypeId) : Bool := match P.underlying t with
  | some .unsafePointer => true
  | _ => false
theorem isUns_eq {t : TypeId} (h : isUns P t = true) : P.underlying t = some .unsafePointer := by
  unfold isUns at h
  split at h
  · assumption
  · cases h
theorem box_shape {b : Nat} {t : TypeId} {cs : List Value} (h : w.heap[b]? = some (.cells ⟨cs⟩ t (0, 0))) : w.shape? b = some (t, cs.length) := by
  unfold World.shape?; rw [h]; rfl
theorem WL.toU {t t2 e : TypeId} {n b : Nat} {x : Operand} {bt : TypeId} {cs : List Value} (hS : St w0 M w H Z) (ho : o.op = .convert t t2 x) (ht : ptrTo P t = some (e, n + 1)) (ht2 : isUns P t2 = true) (hx : ev f x = .pointer (some ⟨b, 0, none⟩)) (hm : Chunk.box b bt cs ∈ H) (h0 : 0 < cs.length)
    (hg : wants ops f o = true) {d : Nat} (hd : o.dst = some d) (hn : Nat.blt d N = true) (h : WL P N ops l (up f d (.pointer (some ⟨b, 0, none⟩))) w Q) : WL P N ops (o :: l) f w Q := by
  obtain ⟨hu, i, hi, hsz⟩ := ptrTo_spec ht
  have := Lib.run_to_unsafe (P := P) w ⟨b, 0, none⟩ hu (isUns_eq ht2) hi (by omega) (box_shape (hS.holds _ hm)) h0
  exact .val hg hd hn (by simp [execOp, ho, hx, Sem.run_bind, this]) h
theorem WL.fromU {t t2 e : TypeId} {n b : Nat} {x : Operand} {bt : TypeId} {cs : List Value} (hS : St w0 M w H Z) (ho : o.op = .convert t t2 x) (ht : isUns P t = true) (ht2 : ptrTo P t2 = some (e, n)) (hx : ev f x = .pointer (some ⟨b, 0, none⟩)) (hm : Chunk.box b bt cs ∈ H) (hl : liesAt P P.depth bt (cs.length / P.cellsOf bt) 0 e 1 = true)
    (hg : wants ops f o = true) {d : Nat} (hd : o.dst = some d) (hn : Nat.blt d N = true) (h : WL P N ops l (up f d (.pointer (some ⟨b, 0, none⟩))) w Q) : WL P N ops (o :: l) f w Q := by
  obtain ⟨hu, i, hi, hsz⟩ := ptrTo_spec ht2
  have := Lib.run_from_unsafe (P := P) w ⟨b, 0, none⟩ (isUns_eq ht) hu hi (box_shape (hS.holds _ hm)) hl
  exact .val hg hd hn (by simp [execOp, ho, hx, Sem.run_bind, this]) h
/-- an address held against itself -/
theorem WL.neSame {t t' e : TypeId} {n : Nat} {x y : Operand} {a : Addr} (ho : o.op = .binOp .neq t x y t') (ht : ptrTo P t = some (e, n)) (hx : ev f x = .pointer (some a)) (hy : ev f y = .pointer (some a))
    (hg : wants ops f o = true) {d : Nat} (hd : o.dst = some d) (hn : Nat.blt d N = true) (h : WL P N ops l (up f d (.bool false)) w Q) : WL P N ops (o :: l) f w Q := by
  obtain ⟨hu, i, hi, hsz⟩ := ptrTo_spec ht
  have h1 := Lib.run_neq_ptr_same (P := P) w a hu hi
  have h2 : (eqGuard .neq t x y (.pointer (some a)) (.pointer (some a))).run P w = .ok () w := by rfl
  exact .val hg hd hn (by simp [execOp, ho, hx, hy, Sem.run_bind, h1, h2]) h
theorem run_noEsc (v : Value) : (Extern.AbiNoEscape.same ⟨[v]⟩).run P w = .ok v w := rfl
theorem liesAt_byte {e : TypeId} (hc : P.cellsOf e = 1) (count off n : Nat) (hn : off + n ≤ count) : liesAt P P.depth e count off e n = true := by
  have hd : P.depth = (2 * (P.types.size + Made.depth) + 1) + 1 := rfl
  rw [hd]
  simp only [liesAt, Bool.or_eq_true]
  left
  rw [hd]
  simp [rowAt, hc, hn, sameLayout, Nat.mod_one]
theorem run_unsafeStr {pt it ty e : TypeId} {g off n cap n' : Nat} {s : List UInt8} (hp : P.underlying pt = some (.pointer e)) (hc : P.cellsOf e = 1) (hb : RowAt w e 1 (.slice (some ⟨g, off, none⟩) n cap) n' (byteC s)) (h63 : s.length ≤ 9223372036854775807) :
    ∃ w', (Builtin.unsafeString_ #[pt, it] ty #[.pointer (some ⟨g, off, none⟩), .int .i64 (s.length : Int)]).run P w = .ok (str s) w' ∧ Upd [g] w w' := by
  rcases hb.2 with ⟨h2, h3⟩ | ⟨g', off', cap', cur, h2, hh, hn, hcm, hs, ht⟩
  · cases h2
  · simp only [Value.slice.injEq, Option.some.injEq, Addr.mk.injEq, and_true] at h2
    obtain ⟨⟨rfl, rfl⟩, rfl, rfl⟩ := h2
    have hlen := hb.1
    rw [byteC_len, Nat.mul_one] at hlen
    have hmax : IntKind.i64.max = 9223372036854775807 := rfl
    by_cases h0 : s = []
    · subst h0
      exact ⟨w, Lib.run_unsafeString_none w pt it ty (some ⟨g, off, none⟩), .refl _ _⟩
    · have hl : s.length ≠ 0 := by simpa using h0
      have hcell : ∀ j x, s[j]? = some x → w.cell? ((⟨g, off, none⟩ : Addr).add j) = some (.int .u8 x.toNat) := fun j x hj => by
        rw [Addr.add_mid]
        exact hb.cells j _ (by simp [byteC, hj])
      have hlb := Lib.run_loadBytes (P := P) w s ⟨g, off, none⟩ .empty hcell
      have hlies := liesAt_byte (P := P) hc (cur.length / P.cellsOf e) off s.length (by rw [hc]; simp; omega)
      have h63' : ¬ (9223372036854775807 : Int) < (s.length : Int) := by omega
      have hdef : Builtin.unsafeString_ #[pt, it] ty #[.pointer (some ⟨g, off, none⟩), .int .i64 s.length] =
          (do
            let n ← asInt (.int .i64 s.length)
            if n < 0 then runtimePanic (.error "unsafe.String: len out of range")
            if n > IntKind.i64.max then unsupported (.unsafePointer "String: a length above the largest int")
            if n = 0 then pure (.string .empty)
            else if ← variablesAt ⟨g, off, none⟩ (← Go.elemOf pt) n.toNat then do
              let s ← loadBytes ⟨g, off, none⟩ .empty n.toNat
              freeze ⟨g, off, none⟩ n.toNat
              pure (.string s)
            else unsupported (.unsafePointer "String: not so many bytes at ptr")) := rfl
      have hneg : ¬ (s.length : Int) < 0 := by omega
      refine ⟨w.freeze ⟨g, off, none⟩ s.length, ?_, ?_⟩
      · rw [hdef]
        simp [asInt, asIntOf, hmax, h63', hneg, hl, variablesAt, box_shape hh, Go.elemOf, run_underlying hp, hlies, hlb]
      · unfold World.freeze
        split
        · exact .refl _ _
        · exact ⟨rfl, rfl, rfl, by simp, fun k hk hn => by
            have : g ≠ k := fun e => hn (by simp [e])
            simp only [Array.getElem?_modify]
            rw [if_neg this]⟩
end
section
variable {P : Program} {N : Nat} {f : Fr} {w w0 : World} {Q : Post} {ops : List Oper} {M : List Nat} {H0 H H' : List Chunk} {Z0 Z : List Snap} {q : Qs} {l : List Nat} {i : Nat} {S : World → Prop}
theorem St.lose {c : Chunk} {w' : World} (hS : St w0 M w (c :: H) Z) (hu : Upd c.fp w w') : St w0 M w' H Z :=
  (hS.step (c' := .obj [] fun _ => True) .here hu ⟨trivial, fun _ _ _ _ => trivial⟩ (fun b hb => by simp [Chunk.fp] at hb)).drop
theorem WD.sliceData {x : Operand} {ts : Array TypeId} {A : Option Addr} {n cap : Nat} (hS : St w0 M w H Z) (hM : More H0 Z0 H Z) (ho : (ix ops i).op = .call ⟨.builtin .unsafeSliceData, ⟨[x]⟩, ts⟩) (hx : ev f x = .slice A n cap) (hA : A = none ∨ cap ≠ 0)
    (hq : q.contains i = false) (hi : Nat.blt i ops.length = true) (hg : wants ops f (ix ops i) = true) {d : Nat} (hd : (ix ops i).dst = some d) (hn : Nat.blt d N = true) (h : WD P N (SS w0 M H0 Z0) ops q l (up f d (.pointer A)) w Q) : WD P N (SS w0 M H0 Z0) ops q (i :: l) f w Q := by
  have hrun : (execOp (ev f) (ix ops i)).run P w = .ok (.value (.pointer A)) w := by
    cases A with
    | none => simp [execOp, ho, resolve, invoke, builtin, hx, Sem.run_bind, Lib.run_unsafeSliceData_nil]
    | some a =>
      have hc : cap ≠ 0 := by rcases hA with h | h
                              · cases h
                              · exact h
      simp [execOp, ho, resolve, invoke, builtin, hx, Sem.run_bind, Lib.run_unsafeSliceData_row w _ _ a n cap hc]
  exact .val hq hi hg hd hn hrun (hM.ss hS) h
theorem WD.unsStr {x y : Operand} {pt it e : TypeId} {A : Option Addr} {n cap n' : Nat} {s : List UInt8} (hS : St w0 M w (.own (.slice A n cap) e 1 n' (byteC s) :: H) Z) (hM : More H0 Z0 H Z) (ho : (ix ops i).op = .call ⟨.builtin .unsafeString, ⟨[x, y]⟩, ⟨[pt, it]⟩⟩) (hp : ptrTo P pt = some (e, 1))
    (hx : ev f x = .pointer A) (hy : ev f y = .int .i64 (s.length : Int)) (h63 : s.length ≤ 9223372036854775807)
    (hq : q.contains i = false) (hi : Nat.blt i ops.length = true) (hg : wants ops f (ix ops i) = true) {d : Nat} (hd : (ix ops i).dst = some d) (hn : Nat.blt d N = true)
    (h : ∀ w', St w0 M w' H Z → WD P N (SS w0 M H0 Z0) ops q l (up f d (str s)) w' Q) : WD P N (SS w0 M H0 Z0) ops q (i :: l) f w Q := by
  obtain ⟨hu, inf, hinf, hsz⟩ := ptrTo_spec hp
  have hc : P.cellsOf e = 1 := by unfold Program.cellsOf; rw [hinf]; exact hsz
  have hrow : RowAt w e 1 (.slice A n cap) n' (byteC s) := hS.holds _ (List.Mem.head _)
  cases A with
  | none =>
    have hs : s = [] := by
      rcases hrow.2 with ⟨h1, h2⟩ | ⟨g, off, cap', cur, h1, _⟩
      · have := hrow.1
        rw [byteC_len] at this
        rw [← List.length_eq_zero_iff]; omega
      · cases h1
    subst hs
    have := Lib.run_unsafeString_none (P := P) w pt it (ix ops i).type none
    exact .val hq hi hg hd hn (by simp [execOp, ho, resolve, invoke, builtin, hx, hy, Sem.run_bind, this]; rfl) (hM.ss hS.drop) (h _ hS.drop)
  | some a =>
    obtain ⟨g, off, rfl⟩ : ∃ g off, a = ⟨g, off, none⟩ := by
      rcases hrow.2 with ⟨h1, h2⟩ | ⟨g, off, cap', cur, h1, _⟩
      · cases h1
      · simp only [Value.slice.injEq, Option.some.injEq] at h1
        exact ⟨g, off, h1.1⟩
    obtain ⟨w', hrun, hupd⟩ := run_unsafeStr (pt := pt) (it := it) (ty := (ix ops i).type) hu hc hrow h63
    have hS' : St w0 M w' H Z := hS.lose (by simpa [Chunk.fp, Value.ownBlock] using hupd)
    exact .val hq hi hg hd hn (by simp [execOp, ho, resolve, invoke, builtin, hx, hy, Sem.run_bind, hrun]) (hM.ss hS') (h _ hS')
end

/-! ## the end of a function without results -/
section
variable {P : Program} {fn : Func} {rs : Array ResultVar} {R : Value → World → Prop} {f : Fr} {w : World}
theorem fin0n (h : fn.results = #[]) (hR : R (.tuple #[]) w) : funQ P rs fn (Ret R) .normal f w := by unfold funQ; exact ⟨_, ⟨_, rfl, hR⟩, fun a _ => by simp [results, h]⟩
theorem fin0r (h : fn.results = #[]) (hR : R (.tuple #[]) w) : funQ P rs fn (Ret R) .ret f w := by unfold funQ; exact ⟨_, ⟨_, rfl, hR⟩, fun a _ => by simp [results, h]⟩
theorem res3 {t u x : Tmp} (h : fn.results = #[.tmp t, .tmp u, .tmp x]) : ∀ a, Is a fn.ntmps f → (results fn a.tmps).run P w = .ok (.tuple #[f t, f u, f x]) w := fun a ha => by
  rw [← ha.get t, ← ha.get u, ← ha.get x]
  simp [results, h]
theorem fin3r {t u x : Tmp} {v v' v'' : Value} (h : fn.results = #[.tmp t, .tmp u, .tmp x]) (hv : nfv (f t) = some v) (hv' : nfv (f u) = some v') (hv'' : nfv (f x) = some v'') (hR : R (.tuple #[v, v', v'']) w) : funQ P rs fn (Ret R) .ret f w := by unfold funQ; exact ⟨_, ⟨_, rfl, hR⟩, by rw [nfv_eq hv, nfv_eq hv', nfv_eq hv'']; exact res3 h⟩
end
end Go.J
