/- What is proved: contracts and plain facts that the law leans on (texts put together). Conditions: as each names them. -/
import Derived.Test.YtccfiohagbneaaaGreatDoorM1
import Derived.Laws.BitsAllLaws
import Derived.Laws.IdiomStrings
import Derived.Lib.ConvBytes
import Derived.Lib.Builder
import Derived.Lib.UnsafeStr
import Derived.Test.YtccfiohagbneaaaGreatDoorRows
set_option linter.unusedSimpArgs false
set_option linter.unusedVariables false
/- What is proved: the walk's rules for shifts, complements, bytes to texts and back, closures, functions without results, and a builder of texts. Conditions: as each rule names them. -/
set_option linter.unusedSimpArgs false
set_option linter.unusedVariables false
namespace Go.J
open Go Go.RowKit

def shrI (k : IntKind) (a b : Int) : Int := a.fdiv (2 ^ (min b.toNat k.bits))
def shlI (k : IntKind) (a b : Int) : Int := k.wrap (a * 2 ^ (min b.toNat k.bits))
def compI (k : IntKind) (a : Int) : Int := bits .xor k (if k.signed then -1 else k.max) a
section
variable {P : Program} {N : Fz} {f : Fr} {w w0 : World} {Q : Post} {ops l : List Oper} {o : Oper} {M : List Nat} {H H' : List Chunk} {Z : List Snap} {ρ : Operand → Value}

/-- what stood at the head of the call, and stays -/
theorem LdOk.old {r off : Nat} {t ty : TypeId} {cs : List Value} {v : Value} (h : w0.heap[r]? = some (.cells ⟨cs⟩ t (0, 0))) (hz : Snap.mk w0 (Old w0) ∈ Z) (hv : getV P ty cs off = some v) : LdOk P H Z ty ⟨r, off, none⟩ v := by
  have hlt : r < w0.heap.size := by
    rcases Nat.lt_or_ge r w0.heap.size with h2 | h2
    · exact h2
    · rw [Array.getElem?_eq_none (by omega)] at h; cases h
  have := LdOk.snap (P := P) (H := H) (Z := Z) (b := r) (o := 0) (off := off) (wz := w0) (F := Old w0) (cs := cs) hlt (fun j u hj => by
    rw [Nat.zero_add, cell_of_row w0 r j ⟨cs⟩ t (0, 0) h]; simpa using hj) hz hv
  rwa [Nat.zero_add] at this
/-! ## shifts and complements -/
theorem run_shr {ty ty' : TypeId} {x y : Operand} {k k2 : IntKind} {a b : Int} (ho : o.op = .binOp .shr ty x y ty') (hx : ρ x = .int k a) (hy : ρ y = .int k2 b) (hb : 0 ≤ b) : (execOp ρ o).run P w = .ok (.value (.int k (shrI k a b))) w := by
  have h0 : ¬ b < 0 := by omega
  have h1 : (eqGuard .shr ty x y (.int k a) (.int k2 b)).run P w = .ok () w := by simp [eqGuard]
  simp only [execOp, ho, hx, hy, Sem.run_bind, h1, Result.andThen_ok, binOp, Op.shift, h0, if_false, Sem.run_pure]
  rfl
theorem run_shl {ty ty' : TypeId} {x y : Operand} {k k2 : IntKind} {a b : Int} (ho : o.op = .binOp .shl ty x y ty') (hx : ρ x = .int k a) (hy : ρ y = .int k2 b) (hb : 0 ≤ b) : (execOp ρ o).run P w = .ok (.value (.int k (shlI k a b))) w := by
  have h0 : ¬ b < 0 := by omega
  have h1 : (eqGuard .shl ty x y (.int k a) (.int k2 b)).run P w = .ok () w := by simp [eqGuard]
  simp only [execOp, ho, hx, hy, Sem.run_bind, h1, Result.andThen_ok, binOp, Op.shift, h0, if_false, Sem.run_pure]
  rfl
theorem run_comp {ty : TypeId} {x : Operand} {k : IntKind} {a : Int} (ho : o.op = .unOp .xor ty x) (hx : ρ x = .int k a) : (execOp ρ o).run P w = .ok (.value (.int k (compI k a))) w := by
  simp only [execOp, ho, hx, Sem.run_bind, Op.unary, Op.intBits, Result.andThen_ok, Sem.run_pure]
  rfl
theorem WL.shr {ty ty' : TypeId} {x y : Operand} {k k2 : IntKind} {a b : Int} (ho : o.op = .binOp .shr ty x y ty') (hx : ev f x = .int k a) (hy : ev f y = .int k2 b) (hb : 0 ≤ b)
    (hg : wants ops f o = true) {d : Nat} (hd : o.dst = some d) (hn : N.ok d = true) (h : WL P N ops l (up f d (.int k (shrI k a b))) w Q) : WL P N ops (o :: l) f w Q :=
  .val hg hd hn (run_shr ho hx hy hb) h
theorem WL.shl {ty ty' : TypeId} {x y : Operand} {k k2 : IntKind} {a b : Int} (ho : o.op = .binOp .shl ty x y ty') (hx : ev f x = .int k a) (hy : ev f y = .int k2 b) (hb : 0 ≤ b)
    (hg : wants ops f o = true) {d : Nat} (hd : o.dst = some d) (hn : N.ok d = true) (h : WL P N ops l (up f d (.int k (shlI k a b))) w Q) : WL P N ops (o :: l) f w Q :=
  .val hg hd hn (run_shl ho hx hy hb) h
theorem WL.comp {ty : TypeId} {x : Operand} {k : IntKind} {a : Int} (ho : o.op = .unOp .xor ty x) (hx : ev f x = .int k a)
    (hg : wants ops f o = true) {d : Nat} (hd : o.dst = some d) (hn : N.ok d = true) (h : WL P N ops l (up f d (.int k (compI k a))) w Q) : WL P N ops (o :: l) f w Q :=
  .val hg hd hn (run_comp ho hx) h

/-! ## closures -/
theorem run_callF {x : Operand} {xs : List Operand} {ts : Array TypeId} {fid : FuncId} {first cap args : List Value} (ho : o.op = .call ⟨.value x, ⟨xs⟩, ts⟩) (hx : ev f x = .func (.func fid) ⟨first⟩ ⟨cap⟩) (ha : first ++ xs.map (ev f) ++ cap = args) (hk : callOk P fid = true) :
    (execOp (ev f) o).run P w = .ok (.enter fid ⟨args⟩) w := by
  have e : execOp (ev f) o = callFunc fid (#[] ++ (Array.mk first ++ (Array.mk xs).map (ev f)) ++ Array.mk cap) := by
    obtain ⟨dst, op, type, pos, after, guard⟩ := o
    simp only at ho
    subst ho
    simp [execOp, resolve, hx, Deferred.ofValue, invoke]
  rw [e, run_callFunc hk]
  simp [← ha]
theorem WL.callF {x : Operand} {xs : List Operand} {ts : Array TypeId} {fid : FuncId} {first cap args : List Value} {R : Value → World → Prop} (ho : o.op = .call ⟨.value x, ⟨xs⟩, ts⟩) (hx : ev f x = .func (.func fid) ⟨first⟩ ⟨cap⟩) (ha : first ++ xs.map (ev f) ++ cap = args)
    (hc : Cal P fid args w R) (hg : wants ops f o = true) {d : Nat} (hd : o.dst = some d) (hn : N.ok d = true) (h : ∀ v w', R v w' → WL P N ops l (up f d v) w' Q) : WL P N ops (o :: l) f w Q :=
  .enter hg hd hn (run_callF ho hx ha hc.ok) hc.calls h

/-! ## texts out of bytes -/
def byteC (l : List UInt8) : List Value := l.map fun b => Value.int .u8 b.toNat
theorem byteC_len (l : List UInt8) : (byteC l).length = l.length := by simp [byteC]
theorem byteC_app (a b : List UInt8) : byteC (a ++ b) = byteC a ++ byteC b := by simp [byteC]
/-- a slice of bytes -/
def bytesOf (P : Program) (t : TypeId) : Option TypeId := match P.underlying t with
  | some (.slice e) => match P.underlying e with
    | some (.int .u8) => some e
    | _ => none
  | _ => none
theorem bytesOf_spec {t e : TypeId} (h : bytesOf P t = some e) : P.underlying t = some (.slice e) ∧ P.underlying e = some (.int .u8) := by
  unfold bytesOf at h
  split at h
  · rename_i e' hu
    split at h
    · rename_i he
      simp only [Option.some.injEq] at h
      subst h; exact ⟨hu, he⟩
    · cases h
  · cases h
theorem run_b2s {t t2 : TypeId} {x : Operand} {e e' : TypeId} {A : Option Addr} {n cap n' : Nat} {l : List UInt8} (ho : o.op = .convert t t2 x) (ht : bytesOf P t = some e) (ht2 : isStr P t2 = true) (hx : ρ x = .slice A n cap) (hb : RowAt w e' 1 (.slice A n cap) n' (byteC l)) :
    (execOp ρ o).run P w = .ok (.value (str l)) w := by
  obtain ⟨hs, he⟩ := bytesOf_spec ht
  have hd := isStr_eq ht2
  have h1 := hb.1
  rw [byteC_len, Nat.mul_one] at h1
  rcases hb.2 with ⟨h2, h3⟩ | ⟨g, off, cap', cur, h2, hh, _⟩
  · simp only [Value.slice.injEq] at h2
    obtain ⟨rfl, rfl, rfl⟩ := h2
    have : l = [] := by rw [← List.length_eq_zero_iff]; omega
    subst this
    simp only [execOp, ho, hx, Sem.run_bind]
    rw [run_convert_bytes_string w t t2 e none 0 0 hs he hd]
    rfl
  · simp only [Value.slice.injEq] at h2
    obtain ⟨rfl, rfl, rfl⟩ := h2
    have hcells := hb.cells
    subst h1
    have := run_convert_bytes_back (P := P) w t t2 e ⟨g, off, none⟩ cap l hs he hd (fun j hj => by
      rw [Addr.add_mid]
      exact hcells j _ (by simp [byteC, List.getElem?_eq_getElem hj]))
    simp only [execOp, ho, hx, Sem.run_bind, this, Result.andThen_ok]
    rfl
theorem WL.b2s {t t2 : TypeId} {x : Operand} {e e' : TypeId} {A : Option Addr} {n cap n' : Nat} {s : List UInt8} {xs : List Value} (hS : St w0 M w H Z) (ho : o.op = .convert t t2 x) (ht : bytesOf P t = some e) (ht2 : isStr P t2 = true) (hx : ev f x = .slice A n cap) (hm : Chunk.own (.slice A n cap) e' 1 n' xs ∈ H) (hxs : xs = byteC s)
    (hg : wants ops f o = true) {d : Nat} (hd : o.dst = some d) (hn : N.ok d = true) (h : WL P N ops l (up f d (str s)) w Q) : WL P N ops (o :: l) f w Q :=
  .val hg hd hn (run_b2s ho ht ht2 hx (hxs ▸ hS.holds _ hm)) h
end
section
variable {P : Program} {N : Fz} {f : Fr} {w w0 : World} {Q : Post} {ops : List Oper} {M : List Nat} {H0 H H' : List Chunk} {Z0 Z : List Snap} {q : Qs} {l : List Nat} {i : Nat} {S : World → Prop}
theorem WD.shr {ty ty' : TypeId} {x y : Operand} {k k2 : IntKind} {a b : Int} (ho : (ix ops i).op = .binOp .shr ty x y ty') (hx : ev f x = .int k a) (hy : ev f y = .int k2 b) (hb : 0 ≤ b)
    (hq : q.contains i = true) (hg : wants ops f (ix ops i) = true) {d : Nat} (hd : (ix ops i).dst = some d) (hn : N.ok d = true) (h : WD P N S ops q l (up f d (.int k (shrI k a b))) w Q) : WD P N S ops q (i :: l) f w Q :=
  .take hq hd hn (.inl ⟨hg, fun _ _ => run_shr ho hx hy hb⟩) h
theorem WD.shl {ty ty' : TypeId} {x y : Operand} {k k2 : IntKind} {a b : Int} (ho : (ix ops i).op = .binOp .shl ty x y ty') (hx : ev f x = .int k a) (hy : ev f y = .int k2 b) (hb : 0 ≤ b)
    (hq : q.contains i = true) (hg : wants ops f (ix ops i) = true) {d : Nat} (hd : (ix ops i).dst = some d) (hn : N.ok d = true) (h : WD P N S ops q l (up f d (.int k (shlI k a b))) w Q) : WD P N S ops q (i :: l) f w Q :=
  .take hq hd hn (.inl ⟨hg, fun _ _ => run_shl ho hx hy hb⟩) h
theorem WD.cat {ty ty' : TypeId} {x y : Operand} {a b : List UInt8} (ho : (ix ops i).op = .binOp .add ty x y ty') (hx : ev f x = str a) (hy : ev f y = str b) (hr : a.length + b.length ≤ 9223372036854775807)
    (hq : q.contains i = true) (hg : wants ops f (ix ops i) = true) {d : Nat} (hd : (ix ops i).dst = some d) (hn : N.ok d = true) (h : WD P N S ops q l (up f d (str (a ++ b))) w Q) : WD P N S ops q (i :: l) f w Q :=
  .take hq hd hn (.inl ⟨hg, fun _ _ => run_cat ho hx hy hr⟩) h
theorem WD.idxS {t : TypeId} {x y : Operand} {s : List UInt8} {k : IntKind} {j : Nat} {c : UInt8} (ho : (ix ops i).op = .index t x y) (ht : isStr P t = true) (hx : ev f x = str s) (hy : ev f y = .int k (Int.ofNat j)) (hj : s[j]? = some c)
    (hq : q.contains i = true) (hg : wants ops f (ix ops i) = true) {d : Nat} (hd : (ix ops i).dst = some d) (hn : N.ok d = true) (h : WD P N S ops q l (up f d (.int .u8 (c.toNat : Int))) w Q) : WD P N S ops q (i :: l) f w Q :=
  .take hq hd hn (.inl ⟨hg, fun _ _ => run_idxS ho ht hx hy hj⟩) h
theorem WD.lowS {t : TypeId} {x y : Operand} {s : List UInt8} {k : IntKind} {j : Nat} (ho : (ix ops i).op = .slice t x (some y) none none) (ht : isStr P t = true) (hx : ev f x = str s) (hy : ev f y = .int k (Int.ofNat j)) (hj : j ≤ s.length)
    (hq : q.contains i = true) (hg : wants ops f (ix ops i) = true) {d : Nat} (hd : (ix ops i).dst = some d) (hn : N.ok d = true) (h : WD P N S ops q l (up f d (str (s.drop j))) w Q) : WD P N S ops q (i :: l) f w Q :=
  .take hq hd hn (.inl ⟨hg, fun w' _ => by have := run_cutS (P := P) (w := w') (l := j) (h := s.length) ho ht hx ⟨k, hy⟩ rfl hj (Nat.le_refl _); rwa [List.take_length] at this⟩) h
theorem WD.highS {t : TypeId} {x y : Operand} {s : List UInt8} {k : IntKind} {j : Nat} (ho : (ix ops i).op = .slice t x none (some y) none) (ht : isStr P t = true) (hx : ev f x = str s) (hy : ev f y = .int k (Int.ofNat j)) (hj : j ≤ s.length)
    (hq : q.contains i = true) (hg : wants ops f (ix ops i) = true) {d : Nat} (hd : (ix ops i).dst = some d) (hn : N.ok d = true) (h : WD P N S ops q l (up f d (str (s.take j))) w Q) : WD P N S ops q (i :: l) f w Q :=
  .take hq hd hn (.inl ⟨hg, fun w' _ => by have := run_cutS (P := P) (w := w') (l := 0) (h := j) ho ht hx rfl ⟨k, hy⟩ (Nat.zero_le _) hj; rwa [List.drop_zero] at this⟩) h
theorem WD.midS {t : TypeId} {x y z : Operand} {s : List UInt8} {k k' : IntKind} {a b : Nat} (ho : (ix ops i).op = .slice t x (some y) (some z) none) (ht : isStr P t = true) (hx : ev f x = str s) (hy : ev f y = .int k (Int.ofNat a)) (hz : ev f z = .int k' (Int.ofNat b)) (hij : a ≤ b) (hj : b ≤ s.length)
    (hq : q.contains i = true) (hg : wants ops f (ix ops i) = true) {d : Nat} (hd : (ix ops i).dst = some d) (hn : N.ok d = true) (h : WD P N S ops q l (up f d (str ((s.take b).drop a))) w Q) : WD P N S ops q (i :: l) f w Q :=
  .take hq hd hn (.inl ⟨hg, fun w' _ => run_cutS (P := P) (w := w') (l := a) (h := b) ho ht hx ⟨k, hy⟩ ⟨k', hz⟩ hij hj⟩) h
/-- bytes to a text, an effect as far as the order goes -/
theorem WDo.b2s {t t2 : TypeId} {x : Operand} {e e' : TypeId} {A : Option Addr} {n cap n' : Nat} {s : List UInt8} {xs : List Value} (hS : St w0 M w H Z) (hM : More H0 Z0 H Z) (ho : (ix ops i).op = .convert t t2 x) (ht : bytesOf P t = some e) (ht2 : isStr P t2 = true) (hx : ev f x = .slice A n cap) (hm : Chunk.own (.slice A n cap) e' 1 n' xs ∈ H) (hxs : xs = byteC s)
    (hi : Nat.blt i ops.length = true) (hg : wants ops f (ix ops i) = true) {d : Nat} (hd : (ix ops i).dst = some d) (hn : N.ok d = true) (h : WD P N (SS w0 M H0 Z0) ops q l (up f d (str s)) w Q) : WDo P N (SS w0 M H0 Z0) ops q i l f w Q :=
  .val hi hg hd hn (run_b2s ho ht ht2 hx (hxs ▸ hS.holds _ hm)) (hM.ss hS) h
theorem WD.b2s {t t2 : TypeId} {x : Operand} {e e' : TypeId} {A : Option Addr} {n cap n' : Nat} {s : List UInt8} {xs : List Value} (hS : St w0 M w H Z) (hM : More H0 Z0 H Z) (ho : (ix ops i).op = .convert t t2 x) (ht : bytesOf P t = some e) (ht2 : isStr P t2 = true) (hx : ev f x = .slice A n cap) (hm : Chunk.own (.slice A n cap) e' 1 n' xs ∈ H) (hxs : xs = byteC s)
    (hq : q.contains i = false) (hi : Nat.blt i ops.length = true) (hg : wants ops f (ix ops i) = true) {d : Nat} (hd : (ix ops i).dst = some d) (hn : N.ok d = true) (h : WD P N (SS w0 M H0 Z0) ops q l (up f d (str s)) w Q) : WD P N (SS w0 M H0 Z0) ops q (i :: l) f w Q :=
  .val hq hi hg hd hn (run_b2s ho ht ht2 hx (hxs ▸ hS.holds _ hm)) (hM.ss hS) h
theorem WDo.calls {fid : FuncId} {xs : List Operand} {ts : Array TypeId} {args : List Value} {R : Value → World → Prop} (hS : St w0 M w H Z) (hM : More H0 Z0 H Z) (ho : (ix ops i).op = .call ⟨.value (.func fid), ⟨xs⟩, ts⟩) (ha : xs.map (ev f) = args)
    (hc : Cal P fid args w fun v w' => Upd [] w w' ∧ R v w') (hi : Nat.blt i ops.length = true) (hg : wants ops f (ix ops i) = true) {d : Nat} (hd : (ix ops i).dst = some d) (hn : N.ok d = true)
    (h : ∀ v w', R v w' → St w0 M w' H Z → WD P N (SS w0 M H0 Z0) ops q l (up f d v) w' Q) : WDo P N (SS w0 M H0 Z0) ops q i l f w Q :=
  .enter hi hg hd hn (run_callOp ho ha hc.ok) hc.calls fun v w' ⟨hu, hR⟩ => ⟨hM.ss (hS.upd0 hu), h v w' hR (hS.upd0 hu)⟩
theorem row_box {b n : Nat} {e : TypeId} {cs : List Value} (hb : w.heap[b]? = some (.cells ⟨cs⟩ e (0, 0))) (hl : cs.length = n) (hm : n ≤ maxLen) : RowAt w e 1 (.slice (some ⟨b, 0, none⟩) n n) n cs :=
  ⟨by omega, .inr ⟨b, 0, n, cs, rfl, hb, Nat.le_refl _, hm, by omega, by subst hl; simp⟩⟩
theorem WDo.b2sBox {t t2 : TypeId} {x : Operand} {e e' : TypeId} {b n : Nat} {s : List UInt8} {cs : List Value} (hS : St w0 M w H Z) (hM : More H0 Z0 H Z) (ho : (ix ops i).op = .convert t t2 x) (ht : bytesOf P t = some e) (ht2 : isStr P t2 = true) (hx : ev f x = .slice (some ⟨b, 0, none⟩) n n) (hm : Chunk.box b e' cs ∈ H) (hxs : cs = byteC s) (hl : s.length = n) (hmx : n ≤ 1048576)
    (hi : Nat.blt i ops.length = true) (hg : wants ops f (ix ops i) = true) {d : Nat} (hd : (ix ops i).dst = some d) (hn : N.ok d = true) (h : WD P N (SS w0 M H0 Z0) ops q l (up f d (str s)) w Q) : WDo P N (SS w0 M H0 Z0) ops q i l f w Q :=
  .val hi hg hd hn (run_b2s ho ht ht2 hx (hxs ▸ row_box (hS.holds _ hm) (by rw [hxs, byteC_len]; exact hl) (by unfold maxLen; omega))) (hM.ss hS) h
theorem WD.b2sBox {t t2 : TypeId} {x : Operand} {e e' : TypeId} {b n : Nat} {s : List UInt8} {cs : List Value} (hS : St w0 M w H Z) (hM : More H0 Z0 H Z) (ho : (ix ops i).op = .convert t t2 x) (ht : bytesOf P t = some e) (ht2 : isStr P t2 = true) (hx : ev f x = .slice (some ⟨b, 0, none⟩) n n) (hm : Chunk.box b e' cs ∈ H) (hxs : cs = byteC s) (hl : s.length = n) (hmx : n ≤ 1048576)
    (hq : q.contains i = false) (hi : Nat.blt i ops.length = true) (hg : wants ops f (ix ops i) = true) {d : Nat} (hd : (ix ops i).dst = some d) (hn : N.ok d = true) (h : WD P N (SS w0 M H0 Z0) ops q l (up f d (str s)) w Q) : WD P N (SS w0 M H0 Z0) ops q (i :: l) f w Q :=
  .eff hq (WDo.b2sBox hS hM ho ht ht2 hx hm hxs hl hmx hi hg hd hn h).out
theorem WDo.slit {t e : TypeId} {len n : Nat} {ps : List (Nat × Operand)} {cs : List Value} (hS : St w0 M w H Z) (hM : More H0 Z0 H Z) (ho : (ix ops i).op = .buildSlice t len ⟨ps⟩) (hv : buildSliceV P t len (evP (ev f) ps) = some (e, n, cs))
    (hi : Nat.blt i ops.length = true) (hg : wants ops f (ix ops i) = true) {d : Nat} (hd : (ix ops i).dst = some d) (hn : N.ok d = true)
    (h : ∀ w' b, St w0 M w' (.box b e cs :: H) Z → More H0 Z0 (.box b e cs :: H) Z → WD P N (SS w0 M H0 Z0) ops q l (up f d (.slice (some ⟨b, 0, none⟩) len len)) w' Q) : WDo P N (SS w0 M H0 Z0) ops q i l f w Q :=
  .val hi hg hd hn (run_sliceLit ho hv) ((hM.chunk _).ss (hS.newBox _ _)) (h _ _ (hS.newBox _ _) (hM.chunk _))
/-- any call: what is known behind it the user says -/
theorem WD.callH {fid : FuncId} {xs : List Operand} {ts : Array TypeId} {args : List Value} {R : Value → World → Prop} (ho : (ix ops i).op = .call ⟨.value (.func fid), ⟨xs⟩, ts⟩) (ha : xs.map (ev f) = args)
    (hc : Cal P fid args w R) (hq : q.contains i = false) (hi : Nat.blt i ops.length = true) (hg : wants ops f (ix ops i) = true) {d : Nat} (hd : (ix ops i).dst = some d) (hn : N.ok d = true)
    (h : ∀ v w', R v w' → S w' ∧ WD P N S ops q l (up f d v) w' Q) : WD P N S ops q (i :: l) f w Q :=
  .enter hq hi hg hd hn (run_callOp ho ha hc.ok) hc.calls h
end

/-! ## addresses seen as plain ones, and bytes read as a text -/
section
variable {P : Program} {N : Fz} {f : Fr} {w w0 : World} {Q : Post} {ops l : List Oper} {o : Oper} {M : List Nat} {H H' : List Chunk} {Z : List Snap} {ρ : Operand → Value}
def ptrTo (P : Program) (t : TypeId) : Option (TypeId × Nat) := match P.underlying t with
  | some (.pointer e) => match P.info? e with
    | some ⟨_, _, size, _, _, _, _, _, _, _⟩ => some (e, size)
    | none => none
  | _ => none
theorem ptrTo_spec {t e : TypeId} {n : Nat} (h : ptrTo P t = some (e, n)) : P.underlying t = some (.pointer e) ∧ ∃ i, P.info? e = some i ∧ i.size = n := by
  unfold ptrTo at h
  split at h
  · rename_i e' hu
    split at h
    · rename_i d s sz by_ hp al fa z x y hi
      simp only [Option.some.injEq, Prod.mk.injEq] at h
      obtain ⟨rfl, rfl⟩ := h
      exact ⟨hu, _, hi, rfl⟩
    · cases h
  · cases h
def isUns (P : Program) (t : TypeId) : Bool := match P.underlying t with
  | some .unsafePointer => true
  | _ => false
theorem isUns_eq {t : TypeId} (h : isUns P t = true) : P.underlying t = some .unsafePointer := by
  unfold isUns at h
  split at h
  · assumption
  · cases h
theorem box_shape {b : Nat} {t : TypeId} {cs : List Value} (h : w.heap[b]? = some (.cells ⟨cs⟩ t (0, 0))) : w.shape? b = some (t, cs.length) := by
  unfold World.shape?; rw [h]; rfl
theorem WL.toU {t t2 e : TypeId} {n b : Nat} {x : Operand} {bt : TypeId} {cs : List Value} (hS : St w0 M w H Z) (ho : o.op = .convert t t2 x) (ht : ptrTo P t = some (e, n + 1)) (ht2 : isUns P t2 = true) (hx : ev f x = .pointer (some ⟨b, 0, none⟩)) (hm : Chunk.box b bt cs ∈ H) (h0 : 0 < cs.length)
    (hg : wants ops f o = true) {d : Nat} (hd : o.dst = some d) (hn : N.ok d = true) (h : WL P N ops l (up f d (.pointer (some ⟨b, 0, none⟩))) w Q) : WL P N ops (o :: l) f w Q := by
  obtain ⟨hu, i, hi, hsz⟩ := ptrTo_spec ht
  have := Lib.run_to_unsafe (P := P) w ⟨b, 0, none⟩ hu (isUns_eq ht2) hi (by omega) (box_shape (hS.holds _ hm)) h0
  exact .val hg hd hn (by simp [execOp, ho, hx, Sem.run_bind, this]) h
theorem WL.fromU {t t2 e : TypeId} {n b : Nat} {x : Operand} {bt : TypeId} {cs : List Value} (hS : St w0 M w H Z) (ho : o.op = .convert t t2 x) (ht : isUns P t = true) (ht2 : ptrTo P t2 = some (e, n)) (hx : ev f x = .pointer (some ⟨b, 0, none⟩)) (hm : Chunk.box b bt cs ∈ H) (hl : liesAt P P.depth bt (cs.length / P.cellsOf bt) 0 e 1 = true)
    (hg : wants ops f o = true) {d : Nat} (hd : o.dst = some d) (hn : N.ok d = true) (h : WL P N ops l (up f d (.pointer (some ⟨b, 0, none⟩))) w Q) : WL P N ops (o :: l) f w Q := by
  obtain ⟨hu, i, hi, hsz⟩ := ptrTo_spec ht2
  have := Lib.run_from_unsafe (P := P) w ⟨b, 0, none⟩ (isUns_eq ht) hu hi (box_shape (hS.holds _ hm)) hl
  exact .val hg hd hn (by simp [execOp, ho, hx, Sem.run_bind, this]) h
/-- an address held against itself -/
theorem WL.neSame {t t' e : TypeId} {n : Nat} {x y : Operand} {a : Addr} (ho : o.op = .binOp .neq t x y t') (ht : ptrTo P t = some (e, n)) (hx : ev f x = .pointer (some a)) (hy : ev f y = .pointer (some a))
    (hg : wants ops f o = true) {d : Nat} (hd : o.dst = some d) (hn : N.ok d = true) (h : WL P N ops l (up f d (.bool false)) w Q) : WL P N ops (o :: l) f w Q := by
  obtain ⟨hu, i, hi, hsz⟩ := ptrTo_spec ht
  have h1 := Lib.run_neq_ptr_same (P := P) w a hu hi
  have h2 : (eqGuard .neq t x y (.pointer (some a)) (.pointer (some a))).run P w = .ok () w := by rfl
  exact .val hg hd hn (by simp [execOp, ho, hx, hy, Sem.run_bind, h1, h2]) h
theorem run_noEsc (v : Value) : (Extern.AbiNoEscape.same ⟨[v]⟩).run P w = .ok v w := rfl
theorem liesAt_byte {e : TypeId} (hc : P.cellsOf e = 1) (count off n : Nat) (hn : off + n ≤ count) : liesAt P P.depth e count off e n = true := by
  have hd : P.depth = (2 * (P.types.size + Made.depth) + 1) + 1 := rfl
  rw [hd]
  simp only [liesAt, Bool.or_eq_true]
  left
  rw [hd]
  simp [rowAt, hc, hn, sameLayout, Nat.mod_one]
theorem run_unsafeStr {pt it ty e : TypeId} {g off n cap n' : Nat} {s : List UInt8} (hp : P.underlying pt = some (.pointer e)) (hc : P.cellsOf e = 1) (hb : RowAt w e 1 (.slice (some ⟨g, off, none⟩) n cap) n' (byteC s)) (h63 : s.length ≤ 9223372036854775807) :
    ∃ w', (Builtin.unsafeString_ #[pt, it] ty #[.pointer (some ⟨g, off, none⟩), .int .i64 (s.length : Int)]).run P w = .ok (str s) w' ∧ Upd [g] w w' := by
  rcases hb.2 with ⟨h2, h3⟩ | ⟨g', off', cap', cur, h2, hh, hn, hcm, hs, ht⟩
  · cases h2
  · simp only [Value.slice.injEq, Option.some.injEq, Addr.mk.injEq, and_true] at h2
    obtain ⟨⟨rfl, rfl⟩, rfl, rfl⟩ := h2
    have hlen := hb.1
    rw [byteC_len, Nat.mul_one] at hlen
    have hmax : IntKind.i64.max = 9223372036854775807 := rfl
    by_cases h0 : s = []
    · subst h0
      exact ⟨w, Lib.run_unsafeString_none w pt it ty (some ⟨g, off, none⟩), .refl _ _⟩
    · have hl : s.length ≠ 0 := by simpa using h0
      have hcell : ∀ j x, s[j]? = some x → w.cell? ((⟨g, off, none⟩ : Addr).add j) = some (.int .u8 x.toNat) := fun j x hj => by
        rw [Addr.add_mid]
        exact hb.cells j _ (by simp [byteC, hj])
      have hlb := Lib.run_loadBytes (P := P) w s ⟨g, off, none⟩ .empty hcell
      have hlies := liesAt_byte (P := P) hc (cur.length / P.cellsOf e) off s.length (by rw [hc]; simp; omega)
      have h63' : ¬ (9223372036854775807 : Int) < (s.length : Int) := by omega
      have hdef : Builtin.unsafeString_ #[pt, it] ty #[.pointer (some ⟨g, off, none⟩), .int .i64 s.length] =
          (do
            let n ← asInt (.int .i64 s.length)
            if n < 0 then runtimePanic (.error "unsafe.String: len out of range")
            if n > IntKind.i64.max then unsupported (.unsafePointer "String: a length above the largest int")
            if n = 0 then pure (.string .empty)
            else if ← variablesAt ⟨g, off, none⟩ (← Go.elemOf pt) n.toNat then do
              let s ← loadBytes ⟨g, off, none⟩ .empty n.toNat
              freeze ⟨g, off, none⟩ n.toNat
              pure (.string s)
            else unsupported (.unsafePointer "String: not so many bytes at ptr")) := rfl
      have hneg : ¬ (s.length : Int) < 0 := by omega
      refine ⟨w.freeze ⟨g, off, none⟩ s.length, ?_, ?_⟩
      · rw [hdef]
        simp [asInt, asIntOf, hmax, h63', hneg, hl, variablesAt, box_shape hh, Go.elemOf, run_underlying hp, hlies, hlb]
      · unfold World.freeze
        split
        · exact .refl _ _
        · exact ⟨rfl, rfl, rfl, by simp, fun k hk hn => by
            have : g ≠ k := fun e => hn (by simp [e])
            simp only [Array.getElem?_modify]
            rw [if_neg this]⟩
end
section
variable {P : Program} {N : Fz} {f : Fr} {w w0 : World} {Q : Post} {ops : List Oper} {M : List Nat} {H0 H H' : List Chunk} {Z0 Z : List Snap} {q : Qs} {l : List Nat} {i : Nat} {S : World → Prop}
theorem St.lose {c : Chunk} {w' : World} (hS : St w0 M w (c :: H) Z) (hu : Upd c.fp w w') : St w0 M w' H Z :=
  (hS.step (c' := .obj [] fun _ => True) .here hu ⟨trivial, fun _ _ _ _ => trivial⟩ (fun b hb => by simp [Chunk.fp] at hb)).drop
theorem WD.sliceData {x : Operand} {ts : Array TypeId} {A : Option Addr} {n cap : Nat} (hS : St w0 M w H Z) (hM : More H0 Z0 H Z) (ho : (ix ops i).op = .call ⟨.builtin .unsafeSliceData, ⟨[x]⟩, ts⟩) (hx : ev f x = .slice A n cap) (hA : A = none ∨ cap ≠ 0)
    (hq : q.contains i = false) (hi : Nat.blt i ops.length = true) (hg : wants ops f (ix ops i) = true) {d : Nat} (hd : (ix ops i).dst = some d) (hn : N.ok d = true) (h : WD P N (SS w0 M H0 Z0) ops q l (up f d (.pointer A)) w Q) : WD P N (SS w0 M H0 Z0) ops q (i :: l) f w Q := by
  have hrun : (execOp (ev f) (ix ops i)).run P w = .ok (.value (.pointer A)) w := by
    cases A with
    | none => simp [execOp, ho, resolve, invoke, builtin, hx, Sem.run_bind, Lib.run_unsafeSliceData_nil]
    | some a =>
      have hc : cap ≠ 0 := by rcases hA with h | h
                              · cases h
                              · exact h
      simp [execOp, ho, resolve, invoke, builtin, hx, Sem.run_bind, Lib.run_unsafeSliceData_row w _ _ a n cap hc]
  exact .val hq hi hg hd hn hrun (hM.ss hS) h
theorem WD.unsStr {x y : Operand} {pt it e : TypeId} {A : Option Addr} {n cap n' : Nat} {s : List UInt8} (hS : St w0 M w (.own (.slice A n cap) e 1 n' (byteC s) :: H) Z) (hM : More H0 Z0 H Z) (ho : (ix ops i).op = .call ⟨.builtin .unsafeString, ⟨[x, y]⟩, ⟨[pt, it]⟩⟩) (hp : ptrTo P pt = some (e, 1))
    (hx : ev f x = .pointer A) (hy : ev f y = .int .i64 (s.length : Int)) (h63 : s.length ≤ 9223372036854775807)
    (hq : q.contains i = false) (hi : Nat.blt i ops.length = true) (hg : wants ops f (ix ops i) = true) {d : Nat} (hd : (ix ops i).dst = some d) (hn : N.ok d = true)
    (h : ∀ w', St w0 M w' H Z → WD P N (SS w0 M H0 Z0) ops q l (up f d (str s)) w' Q) : WD P N (SS w0 M H0 Z0) ops q (i :: l) f w Q := by
  obtain ⟨hu, inf, hinf, hsz⟩ := ptrTo_spec hp
  have hc : P.cellsOf e = 1 := by unfold Program.cellsOf; rw [hinf]; exact hsz
  have hrow : RowAt w e 1 (.slice A n cap) n' (byteC s) := hS.holds _ (List.Mem.head _)
  cases A with
  | none =>
    have hs : s = [] := by
      rcases hrow.2 with ⟨h1, h2⟩ | ⟨g, off, cap', cur, h1, _⟩
      · have := hrow.1
        rw [byteC_len] at this
        rw [← List.length_eq_zero_iff]; omega
      · cases h1
    subst hs
    have := Lib.run_unsafeString_none (P := P) w pt it (ix ops i).type none
    exact .val hq hi hg hd hn (by simp [execOp, ho, resolve, invoke, builtin, hx, hy, Sem.run_bind, this]; rfl) (hM.ss hS.drop) (h _ hS.drop)
  | some a =>
    obtain ⟨g, off, rfl⟩ : ∃ g off, a = ⟨g, off, none⟩ := by
      rcases hrow.2 with ⟨h1, h2⟩ | ⟨g, off, cap', cur, h1, _⟩
      · cases h1
      · simp only [Value.slice.injEq, Option.some.injEq] at h1
        exact ⟨g, off, h1.1⟩
    obtain ⟨w', hrun, hupd⟩ := run_unsafeStr (pt := pt) (it := it) (ty := (ix ops i).type) hu hc hrow h63
    have hS' : St w0 M w' H Z := hS.lose (by simpa [Chunk.fp, Value.ownBlock] using hupd)
    exact .val hq hi hg hd hn (by simp [execOp, ho, resolve, invoke, builtin, hx, hy, Sem.run_bind, hrun]) (hM.ss hS') (h _ hS')
end

/-! ## the end of a function without results -/
section
variable {P : Program} {fn : Func} {rs : Array ResultVar} {R : Value → World → Prop} {f : Fr} {w : World}
theorem fin0n (h : fn.results = #[]) (hR : R (.tuple #[]) w) : funQ P rs fn (Ret R) .normal f w := by unfold funQ; exact ⟨_, ⟨_, rfl, hR⟩, fun a _ => by simp [results, h]⟩
theorem fin0r (h : fn.results = #[]) (hR : R (.tuple #[]) w) : funQ P rs fn (Ret R) .ret f w := by unfold funQ; exact ⟨_, ⟨_, rfl, hR⟩, fun a _ => by simp [results, h]⟩
theorem res3 {t u x : Tmp} (h : fn.results = #[.tmp t, .tmp u, .tmp x]) : ∀ a, Is a fn.ntmps f → (results fn a.tmps).run P w = .ok (.tuple #[f t, f u, f x]) w := fun a ha => by
  rw [← ha.get t, ← ha.get u, ← ha.get x]
  simp [results, h]
theorem fin3r {t u x : Tmp} {v v' v'' : Value} (h : fn.results = #[.tmp t, .tmp u, .tmp x]) (hv : nfv (f t) = some v) (hv' : nfv (f u) = some v') (hv'' : nfv (f x) = some v'') (hR : R (.tuple #[v, v', v'']) w) : funQ P rs fn (Ret R) .ret f w := by unfold funQ; exact ⟨_, ⟨_, rfl, hR⟩, by rw [nfv_eq hv, nfv_eq hv', nfv_eq hv'']; exact res3 h⟩
end
end Go.J

/- What is proved: plain facts on texts cut at strokes, on names and on paths. Conditions: none. -/
set_option linter.unusedSimpArgs false
set_option linter.unusedVariables false
namespace Go.J
open Go

/-- a text cut at each stroke; 'one' is what stands ahead -/
def splitA (one : List UInt8) : List UInt8 → List (List UInt8)
  | [] => [one]
  | c :: s => if c = 47 then one :: splitA [] s else splitA (one ++ [c]) s
def splitL (s : List UInt8) : List (List UInt8) := splitA [] s
theorem splitA_len (s : List UInt8) : ∀ one, (splitA one s).length = s.count 47 + 1 := by
  induction s with
  | nil => intro one; simp [splitA]
  | cons c s ih =>
    intro one
    by_cases h : c = 47
    · subst h; simp [splitA, ih]
    · simp [splitA, h, ih, List.count_cons]
theorem splitA_none (s : List UInt8) (h : s.count 47 = 0) : ∀ one, splitA one s = [one ++ s] := by
  induction s with
  | nil => intro one; simp [splitA]
  | cons c s ih =>
    intro one
    rw [List.count_cons] at h
    have hc : c ≠ 47 := by rintro rfl; simp at h
    have h0 : s.count 47 = 0 := by omega
    simp [splitA, hc, ih h0]
/-- where the first stroke stands -/
theorem indexByte_spec (s : List UInt8) (c : UInt8) (h : 0 < s.count c) : ∃ j : Nat, Lib.indexByte s c = (j : Int) ∧ j < s.length ∧ (s.take j).count c = 0 ∧ s[j]? = some c := by
  induction s with
  | nil => simp at h
  | cons b s ih =>
    by_cases hb : b = c
    · exact ⟨0, by simp [Lib.indexByte, hb], by simp, by simp, by simp [hb]⟩
    · rw [List.count_cons] at h
      have h0 : 0 < s.count c := by simpa [hb] using h
      obtain ⟨j, h1, h2, h3, h4⟩ := ih h0
      refine ⟨j + 1, ?_, by simp; omega, ?_, by simpa using h4⟩
      · unfold Lib.indexByte
        have : (b == c) = false := by simpa using hb
        rw [this, h1]
        have h2 : (((j : Nat) : Int) == -1) = false := by rw [beq_eq_false_iff_ne]; omega
        rw [h2]; simp
      · rw [List.take_succ_cons, List.count_cons, h3]; simp [hb]
theorem splitA_first (s : List UInt8) : ∀ (one : List UInt8) (j : Nat), (s.take j).count 47 = 0 → s[j]? = some 47 → splitA one s = (one ++ s.take j) :: splitA [] (s.drop (j + 1)) := by
  induction s with
  | nil => intro one j _ h; simp at h
  | cons c s ih =>
    intro one j h1 h2
    cases j with
    | zero =>
      simp only [List.getElem?_cons_zero, Option.some.injEq] at h2
      subst h2
      simp [splitA]
    | succ j =>
      rw [List.take_succ_cons, List.count_cons] at h1
      have hc : c ≠ 47 := by rintro rfl; simp at h1
      have h0 : (s.take j).count 47 = 0 := by omega
      simp only [List.getElem?_cons_succ] at h2
      simp only [splitA, if_neg hc]
      rw [ih (one ++ [c]) j h0 h2]
      simp
theorem count_first (s : List UInt8) (j : Nat) (h1 : (s.take j).count 47 = 0) (h2 : s[j]? = some 47) : s.count 47 = (s.drop (j + 1)).count 47 + 1 := by
  have hlt : j < s.length := (List.getElem?_eq_some_iff.1 h2).1
  have hj : s[j] = 47 := (List.getElem?_eq_some_iff.1 h2).2
  have e : s = s.take j ++ s[j] :: s.drop (j + 1) := by rw [← List.drop_eq_getElem_cons hlt]; exact (List.take_append_drop j s).symm
  conv => lhs; rw [e]
  rw [List.count_append, List.count_cons, h1, hj]; simp

/-- letters of names -/
def okC (c : UInt8) : Bool := decide (97 ≤ c.toNat ∧ c.toNat ≤ 122 ∨ 48 ≤ c.toNat ∧ c.toNat ≤ 57 ∨ c.toNat = 95)
def nameB (s : List UInt8) : Bool := decide (1 ≤ s.length ∧ s.length ≤ 12) && s.all okC
theorem nameB_no (s : List UInt8) (k : Nat) (h : k < s.length) (hc : okC s[k] = false) : nameB s = false := by
  unfold nameB
  have : s.all okC = false := by
    rw [List.all_eq_false]
    exact ⟨s[k], List.getElem_mem h, by rw [hc]; decide⟩
  rw [this, Bool.and_false]
theorem nameB_len (s : List UInt8) (h : ¬ (1 ≤ s.length ∧ s.length ≤ 12)) : nameB s = false := by
  unfold nameB
  rw [decide_eq_false h, Bool.false_and]
theorem nameB_yes (s : List UInt8) (h : 1 ≤ s.length ∧ s.length ≤ 12) (ha : ∀ k (h : k < s.length), okC s[k] = true) : nameB s = true := by
  unfold nameB
  rw [decide_eq_true h, Bool.true_and, List.all_eq_true]
  intro x hx
  obtain ⟨k, hk, rfl⟩ := List.mem_iff_getElem.1 hx
  exact ha k hk

/-- the answer of a check -/
def checkE (p : List UInt8) (deep : Int) : Int := if deep < ((splitL p).length : Int) then 10 else if (splitL p).all nameB then 0 else 10
theorem checkE_deep (p : List UInt8) (deep : Int) (h : deep < ((splitL p).length : Int)) : checkE p deep = 10 := by unfold checkE; rw [if_pos h]
theorem checkE_no (p : List UInt8) (deep : Int) (k : Nat) (h : k < (splitL p).length) (hn : nameB (splitL p)[k] = false) : checkE p deep = 10 := by
  unfold checkE
  have : (splitL p).all nameB = false := by
    rw [List.all_eq_false]
    exact ⟨_, List.getElem_mem h, by rw [hn]; decide⟩
  rw [this]; simp
theorem checkE_yes (p : List UInt8) (deep : Int) (h : ¬ deep < ((splitL p).length : Int)) (ha : ∀ k (h : k < (splitL p).length), nameB (splitL p)[k] = true) : checkE p deep = 0 := by
  unfold checkE
  rw [if_neg h, if_pos]
  rw [List.all_eq_true]
  intro x hx
  obtain ⟨k, hk, rfl⟩ := List.mem_iff_getElem.1 hx
  exact ha k hk
theorem splitL_pos (p : List UInt8) : 0 < (splitL p).length := by unfold splitL; rw [splitA_len]; omega
theorem checkE_empty (deep : Int) : checkE [] deep = 10 := by
  unfold checkE splitL splitA
  split
  · rfl
  · simp [nameB]

/-- where the last stroke of the first k letters stands; -1 -/
def lastL (s : List UInt8) : Nat → Int
  | 0 => -1
  | k + 1 => if s[k]? = some 47 then (k : Int) else lastL s k
theorem lastL_ge (s : List UInt8) (k : Nat) : -1 ≤ lastL s k ∧ lastL s k < k := by
  induction k with
  | zero => simp [lastL]
  | succ k ih => simp only [lastL]; split <;> omega
def lastE (s : List UInt8) : Int := lastL s s.length
theorem lastE_ge (s : List UInt8) : -1 ≤ lastE s ∧ lastE s < s.length := lastL_ge s s.length
def parentE (s : List UInt8) : List UInt8 := s.take (lastE s).toNat
def baseE (s : List UInt8) : List UInt8 := s.drop (lastE s + 1).toNat
def joinE (a b : List UInt8) : List UInt8 := if a = [] then b else if b = [] then a else a ++ [47] ++ b
def underB (p top : List UInt8) : Bool := decide (top = []) || decide (p = top) || decide (p.take (top.length + 1) = top ++ [47])
def deepE (p : List UInt8) : Int := if p = [] then 0 else (p.count 47 : Nat) + 1
end Go.J

/- What is proved: what Split, Count, Index (at a separator of one letter), LastIndexByte and HasPrefix answer. Conditions: texts of bounded length. -/
set_option linter.unusedSimpArgs false
set_option linter.unusedVariables false
namespace Go.Proofs.YtccfiohagbneaaaGreatDoor
open Go Go.J Go.RowKit

theorem ext_index : ExtIs Tryz.prog 250 Extern.BytealgIndexByte.indexByte := ⟨_, Tryz.func250, by kernel_rfl, by kernel_rfl, by kernel_rfl, by kernel_rfl⟩
theorem ext_count : ExtIs Tryz.prog 223 Extern.BytealgCount.count := ⟨_, Tryz.func223, by kernel_rfl, by kernel_rfl, by kernel_rfl, by kernel_rfl⟩

set_option maxHeartbeats 4000000 in
set_option maxRecDepth 100000 in
theorem sindexByte_c (s : List UInt8) (c : UInt8) (w0 : World) : Cal Tryz.prog 241 [str s, .int .u8 (c.toNat : Int)] w0 (fun v w' => Upd [] w0 w' ∧ v = .int .i64 (Lib.indexByte s c)) := by
  refine Cal.mk' (by kernel_rfl) Tryz.func241 rfl rfl fun hS => ?_
  repeat' (first
    | (show WL _ _ _ _ _ _ _; first
      | refine WL.pure rfl rfl rfl rfl ?_
      | refine WL.nil ?_
      | refine WL.ext rfl rfl ext_index (run_indexByte s c) rfl rfl rfl ?_)
    | (show WC _ _ _ _ _ _; first
      | refine WC.seq ?_
      | refine WC.region ?_
      | refine WC.ret ?_)
    | refine seqQ_n ?_)
  exact fin1r rfl rfl ⟨hS.upd, rfl⟩
set_option maxHeartbeats 4000000 in
set_option maxRecDepth 100000 in
theorem sindex_c (s : List UInt8) (c : UInt8) (w0 : World) : Cal Tryz.prog 232 [str s, str [c]] w0 (fun v w' => Upd [] w0 w' ∧ v = .int .i64 (Lib.indexByte s c)) := by
  refine Cal.mk' (by kernel_rfl) Tryz.func232 rfl rfl fun hS => ?_
  have hc : ([c] : List UInt8)[0]? = some c := rfl
  by_cases hs : [c] = s
  · subst hs
    repeat' (first
      | (show WL _ _ _ _ _ _ _; first
        | refine WL.pure rfl rfl rfl rfl ?_
        | refine WL.nil ?_)
      | (show WC _ _ _ _ _ _; first
        | refine WC.seq ?_
        | refine WC.region ?_
        | refine WC.block ?_
        | refine WC.ret ?_
        | refine WC.condT rfl (by first | (simp; done) | (simp; omega)) ?_)
      | refine seqQ_n ?_
      | refine seqQ_r ?_
      | refine blkQ_r ?_)
    exact fin1r rfl rfl ⟨hS.upd, by simp [Lib.indexByte]⟩
  · repeat' (first
      | (show WL _ _ _ _ _ _ _; first
        | refine WL.pure rfl rfl rfl rfl ?_
        | refine WL.nil ?_
        | (refine WL.calls hS rfl rfl (sindexByte_c s c _) rfl rfl rfl ?_; rintro v w rfl hS)
        | refine WL.idxS rfl rfl rfl rfl (by with_reducible assumption) rfl rfl rfl ?_)
      | (show WC _ _ _ _ _ _; first
        | refine WC.seq ?_
        | refine WC.region ?_
        | refine WC.block ?_
        | refine WC.ret ?_
        | refine WC.condF rfl (decide_eq_false (by first | with_reducible assumption | omega)) ?_
        | refine WC.condT rfl (by first | (simp; done) | (simp; omega)) ?_)
      | refine seqQ_n ?_
      | refine seqQ_r ?_
      | refine blkQ_r ?_)
    exact fin1r rfl rfl ⟨hS.upd, rfl⟩
set_option maxHeartbeats 4000000 in
set_option maxRecDepth 100000 in
theorem index_c (s : List UInt8) (c : UInt8) (w0 : World) : Cal Tryz.prog 224 [str s, str [c]] w0 (fun v w' => Upd [] w0 w' ∧ v = .int .i64 (Lib.indexByte s c)) := by
  refine Cal.mk' (by kernel_rfl) Tryz.func224 rfl rfl fun hS => ?_
  repeat' (first
    | (show WL _ _ _ _ _ _ _; first
      | refine WL.pure rfl rfl rfl rfl ?_
      | refine WL.nil ?_
      | (refine WL.calls hS rfl rfl (sindex_c s c _) rfl rfl rfl ?_; rintro v w rfl hS))
    | (show WC _ _ _ _ _ _; first
      | refine WC.seq ?_
      | refine WC.region ?_
      | refine WC.ret ?_)
    | refine seqQ_n ?_)
  exact fin1r rfl rfl ⟨hS.upd, rfl⟩
set_option maxHeartbeats 4000000 in
set_option maxRecDepth 100000 in
theorem count_c (s : List UInt8) (c : UInt8) (w0 : World) : Cal Tryz.prog 199 [str s, str [c]] w0 (fun v w' => Upd [] w0 w' ∧ v = .int .i64 ((s.count c : Nat) : Int)) := by
  refine Cal.mk' (by kernel_rfl) Tryz.func199 rfl rfl fun hS => ?_
  have hc : ([c] : List UInt8)[0]? = some c := rfl
  repeat' (first
    | (show WL _ _ _ _ _ _ _; first
      | refine WL.pure rfl rfl rfl rfl ?_
      | refine WL.nil ?_
      | refine WL.ext rfl rfl ext_count (run_countByte s c) rfl rfl rfl ?_
      | refine WL.idxS rfl rfl rfl rfl (by with_reducible assumption) rfl rfl rfl ?_)
    | (show WC _ _ _ _ _ _; first
      | refine WC.seq ?_
      | refine WC.region ?_
      | refine WC.skip ?_
      | refine WC.ret ?_
      | refine WC.condT rfl (by first | (simp; done) | (simp; omega)) ?_
      | refine WC.condF rfl (by first | (simp; done) | (simp; omega)) ?_)
    | refine seqQ_n ?_
    | refine seqQ_r ?_)
  exact fin1r rfl rfl ⟨hS.upd, rfl⟩
set_option maxHeartbeats 4000000 in
set_option maxRecDepth 100000 in
theorem hasPrefix_c (s p : List UInt8) (w0 : World) : Cal Tryz.prog 156 [str s, str p] w0 (fun v w' => Upd [] w0 w' ∧ v = .bool (decide (s.take p.length = p))) := by
  have h0 : ∀ w0, Cal Tryz.prog 186 [str s, str p] w0 (fun v w' => Upd [] w0 w' ∧ v = .bool (decide (s.take p.length = p))) := by
    intro w0
    refine Cal.mk' (by kernel_rfl) Tryz.func186 rfl rfl fun hS => ?_
    by_cases hl : p.length ≤ s.length
    · repeat' (first
        | (show WL _ _ _ _ _ _ _; first
          | refine WL.pure rfl rfl rfl rfl ?_
          | refine WL.nil ?_
          | refine WL.highS rfl rfl rfl rfl (by omega) rfl rfl rfl ?_
          | ((fail_if_success (refine WL.wanted rfl ?_)); refine WL.guard rfl rfl rfl (fun h => ?_) (fun h => ?_) <;> (try simp only [Classical.not_not, Bool.not_eq_true', Bool.not_eq_false', Bool.not_eq_eq_eq_not, Bool.not_true, Bool.not_false, beq_iff_eq, beq_eq_false_iff_ne, ne_eq, decide_eq_decide, decide_eq_true_eq, decide_eq_false_iff_not, Bool.and_eq_true, Bool.or_eq_true, Bool.and_eq_false_iff, Bool.or_eq_false_iff] at h) <;> (try (exfalso; first | omega | contradiction))))
        | (show WC _ _ _ _ _ _; first
          | refine WC.seq ?_
          | refine WC.region ?_
          | refine WC.ret ?_)
        | refine seqQ_n ?_)
      exact fin1r rfl rfl ⟨hS.upd, rfl⟩
    · have hne : decide (s.take p.length = p) = false := decide_eq_false fun e => hl (by rw [← e]; simp; omega)
      rw [hne]
      repeat' (first
        | (show WL _ _ _ _ _ _ _; first
          | refine WL.pure rfl rfl rfl rfl ?_
          | refine WL.nil ?_
          | refine WL.skip rfl rfl rfl ?_
          | ((fail_if_success (refine WL.wanted rfl ?_)); refine WL.guard rfl rfl rfl (fun h => ?_) (fun h => ?_) <;> (try simp only [Classical.not_not, Bool.not_eq_true', Bool.not_eq_false', Bool.not_eq_eq_eq_not, Bool.not_true, Bool.not_false, beq_iff_eq, beq_eq_false_iff_ne, ne_eq, decide_eq_decide, decide_eq_true_eq, decide_eq_false_iff_not, Bool.and_eq_true, Bool.or_eq_true, Bool.and_eq_false_iff, Bool.or_eq_false_iff] at h) <;> (try (exfalso; first | omega | contradiction))))
        | (show WC _ _ _ _ _ _; first
          | refine WC.seq ?_
          | refine WC.region ?_
          | refine WC.ret ?_)
        | refine seqQ_n ?_)
      exact fin1r rfl rfl ⟨hS.upd, rfl⟩
  refine Cal.mk' (by kernel_rfl) Tryz.func156 rfl rfl fun hS => ?_
  repeat' (first
    | (show WL _ _ _ _ _ _ _; first
      | refine WL.pure rfl rfl rfl rfl ?_
      | refine WL.nil ?_
      | (refine WL.calls hS rfl rfl (h0 _) rfl rfl rfl ?_; rintro v w rfl hS))
    | (show WC _ _ _ _ _ _; first
      | refine WC.seq ?_
      | refine WC.region ?_
      | refine WC.ret ?_)
    | refine seqQ_n ?_)
  exact fin1r rfl rfl ⟨hS.upd, rfl⟩
theorem lastL_stop (s : List UInt8) (k : Nat) (h : s[k]? = some 47) : lastL s (k + 1) = k := by simp [lastL, h]
theorem lastL_go (s : List UInt8) (k : Nat) (h : s[k]? ≠ some 47) : lastL s (k + 1) = lastL s k := by simp [lastL, h]
set_option maxHeartbeats 4000000 in
set_option maxRecDepth 100000 in
theorem lastIndexByte_c (s : List UInt8) (w0 : World) (hl : s.length ≤ 4611686018427387904) : Cal Tryz.prog 200 [str s, .int .u8 47] w0 (fun v w' => Upd [] w0 w' ∧ v = .int .i64 (lastE s)) := by
  have h0 : ∀ w0, Cal Tryz.prog 225 [str s, .int .u8 47] w0 (fun v w' => Upd [] w0 w' ∧ v = .int .i64 (lastE s)) := by
    intro w0
    refine Cal.mk' (by kernel_rfl) Tryz.func225 rfl rfl fun hS => ?_
    repeat' (first
      | (show WL _ _ _ _ _ _ _; first
        | refine WL.pure rfl rfl rfl rfl ?_
        | refine WL.nil ?_
        | refine WL.sub rfl rfl rfl (by omega) rfl rfl rfl ?_)
      | (show WC _ _ _ _ _ _; first
        | refine WC.seq ?_
        | refine WC.region ?_
        | refine WC.block ?_)
      | refine seqQ_n ?_)
    refine WC.loop (σ := Nat) [0, 1] (fun k => [(5, .int .i64 ((k : Int) - 1))]) (fun k w => k ≤ s.length ∧ lastE s = lastL s k ∧ St w0 [] w _ _) (fun k => k) s.length ⟨Nat.le_refl _, rfl, hS⟩ ⟨rfl, trivial⟩ ?_
    clear hS
    rintro k g w ⟨hk, he, hS⟩
    rcases k with _ | k
    · rw [he]
      repeat' (first
        | (show WL _ _ _ _ _ _ _; first
          | refine WL.pure rfl rfl rfl rfl ?_
          | refine WL.nil ?_)
        | (show WC _ _ _ _ _ _; first
          | refine WC.seq ?_
          | refine WC.region ?_
          | refine WC.exit ?_
          | refine WC.ret ?_
          | refine WC.condF rfl (by decide) ?_)
        | refine seqQ_n ?_
        | refine seqQ_x ?_
        | refine blkQ_hit rfl ?_
        | refine rndQ_x ?_)
      exact fin1r rfl rfl ⟨hS.upd, rfl⟩
    · have hlt : k < s.length := by omega
      have hc : s[k]? = some s[k] := List.getElem?_eq_getElem hlt
      have hst := lastL_stop s k
      have hgo := lastL_go s k
      rw [hc] at hst hgo
      generalize s[k] = c at *
      by_cases h47 : c = 47
      · rw [he, hst (by rw [h47])]
        have h47' : (c.toNat : Int) = 47 := by rw [h47]; rfl
        repeat' (first
          | (show WL _ _ _ _ _ _ _; first
            | refine WL.pure rfl rfl rfl rfl ?_
            | refine WL.nil ?_
            | refine WL.idxS (j := k) rfl rfl rfl (congrArg (Value.int .i64) (pred_ofNat k)) hc rfl rfl rfl ?_)
          | (show WC _ _ _ _ _ _; first
            | refine WC.seq ?_
            | refine WC.region ?_
            | refine WC.block ?_
            | refine WC.skip ?_
            | refine WC.ret ?_
            | refine WC.condT rfl (decide_eq_true (by first | with_reducible assumption | omega)) ?_)
          | refine seqQ_n ?_
          | refine seqQ_r ?_
          | refine blkQ_r ?_
          | refine rndQ_r ?_)
        exact fin1r rfl rfl ⟨hS.upd, vint (by omega)⟩
      · have h47' : ¬ (c.toNat : Int) = 47 := fun e => h47 (UInt8.toNat_inj.1 (by show c.toNat = 47; omega))
        have hgo := hgo (by simpa using h47)
        repeat' (first
          | (show WL _ _ _ _ _ _ _; first
            | refine WL.pure rfl rfl rfl rfl ?_
            | refine WL.nil ?_
            | refine WL.sub rfl rfl rfl (by omega) rfl rfl rfl ?_
            | refine WL.idxS (j := k) rfl rfl rfl (congrArg (Value.int .i64) (pred_ofNat k)) hc rfl rfl rfl ?_)
          | (show WC _ _ _ _ _ _; first
            | refine WC.seq ?_
            | refine WC.region ?_
            | refine WC.block ?_
            | refine WC.skip ?_
            | refine WC.condT rfl (decide_eq_true (by first | with_reducible assumption | omega)) ?_
            | refine WC.condF rfl (decide_eq_false (by first | with_reducible assumption | omega)) ?_)
          | refine seqQ_n ?_
          | refine blkQ_n ?_)
        exact rndQ_n k ⟨by omega, by omega, hS⟩ (by omega) ⟨vint (by omega), trivial⟩ ⟨rfl, rfl, trivial⟩
  refine Cal.mk' (by kernel_rfl) Tryz.func200 rfl rfl fun hS => ?_
  repeat' (first
    | (show WL _ _ _ _ _ _ _; first
      | refine WL.pure rfl rfl rfl rfl ?_
      | refine WL.nil ?_
      | (refine WL.calls hS rfl rfl (h0 _) rfl rfl rfl ?_; rintro v w rfl hS))
    | (show WC _ _ _ _ _ _; first
      | refine WC.seq ?_
      | refine WC.region ?_
      | refine WC.ret ?_)
    | refine seqQ_n ?_)
  exact fin1r rfl rfl ⟨hS.upd, rfl⟩

def strs (l : List (List UInt8)) : List Value := l.flatMap fun s => [str s]
theorem strs_len (l : List (List UInt8)) : (strs l).length = l.length := by unfold strs; rw [flat_len (sz := 1) (fun _ => rfl), Nat.mul_one]
theorem strs_snoc (l : List (List UInt8)) (x : List UInt8) : strs l ++ [str x] = strs (l ++ [x]) := by simp [strs]
theorem strs_put (l : List (List UInt8)) (x : List UInt8) (zs : List Value) (k m : Nat) (hk : l.length = k) :
    (strs l ++ repZ [str []] (m + 1)).take (k * 1) ++ [str x] ++ (strs l ++ repZ [str []] (m + 1)).drop (k * 1 + 1) = strs (l ++ [x]) ++ repZ [str []] m := by
  have h1 : (strs l).length = k := by rw [strs_len, hk]
  rw [Nat.mul_one, List.take_append_of_le_length (by omega), List.take_of_length_le (by omega), List.drop_append, List.drop_of_length_le (by omega), List.nil_append, h1, show k + 1 - k = 1 by omega]
  rw [← strs_snoc]
  rfl
set_option maxHeartbeats 8000000 in
set_option maxRecDepth 100000 in
theorem split_c (s : List UInt8) (w0 : World) (hl : s.length ≤ 4611686018427) : Cal Tryz.prog 195 [str s, str [47]] w0
    (fun v w' => Upd [] w0 w' ∧ ∃ A cap, v = .slice A (splitL s).length cap ∧ New w0 w' (.own (.slice A (splitL s).length cap) 9 1 (splitL s).length (strs (splitL s)))) := by
  have h0 : ∀ w0, Cal Tryz.prog 221 [str s, str [47], .int .i64 0, .int .i64 (-1)] w0
      (fun v w' => Upd [] w0 w' ∧ ∃ A cap, v = .slice A (splitL s).length cap ∧ New w0 w' (.own (.slice A (splitL s).length cap) 9 1 (splitL s).length (strs (splitL s)))) := by
    intro w0
    refine Cal.mk' (by kernel_rfl) Tryz.func221 rfl rfl fun hS => ?_
    have hcl : s.count 47 ≤ s.length := List.count_le_length
    have hsep : ([47] : List UInt8).length = 1 := rfl
    have hmin : min ((s.count 47 : Int) + 1) ((s.length : Int) + 1) = ((s.count 47 + 1 : Nat) : Int) := by omega
    repeat' (first
      | (show WL _ _ _ _ _ _ _; first
        | refine WL.pure rfl rfl rfl rfl ?_
        | refine WL.nil ?_
        | refine WL.add rfl rfl rfl (by omega) rfl rfl rfl ?_
        | refine WL.sub rfl rfl rfl (by omega) rfl rfl rfl ?_
        | (refine WL.calls hS rfl rfl (count_c s 47 _) rfl rfl rfl ?_; rintro v w rfl hS)
        | (refine WL.minI rfl rfl rfl rfl rfl rfl ?_; rw [hmin])
        | (refine WL.mkS (n := s.count 47 + 1) hS rfl rfl ⟨_, rfl, rfl⟩ rfl rfl (by omega) rfl rfl rfl ?_; intro w b hS))
      | (show WC _ _ _ _ _ _; first
        | refine WC.seq ?_
        | refine WC.region ?_
        | refine WC.block ?_
        | refine WC.skip ?_
        | refine WC.condT rfl (by decide) ?_
        | refine WC.condF rfl (by decide) ?_)
      | refine seqQ_n ?_)
    refine WC.loop (σ := List (List UInt8) × List UInt8 × List Value) [1, 2, 3, 9] (fun (done, r, xs) => [(0, str r), (10, .int .i64 (done.length : Int))])
      (fun (done, r, xs) w => done.length + r.count 47 = s.count 47 ∧ splitL s = done ++ splitL r ∧ r.length ≤ s.length ∧ xs = strs done ++ repZ [str []] (r.count 47 + 1) ∧ St w0 [] w [.own _ 9 1 _ xs] _)
      (fun (done, r, xs) => r.count 47) ([], s, _) ⟨by simp, rfl, Nat.le_refl _, rfl, hS⟩ ⟨rfl, rfl, trivial⟩ ?_
    clear hS
    rintro ⟨done, r, xs⟩ g w ⟨hk, hsp, hrl, hx, hS⟩
    have hxl := (hS.own_len (List.Mem.head _)).1
    by_cases hlt : 0 < r.count 47
    · obtain ⟨j, hj1, hj2, hj3, hj4⟩ := indexByte_spec r 47 hlt
      have hcf := count_first r j hj3 hj4
      have hsf := splitA_first r [] j hj3 hj4
      obtain ⟨m, hm⟩ : ∃ m, r.count 47 = m + 1 := ⟨r.count 47 - 1, by omega⟩
      rw [hm] at hx
      have hp := strs_put done (r.take j) [] done.length (m + 1) rfl
      repeat' (first
        | (show WL _ _ _ _ _ _ _; first
          | refine WL.pure rfl rfl rfl rfl ?_
          | refine WL.nil ?_
          | refine WL.add rfl rfl rfl (by omega) rfl rfl rfl ?_
          | (refine WL.calls hS rfl rfl (index_c r 47 _) rfl rfl rfl ?_; rintro v w rfl hS; rw [hj1])
          | refine WL.highS (j := j) rfl rfl rfl (congrArg (Value.int .i64) (Int.add_zero _)) (by omega) rfl rfl rfl ?_
          | refine WL.lowS (j := j + 1) rfl rfl rfl (show Value.int .i64 ((j : Int) + (([47] : List UInt8).length : Int)) = .int .i64 (Int.ofNat (j + 1)) from rfl) (by omega) rfl rfl rfl ?_
          | (refine WL.storeOwn hS rfl rfl rfl (by repeat (first | exact Repl.here | apply Repl.there)) (by show done.length * 1 + 1 ≤ _; omega) rfl rfl rfl rfl ?_; intro w hS)
          | refine WL.index rfl rfl rfl rfl (by first | with_reducible assumption | omega) rfl rfl rfl rfl ?_)
        | (show WC _ _ _ _ _ _; first
          | refine WC.seq ?_
          | refine WC.region ?_
          | refine WC.block ?_
          | refine WC.skip ?_
          | refine WC.condT rfl (decide_eq_true (by first | with_reducible assumption | omega)) ?_
          | refine WC.condF rfl (decide_eq_false (by first | with_reducible assumption | omega)) ?_)
        | refine seqQ_n ?_
        | refine blkQ_n ?_)
      rw [hx] at hS
      have hS : St _ _ _ [.own _ _ _ _ _] _ := hS
      exact rndQ_n (done ++ [r.take j], r.drop (j + 1), _) ⟨by simp; omega, by rw [hsp]; unfold splitL; rw [hsf]; simp, by simp; omega, by rw [show (r.drop (j + 1)).count 47 + 1 = m + 1 by omega]; exact hp, hS⟩ (by show (r.drop (j + 1)).count 47 < r.count 47; omega) ⟨rfl, vint (by simp), trivial⟩ ⟨rfl, rfl, rfl, rfl, trivial⟩
    · have h47 : r.count 47 = 0 := by omega
      have hsn := splitA_none r h47 []
      rw [h47] at hx
      have hp := strs_put done r [] done.length 0 rfl
      have hle : (splitL s).length = done.length + 1 := by rw [hsp]; unfold splitL; rw [hsn]; simp
      have hfull : splitL s = done ++ [r] := by rw [hsp]; unfold splitL; rw [hsn]; simp
      rw [hle, hfull]
      repeat' (first
        | (show WL _ _ _ _ _ _ _; first
          | refine WL.pure rfl rfl rfl rfl ?_
          | refine WL.nil ?_
          | refine WL.add rfl rfl rfl (by omega) rfl rfl rfl ?_
          | (refine WL.storeOwn hS rfl rfl rfl (by repeat (first | exact Repl.here | apply Repl.there)) (by show done.length * 1 + 1 ≤ _; omega) rfl rfl rfl rfl ?_; intro w hS)
          | (refine WL.sliceHigh (j := done.length + 1) hS rfl rfl rfl rfl (by repeat (first | exact Repl.here | apply Repl.there)) (by omega) (by omega) rfl rfl rfl ?_; intro hS)
          | refine WL.index rfl rfl rfl rfl (by first | with_reducible assumption | omega) rfl rfl rfl rfl ?_)
        | (show WC _ _ _ _ _ _; first
          | refine WC.seq ?_
          | refine WC.region ?_
          | refine WC.exit ?_
          | refine WC.ret ?_
          | refine WC.condF rfl (decide_eq_false (by first | with_reducible assumption | omega)) ?_)
        | refine seqQ_n ?_
        | refine seqQ_x ?_
        | refine blkQ_hit rfl ?_
        | refine rndQ_x ?_)
      have he : ((strs (done ++ [r]) ++ repZ [str []] 0).take ((done.length + 1) * 1)) = strs (done ++ [r]) := by
        simp only [repZ, List.append_nil, Nat.mul_one]
        exact List.take_of_length_le (by rw [strs_len]; simp)
      rw [hx] at hS
      have hS2 : St w0 [] w [.own (.slice (some ⟨b, 0, none⟩) (done.length + 1) (s.count 47 + 1)) 9 1 (done.length + 1) (strs (done ++ [r]))] [⟨w0, Old w0⟩] := by rw [← he, ← hp]; exact hS
      exact fin1r rfl rfl ⟨hS2.upd, _, _, rfl, hS2.newOf (List.Mem.head _)⟩
  refine Cal.mk' (by kernel_rfl) Tryz.func195 rfl rfl fun hS => ?_
  repeat' (first
    | (show WL _ _ _ _ _ _ _; first
      | refine WL.pure rfl rfl rfl rfl ?_
      | refine WL.nil ?_
      | (refine WL.callG rfl rfl (h0 _) rfl rfl rfl ?_; rintro v w ⟨hu, A, cap, rfl, hn⟩; have hS := hS.new hu hn; clear hu hn))
    | (show WC _ _ _ _ _ _; first
      | refine WC.seq ?_
      | refine WC.region ?_
      | refine WC.ret ?_)
    | refine seqQ_n ?_)
  exact fin1r rfl rfl ⟨hS.upd, A, cap, rfl, hS.newOf (List.Mem.head _)⟩
end Go.Proofs.YtccfiohagbneaaaGreatDoor

/- What is proved: what the program's and the reference's functions on paths answer. Conditions: texts of bounded length. -/
set_option linter.unusedSimpArgs false
set_option linter.unusedVariables false
namespace Go.Proofs.YtccfiohagbneaaaGreatDoor
open Go Go.J Go.RowKit

set_option maxHeartbeats 8000000 in
set_option maxRecDepth 100000 in
theorem rsplit_c (s : List UInt8) (w0 : World) (hl : s.length ≤ 4611686018427) : Cal Tryz.prog 125 [str s] w0
    (fun v w' => Upd [] w0 w' ∧ ∃ A cap, v = .slice A (splitL s).length cap ∧ New w0 w' (.own (.slice A (splitL s).length cap) 9 1 (splitL s).length (strs (splitL s)))) := by
  refine Cal.mk' (by kernel_rfl) Tryz.func125 rfl rfl fun hS => ?_
  have hlen := splitA_len s []
  have hcl : s.count 47 ≤ s.length := List.count_le_length
  repeat' (first
    | (show WL _ _ _ _ _ _ _; first
      | refine WL.pure rfl rfl rfl rfl ?_
      | refine WL.nil ?_)
    | (show WC _ _ _ _ _ _; first
      | refine WC.seq ?_
      | refine WC.region ?_
      | refine WC.block ?_)
    | refine seqQ_n ?_)
  have hS := hS.nilRow 9 1
  refine WC.loop (σ := Nat × List (List UInt8) × List UInt8 × Nat × List Value × Option Addr × Nat) [0] (fun (k, done, one, n, xs, A, cap) => [(3, .slice A n cap), (4, str one), (5, .int .i64 (k : Int))])
    (fun (k, done, one, n, xs, A, cap) w => k ≤ s.length ∧ n = done.length ∧ n ≤ k ∧ one.length ≤ k ∧ xs = strs done ∧ splitL s = done ++ splitA one (s.drop k) ∧ St w0 [] w [.own (.slice A n cap) 9 1 n xs] _)
    (fun (k, _) => s.length - k) (0, [], [], 0, [], none, 0) ⟨Nat.zero_le _, rfl, Nat.zero_le _, Nat.zero_le _, rfl, rfl, hS⟩ ⟨rfl, rfl, rfl, trivial⟩ ?_
  clear hS
  rintro ⟨k, done, one, n, xs, A, cap⟩ g w ⟨hk, hn, hnk, hok, hx, hsp, hS⟩
  by_cases hlt : k < s.length
  · have hc : s[k]? = some s[k] := List.getElem?_eq_getElem hlt
    have hd : s.drop k = s[k] :: s.drop (k + 1) := List.drop_eq_getElem_cons hlt
    have htd : (s.take (k + 1)).drop k = [s[k]] := by rw [List.take_succ_eq_append_getElem hlt, List.drop_append, List.drop_of_length_le (by simp; omega)]; simp; rw [Nat.min_eq_left (by omega)]; simp
    rw [hd] at hsp
    generalize s[k] = c at *
    by_cases h47 : c = 47
    · subst h47
      have h47' : (((47 : UInt8).toNat : Nat) : Int) = 47 := rfl
      repeat' (first
        | (show WL _ _ _ _ _ _ _; first
          | refine WL.pure rfl rfl rfl rfl ?_
          | refine WL.nil ?_
          | refine WL.add rfl rfl rfl (by omega) rfl rfl rfl ?_
          | (refine WL.app hS rfl rfl rfl rfl (RdOk.box (by repeat (first | exact List.Mem.head _ | apply List.Mem.tail))) rfl rfl (fun A cap => by repeat (first | exact Repl.here | apply Repl.there)) (by omega) rfl rfl rfl ?_; intro A cap w hS)
          | refine WL.idxS rfl rfl rfl rfl (by with_reducible assumption) rfl rfl rfl ?_
          | (refine WL.slit hS rfl rfl rfl rfl rfl ?_; intro w b hS))
        | (show WC _ _ _ _ _ _; first
          | refine WC.seq ?_
          | refine WC.region ?_
          | refine WC.block ?_
          | refine WC.skip ?_
          | refine WC.exit ?_
          | refine WC.condT rfl (by decide) ?_
          | refine WC.condT rfl (decide_eq_true (by first | with_reducible assumption | omega)) ?_)
        | refine seqQ_n ?_
        | refine seqQ_x ?_
        | refine blkQ_hit rfl ?_)
      exact rndQ_n (k + 1, done ++ [one], [], n + 1, xs ++ [str one], _, _) ⟨by omega, by simp [hn], by omega, by simp, by rw [hx, strs_snoc], by rw [hsp]; simp [splitA], hS.drop⟩ (by show s.length - (k + 1) < s.length - k; omega) ⟨rfl, rfl, vint (by omega), trivial⟩ ⟨rfl, trivial⟩
    · have h47' : ¬ (c.toNat : Int) = 47 := fun e => h47 (UInt8.toNat_inj.1 (by show c.toNat = 47; omega))
      have hl1 : ([c] : List UInt8).length = 1 := rfl
      repeat' (first
        | (show WL _ _ _ _ _ _ _; first
          | refine WL.pure rfl rfl rfl rfl ?_
          | refine WL.nil ?_
          | refine WL.add rfl rfl rfl (by omega) rfl rfl rfl ?_
          | (refine WL.midS (j := k + 1) rfl rfl rfl rfl rfl (by omega) (by omega) rfl rfl rfl ?_; rw [htd])
          | refine WL.cat rfl rfl rfl (by omega) rfl rfl rfl ?_
          | refine WL.idxS rfl rfl rfl rfl (by with_reducible assumption) rfl rfl rfl ?_)
        | (show WC _ _ _ _ _ _; first
          | refine WC.seq ?_
          | refine WC.region ?_
          | refine WC.block ?_
          | refine WC.skip ?_
          | refine WC.condT rfl (decide_eq_true (by first | with_reducible assumption | omega)) ?_
          | refine WC.condF rfl (decide_eq_false (by first | with_reducible assumption | omega)) ?_)
        | refine seqQ_n ?_
        | refine blkQ_n ?_)
      exact rndQ_n (k + 1, done, one ++ [c], n, xs, _, _) ⟨by omega, hn, by omega, by simp; omega, hx, by rw [hsp]; simp [splitA, h47], hS⟩ (by show s.length - (k + 1) < s.length - k; omega) ⟨rfl, rfl, vint (by omega), trivial⟩ ⟨rfl, trivial⟩
  · have hke : s.drop k = [] := List.drop_of_length_le (by omega)
    rw [hke] at hsp
    have hsp : splitL s = done ++ [one] := hsp
    have hle : (splitL s).length = n + 1 := by rw [hsp, hn]; simp
    rw [hle, hsp]
    repeat' (first
      | (show WL _ _ _ _ _ _ _; first
        | refine WL.pure rfl rfl rfl rfl ?_
        | refine WL.nil ?_
        | (refine WL.app hS rfl rfl rfl rfl (RdOk.box (by repeat (first | exact List.Mem.head _ | apply List.Mem.tail))) rfl rfl (fun A cap => by repeat (first | exact Repl.here | apply Repl.there)) (by omega) rfl rfl rfl ?_; intro A cap w hS)
        | (refine WL.slit hS rfl rfl rfl rfl rfl ?_; intro w b hS))
      | (show WC _ _ _ _ _ _; first
        | refine WC.seq ?_
        | refine WC.region ?_
        | refine WC.exit ?_
        | refine WC.ret ?_
        | refine WC.condF rfl (decide_eq_false (by first | with_reducible assumption | omega)) ?_)
      | refine seqQ_n ?_
      | refine seqQ_x ?_
      | refine blkQ_hit rfl ?_
      | refine rndQ_x ?_)
    have hS2 : St w0 [] w [.own (.slice A (n + 1) cap) 9 1 (n + 1) (strs (done ++ [one]))] [⟨w0, Old w0⟩] := by rw [← strs_snoc, ← hx]; exact hS.drop
    exact fin1r rfl rfl ⟨hS2.upd, _, _, rfl, hS2.newOf (List.Mem.head _)⟩

theorem okC_cases (c : UInt8) : (okC c = true ∧ (97 ≤ c.toNat ∧ c.toNat ≤ 122)) ∨ (okC c = true ∧ (48 ≤ c.toNat ∧ c.toNat ≤ 57)) ∨ (okC c = true ∧ c.toNat = 95) ∨ (okC c = false ∧ ¬ (97 ≤ c.toNat ∧ c.toNat ≤ 122) ∧ ¬ (48 ≤ c.toNat ∧ c.toNat ≤ 57) ∧ c.toNat ≠ 95) := by
  unfold okC
  by_cases h1 : 97 ≤ c.toNat ∧ c.toNat ≤ 122
  · exact .inl ⟨decide_eq_true (.inl h1), h1⟩
  · by_cases h2 : 48 ≤ c.toNat ∧ c.toNat ≤ 57
    · exact .inr (.inl ⟨decide_eq_true (.inr (.inl h2)), h2⟩)
    · by_cases h3 : c.toNat = 95
      · exact .inr (.inr (.inl ⟨decide_eq_true (.inr (.inr h3)), h3⟩))
      · exact .inr (.inr (.inr ⟨decide_eq_false (fun h => by rcases h with h | h | h <;> contradiction), h1, h2, h3⟩))

set_option maxHeartbeats 8000000 in
set_option maxRecDepth 100000 in
theorem rname_c (s : List UInt8) (w0 : World) (hl : s.length ≤ 4611686018427) : Cal Tryz.prog 173 [str s] w0 (fun v w' => Upd [] w0 w' ∧ v = .bool (nameB s)) := by
  refine Cal.mk' (by kernel_rfl) Tryz.func173 rfl rfl fun hS => ?_
  by_cases hb : 1 ≤ s.length ∧ s.length ≤ 12
  · repeat' (first
      | (show WL _ _ _ _ _ _ _; first
        | refine WL.pure rfl rfl rfl rfl ?_
        | refine WL.nil ?_
        | ((fail_if_success (refine WL.wanted rfl ?_)); refine WL.guard rfl rfl rfl (fun h => ?_) (fun h => ?_) <;> (try simp only [Classical.not_not, Bool.not_eq_true', Bool.not_eq_false', Bool.not_eq_eq_eq_not, Bool.not_true, Bool.not_false, beq_iff_eq, beq_eq_false_iff_ne, ne_eq, decide_eq_decide, decide_eq_true_eq, decide_eq_false_iff_not, Bool.and_eq_true, Bool.or_eq_true, Bool.and_eq_false_iff, Bool.or_eq_false_iff] at h) <;> (try (exfalso; first | omega | contradiction))))
      | (show WC _ _ _ _ _ _; first
        | refine WC.seq ?_
        | refine WC.region ?_
        | refine WC.block ?_
        | refine WC.skip ?_
        | refine WC.condF rfl (decide_eq_false (by first | with_reducible assumption | omega)) ?_)
      | refine seqQ_n ?_)
    refine WC.loop (σ := Nat) [0] (fun k => [(3, .int .i64 (k : Int))]) (fun k w => k ≤ s.length ∧ (∀ j (h : j < s.length), j < k → okC s[j] = true) ∧ St w0 [] w _ _) (fun k => s.length - k) 0 ⟨Nat.zero_le _, fun j h hj => absurd hj (Nat.not_lt_zero _), hS⟩ ⟨rfl, trivial⟩ ?_
    clear hS
    rintro k g w ⟨hk, hall, hS⟩
    obtain ⟨Hall, rfl⟩ : ∃ h : (∀ j (h : j < s.length), j < k → okC s[j] = true), h = hall := ⟨_, rfl⟩
    by_cases hlt : k < s.length
    · have hc : s[k]? = some s[k] := List.getElem?_eq_getElem hlt
      have hno := nameB_no s k hlt
      have hnx : okC s[k] = true → ∀ j (h : j < s.length), j < k + 1 → okC s[j] = true := fun ho j h hj => if e : j = k then (by subst e; exact ho) else Hall j h (by omega)
      clear Hall
      generalize s[k] = c at *
      rcases okC_cases c with ⟨ho, h1, h2⟩ | ⟨ho, h1, h2⟩ | ⟨ho, h1⟩ | ⟨ho, h1, h2, h3⟩
      case' inr.inr.inr => rw [hno ho]
      all_goals
        clear hno
        repeat' (first
          | (show WL _ _ _ _ _ _ _; first
            | refine WL.pure rfl rfl rfl rfl ?_
            | refine WL.nil ?_
            | refine WL.add rfl rfl rfl (by omega) rfl rfl rfl ?_
            | refine WL.idxS rfl rfl rfl rfl (by with_reducible assumption) rfl rfl rfl ?_
            | refine WL.skip rfl rfl rfl ?_
            | ((fail_if_success (refine WL.wanted rfl ?_)); refine WL.guard rfl rfl rfl (fun h => ?_) (fun h => ?_) <;> (try simp only [Classical.not_not, Bool.not_eq_true', Bool.not_eq_false', Bool.not_eq_eq_eq_not, Bool.not_true, Bool.not_false, beq_iff_eq, beq_eq_false_iff_ne, ne_eq, decide_eq_decide, decide_eq_true_eq, decide_eq_false_iff_not, Bool.and_eq_true, Bool.or_eq_true, Bool.and_eq_false_iff, Bool.or_eq_false_iff] at h) <;> (try (exfalso; first | omega | contradiction))))
          | (show WC _ _ _ _ _ _; first
            | refine WC.seq ?_
            | refine WC.region ?_
            | refine WC.block ?_
            | refine WC.skip ?_
            | refine WC.ret ?_
            | refine WC.condF rfl (by decide) ?_
            | refine WC.condT rfl (decide_eq_true (by first | with_reducible assumption | omega)) ?_
            | refine WC.condT rfl (by first | (simp; done) | (simp; omega)) ?_
            | refine WC.condF rfl (by first | (simp; done) | (simp; omega)) ?_)
          | refine seqQ_n ?_
          | refine blkQ_n ?_
          | refine seqQ_r ?_
          | refine blkQ_r ?_
          | refine rndQ_r ?_)
        all_goals first
          | exact rndQ_n (k + 1) ⟨by omega, hnx ho, hS⟩ (by omega) ⟨vint (by omega), trivial⟩ ⟨rfl, trivial⟩
          | exact fin1r rfl rfl ⟨hS.upd, rfl⟩
    · have hke : k = s.length := by omega
      subst hke
      rw [nameB_yes s hb fun j h => Hall j h h]
      clear Hall
      repeat' (first
        | (show WL _ _ _ _ _ _ _; first
          | refine WL.pure rfl rfl rfl rfl ?_
          | refine WL.nil ?_)
        | (show WC _ _ _ _ _ _; first
          | refine WC.seq ?_
          | refine WC.region ?_
          | refine WC.exit ?_
          | refine WC.ret ?_
          | refine WC.condF rfl (decide_eq_false (by first | with_reducible assumption | omega)) ?_)
        | refine seqQ_n ?_
        | refine seqQ_x ?_
        | refine blkQ_hit rfl ?_
        | refine rndQ_x ?_)
      exact fin1r rfl rfl ⟨hS.upd, rfl⟩
  · rw [nameB_len s hb]
    repeat' (first
      | (show WL _ _ _ _ _ _ _; first
        | refine WL.pure rfl rfl rfl rfl ?_
        | refine WL.nil ?_
        | refine WL.skip rfl rfl rfl ?_
        | ((fail_if_success (refine WL.wanted rfl ?_)); refine WL.guard rfl rfl rfl (fun h => ?_) (fun h => ?_) <;> (try simp only [Classical.not_not, Bool.not_eq_true', Bool.not_eq_false', Bool.not_eq_eq_eq_not, Bool.not_true, Bool.not_false, beq_iff_eq, beq_eq_false_iff_ne, ne_eq, decide_eq_decide, decide_eq_true_eq, decide_eq_false_iff_not, Bool.and_eq_true, Bool.or_eq_true, Bool.and_eq_false_iff, Bool.or_eq_false_iff] at h) <;> (try (exfalso; first | omega | contradiction))))
      | (show WC _ _ _ _ _ _; first
        | refine WC.seq ?_
        | refine WC.region ?_
        | refine WC.ret ?_
        | refine WC.condT rfl (by with_reducible rfl) ?_
        | refine WC.condT rfl (decide_eq_true (by first | with_reducible assumption | omega)) ?_)
      | refine seqQ_n ?_
      | refine seqQ_r ?_)
    all_goals exact fin1r rfl rfl ⟨hS.upd, rfl⟩

set_option maxHeartbeats 8000000 in
set_option maxRecDepth 100000 in
theorem pname_c (s : List UInt8) (w0 : World) (hl : s.length ≤ 4611686018427) : Cal Tryz.prog 196 [str s] w0 (fun v w' => Upd [] w0 w' ∧ v = .bool (nameB s)) := by
  refine Cal.mk' (by kernel_rfl) Tryz.func196 rfl rfl fun hS => ?_
  by_cases hb : 1 ≤ s.length ∧ s.length ≤ 12
  · have hne : ¬ s = [] := by rintro rfl; simp at hb
    repeat' (first
      | (show WL _ _ _ _ _ _ _; first
        | refine WL.pure rfl rfl rfl rfl ?_
        | refine WL.nil ?_
        | (refine WL.rangeS hS rfl rfl rfl rfl rfl rfl ?_; intro w b hS)
        | ((fail_if_success (refine WL.wanted rfl ?_)); refine WL.guard rfl rfl rfl (fun h => ?_) (fun h => ?_) <;> (try simp only [Classical.not_not, Bool.not_eq_true', Bool.not_eq_false', Bool.not_eq_eq_eq_not, Bool.not_true, Bool.not_false, beq_iff_eq, beq_eq_false_iff_ne, ne_eq, decide_eq_decide, decide_eq_true_eq, decide_eq_false_iff_not, Bool.and_eq_true, Bool.or_eq_true, Bool.and_eq_false_iff, Bool.or_eq_false_iff] at h) <;> (try (exfalso; first | omega | contradiction))))
      | (show WC _ _ _ _ _ _; first
        | refine WC.seq ?_
        | refine WC.region ?_
        | refine WC.block ?_
        | refine WC.skip ?_
        | refine WC.condF rfl (decide_eq_false (by first | with_reducible assumption | omega)) ?_)
      | refine seqQ_n ?_)
    refine WC.loop (σ := Nat) [13] (fun k => []) (fun k w => k ≤ s.length ∧ (∀ j (h : j < s.length), j < k → okC s[j] = true) ∧ St w0 [] w [itC _ s k] _) (fun k => s.length - k) 0 ⟨Nat.zero_le _, fun j h hj => absurd hj (Nat.not_lt_zero _), hS⟩ trivial ?_
    clear hS
    rintro k g w ⟨hk, hall, hS⟩
    obtain ⟨Hall, rfl⟩ : ∃ h : (∀ j (h : j < s.length), j < k → okC s[j] = true), h = hall := ⟨_, rfl⟩
    by_cases hlt : k < s.length
    · have hno := nameB_no s k hlt
      have hnx : okC s[k] = true → ∀ j (h : j < s.length), j < k + 1 → okC s[j] = true := fun ho j h hj => if e : j = k then (by subst e; exact ho) else Hall j h (by omega)
      clear Hall
      by_cases h8 : s[k].toNat < 128
      · have hdec := decode_small s k hlt h8
        generalize s[k] = c at *
        rcases okC_cases c with ⟨ho, h1, h2⟩ | ⟨ho, h1, h2⟩ | ⟨ho, h1⟩ | ⟨ho, h1, h2, h3⟩
        case' inr.inr.inr => rw [hno ho]
        all_goals
          clear hno
          repeat' (first
            | (show WL _ _ _ _ _ _ _; first
              | refine WL.pure rfl rfl rfl rfl ?_
              | refine WL.nil ?_
              | (refine WL.nextS hS rfl rfl (by repeat (first | exact Repl.here | apply Repl.there)) hlt hdec rfl rfl rfl ?_; intro w hS)
              | refine WL.skip rfl rfl rfl ?_
              | ((fail_if_success (refine WL.wanted rfl ?_)); refine WL.guard rfl rfl rfl (fun h => ?_) (fun h => ?_) <;> (try simp only [Classical.not_not, Bool.not_eq_true', Bool.not_eq_false', Bool.not_eq_eq_eq_not, Bool.not_true, Bool.not_false, beq_iff_eq, beq_eq_false_iff_ne, ne_eq, decide_eq_decide, decide_eq_true_eq, decide_eq_false_iff_not, Bool.and_eq_true, Bool.or_eq_true, Bool.and_eq_false_iff, Bool.or_eq_false_iff] at h) <;> (try (exfalso; first | omega | contradiction))))
            | (show WC _ _ _ _ _ _; first
              | refine WC.seq ?_
              | refine WC.region ?_
              | refine WC.block ?_
              | refine WC.skip ?_
              | refine WC.ret ?_
              | refine WC.condT rfl (by with_reducible rfl) ?_
              | refine WC.condF rfl (by with_reducible rfl) ?_
              | refine WC.condT rfl (decide_eq_true (by first | with_reducible assumption | omega)) ?_
              | refine WC.condF rfl (decide_eq_false (by first | with_reducible assumption | omega)) ?_)
            | refine seqQ_n ?_
            | refine blkQ_n ?_
            | refine seqQ_r ?_
            | refine blkQ_r ?_
            | refine rndQ_r ?_)
          all_goals first
            | exact rndQ_n (k + 1) ⟨by omega, hnx ho, hS⟩ (by omega) trivial ⟨rfl, trivial⟩
            | exact fin1r rfl rfl ⟨hS.upd, rfl⟩
      · have hdec := decode_big s k hlt h8
        have ho : okC s[k] = false := by unfold okC; exact decide_eq_false (by omega)
        rw [hno ho]
        rcases hde : Utf8.decode ⟨⟨s⟩⟩ k with ⟨c, width⟩
        rw [hde] at hdec
        obtain ⟨hd1, hd2⟩ := hdec
        dsimp only at hd1 hd2
        clear hno hnx ho
        repeat' (first
          | (show WL _ _ _ _ _ _ _; first
            | refine WL.pure rfl rfl rfl rfl ?_
            | refine WL.nil ?_
            | (refine WL.nextS hS rfl rfl (by repeat (first | exact Repl.here | apply Repl.there)) hlt hde rfl rfl rfl ?_; intro w hS)
            | ((fail_if_success (refine WL.wanted rfl ?_)); refine WL.guard rfl rfl rfl (fun h => ?_) (fun h => ?_) <;> (try simp only [Classical.not_not, Bool.not_eq_true', Bool.not_eq_false', Bool.not_eq_eq_eq_not, Bool.not_true, Bool.not_false, beq_iff_eq, beq_eq_false_iff_ne, ne_eq, decide_eq_decide, decide_eq_true_eq, decide_eq_false_iff_not, Bool.and_eq_true, Bool.or_eq_true, Bool.and_eq_false_iff, Bool.or_eq_false_iff] at h) <;> (try (exfalso; first | omega | contradiction))))
          | (show WC _ _ _ _ _ _; first
            | refine WC.seq ?_
            | refine WC.region ?_
            | refine WC.block ?_
            | refine WC.skip ?_
            | refine WC.ret ?_
            | refine WC.condT rfl (by with_reducible rfl) ?_
            | refine WC.condT rfl (decide_eq_true (by first | with_reducible assumption | omega)) ?_)
          | refine seqQ_n ?_
          | refine seqQ_r ?_
          | refine blkQ_r ?_
          | refine rndQ_r ?_)
        all_goals exact fin1r rfl rfl ⟨hS.upd, rfl⟩
    · have hke : k = s.length := by omega
      subst hke
      rw [nameB_yes s hb fun j h => Hall j h h]
      clear Hall
      repeat' (first
        | (show WL _ _ _ _ _ _ _; first
          | refine WL.pure rfl rfl rfl rfl ?_
          | refine WL.nil ?_
          | refine WL.nextS_end hS rfl rfl (by repeat (first | exact List.Mem.head _ | apply List.Mem.tail)) (Nat.le_refl _) rfl rfl rfl ?_)
        | (show WC _ _ _ _ _ _; first
          | refine WC.seq ?_
          | refine WC.region ?_
          | refine WC.exit ?_
          | refine WC.ret ?_
          | refine WC.condF rfl (by with_reducible rfl) ?_)
        | refine seqQ_n ?_
        | refine seqQ_x ?_
        | refine blkQ_hit rfl ?_
        | refine rndQ_x ?_)
      exact fin1r rfl rfl ⟨hS.upd, rfl⟩
  · rw [nameB_len s hb]
    have hcase : s = [] ∨ (¬ s = [] ∧ 12 < s.length) := by
      rcases s with _ | ⟨a, s⟩
      · exact .inl rfl
      · refine .inr ⟨by simp, ?_⟩
        simp only [List.length_cons] at hb ⊢
        omega
    rcases hcase with rfl | ⟨hne, h12⟩
    all_goals
      repeat' (first
        | (show WL _ _ _ _ _ _ _; first
          | refine WL.pure rfl rfl rfl rfl ?_
          | refine WL.nil ?_
          | refine WL.skip rfl rfl rfl ?_
          | ((fail_if_success (refine WL.wanted rfl ?_)); refine WL.guard rfl rfl rfl (fun h => ?_) (fun h => ?_) <;> (try simp only [Classical.not_not, Bool.not_eq_true', Bool.not_eq_false', Bool.not_eq_eq_eq_not, Bool.not_true, Bool.not_false, beq_iff_eq, beq_eq_false_iff_ne, ne_eq, decide_eq_decide, decide_eq_true_eq, decide_eq_false_iff_not, Bool.and_eq_true, Bool.or_eq_true, Bool.and_eq_false_iff, Bool.or_eq_false_iff] at h) <;> (try (exfalso; first | omega | contradiction))))
        | (show WC _ _ _ _ _ _; first
          | refine WC.seq ?_
          | refine WC.region ?_
          | refine WC.ret ?_
          | refine WC.condT rfl (by with_reducible rfl) ?_
          | refine WC.condT rfl (decide_eq_true (by first | with_reducible assumption | omega)) ?_)
        | refine seqQ_n ?_
        | refine seqQ_r ?_)
      all_goals exact fin1r rfl rfl ⟨hS.upd, rfl⟩

theorem strs_at {l : List (List UInt8)} {k : Nat} (h : k < l.length) : (strs l)[k]? = some (str l[k]) := by
  induction l generalizing k with
  | nil => simp at h
  | cons a l ih =>
    cases k with
    | zero => rfl
    | succ k => simpa [strs] using ih (by simpa using h)
theorem splitA_max (s : List UInt8) : ∀ one x, x ∈ splitA one s → x.length ≤ one.length + s.length := by
  induction s with
  | nil => intro one x h; simp [splitA] at h; subst h; simp
  | cons c s ih =>
    intro one x h
    simp only [splitA] at h
    split at h
    · rcases List.mem_cons.1 h with rfl | h
      · simp
      · have := ih [] x h; simp at this ⊢; omega
    · have := ih _ x h; simp at this ⊢; omega
theorem splitL_max (s : List UInt8) (k : Nat) (h : k < (splitL s).length) : (splitL s)[k].length ≤ s.length := by
  have := splitA_max s [] _ (List.getElem_mem h)
  simpa using this

set_option maxHeartbeats 8000000 in
set_option maxRecDepth 100000 in
theorem rcheck_c (p : List UInt8) (deep : Int) (w0 : World) (hl : p.length ≤ 4611686018) : Cal Tryz.prog 124 [str p, .int .i64 deep] w0 (fun v w' => Upd [] w0 w' ∧ v = .int .i64 (checkE p deep)) := by
  refine Cal.mk' (by kernel_rfl) Tryz.func124 rfl rfl fun hS => ?_
  have hsl := splitA_len p []
  have hcl : p.count 47 ≤ p.length := List.count_le_length
  change (splitL p).length = _ at hsl
  by_cases hd : deep < ((splitL p).length : Int)
  · rw [checkE_deep p deep hd]
    repeat' (first
      | (show WL _ _ _ _ _ _ _; first
        | refine WL.pure rfl rfl rfl rfl ?_
        | refine WL.nil ?_
        | (refine WL.callG rfl rfl (rsplit_c p _ (by omega)) rfl rfl rfl ?_; rintro v w ⟨hu, A, cap, rfl, hn⟩; have hS := hS.new hu hn; clear hu hn))
      | (show WC _ _ _ _ _ _; first
        | refine WC.seq ?_
        | refine WC.region ?_
        | refine WC.ret ?_
        | refine WC.condT rfl (decide_eq_true (by first | with_reducible assumption | omega)) ?_)
      | refine seqQ_n ?_
      | refine seqQ_r ?_)
    exact fin1r rfl rfl ⟨hS.upd, rfl⟩
  · repeat' (first
      | (show WL _ _ _ _ _ _ _; first
        | refine WL.pure rfl rfl rfl rfl ?_
        | refine WL.nil ?_
        | (refine WL.callG rfl rfl (rsplit_c p _ (by omega)) rfl rfl rfl ?_; rintro v w ⟨hu, A, cap, rfl, hn⟩; have hS := hS.new hu hn; clear hu hn))
      | (show WC _ _ _ _ _ _; first
        | refine WC.seq ?_
        | refine WC.region ?_
        | refine WC.block ?_
        | refine WC.skip ?_
        | refine WC.condF rfl (decide_eq_false (by first | with_reducible assumption | omega)) ?_)
      | refine seqQ_n ?_)
    refine WC.loop (σ := Nat) [5] (fun k => [(6, .int .i64 (k : Int))]) (fun k w => k ≤ (splitL p).length ∧ (∀ j (h : j < (splitL p).length), j < k → nameB (splitL p)[j] = true) ∧ St w0 [] w [_] _) (fun k => (splitL p).length - k) 0 ⟨Nat.zero_le _, fun j h hj => absurd hj (Nat.not_lt_zero _), hS⟩ ⟨rfl, trivial⟩ ?_
    clear hS
    rintro k g w ⟨hk, hall, hS⟩
    obtain ⟨Hall, rfl⟩ : ∃ h : (∀ j (h : j < (splitL p).length), j < k → nameB (splitL p)[j] = true), h = hall := ⟨_, rfl⟩
    by_cases hlt : k < (splitL p).length
    · obtain ⟨ga, oa, rfl⟩ := hS.own_addr (List.Mem.head _) (by omega)
      have hx : (strs (splitL p))[k * 1]? = some (str (splitL p)[k]) := by rw [Nat.mul_one]; exact strs_at hlt
      have hno := checkE_no p deep k hlt
      have hmx := splitL_max p k hlt
      have hnx : nameB (splitL p)[k] = true → ∀ j (h : j < (splitL p).length), j < k + 1 → nameB (splitL p)[j] = true := fun ho j h hj => if e : j = k then (by subst e; exact ho) else Hall j h (by omega)
      clear Hall
      generalize (splitL p)[k] = c at *
      rcases hn : nameB c
      · rw [hno hn]
        clear hno hnx
        repeat' (first
          | (show WL _ _ _ _ _ _ _; first
            | refine WL.pure rfl rfl rfl rfl ?_
            | refine WL.nil ?_
            | refine WL.load hS rfl rfl (LdOk.ownAt (by repeat (first | exact List.Mem.head _ | apply List.Mem.tail)) rfl ⟨_, rfl⟩ hx rfl) rfl rfl rfl ?_
            | (refine WL.calls hS rfl rfl (rname_c c _ (by omega)) rfl rfl rfl ?_; rintro v w rfl hS; rw [hn])
            | refine WL.index rfl rfl rfl rfl (by first | with_reducible assumption | omega) rfl rfl rfl rfl ?_)
          | (show WC _ _ _ _ _ _; first
            | refine WC.seq ?_
            | refine WC.region ?_
            | refine WC.block ?_
            | refine WC.skip ?_
            | refine WC.ret ?_
            | refine WC.condT rfl (by decide) ?_
            | refine WC.condT rfl (decide_eq_true (by first | with_reducible assumption | omega)) ?_)
          | refine seqQ_n ?_
          | refine seqQ_r ?_
          | refine blkQ_r ?_
          | refine rndQ_r ?_)
        exact fin1r rfl rfl ⟨hS.upd, rfl⟩
      · clear hno
        repeat' (first
          | (show WL _ _ _ _ _ _ _; first
            | refine WL.pure rfl rfl rfl rfl ?_
            | refine WL.nil ?_
            | refine WL.add rfl rfl rfl (by omega) rfl rfl rfl ?_
            | refine WL.load hS rfl rfl (LdOk.ownAt (by repeat (first | exact List.Mem.head _ | apply List.Mem.tail)) rfl ⟨_, rfl⟩ hx rfl) rfl rfl rfl ?_
            | (refine WL.calls hS rfl rfl (rname_c c _ (by omega)) rfl rfl rfl ?_; rintro v w rfl hS; rw [hn])
            | refine WL.index rfl rfl rfl rfl (by first | with_reducible assumption | omega) rfl rfl rfl rfl ?_)
          | (show WC _ _ _ _ _ _; first
            | refine WC.seq ?_
            | refine WC.region ?_
            | refine WC.block ?_
            | refine WC.skip ?_
            | refine WC.condF rfl (by decide) ?_
            | refine WC.condT rfl (decide_eq_true (by first | with_reducible assumption | omega)) ?_)
          | refine seqQ_n ?_
          | refine blkQ_n ?_)
        exact rndQ_n (k + 1) ⟨by omega, hnx hn, hS⟩ (by omega) ⟨vint (by omega), trivial⟩ ⟨rfl, trivial⟩
    · rw [checkE_yes p deep hd fun j h => Hall j h (by omega)]
      clear Hall
      repeat' (first
        | (show WL _ _ _ _ _ _ _; first
          | refine WL.pure rfl rfl rfl rfl ?_
          | refine WL.nil ?_)
        | (show WC _ _ _ _ _ _; first
          | refine WC.seq ?_
          | refine WC.region ?_
          | refine WC.exit ?_
          | refine WC.ret ?_
          | refine WC.condF rfl (decide_eq_false (by first | with_reducible assumption | omega)) ?_)
        | refine seqQ_n ?_
        | refine seqQ_x ?_
        | refine blkQ_hit rfl ?_
        | refine rndQ_x ?_)
      exact fin1r rfl rfl ⟨hS.upd, rfl⟩

set_option maxHeartbeats 8000000 in
set_option maxRecDepth 100000 in
theorem pcheck_c (p : List UInt8) (deep : Int) (w0 : World) (hl : p.length ≤ 4611686018) : Cal Tryz.prog 166 [str p, .int .i64 deep] w0 (fun v w' => Upd [] w0 w' ∧ v = .int .i64 (checkE p deep)) := by
  refine Cal.mk' (by kernel_rfl) Tryz.func166 rfl rfl fun hS => ?_
  have hsl := splitA_len p []
  have hcl : p.count 47 ≤ p.length := List.count_le_length
  change (splitL p).length = _ at hsl
  by_cases hp : p = []
  · subst hp
    rw [checkE_empty]
    repeat' (first
      | (show WL _ _ _ _ _ _ _; first
        | refine WL.pure rfl rfl rfl rfl ?_
        | refine WL.nil ?_
        | refine WL.skip rfl rfl rfl ?_)
      | (show WC _ _ _ _ _ _; first
        | refine WC.seq ?_
        | refine WC.region ?_
        | refine WC.ret ?_
        | refine WC.condT rfl (by with_reducible rfl) ?_)
      | refine seqQ_n ?_
      | refine seqQ_r ?_)
    exact fin1r rfl rfl ⟨hS.upd, rfl⟩
  · by_cases hd : deep < ((splitL p).length : Int)
    · rw [checkE_deep p deep hd]
      repeat' (first
        | (show WL _ _ _ _ _ _ _; first
          | refine WL.pure rfl rfl rfl rfl ?_
          | refine WL.nil ?_
          | (refine WL.callG rfl rfl (split_c p _ (by omega)) rfl rfl rfl ?_; rintro v w ⟨hu, A, cap, rfl, hn⟩; have hS := hS.new hu hn; clear hu hn)
          | ((fail_if_success (refine WL.wanted rfl ?_)); refine WL.guard rfl rfl rfl (fun h => ?_) (fun h => ?_) <;> (try simp only [Classical.not_not, Bool.not_eq_true', Bool.not_eq_false', Bool.not_eq_eq_eq_not, Bool.not_true, Bool.not_false, beq_iff_eq, beq_eq_false_iff_ne, ne_eq, decide_eq_decide, decide_eq_true_eq, decide_eq_false_iff_not, Bool.and_eq_true, Bool.or_eq_true, Bool.and_eq_false_iff, Bool.or_eq_false_iff] at h) <;> (try (exfalso; first | omega | contradiction))))
        | (show WC _ _ _ _ _ _; first
          | refine WC.seq ?_
          | refine WC.region ?_
          | refine WC.skip ?_
          | refine WC.ret ?_
          | refine WC.condT rfl (decide_eq_true (by first | with_reducible assumption | omega)) ?_
          | (refine WC.cond rfl (fun h => ?_) (fun h => ?_) <;> (try simp only [Classical.not_not, Bool.not_eq_true', Bool.not_eq_false', Bool.not_eq_eq_eq_not, Bool.not_true, Bool.not_false, beq_iff_eq, beq_eq_false_iff_ne, ne_eq, decide_eq_decide, decide_eq_true_eq, decide_eq_false_iff_not, Bool.and_eq_true, Bool.or_eq_true, Bool.and_eq_false_iff, Bool.or_eq_false_iff] at h) <;> (try (exfalso; first | omega | contradiction))))
        | refine seqQ_n ?_
        | refine seqQ_r ?_)
      all_goals exact fin1r rfl rfl ⟨hS.upd, rfl⟩
    · repeat' (first
        | (show WL _ _ _ _ _ _ _; first
          | refine WL.pure rfl rfl rfl rfl ?_
          | refine WL.nil ?_
          | (refine WL.callG rfl rfl (split_c p _ (by omega)) rfl rfl rfl ?_; rintro v w ⟨hu, A, cap, rfl, hn⟩; have hS := hS.new hu hn; clear hu hn)
          | ((fail_if_success (refine WL.wanted rfl ?_)); refine WL.guard rfl rfl rfl (fun h => ?_) (fun h => ?_) <;> (try simp only [Classical.not_not, Bool.not_eq_true', Bool.not_eq_false', Bool.not_eq_eq_eq_not, Bool.not_true, Bool.not_false, beq_iff_eq, beq_eq_false_iff_ne, ne_eq, decide_eq_decide, decide_eq_true_eq, decide_eq_false_iff_not, Bool.and_eq_true, Bool.or_eq_true, Bool.and_eq_false_iff, Bool.or_eq_false_iff] at h) <;> (try (exfalso; first | omega | contradiction))))
        | (show WC _ _ _ _ _ _; first
          | refine WC.seq ?_
          | refine WC.region ?_
          | refine WC.block ?_
          | refine WC.skip ?_
          | refine WC.condF rfl (decide_eq_false (by first | with_reducible assumption | omega)) ?_)
        | refine seqQ_n ?_)
      refine WC.loop (σ := Nat) [20, 21] (fun k => [(22, .int .i64 (k : Int))]) (fun k w => k ≤ (splitL p).length ∧ (∀ j (h : j < (splitL p).length), j < k → nameB (splitL p)[j] = true) ∧ St w0 [] w [_] _) (fun k => (splitL p).length - k) 0 ⟨Nat.zero_le _, fun j h hj => absurd hj (Nat.not_lt_zero _), hS⟩ ⟨rfl, trivial⟩ ?_
      clear hS
      rintro k g w ⟨hk, hall, hS⟩
      obtain ⟨Hall, rfl⟩ : ∃ h : (∀ j (h : j < (splitL p).length), j < k → nameB (splitL p)[j] = true), h = hall := ⟨_, rfl⟩
      by_cases hlt : k < (splitL p).length
      · obtain ⟨ga, oa, rfl⟩ := hS.own_addr (List.Mem.head _) (by omega)
        have hx : (strs (splitL p))[k * 1]? = some (str (splitL p)[k]) := by rw [Nat.mul_one]; exact strs_at hlt
        have hno := checkE_no p deep k hlt
        have hmx := splitL_max p k hlt
        have hnx : nameB (splitL p)[k] = true → ∀ j (h : j < (splitL p).length), j < k + 1 → nameB (splitL p)[j] = true := fun ho j h hj => if e : j = k then (by subst e; exact ho) else Hall j h (by omega)
        clear Hall
        generalize (splitL p)[k] = c at *
        rcases hn : nameB c
        · rw [hno hn]
          clear hno hnx
          repeat' (first
            | (show WL _ _ _ _ _ _ _; first
              | refine WL.pure rfl rfl rfl rfl ?_
              | refine WL.nil ?_
              | refine WL.load hS rfl rfl (LdOk.ownAt (by repeat (first | exact List.Mem.head _ | apply List.Mem.tail)) rfl ⟨_, rfl⟩ hx rfl) rfl rfl rfl ?_
              | (refine WL.calls hS rfl rfl (pname_c c _ (by omega)) rfl rfl rfl ?_; rintro v w rfl hS; rw [hn])
              | refine WL.index rfl rfl rfl rfl (by first | with_reducible assumption | omega) rfl rfl rfl rfl ?_)
            | (show WC _ _ _ _ _ _; first
              | refine WC.seq ?_
              | refine WC.region ?_
              | refine WC.block ?_
              | refine WC.skip ?_
              | refine WC.ret ?_
              | refine WC.condT rfl (by decide) ?_
              | refine WC.condT rfl (decide_eq_true (by first | with_reducible assumption | omega)) ?_)
            | refine seqQ_n ?_
            | refine seqQ_r ?_
            | refine blkQ_r ?_
            | refine rndQ_r ?_)
          exact fin1r rfl rfl ⟨hS.upd, rfl⟩
        · clear hno
          repeat' (first
            | (show WL _ _ _ _ _ _ _; first
              | refine WL.pure rfl rfl rfl rfl ?_
              | refine WL.nil ?_
              | refine WL.add rfl rfl rfl (by omega) rfl rfl rfl ?_
              | refine WL.load hS rfl rfl (LdOk.ownAt (by repeat (first | exact List.Mem.head _ | apply List.Mem.tail)) rfl ⟨_, rfl⟩ hx rfl) rfl rfl rfl ?_
              | (refine WL.calls hS rfl rfl (pname_c c _ (by omega)) rfl rfl rfl ?_; rintro v w rfl hS; rw [hn])
              | refine WL.index rfl rfl rfl rfl (by first | with_reducible assumption | omega) rfl rfl rfl rfl ?_)
            | (show WC _ _ _ _ _ _; first
              | refine WC.seq ?_
              | refine WC.region ?_
              | refine WC.block ?_
              | refine WC.skip ?_
              | refine WC.condF rfl (by decide) ?_
              | refine WC.condT rfl (decide_eq_true (by first | with_reducible assumption | omega)) ?_)
            | refine seqQ_n ?_
            | refine blkQ_n ?_)
          exact rndQ_n (k + 1) ⟨by omega, hnx hn, hS⟩ (by omega) ⟨vint (by omega), trivial⟩ ⟨rfl, rfl, trivial⟩
      · rw [checkE_yes p deep hd fun j h => Hall j h (by omega)]
        clear Hall
        repeat' (first
          | (show WL _ _ _ _ _ _ _; first
            | refine WL.pure rfl rfl rfl rfl ?_
            | refine WL.nil ?_)
          | (show WC _ _ _ _ _ _; first
            | refine WC.seq ?_
            | refine WC.region ?_
            | refine WC.exit ?_
            | refine WC.ret ?_
            | refine WC.condF rfl (decide_eq_false (by first | with_reducible assumption | omega)) ?_)
          | refine seqQ_n ?_
          | refine seqQ_x ?_
          | refine blkQ_hit rfl ?_
          | refine rndQ_x ?_)
        exact fin1r rfl rfl ⟨hS.upd, rfl⟩
end Go.Proofs.YtccfiohagbneaaaGreatDoor

/- What is proved: what Parent, Base, Join, Under and Deep answer, the program's and the reference's. Conditions: texts of bounded length. -/
set_option linter.unusedSimpArgs false
set_option linter.unusedVariables false
namespace Go.Proofs.YtccfiohagbneaaaGreatDoor
open Go Go.J Go.RowKit

set_option maxHeartbeats 4000000 in
set_option maxRecDepth 100000 in
theorem rlast_c (s : List UInt8) (w0 : World) (hl : s.length ≤ 4611686018427) : Cal Tryz.prog 174 [str s] w0 (fun v w' => Upd [] w0 w' ∧ v = .int .i64 (lastE s)) := by
  refine Cal.mk' (by kernel_rfl) Tryz.func174 rfl rfl fun hS => ?_
  repeat' (first
    | (show WL _ _ _ _ _ _ _; first
      | refine WL.pure rfl rfl rfl rfl ?_
      | refine WL.nil ?_)
    | (show WC _ _ _ _ _ _; first
      | refine WC.seq ?_
      | refine WC.region ?_
      | refine WC.block ?_)
    | refine seqQ_n ?_)
  refine WC.loop (σ := Nat) [0] (fun k => [(3, .int .i64 (lastL s k)), (4, .int .i64 (k : Int))]) (fun k w => k ≤ s.length ∧ St w0 [] w _ _) (fun k => s.length - k) 0 ⟨Nat.zero_le _, hS⟩ ⟨rfl, rfl, trivial⟩ ?_
  clear hS
  rintro k g w ⟨hk, hS⟩
  by_cases hlt : k < s.length
  · have hc : s[k]? = some s[k] := List.getElem?_eq_getElem hlt
    have hst := lastL_stop s k
    have hgo := lastL_go s k
    rw [hc] at hst hgo
    generalize s[k] = c at *
    by_cases h47 : c = 47
    · have hst := hst (by rw [h47])
      have h47' : (c.toNat : Int) = 47 := by rw [h47]; rfl
      repeat' (first
        | (show WL _ _ _ _ _ _ _; first
          | refine WL.pure rfl rfl rfl rfl ?_
          | refine WL.nil ?_
          | refine WL.add rfl rfl rfl (by omega) rfl rfl rfl ?_
          | refine WL.idxS rfl rfl rfl rfl (by with_reducible assumption) rfl rfl rfl ?_)
        | (show WC _ _ _ _ _ _; first
          | refine WC.seq ?_
          | refine WC.region ?_
          | refine WC.block ?_
          | refine WC.skip ?_
          | refine WC.condT rfl (decide_eq_true (by first | with_reducible assumption | omega)) ?_)
        | refine seqQ_n ?_
        | refine blkQ_n ?_)
      exact rndQ_n (k + 1) ⟨by omega, hS⟩ (by omega) ⟨vint hst.symm, vint (by omega), trivial⟩ ⟨rfl, trivial⟩
    · have h47' : ¬ (c.toNat : Int) = 47 := fun e => h47 (UInt8.toNat_inj.1 (by show c.toNat = 47; omega))
      have hgo := hgo (by simpa using h47)
      repeat' (first
        | (show WL _ _ _ _ _ _ _; first
          | refine WL.pure rfl rfl rfl rfl ?_
          | refine WL.nil ?_
          | refine WL.add rfl rfl rfl (by omega) rfl rfl rfl ?_
          | refine WL.idxS rfl rfl rfl rfl (by with_reducible assumption) rfl rfl rfl ?_)
        | (show WC _ _ _ _ _ _; first
          | refine WC.seq ?_
          | refine WC.region ?_
          | refine WC.block ?_
          | refine WC.skip ?_
          | refine WC.condT rfl (decide_eq_true (by first | with_reducible assumption | omega)) ?_
          | refine WC.condF rfl (decide_eq_false (by first | with_reducible assumption | omega)) ?_)
        | refine seqQ_n ?_
        | refine blkQ_n ?_)
      exact rndQ_n (k + 1) ⟨by omega, hS⟩ (by omega) ⟨vint hgo.symm, vint (by omega), trivial⟩ ⟨rfl, trivial⟩
  · have hke : k = s.length := by omega
    subst hke
    repeat' (first
      | (show WL _ _ _ _ _ _ _; first
        | refine WL.pure rfl rfl rfl rfl ?_
        | refine WL.nil ?_)
      | (show WC _ _ _ _ _ _; first
        | refine WC.seq ?_
        | refine WC.region ?_
        | refine WC.exit ?_
        | refine WC.ret ?_
        | refine WC.condF rfl (decide_eq_false (by first | with_reducible assumption | omega)) ?_)
      | refine seqQ_n ?_
      | refine seqQ_x ?_
      | refine blkQ_hit rfl ?_
      | refine rndQ_x ?_)
    exact fin1r rfl rfl ⟨hS.upd, rfl⟩

section
variable (p : List UInt8) (w0 : World) (hl : p.length ≤ 4611686018427)
include hl
set_option maxHeartbeats 4000000 in
set_option maxRecDepth 100000 in
theorem pparent_c : Cal Tryz.prog 172 [str p] w0 (fun v w' => Upd [] w0 w' ∧ v = str (parentE p)) := by
  have hg := lastE_ge p
  have hm : max (0 : Int) (lastE p) = (((lastE p).toNat : Nat) : Int) := by omega
  unfold parentE
  generalize (lastE p).toNat = m at *
  refine Cal.mk' (by kernel_rfl) Tryz.func172 rfl rfl fun hS => ?_
  repeat' (first
    | (show WL _ _ _ _ _ _ _; first
      | refine WL.pure rfl rfl rfl rfl ?_
      | refine WL.nil ?_
      | (refine WL.calls hS rfl rfl (lastIndexByte_c p _ (by omega)) rfl rfl rfl ?_; rintro v w rfl hS)
      | (refine WL.maxI rfl rfl rfl rfl rfl rfl ?_; rw [hm])
      | refine WL.highS rfl rfl rfl rfl (by omega) rfl rfl rfl ?_)
    | (show WC _ _ _ _ _ _; first
      | refine WC.seq ?_
      | refine WC.region ?_
      | refine WC.ret ?_)
    | refine seqQ_n ?_)
  exact fin1r rfl rfl ⟨hS.upd, rfl⟩
set_option maxHeartbeats 4000000 in
set_option maxRecDepth 100000 in
theorem rparent_c : Cal Tryz.prog 126 [str p] w0 (fun v w' => Upd [] w0 w' ∧ v = str (parentE p)) := by
  have hg := lastE_ge p
  unfold parentE
  refine Cal.mk' (by kernel_rfl) Tryz.func126 rfl rfl fun hS => ?_
  by_cases h0 : lastE p < 0
  · have e : (lastE p).toNat = 0 := by omega
    rw [e, List.take_zero]
    repeat' (first
      | (show WL _ _ _ _ _ _ _; first
        | refine WL.pure rfl rfl rfl rfl ?_
        | refine WL.nil ?_
        | (refine WL.calls hS rfl rfl (rlast_c p _ (by omega)) rfl rfl rfl ?_; rintro v w rfl hS))
      | (show WC _ _ _ _ _ _; first
        | refine WC.seq ?_
        | refine WC.region ?_
        | refine WC.ret ?_
        | refine WC.condT rfl (decide_eq_true (by first | with_reducible assumption | omega)) ?_)
      | refine seqQ_n ?_
      | refine seqQ_r ?_)
    exact fin1r rfl rfl ⟨hS.upd, rfl⟩
  · obtain ⟨m, hm⟩ := Int.eq_ofNat_of_zero_le (show 0 ≤ lastE p by omega)
    rw [hm] at h0 hg
    have e : (lastE p).toNat = m := by rw [hm]; rfl
    rw [e]
    repeat' (first
      | (show WL _ _ _ _ _ _ _; first
        | refine WL.pure rfl rfl rfl rfl ?_
        | refine WL.nil ?_
        | (refine WL.calls hS rfl rfl (rlast_c p _ (by omega)) rfl rfl rfl ?_; rintro v w rfl hS; rw [hm])
        | refine WL.highS rfl rfl rfl rfl (by omega) rfl rfl rfl ?_)
      | (show WC _ _ _ _ _ _; first
        | refine WC.seq ?_
        | refine WC.region ?_
        | refine WC.skip ?_
        | refine WC.ret ?_
        | refine WC.condF rfl (decide_eq_false (by first | with_reducible assumption | omega)) ?_)
      | refine seqQ_n ?_)
    exact fin1r rfl rfl ⟨hS.upd, rfl⟩
set_option maxHeartbeats 4000000 in
set_option maxRecDepth 100000 in
theorem pdeep_c : Cal Tryz.prog 171 [str p] w0 (fun v w' => Upd [] w0 w' ∧ v = .int .i64 (deepE p)) := by
  have hcl : p.count 47 ≤ p.length := List.count_le_length
  unfold deepE
  refine Cal.mk' (by kernel_rfl) Tryz.func171 rfl rfl fun hS => ?_
  by_cases hp : p = []
  · rw [if_pos hp]
    repeat' (first
      | (show WL _ _ _ _ _ _ _; first
        | refine WL.pure rfl rfl rfl rfl ?_
        | refine WL.nil ?_)
      | (show WC _ _ _ _ _ _; first
        | refine WC.seq ?_
        | refine WC.region ?_
        | refine WC.ret ?_
        | refine WC.condT rfl (decide_eq_true (by first | with_reducible assumption | omega)) ?_)
      | refine seqQ_n ?_
      | refine seqQ_r ?_)
    exact fin1r rfl rfl ⟨hS.upd, rfl⟩
  · rw [if_neg hp]
    repeat' (first
      | (show WL _ _ _ _ _ _ _; first
        | refine WL.pure rfl rfl rfl rfl ?_
        | refine WL.nil ?_
        | refine WL.add rfl rfl rfl (by omega) rfl rfl rfl ?_
        | (refine WL.calls hS rfl rfl (count_c p 47 _) rfl rfl rfl ?_; rintro v w rfl hS))
      | (show WC _ _ _ _ _ _; first
        | refine WC.seq ?_
        | refine WC.region ?_
        | refine WC.skip ?_
        | refine WC.ret ?_
        | refine WC.condF rfl (decide_eq_false (by first | with_reducible assumption | omega)) ?_)
      | refine seqQ_n ?_)
    exact fin1r rfl rfl ⟨hS.upd, rfl⟩
end
theorem under_iff (p top : List UInt8) : p.take (top.length + 1) = top ++ [47] ↔ (∃ h : top.length < p.length, p.take top.length = top ∧ p[top.length] = 47) := by
  constructor
  · intro h
    have hl : top.length < p.length := by have := congrArg List.length h; simp at this; omega
    rw [List.take_succ_eq_append_getElem hl] at h
    have := List.append_inj h (by simp; omega)
    exact ⟨hl, this.1, by simpa using this.2⟩
  · rintro ⟨hl, h1, h2⟩
    rw [List.take_succ_eq_append_getElem hl, h1, h2]
section
variable (a b : List UInt8) (w0 : World) (hla : a.length ≤ 4611686018427) (hlb : b.length ≤ 4611686018427)
include hla hlb
end
end Go.Proofs.YtccfiohagbneaaaGreatDoor

/- What is proved: plain facts on joined paths and on the order of paths as texts. Conditions: none. -/
set_option linter.unusedSimpArgs false
set_option linter.unusedVariables false
namespace Go.J
open Go

theorem splitA_app (q : List UInt8) : ∀ (p one : List UInt8), splitA one (p ++ 47 :: q) = splitA one p ++ splitA [] q
  | [], one => by simp [splitA]
  | c :: p, one => by
    by_cases h : c = 47
    · subst h; simp [splitA, splitA_app q p]
    · simp [splitA, h, splitA_app q p]
theorem checkE_iff (p : List UInt8) (d : Int) : checkE p d = 0 ↔ ((splitL p).length : Int) ≤ d ∧ (splitL p).all nameB = true := by
  unfold checkE
  by_cases h : d < ((splitL p).length : Int)
  · rw [if_pos h]; constructor
    · intro h; cases h
    · intro h2; omega
  · rw [if_neg h]
    by_cases h2 : (splitL p).all nameB = true
    · rw [if_pos h2]; exact ⟨fun _ => ⟨by omega, h2⟩, fun _ => rfl⟩
    · rw [if_neg h2]; constructor
      · intro h; cases h
      · intro h3; exact absurd h3.2 h2
theorem checkE_ten (p : List UInt8) (d : Int) (h : checkE p d ≠ 0) : checkE p d = 10 := by
  unfold checkE at *
  split
  · rfl
  · rename_i h1
    rw [if_neg h1] at h
    split
    · rename_i h2; rw [if_pos h2] at h; exact absurd rfl h
    · rfl
theorem names_ne {p : List UInt8} (h : (splitL p).all nameB = true) : p ≠ [] := by
  rintro rfl
  simp [splitL, splitA, nameB] at h
theorem splitL_app (p q : List UInt8) : splitL (p ++ [47] ++ q) = splitL p ++ splitL q := by
  unfold splitL; rw [List.append_assoc]; exact splitA_app q p []
theorem lastL_no (s : List UInt8) : ∀ (k : Nat), k ≤ s.length → ∀ i : Nat, lastL s k < (i : Int) → i < k → s[i]? ≠ some 47
  | 0, _, i, _, hi => absurd hi (Nat.not_lt_zero _)
  | k + 1, hk, i, h, hi => by
    simp only [lastL] at h
    split at h
    · omega
    · rename_i hne
      by_cases e : i = k
      · subst e; exact hne
      · exact lastL_no s k (by omega) i h (by omega)
theorem lastL_at (s : List UInt8) : ∀ (k m : Nat), lastL s k = (m : Int) → s[m]? = some 47
  | 0, m, h => by simp only [lastL] at h; omega
  | k + 1, m, h => by
    simp only [lastL] at h
    split at h
    · rename_i h2; have : k = m := by omega
      subst this; exact h2
    · exact lastL_at s k m h
theorem count_none (s : List UInt8) (h : ∀ i, i < s.length → s[i]? ≠ some 47) : s.count 47 = 0 := by
  rw [List.count_eq_zero]
  intro hm
  obtain ⟨i, hi, he⟩ := List.mem_iff_getElem.1 hm
  exact h i hi (by rw [List.getElem?_eq_getElem hi, he])

/-- a path is its parent and its last name -/
theorem parts (p : List UInt8) (h : (splitL p).all nameB = true) : joinE (parentE p) (baseE p) = p ∧ nameB (baseE p) = true ∧ underB p (parentE p) = true := by
  have hg := lastE_ge p
  by_cases h0 : lastE p < 0
  · have e1 : lastE p = -1 := by omega
    have e2 : parentE p = [] := by unfold parentE; rw [e1]; rfl
    have e3 : baseE p = p := by unfold baseE; rw [e1]; rfl
    have hn : p.count 47 = 0 := count_none p fun i hi => lastL_no p p.length (Nat.le_refl _) i (by show lastE p < _; omega) hi
    rw [e2, e3]
    refine ⟨by simp [joinE], ?_, by simp [underB]⟩
    unfold splitL at h
    rw [splitA_none p hn] at h
    simpa using h
  · obtain ⟨m, hm⟩ := Int.eq_ofNat_of_zero_le (show 0 ≤ lastE p by omega)
    have hat := lastL_at p p.length m hm
    have hlt : m < p.length := (List.getElem?_eq_some_iff.1 hat).1
    have hpm : p[m] = 47 := (List.getElem?_eq_some_iff.1 hat).2
    have e2 : parentE p = p.take m := by unfold parentE; rw [hm]; rfl
    have e3 : baseE p = p.drop (m + 1) := by unfold baseE; rw [hm]; rfl
    have hp : p = p.take m ++ [47] ++ p.drop (m + 1) := by
      rw [List.append_assoc]
      show p = p.take m ++ 47 :: p.drop (m + 1)
      rw [← hpm, ← List.drop_eq_getElem_cons hlt]; exact (List.take_append_drop m p).symm
    have hn : (p.drop (m + 1)).count 47 = 0 := count_none _ fun i hi => by
      rw [List.getElem?_drop]
      simp only [List.length_drop] at hi
      exact lastL_no p p.length (Nat.le_refl _) (m + 1 + i) (by show lastE p < _; omega) (by omega)
    have hs : splitL p = splitL (p.take m) ++ [p.drop (m + 1)] := by
      conv => lhs; rw [hp]
      rw [splitL_app]
      congr 1
      unfold splitL
      rw [splitA_none _ hn]; rfl
    rw [hs, List.all_append, Bool.and_eq_true] at h
    have hne := names_ne h.1
    have hb : nameB (p.drop (m + 1)) = true := by simpa using h.2
    have hbn : p.drop (m + 1) ≠ [] := by intro e; rw [e] at hb; simp [nameB] at hb
    rw [e2, e3]
    refine ⟨?_, hb, ?_⟩
    · unfold joinE
      rw [if_neg hne, if_neg hbn]; exact hp.symm
    · unfold underB
      have hl : (p.take m).length = m := by simp; omega
      have : p.take ((p.take m).length + 1) = p.take m ++ [47] := by rw [hl, List.take_succ_eq_append_getElem hlt, hpm]
      rw [decide_eq_true this, Bool.or_true]
theorem joinE_ne {p q : List UInt8} (hp : p ≠ []) (hq : q ≠ []) : joinE p q = p ++ [47] ++ q := by unfold joinE; rw [if_neg hp, if_neg hq]
theorem under_join {p q : List UInt8} (hp : p ≠ []) (hq : q ≠ []) : underB (joinE p q) p = true ∧ underB p (joinE p q) = false ∧ underB p p = true := by
  rw [joinE_ne hp hq]
  refine ⟨?_, ?_, by simp [underB]⟩
  · unfold underB
    have : (p ++ [47] ++ q).take (p.length + 1) = p ++ [47] := by
      rw [List.take_append_of_le_length (by simp), List.take_of_length_le (by simp)]
    rw [decide_eq_true this, Bool.or_true]
  · unfold underB
    rw [decide_eq_false (by simp), decide_eq_false (by intro e; have := congrArg List.length e; simp at this), decide_eq_false (by intro e; have := congrArg List.length e; simp at this; omega)]
    rfl
theorem deep_join {p q : List UInt8} (hp : p ≠ []) (hq : q ≠ []) : deepE (joinE p q) = deepE p + deepE q := by
  rw [joinE_ne hp hq]
  unfold deepE
  rw [if_neg hp, if_neg hq, if_neg (by simp)]
  rw [List.count_append, List.count_append]
  simp
  omega
theorem deep_len {p : List UInt8} (hp : p ≠ []) : deepE p = ((splitL p).length : Int) := by
  unfold deepE splitL
  rw [if_neg hp, splitA_len]; omega

/-! ## the order -/
theorem less_app (b r : List UInt8) (c : UInt8) (top : List UInt8) : Op.bytesLess top (top ++ c :: r) = true := by
  induction top with
  | nil => rfl
  | cons a t ih => simp [Op.bytesLess, ih]
theorem names_ge {p : List UInt8} : ∀ (one : List UInt8), (splitA one p).all nameB = true → ∀ c ∈ p, 47 ≤ c.toNat
  | one, h => by
    induction p generalizing one with
    | nil => simp
    | cons a p ih =>
      intro c hc
      simp only [splitA] at h
      by_cases ha : a = 47
      · rw [if_pos ha, List.all_cons, Bool.and_eq_true] at h
        rcases List.mem_cons.1 hc with rfl | hc
        · rw [ha]; decide
        · exact ih [] h.2 c hc
      · rw [if_neg ha] at h
        rcases List.mem_cons.1 hc with rfl | hc
        · have key : ∀ (p one : List UInt8) (a : UInt8), a ∈ one → (splitA one p).all nameB = true → okC a = true := by
            intro p
            induction p with
            | nil =>
              intro one a h1 h2
              simp only [splitA, List.all_cons, List.all_nil, Bool.and_true] at h2
              unfold nameB at h2
              rw [Bool.and_eq_true, List.all_eq_true] at h2
              exact h2.2 a h1
            | cons b p ih =>
              intro one a h1 h2
              simp only [splitA] at h2
              split at h2
              · rw [List.all_cons, Bool.and_eq_true] at h2
                have h2 := h2.1
                unfold nameB at h2
                rw [Bool.and_eq_true, List.all_eq_true] at h2
                exact h2.2 a h1
              · exact ih _ a (by simp [h1]) h2
          have := key p (one ++ [c]) c (by simp) h
          unfold okC at this
          have := of_decide_eq_true this
          omega
        · exact ih _ h c hc
theorem sorts (below : List UInt8) : ∀ (top other : List UInt8), (∀ c ∈ other, 47 ≤ c.toNat) → other ≠ top → other.take (top.length + 1) ≠ top ++ [47] → Op.bytesLess other top = false →
    Op.bytesLess other (top ++ 47 :: below) = false ∧ other ≠ top ++ 47 :: below
  | [], other, hc, h1, h2, h3 => by
    rcases other with _ | ⟨c, r⟩
    · exact absurd rfl h1
    · have h0 := hc c (by simp)
      have hne : c ≠ 47 := by rintro rfl; simp at h2
      have hlt : ¬ c < 47 := by rw [UInt8.lt_iff_toNat_lt]; show ¬ c.toNat < 47; omega
      refine ⟨?_, ?_⟩
      · simp [Op.bytesLess, hlt, hne]
      · intro e; simp at e; exact hne e.1
  | a :: t, other, hc, h1, h2, h3 => by
    rcases other with _ | ⟨b, o⟩
    · simp [Op.bytesLess] at h3
    · simp only [Op.bytesLess, Bool.or_eq_false_iff, Bool.and_eq_false_iff] at h3
      by_cases hb : b = a
      · subst hb
        have h4 : Op.bytesLess o t = false := by
          rcases h3.2 with h | h
          · simp at h
          · exact h
        have := sorts below t o (fun c h => hc c (by simp [h])) (by rintro rfl; exact h1 rfl) (by
          intro e; apply h2; simp [e]) h4
        refine ⟨?_, ?_⟩
        · simp only [List.cons_append, Op.bytesLess, this.1, Bool.and_false, Bool.or_false]; exact h3.1
        · intro e; simp at e; exact this.2 (by simpa using e)
      · refine ⟨?_, ?_⟩
        · simp only [List.cons_append, Op.bytesLess, h3.1, Bool.false_or]; simp [hb]
        · intro e; simp at e; exact hb e.1
end Go.J

/- What is proved: what the program's disk answers and holds. Conditions: as each names them. -/
set_option linter.unusedSimpArgs false
set_option linter.unusedVariables false
namespace Go.Proofs.YtccfiohagbneaaaGreatDoor
open Go Go.J Go.RowKit

structure It where
  dir : Bool
  data : List UInt8
  kept : List UInt8
  loose : Bool
  anew : Bool
  stamp : Int
def It0 : It := ⟨false, [], [], false, false, 0⟩
@[reducible] def encIt (x : It) : Value := .agg ⟨[.bool x.dir, str x.data, str x.kept, .bool x.loose, .bool x.anew, .int .i64 x.stamp]⟩
@[reducible] def encI (n : Int) : Value := .int .i64 n
structure Dk where
  items : List (List UInt8 × It)
  limits : List (List UInt8 × Int)
  steps : Int
  stamps : Int
  armed : Int
  down : Bool
abbrev dkCells (mb lb : Nat) (D : Dk) : List Value := [.map (some mb), .map (some lb), .int .i64 D.steps, .int .i64 D.stamps, .int .i64 D.armed, .bool D.down]
/-- a disk -/
def DkIs (b mb lb : Nat) (D : Dk) (w : World) : Prop := b ≠ mb ∧ b ≠ lb ∧ mb ≠ lb ∧ w.heap[b]? = some (.cells ⟨dkCells mb lb D⟩ 122 (0, 0)) ∧ MapIs mb (mmap encIt D.items) w ∧ MapIs lb (mmap encI D.limits) w
theorem DkIs.local {b mb lb : Nat} {D : Dk} : Local [b, mb, lb] (DkIs b mb lb D) := fun w w' h ⟨h1, h2, h3, hb, hm, hl⟩ =>
  ⟨h1, h2, h3, (h b (by simp)).trans hb, MapIs.local w w' (fun b hb => h b (by simp at hb; simp [hb])) hm, MapIs.local w w' (fun b hb => h b (by simp at hb; simp [hb])) hl⟩
abbrev dkC (b mb lb : Nat) (D : Dk) : Chunk := .obj [b, mb, lb] (DkIs b mb lb D)
theorem St.dkOpen {w0 w : World} {M : List Nat} {H : List Chunk} {Z : List Snap} {b mb lb : Nat} {D : Dk} (hS : St w0 M w (dkC b mb lb D :: H) Z) :
    b ≠ mb ∧ b ≠ lb ∧ mb ≠ lb ∧ St w0 M w (.box b 122 (dkCells mb lb D) :: mapC mb (mmap encIt D.items) :: mapC lb (mmap encI D.limits) :: H) Z := by
  obtain ⟨h1, h2, h3, hb, hm, hl⟩ := (hS.holds _ (List.Mem.head _)).1
  refine ⟨h1, h2, h3, hS.opens (D := [.box b 122 (dkCells mb lb D), mapC mb (mmap encIt D.items), mapC lb (mmap encI D.limits)]) ?_ ?_ ?_⟩
  · simp [Chunk.holds, hb]; exact ⟨⟨hm, MapIs.local⟩, hl, MapIs.local⟩
  · simp [Chunk.apart, Chunk.fp, h1, h2, h3]
  · simp [Chunk.fp]
theorem St.dkClose {w0 w : World} {M : List Nat} {H : List Chunk} {Z : List Snap} {b mb lb : Nat} (D : Dk) (h1 : b ≠ mb) (h2 : b ≠ lb) (h3 : mb ≠ lb) (hS : St w0 M w (.box b 122 (dkCells mb lb D) :: mapC mb (mmap encIt D.items) :: mapC lb (mmap encI D.limits) :: H) Z) : St w0 M w (dkC b mb lb D :: H) Z := by
  refine hS.closes (D := [.box b 122 (dkCells mb lb D), mapC mb (mmap encIt D.items), mapC lb (mmap encI D.limits)]) ⟨⟨h1, h2, h3, hS.holds _ (List.Mem.head _), (hS.holds (mapC mb (mmap encIt D.items)) (by simp)).1, (hS.holds (mapC lb (mmap encI D.limits)) (by simp)).1⟩, DkIs.local⟩ ?_
  simp [Chunk.fp]
theorem look_it (m : List (List UInt8 × It)) (k : List UInt8) : lookV (encIt It0) (mmap encIt m) k false = encIt ((mget m k).getD It0) := by
  simp only [lookV, mget_map]; cases mget m k <;> rfl
theorem look_it2 (m : List (List UInt8 × It)) (k : List UInt8) : lookV (encIt It0) (mmap encIt m) k true = .tuple #[encIt ((mget m k).getD It0), .bool (mget m k).isSome] := by
  simp only [lookV, mget_map]; cases mget m k <;> rfl
/-- what stands at a path -/
def Dk.at (D : Dk) (p : List UInt8) : It := (mget D.items p).getD It0
def Dk.has (D : Dk) (p : List UInt8) : Bool := (mget D.items p).isSome

def Dk.may (D : Dk) (p : List UInt8) (names : Int) : Int := if D.down then 14 else if checkE p 6 ≠ 0 then 10 else if deepE p ≤ names then 10 else 0
set_option maxHeartbeats 4000000 in
set_option maxRecDepth 100000 in
theorem may_c {b mb lb : Nat} {D : Dk} (p : List UInt8) (names : Int) {w0 : World} (h : DkIs b mb lb D w0) (hl : p.length ≤ 1099511627) : Cal Tryz.prog 122 [.pointer (some ⟨b, 0, none⟩), str p, .int .i64 names] w0
    (fun v w' => Upd [] w0 w' ∧ v = .int .i64 (D.may p names)) := by
  refine Cal.mk' (by kernel_rfl) Tryz.func122 rfl rfl fun hS => ?_
  obtain ⟨_, _, _, hb, hm, hlm⟩ := h
  have hb : w0.heap[b]? = some (.cells ⟨[.map (some mb), .map (some lb), .int .i64 D.steps, .int .i64 D.stamps, .int .i64 D.armed, .bool D.down]⟩ 122 (0, 0)) := hb
  unfold Dk.may
  generalize D.down = dn at *
  cases dn with
  | true =>
    repeat' (first
      | (show WL _ _ _ _ _ _ _; first
        | refine WL.pure rfl rfl rfl rfl ?_
        | refine WL.nil ?_
        | (refine WL.load hS rfl rfl (LdOk.old hb (by repeat (first | exact List.Mem.head _ | apply List.Mem.tail)) rfl) rfl rfl rfl ?_))
      | (show WC _ _ _ _ _ _; first
        | refine WC.seq ?_
        | refine WC.region ?_
        | refine WC.block ?_
        | refine WC.ret ?_
        | refine WC.condT rfl (by with_reducible rfl) ?_
        | refine WC.condF rfl (by with_reducible rfl) ?_)
      | refine seqQ_n ?_
      | refine seqQ_r ?_
      | refine blkQ_r ?_)
    exact fin1r rfl rfl ⟨hS.upd, rfl⟩
  | false =>
    rw [if_neg (by decide)]
    by_cases hc : checkE p 6 = 0
    · rw [if_neg (by simp [hc])]
      by_cases hd : deepE p ≤ names
      case' pos => rw [if_pos hd]
      case' neg => rw [if_neg hd]
      all_goals
        repeat' (first
          | (show WL _ _ _ _ _ _ _; first
            | refine WL.pure rfl rfl rfl rfl ?_
            | refine WL.nil ?_
            | (refine WL.load hS rfl rfl (LdOk.old hb (by repeat (first | exact List.Mem.head _ | apply List.Mem.tail)) rfl) rfl rfl rfl ?_)
            | (refine WL.calls hS rfl rfl (pcheck_c p 6 _ (by omega)) rfl rfl rfl ?_; rintro v w rfl hS; rw [hc])
            | (refine WL.calls hS rfl rfl (pdeep_c p _ (by omega)) rfl rfl rfl ?_; rintro v w rfl hS))
          | (show WC _ _ _ _ _ _; first
            | refine WC.seq ?_
            | refine WC.region ?_
            | refine WC.block ?_
            | refine WC.skip ?_
            | refine WC.ret ?_
            | refine WC.condF rfl (by with_reducible rfl) ?_
            | refine WC.condT rfl (decide_eq_true (by first | with_reducible assumption | omega)) ?_
            | refine WC.condF rfl (decide_eq_false (by first | with_reducible assumption | omega)) ?_)
          | refine seqQ_n ?_
          | refine blkQ_n ?_
          | refine seqQ_r ?_
          | refine blkQ_r ?_)
        exact fin1r rfl rfl ⟨hS.upd, rfl⟩
    · rw [if_pos hc]
      have hc := checkE_ten p 6 hc
      repeat' (first
        | (show WL _ _ _ _ _ _ _; first
          | refine WL.pure rfl rfl rfl rfl ?_
          | refine WL.nil ?_
          | (refine WL.load hS rfl rfl (LdOk.old hb (by repeat (first | exact List.Mem.head _ | apply List.Mem.tail)) rfl) rfl rfl rfl ?_)
          | (refine WL.calls hS rfl rfl (pcheck_c p 6 _ (by omega)) rfl rfl rfl ?_; rintro v w rfl hS; rw [hc])
          | refine WL.skip rfl rfl rfl ?_)
        | (show WC _ _ _ _ _ _; first
          | refine WC.seq ?_
          | refine WC.region ?_
          | refine WC.block ?_
          | refine WC.ret ?_
          | refine WC.condT rfl (by with_reducible rfl) ?_
          | refine WC.condF rfl (by with_reducible rfl) ?_)
        | refine seqQ_n ?_
        | refine seqQ_r ?_
        | refine blkQ_r ?_)
      exact fin1r rfl rfl ⟨hS.upd, rfl⟩
def Dk.under (D : Dk) (p : List UInt8) : Bool := if deepE p = 1 then true else (D.at (parentE p)).dir
set_option maxHeartbeats 4000000 in
set_option maxRecDepth 100000 in
theorem dunder_c {b mb lb : Nat} {D : Dk} (p : List UInt8) {w0 : World} (h : DkIs b mb lb D w0) (hl : p.length ≤ 1099511627) : Cal Tryz.prog 123 [.pointer (some ⟨b, 0, none⟩), str p] w0
    (fun v w' => Upd [] w0 w' ∧ v = .bool (D.under p)) := by
  refine Cal.mk' (by kernel_rfl) Tryz.func123 rfl rfl fun hS => ?_
  obtain ⟨_, _, _, hb, hm, hlm⟩ := h
  have hb : w0.heap[b]? = some (.cells ⟨[.map (some mb), .map (some lb), .int .i64 D.steps, .int .i64 D.stamps, .int .i64 D.armed, .bool D.down]⟩ 122 (0, 0)) := hb
  unfold Dk.under
  by_cases hd : deepE p = 1
  case' pos => rw [if_pos hd]
  case' neg => rw [if_neg hd]
  all_goals
    repeat' (first
      | (show WL _ _ _ _ _ _ _; first
        | refine WL.pure rfl rfl rfl rfl ?_
        | refine WL.nil ?_)
      | (show WC _ _ _ _ _ _; first
        | refine WC.seq ?_
        | refine WC.region ?_
        | refine WC.ret ?_
        | (show WC _ _ (Code.region _ (List.toArray [_, _, _, _, _, _, _, _, _, _, _, _, _, _]) true) _ _ _; refine WC.drawS hS [0,2,3,4,5,6,7,8,10,11,12,13] [0,1,2,3,4,5,6,7,8,9,10,11,12,13] (by kernel_rfl) (by kernel_rfl) ?_; clear hS; intro w hS hM))
      | (show WD _ _ _ _ _ _ _ _ _; first
        | refine WD.pure rfl rfl rfl rfl rfl ?_
        | refine WD.nil ?_
        | (refine WD.load rfl rfl (LdOk.old hb (by repeat (first | exact List.Mem.head _ | apply List.Mem.tail)) rfl) rfl rfl rfl rfl ?_)
        | (refine WD.mget rfl rfl rfl rfl (MapOk.old hm (by repeat (first | exact List.Mem.head _ | apply List.Mem.tail))) (look_it _ _) rfl rfl rfl rfl ?_)
        | (refine WD.calls hS hM rfl rfl (pdeep_c p _ (by omega)) rfl rfl rfl rfl rfl ?_; clear hS; rintro v w rfl hS)
        | (refine WD.calls hS hM rfl rfl (pparent_c p _ (by omega)) rfl rfl rfl rfl rfl ?_; clear hS; rintro v w rfl hS)
        | refine WD.pass rfl rfl rfl rfl ?_
        | refine WD.skip rfl rfl rfl rfl rfl (hM.ss hS) ?_
        | ((fail_if_success (refine WD.wanted rfl ?_)); refine WD.guard rfl rfl rfl (fun h => ?_) (fun h => ?_) <;> (try simp only [Classical.not_not, Bool.not_eq_true', Bool.not_eq_false', Bool.not_eq_eq_eq_not, Bool.not_true, Bool.not_false, beq_iff_eq, beq_eq_false_iff_ne, ne_eq, decide_eq_decide, decide_eq_true_eq, decide_eq_false_iff_not, Bool.and_eq_true, Bool.or_eq_true, Bool.and_eq_false_iff, Bool.or_eq_false_iff] at h) <;> (try (exfalso; first | omega | contradiction))))
      | refine seqQ_n ?_)
    exact fin1r rfl rfl ⟨hS.upd, rfl⟩
def Dk.stepE (D : Dk) : Int := if D.armed = 0 then 14 else 0
def Dk.step (D : Dk) : Dk := if D.armed = 0 then { D with armed := -1, down := true } else { D with armed := if 0 < D.armed then IntKind.i64.wrap (D.armed - 1) else D.armed, steps := IntKind.i64.wrap (D.steps + 1) }
set_option maxHeartbeats 4000000 in
set_option maxRecDepth 100000 in
theorem step_c {b mb lb : Nat} {D : Dk} {w0 : World} (hc : (dkC b mb lb D).holds w0) (hi : inB (dkC b mb lb D) w0) : Cal Tryz.prog 87 [.pointer (some ⟨b, 0, none⟩)] w0
    (fun v w' => v = .int .i64 D.stepE ∧ Mut w0 w' (dkC b mb lb D) (dkC b mb lb D.step)) := by
  refine Cal.mkM hc hi (by kernel_rfl) Tryz.func87 rfl rfl fun hS => ?_
  obtain ⟨h1, h2, h3, hS⟩ := St.dkOpen hS
  replace hS : St w0 (dkC b mb lb D).fp w0 [.box b 122 [.map (some mb), .map (some lb), .int .i64 D.steps, .int .i64 D.stamps, .int .i64 D.armed, .bool D.down], mapC mb (mmap encIt D.items), mapC lb (mmap encI D.limits)] _ := hS
  unfold Dk.stepE
  by_cases h0 : D.armed = 0
  · rw [if_pos h0]
    have hD : D.step = { D with armed := -1, down := true } := by unfold Dk.step; rw [if_pos h0]
    rw [hD]
    repeat' (first
      | (show WL _ _ _ _ _ _ _; first
        | refine WL.pure rfl rfl rfl rfl ?_
        | refine WL.nil ?_
        | refine WL.load hS rfl rfl (LdOk.box (by repeat (first | exact List.Mem.head _ | apply List.Mem.tail)) rfl) rfl rfl rfl ?_
        | (refine WL.store hS rfl rfl rfl (by repeat (first | exact StB.here rfl | apply StB.there)) rfl rfl rfl ?_; intro w hS))
      | (show WC _ _ _ _ _ _; first
        | refine WC.seq ?_
        | refine WC.region ?_
        | refine WC.ret ?_
        | refine WC.condT rfl (decide_eq_true (by first | with_reducible assumption | omega)) ?_)
      | refine seqQ_n ?_
      | refine seqQ_r ?_)
    exact fin1r rfl rfl ⟨rfl, (St.dkClose { D with armed := -1, down := true } h1 h2 h3 hS).mutOf (List.Mem.head _)⟩
  · rw [if_neg h0]
    by_cases hp : 0 < D.armed
    · have hD : D.step = { D with armed := IntKind.i64.wrap (D.armed - 1), steps := IntKind.i64.wrap (D.steps + 1) } := by unfold Dk.step; rw [if_neg h0, if_pos hp]
      rw [hD]
      repeat' (first
        | (show WL _ _ _ _ _ _ _; first
          | refine WL.pure rfl rfl rfl rfl ?_
          | refine WL.nil ?_
          | refine WL.load hS rfl rfl (LdOk.box (by repeat (first | exact List.Mem.head _ | apply List.Mem.tail)) rfl) rfl rfl rfl ?_
          | (refine WL.addW rfl rfl rfl rfl rfl rfl ?_)
          | (refine WL.subW rfl rfl rfl rfl rfl rfl ?_)
          | (refine WL.store hS rfl rfl rfl (by repeat (first | exact StB.here rfl | apply StB.there)) rfl rfl rfl ?_; intro w hS))
        | (show WC _ _ _ _ _ _; first
          | refine WC.seq ?_
          | refine WC.region ?_
          | refine WC.skip ?_
          | refine WC.ret ?_
          | refine WC.condT rfl (decide_eq_true (by first | with_reducible assumption | omega)) ?_
          | refine WC.condF rfl (decide_eq_false (by first | with_reducible assumption | omega)) ?_)
        | refine seqQ_n ?_)
      exact fin1r rfl rfl ⟨rfl, (St.dkClose { D with armed := IntKind.i64.wrap (D.armed - 1), steps := IntKind.i64.wrap (D.steps + 1) } h1 h2 h3 hS).mutOf (List.Mem.head _)⟩
    · have hD : D.step = { D with steps := IntKind.i64.wrap (D.steps + 1) } := by unfold Dk.step; rw [if_neg h0, if_neg hp]
      rw [hD]
      repeat' (first
        | (show WL _ _ _ _ _ _ _; first
          | refine WL.pure rfl rfl rfl rfl ?_
          | refine WL.nil ?_
          | refine WL.load hS rfl rfl (LdOk.box (by repeat (first | exact List.Mem.head _ | apply List.Mem.tail)) rfl) rfl rfl rfl ?_
          | (refine WL.addW rfl rfl rfl rfl rfl rfl ?_)
          | (refine WL.store hS rfl rfl rfl (by repeat (first | exact StB.here rfl | apply StB.there)) rfl rfl rfl ?_; intro w hS))
        | (show WC _ _ _ _ _ _; first
          | refine WC.seq ?_
          | refine WC.region ?_
          | refine WC.skip ?_
          | refine WC.ret ?_
          | refine WC.condF rfl (decide_eq_false (by first | with_reducible assumption | omega)) ?_)
        | refine seqQ_n ?_)
      exact fin1r rfl rfl ⟨rfl, (St.dkClose { D with steps := IntKind.i64.wrap (D.steps + 1) } h1 h2 h3 hS).mutOf (List.Mem.head _)⟩
def Dk.set (D : Dk) (p : List UInt8) (x : It) : Dk := { D with stamps := IntKind.i64.wrap (D.stamps + 1), items := mset D.items p { x with stamp := IntKind.i64.wrap (D.stamps + 1) } }
theorem St.dkSet {w0 w : World} {M : List Nat} {H : List Chunk} {Z : List Snap} {b mb lb : Nat} {D : Dk} {p : List UInt8} {x : It} (h1 : b ≠ mb) (h2 : b ≠ lb) (h3 : mb ≠ lb)
    (hS : St w0 M w (.box b 122 [.map (some mb), .map (some lb), .int .i64 D.steps, .int .i64 (IntKind.i64.wrap (D.stamps + 1)), .int .i64 D.armed, .bool D.down] :: mapC mb (mset (mmap encIt D.items) p (encIt { x with stamp := IntKind.i64.wrap (D.stamps + 1) })) :: mapC lb (mmap encI D.limits) :: H) Z) : St w0 M w (dkC b mb lb (D.set p x) :: H) Z := by
  rw [mset_map] at hS
  exact St.dkClose (D.set p x) h1 h2 h3 hS
set_option maxHeartbeats 4000000 in
set_option maxRecDepth 100000 in
theorem dset_c {b mb lb : Nat} {D : Dk} (p : List UInt8) (x : It) {w0 : World} (hc : (dkC b mb lb D).holds w0) (hi : inB (dkC b mb lb D) w0) : Cal Tryz.prog 78 [.pointer (some ⟨b, 0, none⟩), str p, encIt x] w0
    (fun v w' => v = .tuple #[] ∧ Mut w0 w' (dkC b mb lb D) (dkC b mb lb (D.set p x))) := by
  refine Cal.mkM hc hi (by kernel_rfl) Tryz.func78 rfl rfl fun hS => ?_
  obtain ⟨h1, h2, h3, hS⟩ := St.dkOpen hS
  replace hS : St w0 (dkC b mb lb D).fp w0 [.box b 122 [.map (some mb), .map (some lb), .int .i64 D.steps, .int .i64 D.stamps, .int .i64 D.armed, .bool D.down], mapC mb (mmap encIt D.items), mapC lb (mmap encI D.limits)] _ := hS
  repeat' (first
    | (show WL _ _ _ _ _ _ _; first
      | refine WL.pure rfl rfl rfl rfl ?_
      | refine WL.nil ?_
      | refine WL.load hS rfl rfl (LdOk.box (by repeat (first | exact List.Mem.head _ | apply List.Mem.tail)) rfl) rfl rfl rfl ?_
      | (refine WL.addW rfl rfl rfl rfl rfl rfl ?_)
      | (refine WL.store hS rfl rfl rfl (by repeat (first | exact StB.here rfl | apply StB.there)) rfl rfl rfl ?_; intro w hS)
      | (refine WL.box hS rfl rfl rfl rfl rfl ?_; intro w b hS))
    | (show WC _ _ _ _ _ _; first
      | refine WC.seq ?_
      | refine WC.region ?_)
    | refine seqQ_n ?_)
  have hS := St.pull (c := mapC mb (mmap encIt D.items)) hS (by repeat (first | exact Pull.here | apply Pull.there))
  refine WC.drawC hS [0,1,2,3,4,5] [0,1,2,3,4,5,6] (by kernel_rfl) (by kernel_rfl) ?_
  clear hS
  intro w hS hM
  repeat' (first
    | (show WD _ _ _ _ _ _ _ _ _; first
      | refine WD.pure rfl rfl rfl rfl rfl ?_
      | refine WD.nil ?_
      | refine WD.load rfl rfl (LdOk.box (by repeat (first | exact List.Mem.head _ | apply List.Mem.tail)) rfl) rfl rfl rfl rfl ?_
      | (refine WD.msetC hS (More.refl _ _) (.inl rfl) rfl rfl rfl rfl rfl rfl rfl rfl ?_; clear hS; intro w hS))
    | fail)
  have hS := (hS.perm (.swap _ _ _)).drop.perm (.swap _ _ _)
  exact fin0n rfl ⟨rfl, (St.dkSet h1 h2 h3 hS).mutOf (List.Mem.head _)⟩

/-! ## volumes and room -/
def volE (p : List UInt8) : List UInt8 := if Lib.indexByte p 47 < 0 then p else p.take (Lib.indexByte p 47).toNat
theorem indexByte_le (s : List UInt8) (c : UInt8) : -1 ≤ Lib.indexByte s c ∧ Lib.indexByte s c < s.length := by
  by_cases h : 0 < s.count c
  · obtain ⟨j, h1, h2, _⟩ := indexByte_spec s c h
    rw [h1]; omega
  · have h : s.count c = 0 := by omega
    induction s with
    | nil => simp [Lib.indexByte]
    | cons a s ih =>
      rw [List.count_cons] at h
      have ha : (a == c) = false := by
        cases hac : a == c with
        | false => rfl
        | true => rw [hac] at h; simp at h
      have := ih (by omega)
      unfold Lib.indexByte
      rw [ha]
      simp only [Bool.false_eq_true, if_false, List.length_cons]
      split <;> omega
set_option maxHeartbeats 4000000 in
set_option maxRecDepth 100000 in
theorem scut_c (s : List UInt8) (c : UInt8) (w0 : World) (hl : s.length ≤ 1099511627776) : Cal Tryz.prog 213 [str s, str [c]] w0 (fun v w' => Upd [] w0 w' ∧ ∃ after found, v = .tuple #[str (if Lib.indexByte s c < 0 then s else s.take (Lib.indexByte s c).toNat), str after, .bool found]) := by
  refine Cal.mk' (by kernel_rfl) Tryz.func213 rfl rfl fun hS => ?_
  have hle := indexByte_le s c
  by_cases hn : Lib.indexByte s c < 0
  · rw [if_pos hn]
    repeat' (first
      | (show WL _ _ _ _ _ _ _; first
        | refine WL.pure rfl rfl rfl rfl ?_
        | refine WL.nil ?_
        | (refine WL.calls hS rfl rfl (sindex_c s c _) rfl rfl rfl ?_; rintro v w rfl hS))
      | (show WC _ _ _ _ _ _; first
        | refine WC.seq ?_
        | refine WC.region ?_
        | refine WC.skip ?_
        | refine WC.ret ?_
        | refine WC.condF rfl (decide_eq_false (by first | with_reducible assumption | omega)) ?_)
      | refine seqQ_n ?_)
    exact fin3r rfl rfl rfl rfl ⟨hS.upd, _, _, rfl⟩
  · rw [if_neg hn]
    obtain ⟨j, hj⟩ := Int.eq_ofNat_of_zero_le (show 0 ≤ Lib.indexByte s c by omega)
    rw [hj] at hle ⊢
    have hj1 : Int.ofNat j + (([c] : List UInt8).length : Int) = Int.ofNat (j + 1) := rfl
    have hlc : ([c] : List UInt8).length = 1 := rfl
    repeat' (first
      | (show WL _ _ _ _ _ _ _; first
        | refine WL.pure rfl rfl rfl rfl ?_
        | refine WL.nil ?_
        | (refine WL.calls hS rfl rfl (sindex_c s c _) rfl rfl rfl ?_; rintro v w rfl hS; rw [hj]))
      | (show WC _ _ _ _ _ _; first
        | refine WC.seq ?_
        | refine WC.region ?_
        | refine WC.ret ?_
        | (show WC _ _ (Code.region _ (List.toArray [_, _, _, _, _, _, _, _, _, _, _, _]) true) _ _ _; refine WC.drawS hS [0, 1, 2, 3, 4, 5, 6, 7, 8, 9, 10, 11] [0, 1, 2, 3, 4, 5, 6, 7, 8, 9, 10, 11] (by kernel_rfl) (by kernel_rfl) ?_; clear hS; intro w hS hM)
        | refine WC.condT rfl (decide_eq_true (by first | with_reducible assumption | omega)) ?_)
      | (show WD _ _ _ _ _ _ _ _ _; first
        | refine WD.pure rfl rfl rfl rfl rfl ?_
        | refine WD.nil ?_
        | refine WD.add rfl rfl rfl (by omega) rfl rfl rfl rfl ?_
        | (refine WD.highS (j := j) rfl rfl rfl rfl (by omega) rfl rfl rfl rfl ?_)
        | (refine WD.lowS (j := j + 1) rfl rfl rfl (congrArg (Value.int .i64) hj1) (by omega) rfl rfl rfl rfl ?_))
      | refine seqQ_n ?_
      | refine seqQ_r ?_)
    exact fin3r rfl rfl rfl rfl ⟨hS.upd, _, _, rfl⟩
set_option maxHeartbeats 4000000 in
set_option maxRecDepth 100000 in
theorem cut_c (s : List UInt8) (c : UInt8) (w0 : World) (hl : s.length ≤ 1099511627776) : Cal Tryz.prog 182 [str s, str [c]] w0 (fun v w' => Upd [] w0 w' ∧ ∃ after found, v = .tuple #[str (if Lib.indexByte s c < 0 then s else s.take (Lib.indexByte s c).toNat), str after, .bool found]) := by
  refine Cal.mk' (by kernel_rfl) Tryz.func182 rfl rfl fun hS => ?_
  repeat' (first
    | (show WL _ _ _ _ _ _ _; first
      | refine WL.pure rfl rfl rfl rfl ?_
      | refine WL.nil ?_
      | (refine WL.calls hS rfl rfl (scut_c s c _ hl) rfl rfl rfl ?_; rintro v w ⟨after, found, rfl⟩ hS))
    | (show WC _ _ _ _ _ _; first
      | refine WC.seq ?_
      | refine WC.region ?_
      | refine WC.ret ?_)
    | refine seqQ_n ?_)
  exact fin3r rfl rfl rfl rfl ⟨hS.upd, _, _, rfl⟩
set_option maxHeartbeats 4000000 in
set_option maxRecDepth 100000 in
theorem volume_c (p : List UInt8) (w0 : World) (hl : p.length ≤ 1099511627776) : Cal Tryz.prog 140 [str p] w0 (fun v w' => Upd [] w0 w' ∧ v = str (volE p)) := by
  refine Cal.mk' (by kernel_rfl) Tryz.func140 rfl rfl fun hS => ?_
  repeat' (first
    | (show WL _ _ _ _ _ _ _; first
      | refine WL.pure rfl rfl rfl rfl ?_
      | refine WL.nil ?_
      | (refine WL.calls hS rfl rfl (cut_c p 47 _ hl) rfl rfl rfl ?_; rintro v w ⟨after, found, rfl⟩ hS))
    | (show WC _ _ _ _ _ _; first
      | refine WC.seq ?_
      | refine WC.region ?_
      | refine WC.ret ?_)
    | refine seqQ_n ?_)
  exact fin1r rfl rfl ⟨hS.upd, rfl⟩
end Go.Proofs.YtccfiohagbneaaaGreatDoor

/- What is proved: what the program's disk answers and holds: made, asked, a folder made. Conditions: as each names them. -/
set_option linter.unusedSimpArgs false
set_option linter.unusedVariables false
namespace Go.Proofs.YtccfiohagbneaaaGreatDoor
open Go Go.J Go.RowKit

def Dk0 : Dk := ⟨[], [], 0, 0, -1, false⟩
set_option maxHeartbeats 4000000 in
set_option maxRecDepth 100000 in
theorem dnew_c (w0 : World) : Cal Tryz.prog 34 [] w0 (fun v w' => Upd [] w0 w' ∧ ∃ b mb lb, v = .pointer (some ⟨b, 0, none⟩) ∧ New w0 w' (dkC b mb lb Dk0)) := by
  refine Cal.mk' (by kernel_rfl) Tryz.func34 rfl rfl fun hS => ?_
  repeat' (first
    | (show WL _ _ _ _ _ _ _; first
      | refine WL.pure rfl rfl rfl rfl ?_
      | refine WL.nil ?_
      | (refine WL.mmake hS rfl rfl rfl rfl rfl ?_; intro w b hS)
      | (refine WL.box hS rfl rfl rfl rfl rfl ?_; intro w b hS)
      | refine WL.build rfl rfl rfl rfl rfl ?_)
    | (show WC _ _ _ _ _ _; first
      | refine WC.seq ?_
      | refine WC.region ?_
      | refine WC.ret ?_)
    | refine seqQ_n ?_)
  have hd := (List.pairwise_cons.1 hS.disj)
  have hd1 := hd.1 _ (List.Mem.head _)
  have hd2 := hd.1 _ (List.Mem.tail _ (List.Mem.head _))
  have hd3 := (List.pairwise_cons.1 hd.2).1 _ (List.Mem.head _)
  simp [Chunk.apart, Chunk.fp] at hd1 hd2 hd3
  have hS := hS.perm ((List.Perm.swap _ _ _).cons _)
  exact fin1r rfl rfl ⟨hS.upd, _, _, _, rfl, (St.dkClose Dk0 hd2 hd1 (Ne.symm hd3) hS).newOf (List.Mem.head _)⟩

def Dk.kind (D : Dk) (p : List UInt8) : Int := if D.has p then (if (D.at p).dir then 1 else 2) else 0
set_option maxHeartbeats 4000000 in
set_option maxRecDepth 100000 in
theorem dkind_c {b mb lb : Nat} {D : Dk} (p : List UInt8) {w0 : World} (h : DkIs b mb lb D w0) : Cal Tryz.prog 66 [.pointer (some ⟨b, 0, none⟩), str p] w0
    (fun v w' => Upd [] w0 w' ∧ v = .int .i64 (D.kind p)) := by
  refine Cal.mk' (by kernel_rfl) Tryz.func66 rfl rfl fun hS => ?_
  obtain ⟨_, _, _, hb, hm, hlm⟩ := h
  have hb : w0.heap[b]? = some (.cells ⟨[.map (some mb), .map (some lb), .int .i64 D.steps, .int .i64 D.stamps, .int .i64 D.armed, .bool D.down]⟩ 122 (0, 0)) := hb
  unfold Dk.kind Dk.has Dk.at
  have hlk := look_it2 D.items p
  generalize (mget D.items p).isSome = has at *
  generalize (mget D.items p).getD It0 = it at *
  obtain ⟨dir, data, kept, loose, anew, stamp⟩ := it
  cases has with
  | false =>
    repeat' (first
      | (show WL _ _ _ _ _ _ _; first
        | refine WL.pure rfl rfl rfl rfl ?_
        | refine WL.nil ?_
        | (refine WL.load hS rfl rfl (LdOk.old hb (by repeat (first | exact List.Mem.head _ | apply List.Mem.tail)) rfl) rfl rfl rfl ?_)
        | (refine WL.mget hS rfl rfl rfl rfl (MapOk.old hm (by repeat (first | exact List.Mem.head _ | apply List.Mem.tail))) hlk rfl rfl rfl ?_)
        | (refine WL.store hS rfl rfl rfl (by repeat (first | exact StB.here rfl | apply StB.there)) rfl rfl rfl ?_; intro w hS)
        | (refine WL.alloc hS rfl rfl rfl rfl rfl rfl ?_; intro w b hS))
      | (show WC _ _ _ _ _ _; first
        | refine WC.seq ?_
        | refine WC.region ?_
        | refine WC.block ?_
        | refine WC.skip ?_
        | refine WC.ret ?_
        | refine WC.condF rfl (by with_reducible rfl) ?_
        | refine WC.condT rfl (by decide) ?_)
      | refine seqQ_n ?_
      | refine seqQ_r ?_
      | refine blkQ_r ?_)
    exact fin1r rfl rfl ⟨hS.upd, rfl⟩
  | true =>
    cases dir with
    | true =>
      repeat' (first
        | (show WL _ _ _ _ _ _ _; first
          | refine WL.pure rfl rfl rfl rfl ?_
          | refine WL.nil ?_
          | refine WL.load hS rfl rfl (LdOk.box (by repeat (first | exact List.Mem.head _ | apply List.Mem.tail)) rfl) rfl rfl rfl ?_
          | (refine WL.load hS rfl rfl (LdOk.old hb (by repeat (first | exact List.Mem.head _ | apply List.Mem.tail)) rfl) rfl rfl rfl ?_)
          | (refine WL.mget hS rfl rfl rfl rfl (MapOk.old hm (by repeat (first | exact List.Mem.head _ | apply List.Mem.tail))) hlk rfl rfl rfl ?_)
          | (refine WL.store hS rfl rfl rfl (by repeat (first | exact StB.here rfl | apply StB.there)) rfl rfl rfl ?_; intro w hS)
          | (refine WL.alloc hS rfl rfl rfl rfl rfl rfl ?_; intro w b hS))
        | (show WC _ _ _ _ _ _; first
          | refine WC.seq ?_
          | refine WC.region ?_
          | refine WC.block ?_
          | refine WC.skip ?_
          | refine WC.ret ?_
          | refine WC.condT rfl (by with_reducible rfl) ?_
          | refine WC.condF rfl (by with_reducible rfl) ?_
          | refine WC.condF rfl (by decide) ?_)
        | refine seqQ_n ?_
        | refine seqQ_r ?_
        | refine blkQ_r ?_)
      exact fin1r rfl rfl ⟨hS.upd, rfl⟩
    | false =>
      repeat' (first
        | (show WL _ _ _ _ _ _ _; first
          | refine WL.pure rfl rfl rfl rfl ?_
          | refine WL.nil ?_
          | refine WL.load hS rfl rfl (LdOk.box (by repeat (first | exact List.Mem.head _ | apply List.Mem.tail)) rfl) rfl rfl rfl ?_
          | (refine WL.load hS rfl rfl (LdOk.old hb (by repeat (first | exact List.Mem.head _ | apply List.Mem.tail)) rfl) rfl rfl rfl ?_)
          | (refine WL.mget hS rfl rfl rfl rfl (MapOk.old hm (by repeat (first | exact List.Mem.head _ | apply List.Mem.tail))) hlk rfl rfl rfl ?_)
          | (refine WL.store hS rfl rfl rfl (by repeat (first | exact StB.here rfl | apply StB.there)) rfl rfl rfl ?_; intro w hS)
          | (refine WL.alloc hS rfl rfl rfl rfl rfl rfl ?_; intro w b hS))
        | (show WC _ _ _ _ _ _; first
          | refine WC.seq ?_
          | refine WC.region ?_
          | refine WC.block ?_
          | refine WC.skip ?_
          | refine WC.ret ?_
          | refine WC.condF rfl (by with_reducible rfl) ?_
          | refine WC.condF rfl (by decide) ?_)
        | refine seqQ_n ?_
        | refine blkQ_n ?_)
      exact fin1r rfl rfl ⟨hS.upd, rfl⟩

def Dk.file (D : Dk) (p : List UInt8) : Int := if D.may p 1 ≠ 0 then D.may p 1 else if D.has p then (if (D.at p).dir then 12 else 0) else 11
set_option maxHeartbeats 4000000 in
set_option maxRecDepth 100000 in
theorem dfile_c {b mb lb : Nat} {D : Dk} (p : List UInt8) {w0 : World} (h : DkIs b mb lb D w0) (hl : p.length ≤ 1099511627) : Cal Tryz.prog 81 [.pointer (some ⟨b, 0, none⟩), str p] w0
    (fun v w' => Upd [] w0 w' ∧ v = .int .i64 (D.file p)) := by
  have hmay := fun (w : World) (h : DkIs b mb lb D w) => may_c p 1 h hl
  refine Cal.mk' (by kernel_rfl) Tryz.func81 rfl rfl fun hS => ?_
  have h' := h
  obtain ⟨_, _, _, hb, hm, hlm⟩ := h
  have hb : w0.heap[b]? = some (.cells ⟨[.map (some mb), .map (some lb), .int .i64 D.steps, .int .i64 D.stamps, .int .i64 D.armed, .bool D.down]⟩ 122 (0, 0)) := hb
  unfold Dk.file Dk.has Dk.at
  have hlk := look_it2 D.items p
  by_cases he : D.may p 1 = 0
  · rw [if_neg (by simp [he])]
    generalize (mget D.items p).isSome = has at *
    generalize (mget D.items p).getD It0 = it at *
    obtain ⟨dir, data, kept, loose, anew, stamp⟩ := it
    have hcase : has = false ∨ (has = true ∧ dir = true) ∨ (has = true ∧ dir = false) := by cases has <;> cases dir <;> simp
    rcases hcase with rfl | ⟨rfl, rfl⟩ | ⟨rfl, rfl⟩
    all_goals
      repeat' (first
        | (show WL _ _ _ _ _ _ _; first
          | refine WL.pure rfl rfl rfl rfl ?_
          | refine WL.nil ?_
          | refine WL.load hS rfl rfl (LdOk.box (by repeat (first | exact List.Mem.head _ | apply List.Mem.tail)) rfl) rfl rfl rfl ?_
          | (refine WL.calls hS rfl rfl (hmay _ h') rfl rfl rfl ?_; rintro v w rfl hS; rw [he])
          | (refine WL.load hS rfl rfl (LdOk.old hb (by repeat (first | exact List.Mem.head _ | apply List.Mem.tail)) rfl) rfl rfl rfl ?_)
          | (refine WL.mget hS rfl rfl rfl rfl (MapOk.old hm (by repeat (first | exact List.Mem.head _ | apply List.Mem.tail))) hlk rfl rfl rfl ?_)
          | (refine WL.store hS rfl rfl rfl (by repeat (first | exact StB.here rfl | apply StB.there)) rfl rfl rfl ?_; intro w hS)
          | (refine WL.alloc hS rfl rfl rfl rfl rfl rfl ?_; intro w b hS))
        | (show WC _ _ _ _ _ _; first
          | refine WC.seq ?_
          | refine WC.region ?_
          | refine WC.block ?_
          | refine WC.skip ?_
          | refine WC.ret ?_
          | refine WC.condT rfl (by with_reducible rfl) ?_
          | refine WC.condF rfl (by with_reducible rfl) ?_
          | refine WC.condT rfl (by decide) ?_
          | refine WC.condF rfl (by decide) ?_)
        | refine seqQ_n ?_
        | refine blkQ_n ?_
        | refine seqQ_r ?_
        | refine blkQ_r ?_)
      exact fin1r rfl rfl ⟨hS.upd, rfl⟩
  · rw [if_pos he]
    repeat' (first
      | (show WL _ _ _ _ _ _ _; first
        | refine WL.pure rfl rfl rfl rfl ?_
        | refine WL.nil ?_
        | (refine WL.calls hS rfl rfl (hmay _ h') rfl rfl rfl ?_; rintro v w rfl hS))
      | (show WC _ _ _ _ _ _; first
        | refine WC.seq ?_
        | refine WC.region ?_
        | refine WC.ret ?_
        | refine WC.condT rfl (decide_eq_true (by first | with_reducible assumption | omega)) ?_)
      | refine seqQ_n ?_
      | refine seqQ_r ?_)
    exact fin1r rfl rfl ⟨hS.upd, rfl⟩

theorem LdOk.dk {P : Program} {H : List Chunk} {Z : List Snap} {ty : TypeId} {v : Value} {b mb lb off : Nat} {D : Dk} (hm : dkC b mb lb D ∈ H) (hv : getV P ty [.map (some mb), .map (some lb), .int .i64 D.steps, .int .i64 D.stamps, .int .i64 D.armed, .bool D.down] off = some v) : LdOk P H Z ty ⟨b, off, none⟩ v := by
  refine ⟨fun w0 M w Hn Zn hS => ?_⟩
  have hb := (hS.holds _ (List.mem_append_right _ hm)).1.2.2.2.1
  have := run_loadVar_cells (o := 0) hv (cell_box hb)
  rwa [Nat.zero_add] at this
theorem MapOk.dk {H : List Chunk} {Z : List Snap} {b mb lb : Nat} {D : Dk} (hm : dkC b mb lb D ∈ H) : MapOk H Z mb (mmap encIt D.items) := ⟨fun w0 M w Hn Zn hS => (hS.holds _ (List.mem_append_right _ hm)).1.2.2.2.2.1⟩
theorem MapOk.dkL {H : List Chunk} {Z : List Snap} {b mb lb : Nat} {D : Dk} (hm : dkC b mb lb D ∈ H) : MapOk H Z lb (mmap encI D.limits) := ⟨fun w0 M w Hn Zn hS => (hS.holds _ (List.mem_append_right _ hm)).1.2.2.2.2.2⟩

theorem St.dkPut {w0 w : World} {M : List Nat} {H : List Chunk} {Z : List Snap} {b mb lb : Nat} {D : Dk} {p : List UInt8} {x : It} (h1 : b ≠ mb) (h2 : b ≠ lb) (h3 : mb ≠ lb)
    (hS : St w0 M w (.box b 122 [.map (some mb), .map (some lb), .int .i64 D.steps, .int .i64 D.stamps, .int .i64 D.armed, .bool D.down] :: mapC mb (mset (mmap encIt D.items) p (encIt x)) :: mapC lb (mmap encI D.limits) :: H) Z) : St w0 M w (dkC b mb lb { D with items := mset D.items p x } :: H) Z := by
  rw [mset_map] at hS
  exact St.dkClose { D with items := mset D.items p x } h1 h2 h3 hS
/-- the answer, and the disk behind it -/
def Dk.mkdir (D : Dk) (p : List UInt8) : Int × Dk := if D.may p 0 ≠ 0 then (D.may p 0, D) else if D.under p = false then (11, D) else if D.has p = true ∧ (D.at p).dir = false then (12, D) else if D.stepE ≠ 0 then (D.stepE, D.step) else (0, { D.step with items := mset D.step.items p { It0 with dir := true } })
set_option maxHeartbeats 8000000 in
set_option maxRecDepth 100000 in
theorem mkdir_c {q mb lb : Nat} {D : Dk} (p : List UInt8) {w0 : World} (hc : (dkC q mb lb D).holds w0) (hi : inB (dkC q mb lb D) w0) (hl : p.length ≤ 1099511627) : Cal Tryz.prog 60 [.pointer (some ⟨q, 0, none⟩), str p] w0
    (fun v w' => v = .int .i64 (D.mkdir p).1 ∧ Mut w0 w' (dkC q mb lb D) (dkC q mb lb (D.mkdir p).2)) := by
  refine Cal.mkM hc hi (by kernel_rfl) Tryz.func60 rfl rfl fun hS => ?_
  by_cases he : D.may p 0 = 0
  · have hlk := look_it2 D.items p
    have hhas : D.has p = (mget D.items p).isSome := rfl
    have hat : D.at p = (mget D.items p).getD It0 := rfl
    rw [← hhas, ← hat] at hlk
    clear hhas hat
    by_cases hu : D.under p = false
    · have hR : D.mkdir p = (11, D) := by unfold Dk.mkdir; rw [if_neg (by simp [he]), if_pos hu]
      rw [hR]
      repeat' (first
        | (show WL _ _ _ _ _ _ _; first
          | refine WL.pure rfl rfl rfl rfl ?_
          | refine WL.nil ?_
          | (refine WL.calls hS rfl rfl (may_c p 0 (hS.holds (dkC q mb lb D) (by repeat (first | exact List.Mem.head _ | apply List.Mem.tail))).1 hl) rfl rfl rfl ?_; rintro v w rfl hS; rw [he])
          | (refine WL.load hS rfl rfl (LdOk.dk (by repeat (first | exact List.Mem.head _ | apply List.Mem.tail)) rfl) rfl rfl rfl ?_)
          | (refine WL.mget hS rfl rfl rfl rfl (MapOk.dk (by repeat (first | exact List.Mem.head _ | apply List.Mem.tail))) hlk rfl rfl rfl ?_)
          | (refine WL.calls hS rfl rfl (dunder_c p (D := D) (hS.holds (dkC q mb lb D) (by repeat (first | exact List.Mem.head _ | apply List.Mem.tail))).1 hl) rfl rfl rfl ?_; rintro v w rfl hS; rw [hu])
          | (refine WL.store hS rfl rfl rfl (by repeat (first | exact StB.here rfl | apply StB.there)) rfl rfl rfl ?_; intro w hS)
          | (refine WL.alloc hS rfl rfl rfl rfl rfl rfl ?_; intro w b hS))
        | (show WC _ _ _ _ _ _; first
          | refine WC.seq ?_
          | refine WC.region ?_
          | refine WC.block ?_
          | refine WC.skip ?_
          | refine WC.ret ?_
          | refine WC.condT rfl (by decide) ?_
          | refine WC.condF rfl (by decide) ?_)
        | refine seqQ_n ?_
        | refine seqQ_r ?_
        | refine blkQ_r ?_)
      exact fin1r rfl rfl ⟨rfl, hS.mutOf (by repeat (first | exact List.Mem.head _ | apply List.Mem.tail))⟩
    · have hu' : D.under p = true := by simpa using hu
      by_cases hd : D.has p = true ∧ (D.at p).dir = false
      · have hR : D.mkdir p = (12, D) := by unfold Dk.mkdir; rw [if_neg (by simp [he]), if_neg hu, if_pos hd]
        rw [hR]
        generalize D.has p = has at *
        generalize D.at p = it at *
        obtain ⟨dir, data, kept, loose, anew, stamp⟩ := it
        obtain ⟨rfl, hd2⟩ := hd
        dsimp only at hd2
        subst hd2
        repeat' (first
          | (show WL _ _ _ _ _ _ _; first
            | refine WL.pure rfl rfl rfl rfl ?_
            | refine WL.nil ?_
            | refine WL.load hS rfl rfl (LdOk.box (by repeat (first | exact List.Mem.head _ | apply List.Mem.tail)) rfl) rfl rfl rfl ?_
            | (refine WL.calls hS rfl rfl (may_c p 0 (hS.holds (dkC q mb lb D) (by repeat (first | exact List.Mem.head _ | apply List.Mem.tail))).1 hl) rfl rfl rfl ?_; rintro v w rfl hS; rw [he])
            | (refine WL.load hS rfl rfl (LdOk.dk (by repeat (first | exact List.Mem.head _ | apply List.Mem.tail)) rfl) rfl rfl rfl ?_)
            | (refine WL.mget hS rfl rfl rfl rfl (MapOk.dk (by repeat (first | exact List.Mem.head _ | apply List.Mem.tail))) hlk rfl rfl rfl ?_)
            | (refine WL.calls hS rfl rfl (dunder_c p (D := D) (hS.holds (dkC q mb lb D) (by repeat (first | exact List.Mem.head _ | apply List.Mem.tail))).1 hl) rfl rfl rfl ?_; rintro v w rfl hS; rw [hu'])
            | (refine WL.store hS rfl rfl rfl (by repeat (first | exact StB.here rfl | apply StB.there)) rfl rfl rfl ?_; intro w hS)
            | (refine WL.alloc hS rfl rfl rfl rfl rfl rfl ?_; intro w b hS))
          | (show WC _ _ _ _ _ _; first
            | refine WC.seq ?_
            | refine WC.region ?_
            | refine WC.block ?_
            | refine WC.skip ?_
            | refine WC.ret ?_
            | refine WC.condF rfl (by decide) ?_
            | refine WC.condT rfl (by first | (simp; done) | (simp; omega)) ?_)
          | refine seqQ_n ?_
          | refine seqQ_r ?_
          | refine blkQ_r ?_)
        exact fin1r rfl rfl ⟨rfl, hS.mutOf (by repeat (first | exact List.Mem.head _ | apply List.Mem.tail))⟩
      · have hcase : (D.has p = false) ∨ (D.has p = true ∧ (D.at p).dir = true) := by
          cases h1 : D.has p
          · exact .inl rfl
          · refine .inr ⟨rfl, ?_⟩
            cases h2 : (D.at p).dir
            · exact absurd ⟨h1, h2⟩ hd
            · rfl
        by_cases hs : D.stepE = 0
        · have hR : D.mkdir p = (0, { D.step with items := mset D.step.items p { It0 with dir := true } }) := by unfold Dk.mkdir; rw [if_neg (by simp [he]), if_neg hu, if_neg hd, if_neg (by simp [hs])]
          rw [hR]
          clear hR hd hu
          generalize D.has p = has at *
          generalize D.at p = it at *
          obtain ⟨dir, data, kept, loose, anew, stamp⟩ := it
          rcases hcase with rfl | ⟨rfl, hd2⟩
          case' inr => (dsimp only at hd2; subst hd2)
          all_goals
            repeat' (first
              | (show WL _ _ _ _ _ _ _; first
                | refine WL.pure rfl rfl rfl rfl ?_
                | refine WL.nil ?_
                | refine WL.load hS rfl rfl (LdOk.box (by repeat (first | exact List.Mem.head _ | apply List.Mem.tail)) rfl) rfl rfl rfl ?_
                | (refine WL.calls hS rfl rfl (may_c p 0 (hS.holds (dkC q mb lb D) (by repeat (first | exact List.Mem.head _ | apply List.Mem.tail))).1 hl) rfl rfl rfl ?_; rintro v w rfl hS; rw [he])
                | (refine WL.load hS rfl rfl (LdOk.dk (by repeat (first | exact List.Mem.head _ | apply List.Mem.tail)) rfl) rfl rfl rfl ?_)
                | (refine WL.mget hS rfl rfl rfl rfl (MapOk.dk (by repeat (first | exact List.Mem.head _ | apply List.Mem.tail))) hlk rfl rfl rfl ?_)
                | (refine WL.calls hS rfl rfl (dunder_c p (D := D) (hS.holds (dkC q mb lb D) (by repeat (first | exact List.Mem.head _ | apply List.Mem.tail))).1 hl) rfl rfl rfl ?_; rintro v w rfl hS; rw [hu'])
                | (refine WL.callG rfl rfl (step_c (D := D) (hS.holds (dkC q mb lb D) (by repeat (first | exact List.Mem.head _ | apply List.Mem.tail))) (hS.inB_of (by repeat (first | exact List.Mem.head _ | apply List.Mem.tail)))) rfl rfl rfl ?_; rintro v w ⟨rfl, hmut⟩; have hS := hS.mut hmut (by repeat (first | exact Repl.here | apply Repl.there)); clear hmut; rw [hs])
                | (obtain ⟨h1, h2, h3, hS⟩ := St.dkOpen (St.pull (c := dkC q mb lb D.step) hS (by repeat (first | exact Pull.here | apply Pull.there))); refine WL.mset hS (.inl rfl) rfl rfl rfl rfl (by repeat (first | exact Repl.here | apply Repl.there)) rfl rfl ?_; clear hS; intro w hS)
                | (refine WL.store hS rfl rfl rfl (by repeat (first | exact StB.here rfl | apply StB.there)) rfl rfl rfl ?_; intro w hS)
                | (refine WL.alloc hS rfl rfl rfl rfl rfl rfl ?_; intro w b hS)
                | refine WL.skip rfl rfl rfl ?_
                | refine WL.build rfl rfl rfl rfl rfl ?_)
              | (show WC _ _ _ _ _ _; first
                | refine WC.seq ?_
                | refine WC.region ?_
                | refine WC.block ?_
                | refine WC.skip ?_
                | refine WC.ret ?_
                | refine WC.condF rfl (by with_reducible rfl) ?_
                | refine WC.condF rfl (by decide) ?_
                | refine WC.condF rfl (by first | (simp; done) | (simp; omega)) ?_)
              | refine seqQ_n ?_
              | refine blkQ_n ?_)
            exact fin1r rfl rfl ⟨rfl, (St.dkPut h1 h2 h3 hS).mutOf (List.Mem.head _)⟩
        · have hs2 : D.stepE = 14 := by unfold Dk.stepE at hs ⊢; split at hs <;> simp_all
          have hR : D.mkdir p = (14, D.step) := by unfold Dk.mkdir; rw [if_neg (by simp [he]), if_neg hu, if_neg hd, if_pos hs, hs2]
          rw [hR]
          clear hR hd hu hs
          have hs := hs2
          generalize D.has p = has at *
          generalize D.at p = it at *
          obtain ⟨dir, data, kept, loose, anew, stamp⟩ := it
          rcases hcase with rfl | ⟨rfl, hd2⟩
          case' inr => (dsimp only at hd2; subst hd2)
          all_goals
            repeat' (first
              | (show WL _ _ _ _ _ _ _; first
                | refine WL.pure rfl rfl rfl rfl ?_
                | refine WL.nil ?_
                | refine WL.load hS rfl rfl (LdOk.box (by repeat (first | exact List.Mem.head _ | apply List.Mem.tail)) rfl) rfl rfl rfl ?_
                | (refine WL.calls hS rfl rfl (may_c p 0 (hS.holds (dkC q mb lb D) (by repeat (first | exact List.Mem.head _ | apply List.Mem.tail))).1 hl) rfl rfl rfl ?_; rintro v w rfl hS; rw [he])
                | (refine WL.load hS rfl rfl (LdOk.dk (by repeat (first | exact List.Mem.head _ | apply List.Mem.tail)) rfl) rfl rfl rfl ?_)
                | (refine WL.mget hS rfl rfl rfl rfl (MapOk.dk (by repeat (first | exact List.Mem.head _ | apply List.Mem.tail))) hlk rfl rfl rfl ?_)
                | (refine WL.calls hS rfl rfl (dunder_c p (D := D) (hS.holds (dkC q mb lb D) (by repeat (first | exact List.Mem.head _ | apply List.Mem.tail))).1 hl) rfl rfl rfl ?_; rintro v w rfl hS; rw [hu'])
                | (refine WL.callG rfl rfl (step_c (D := D) (hS.holds (dkC q mb lb D) (by repeat (first | exact List.Mem.head _ | apply List.Mem.tail))) (hS.inB_of (by repeat (first | exact List.Mem.head _ | apply List.Mem.tail)))) rfl rfl rfl ?_; rintro v w ⟨rfl, hmut⟩; have hS := hS.mut hmut (by repeat (first | exact Repl.here | apply Repl.there)); clear hmut; rw [hs])
                | (refine WL.store hS rfl rfl rfl (by repeat (first | exact StB.here rfl | apply StB.there)) rfl rfl rfl ?_; intro w hS)
                | (refine WL.alloc hS rfl rfl rfl rfl rfl rfl ?_; intro w b hS)
                | refine WL.skip rfl rfl rfl ?_)
              | (show WC _ _ _ _ _ _; first
                | refine WC.seq ?_
                | refine WC.region ?_
                | refine WC.block ?_
                | refine WC.skip ?_
                | refine WC.ret ?_
                | refine WC.condF rfl (by with_reducible rfl) ?_
                | refine WC.condT rfl (by decide) ?_
                | refine WC.condF rfl (by decide) ?_
                | refine WC.condF rfl (by first | (simp; done) | (simp; omega)) ?_)
              | refine seqQ_n ?_
              | refine blkQ_n ?_
              | refine seqQ_r ?_)
            exact fin1r rfl rfl ⟨rfl, hS.mutOf (by repeat (first | exact List.Mem.head _ | apply List.Mem.tail))⟩
  · have hR : D.mkdir p = (D.may p 0, D) := by unfold Dk.mkdir; rw [if_pos he]
    rw [hR]
    repeat' (first
      | (show WL _ _ _ _ _ _ _; first
        | refine WL.pure rfl rfl rfl rfl ?_
        | refine WL.nil ?_
        | (refine WL.calls hS rfl rfl (may_c p 0 (hS.holds (dkC q mb lb D) (by repeat (first | exact List.Mem.head _ | apply List.Mem.tail))).1 hl) rfl rfl rfl ?_; rintro v w rfl hS))
      | (show WC _ _ _ _ _ _; first
        | refine WC.seq ?_
        | refine WC.region ?_
        | refine WC.ret ?_
        | refine WC.condT rfl (decide_eq_true (by first | with_reducible assumption | omega)) ?_)
      | refine seqQ_n ?_
      | refine seqQ_r ?_)
    exact fin1r rfl rfl ⟨rfl, hS.mutOf (by repeat (first | exact List.Mem.head _ | apply List.Mem.tail))⟩
end Go.Proofs.YtccfiohagbneaaaGreatDoor

/- What is proved: what the program's disk answers and holds: room, texts read, written, grown, made sure of, renamed. Conditions: no limit at the volume. -/
set_option linter.unusedSimpArgs false
set_option linter.unusedVariables false
namespace Go.Proofs.YtccfiohagbneaaaGreatDoor
open Go Go.J Go.RowKit

theorem look_int (m : List (List UInt8 × Int)) (k : List UInt8) : lookV (encI 0) (mmap encI m) k true = .tuple #[.int .i64 ((mget m k).getD 0), .bool (mget m k).isSome] := by
  simp only [lookV, mget_map]; cases mget m k <;> rfl
set_option maxHeartbeats 4000000 in
set_option maxRecDepth 100000 in
theorem room_c {b mb lb : Nat} {D : Dk} (p : List UInt8) (more : Int) {w0 : World} (h : DkIs b mb lb D w0) (hl : p.length ≤ 1099511627) (hno : mget D.limits (volE p) = none) : Cal Tryz.prog 86 [.pointer (some ⟨b, 0, none⟩), str p, .int .i64 more] w0
    (fun v w' => Upd [] w0 w' ∧ v = .bool true) := by
  refine Cal.mk' (by kernel_rfl) Tryz.func86 rfl rfl fun hS => ?_
  obtain ⟨_, _, _, hb, hm, hlm⟩ := h
  have hb : w0.heap[b]? = some (.cells ⟨[.map (some mb), .map (some lb), .int .i64 D.steps, .int .i64 D.stamps, .int .i64 D.armed, .bool D.down]⟩ 122 (0, 0)) := hb
  have hlk := look_int D.limits (volE p)
  rw [hno] at hlk
  repeat' (first
    | (show WL _ _ _ _ _ _ _; first
      | refine WL.pure rfl rfl rfl rfl ?_
      | refine WL.nil ?_
      | refine WL.skip rfl rfl rfl ?_)
    | (show WC _ _ _ _ _ _; first
      | refine WC.seq ?_
      | refine WC.region ?_
      | refine WC.ret ?_
      | (show WC _ _ (Code.region _ (List.toArray [_, _, _, _, _, _, _, _, _, _, _, _]) true) _ _ _; refine WC.drawS hS [0,1,2,3,4,6,7,8,9,10,11] [0,1,2,3,4,5,6,7,8,9,10,11] (by kernel_rfl) (by kernel_rfl) ?_; clear hS; intro w hS hM))
    | (show WD _ _ _ _ _ _ _ _ _; first
      | refine WD.pure rfl rfl rfl rfl rfl ?_
      | refine WD.nil ?_
      | (refine WD.load rfl rfl (LdOk.old hb (by repeat (first | exact List.Mem.head _ | apply List.Mem.tail)) rfl) rfl rfl rfl rfl ?_)
      | (refine WD.mget rfl rfl rfl rfl (MapOk.old hlm (by repeat (first | exact List.Mem.head _ | apply List.Mem.tail))) hlk rfl rfl rfl rfl ?_)
      | (refine WD.calls hS hM rfl rfl (volume_c p _ (by omega)) rfl rfl rfl rfl rfl ?_; clear hS; rintro v w rfl hS))
    | refine seqQ_n ?_)
  exact fin1r rfl rfl ⟨hS.upd, rfl⟩

def Dk.append (D : Dk) (p data : List UInt8) : Int × Dk := if D.file p ≠ 0 then (D.file p, D) else if D.stepE ≠ 0 then (D.stepE, D.step) else (0, D.step.set p { D.step.at p with data := (D.step.at p).data ++ data, loose := true })
set_option maxHeartbeats 8000000 in
set_option maxRecDepth 100000 in
theorem append_c {q mb lb : Nat} {D : Dk} (p data : List UInt8) {w0 : World} (hc : (dkC q mb lb D).holds w0) (hi : inB (dkC q mb lb D) w0) (hl : p.length ≤ 1099511627) (hno : mget D.limits (volE p) = none) (hdl : (D.step.at p).data.length + data.length ≤ 1099511627776) : Cal Tryz.prog 24 [.pointer (some ⟨q, 0, none⟩), str p, str data] w0
    (fun v w' => v = .int .i64 (D.append p data).1 ∧ Mut w0 w' (dkC q mb lb D) (dkC q mb lb (D.append p data).2)) := by
  refine Cal.mkM hc hi (by kernel_rfl) Tryz.func24 rfl rfl fun hS => ?_
  by_cases he : D.file p = 0
  · by_cases hs : D.stepE = 0
    · have hR : D.append p data = (0, D.step.set p { D.step.at p with data := (D.step.at p).data ++ data, loose := true }) := by unfold Dk.append; rw [if_neg (by simp [he]), if_neg (by simp [hs])]
      rw [hR]
      have hlk := look_it D.step.items p
      have hat : D.step.at p = (mget D.step.items p).getD It0 := rfl
      rw [← hat] at hlk
      clear hat hR
      generalize D.step.at p = it at *
      obtain ⟨dir, dat, kept, loose, anew, stamp⟩ := it
      dsimp only at hdl ⊢
      repeat' (first
        | (show WL _ _ _ _ _ _ _; first
          | refine WL.cat (a := dat) (b := data) rfl rfl rfl (by omega) rfl rfl rfl ?_
          | refine WL.pure rfl rfl rfl rfl ?_
          | refine WL.nil ?_
          | refine WL.load hS rfl rfl (LdOk.box (by repeat (first | exact List.Mem.head _ | apply List.Mem.tail)) rfl) rfl rfl rfl ?_
          | (refine WL.calls hS rfl rfl (dfile_c p (hS.holds (dkC q mb lb D) (by repeat (first | exact List.Mem.head _ | apply List.Mem.tail))).1 hl) rfl rfl rfl ?_; rintro v w rfl hS; rw [he])
          | (refine WL.calls hS rfl rfl (room_c p _ (hS.holds (dkC q mb lb D) (by repeat (first | exact List.Mem.head _ | apply List.Mem.tail))).1 hl hno) rfl rfl rfl ?_; rintro v w rfl hS)
          | (refine WL.callG rfl rfl (step_c (D := D) (hS.holds (dkC q mb lb D) (by repeat (first | exact List.Mem.head _ | apply List.Mem.tail))) (hS.inB_of (by repeat (first | exact List.Mem.head _ | apply List.Mem.tail)))) rfl rfl rfl ?_; rintro v w ⟨rfl, hmut⟩; have hS := hS.mut hmut (by repeat (first | exact Repl.here | apply Repl.there)); clear hmut; rw [hs])
          | (refine WL.load hS rfl rfl (LdOk.dk (D := D.step) (by repeat (first | exact List.Mem.head _ | apply List.Mem.tail)) rfl) rfl rfl rfl ?_)
          | (refine WL.mget hS rfl rfl rfl rfl (MapOk.dk (D := D.step) (by repeat (first | exact List.Mem.head _ | apply List.Mem.tail))) hlk rfl rfl rfl ?_)
          | (refine WL.callG rfl rfl (dset_c p ⟨dir, dat ++ data, kept, true, anew, stamp⟩ (D := D.step) (hS.holds (dkC q mb lb D.step) (by repeat (first | exact List.Mem.head _ | apply List.Mem.tail))) (hS.inB_of (by repeat (first | exact List.Mem.head _ | apply List.Mem.tail)))) rfl rfl rfl ?_; rintro v w ⟨rfl, hmut⟩; have hS := hS.mut hmut (by repeat (first | exact Repl.here | apply Repl.there)); clear hmut)
          | (refine WL.store hS rfl rfl rfl (by repeat (first | exact StB.here rfl | apply StB.there)) rfl rfl rfl ?_; intro w hS)
          | (refine WL.alloc hS rfl rfl rfl rfl rfl rfl ?_; intro w b hS))
        | (show WC _ _ _ _ _ _; first
          | refine WC.seq ?_
          | refine WC.region ?_
          | refine WC.skip ?_
          | refine WC.ret ?_
          | refine WC.condF rfl (by decide) ?_)
        | refine seqQ_n ?_)
      exact fin1r rfl rfl ⟨rfl, hS.mutOf (by repeat (first | exact List.Mem.head _ | apply List.Mem.tail))⟩
    · have hs2 : D.stepE = 14 := by unfold Dk.stepE at hs ⊢; split at hs <;> simp_all
      have hR : D.append p data = (14, D.step) := by unfold Dk.append; rw [if_neg (by simp [he]), if_pos hs, hs2]
      rw [hR]
      clear hR hs
      have hs := hs2
      repeat' (first
        | (show WL _ _ _ _ _ _ _; first
          | refine WL.pure rfl rfl rfl rfl ?_
          | refine WL.nil ?_
          | (refine WL.calls hS rfl rfl (dfile_c p (hS.holds (dkC q mb lb D) (by repeat (first | exact List.Mem.head _ | apply List.Mem.tail))).1 hl) rfl rfl rfl ?_; rintro v w rfl hS; rw [he])
          | (refine WL.calls hS rfl rfl (room_c p _ (hS.holds (dkC q mb lb D) (by repeat (first | exact List.Mem.head _ | apply List.Mem.tail))).1 hl hno) rfl rfl rfl ?_; rintro v w rfl hS)
          | (refine WL.callG rfl rfl (step_c (D := D) (hS.holds (dkC q mb lb D) (by repeat (first | exact List.Mem.head _ | apply List.Mem.tail))) (hS.inB_of (by repeat (first | exact List.Mem.head _ | apply List.Mem.tail)))) rfl rfl rfl ?_; rintro v w ⟨rfl, hmut⟩; have hS := hS.mut hmut (by repeat (first | exact Repl.here | apply Repl.there)); clear hmut; rw [hs]))
        | (show WC _ _ _ _ _ _; first
          | refine WC.seq ?_
          | refine WC.region ?_
          | refine WC.skip ?_
          | refine WC.ret ?_
          | refine WC.condT rfl (by decide) ?_
          | refine WC.condF rfl (by decide) ?_)
        | refine seqQ_n ?_
        | refine seqQ_r ?_)
      exact fin1r rfl rfl ⟨rfl, hS.mutOf (by repeat (first | exact List.Mem.head _ | apply List.Mem.tail))⟩
  · have hR : D.append p data = (D.file p, D) := by unfold Dk.append; rw [if_pos he]
    rw [hR]
    repeat' (first
      | (show WL _ _ _ _ _ _ _; first
        | refine WL.pure rfl rfl rfl rfl ?_
        | refine WL.nil ?_
        | (refine WL.calls hS rfl rfl (dfile_c p (hS.holds (dkC q mb lb D) (by repeat (first | exact List.Mem.head _ | apply List.Mem.tail))).1 hl) rfl rfl rfl ?_; rintro v w rfl hS))
      | (show WC _ _ _ _ _ _; first
        | refine WC.seq ?_
        | refine WC.region ?_
        | refine WC.ret ?_
        | refine WC.condT rfl (decide_eq_true (by first | with_reducible assumption | omega)) ?_)
      | refine seqQ_n ?_
      | refine seqQ_r ?_)
    exact fin1r rfl rfl ⟨rfl, hS.mutOf (by repeat (first | exact List.Mem.head _ | apply List.Mem.tail))⟩
end Go.Proofs.YtccfiohagbneaaaGreatDoor

/- What is proved: what the program's disk answers and holds: bytes made sure of. Conditions: none. -/
set_option linter.unusedSimpArgs false
set_option linter.unusedVariables false
namespace Go.Proofs.YtccfiohagbneaaaGreatDoor
open Go Go.J Go.RowKit

def Dk.sync (D : Dk) (p : List UInt8) : Int × Dk := if D.file p ≠ 0 then (D.file p, D) else if D.stepE ≠ 0 then (D.stepE, D.step) else (0, { D.step with items := mset D.step.items p { D.step.at p with kept := (D.step.at p).data, loose := false, anew := false } })
set_option maxHeartbeats 8000000 in
set_option maxRecDepth 100000 in
theorem sync_c {q mb lb : Nat} {D : Dk} (p : List UInt8) {w0 : World} (hc : (dkC q mb lb D).holds w0) (hi : inB (dkC q mb lb D) w0) (hl : p.length ≤ 1099511627) : Cal Tryz.prog 72 [.pointer (some ⟨q, 0, none⟩), str p] w0
    (fun v w' => v = .int .i64 (D.sync p).1 ∧ Mut w0 w' (dkC q mb lb D) (dkC q mb lb (D.sync p).2)) := by
  refine Cal.mkM hc hi (by kernel_rfl) Tryz.func72 rfl rfl fun hS => ?_
  by_cases he : D.file p = 0
  · by_cases hs : D.stepE = 0
    · have hR : D.sync p = (0, { D.step with items := mset D.step.items p { D.step.at p with kept := (D.step.at p).data, loose := false, anew := false } }) := by unfold Dk.sync; rw [if_neg (by simp [he]), if_neg (by simp [hs])]
      rw [hR]
      have hlk := look_it D.step.items p
      have hat : D.step.at p = (mget D.step.items p).getD It0 := rfl
      rw [← hat] at hlk
      clear hat hR
      generalize D.step.at p = it at *
      obtain ⟨dir, dat, kept, loose, anew, stamp⟩ := it
      dsimp only
      repeat' (first
        | (show WL _ _ _ _ _ _ _; first
          | refine WL.pure rfl rfl rfl rfl ?_
          | refine WL.nil ?_
          | refine WL.load hS rfl rfl (LdOk.box (by repeat (first | exact List.Mem.head _ | apply List.Mem.tail)) rfl) rfl rfl rfl ?_
          | (refine WL.calls hS rfl rfl (dfile_c p (hS.holds (dkC q mb lb D) (by repeat (first | exact List.Mem.head _ | apply List.Mem.tail))).1 hl) rfl rfl rfl ?_; rintro v w rfl hS; rw [he])
          | (refine WL.callG rfl rfl (step_c (D := D) (hS.holds (dkC q mb lb D) (by repeat (first | exact List.Mem.head _ | apply List.Mem.tail))) (hS.inB_of (by repeat (first | exact List.Mem.head _ | apply List.Mem.tail)))) rfl rfl rfl ?_; rintro v w ⟨rfl, hmut⟩; have hS := hS.mut hmut (by repeat (first | exact Repl.here | apply Repl.there)); clear hmut; rw [hs])
          | (refine WL.load hS rfl rfl (LdOk.dk (D := D.step) (by repeat (first | exact List.Mem.head _ | apply List.Mem.tail)) rfl) rfl rfl rfl ?_)
          | (refine WL.mget hS rfl rfl rfl rfl (MapOk.dk (D := D.step) (by repeat (first | exact List.Mem.head _ | apply List.Mem.tail))) hlk rfl rfl rfl ?_)
          | (refine WL.store hS rfl rfl rfl (by repeat (first | exact StB.here rfl | apply StB.there)) rfl rfl rfl ?_; intro w hS)
          | (refine WL.alloc hS rfl rfl rfl rfl rfl rfl ?_; intro w b hS))
        | (show WC _ _ _ _ _ _; first
          | refine WC.seq ?_
          | refine WC.region ?_
          | refine WC.skip ?_
          | refine WC.condF rfl (by decide) ?_)
        | refine seqQ_n ?_)
      obtain ⟨h1, h2, h3, hS⟩ := St.dkOpen (St.pull (c := dkC q mb lb D.step) hS (by repeat (first | exact Pull.here | apply Pull.there)))
      have hS := St.pull (c := mapC mb (mmap encIt D.step.items)) hS (by repeat (first | exact Pull.here | apply Pull.there))
      refine WC.drawC hS [0,1,2,3,4,5] [0,1,2,3,4,5,6] (by kernel_rfl) (by kernel_rfl) ?_
      clear hS
      intro w hS hM
      repeat' (first
        | (show WL _ _ _ _ _ _ _; first
          | refine WL.pure rfl rfl rfl rfl ?_
          | refine WL.nil ?_)
        | (show WC _ _ _ _ _ _; first
          | refine WC.seq ?_
          | refine WC.region ?_
          | refine WC.ret ?_)
        | (show WD _ _ _ _ _ _ _ _ _; first
          | refine WD.pure rfl rfl rfl rfl rfl ?_
          | refine WD.nil ?_
          | refine WD.load rfl rfl (LdOk.box (by repeat (first | exact List.Mem.head _ | apply List.Mem.tail)) rfl) rfl rfl rfl rfl ?_
          | (refine WD.msetC hS (More.refl _ _) (.inl rfl) rfl rfl rfl rfl rfl rfl rfl rfl ?_; clear hS; intro w hS))
        | refine seqQ_n ?_)
      exact fin1r rfl rfl ⟨rfl, (St.dkPut (x := ⟨dir, dat, dat, false, false, stamp⟩) h1 h2 h3 (hS.perm (.swap _ _ _))).mutOf (List.Mem.head _)⟩
    · have hs2 : D.stepE = 14 := by unfold Dk.stepE at hs ⊢; split at hs <;> simp_all
      have hR : D.sync p = (14, D.step) := by unfold Dk.sync; rw [if_neg (by simp [he]), if_pos hs, hs2]
      rw [hR]
      clear hR hs
      have hs := hs2
      repeat' (first
        | (show WL _ _ _ _ _ _ _; first
          | refine WL.pure rfl rfl rfl rfl ?_
          | refine WL.nil ?_
          | (refine WL.calls hS rfl rfl (dfile_c p (hS.holds (dkC q mb lb D) (by repeat (first | exact List.Mem.head _ | apply List.Mem.tail))).1 hl) rfl rfl rfl ?_; rintro v w rfl hS; rw [he])
          | (refine WL.callG rfl rfl (step_c (D := D) (hS.holds (dkC q mb lb D) (by repeat (first | exact List.Mem.head _ | apply List.Mem.tail))) (hS.inB_of (by repeat (first | exact List.Mem.head _ | apply List.Mem.tail)))) rfl rfl rfl ?_; rintro v w ⟨rfl, hmut⟩; have hS := hS.mut hmut (by repeat (first | exact Repl.here | apply Repl.there)); clear hmut; rw [hs]))
        | (show WC _ _ _ _ _ _; first
          | refine WC.seq ?_
          | refine WC.region ?_
          | refine WC.skip ?_
          | refine WC.ret ?_
          | refine WC.condT rfl (by decide) ?_
          | refine WC.condF rfl (by decide) ?_)
        | refine seqQ_n ?_
        | refine seqQ_r ?_)
      exact fin1r rfl rfl ⟨rfl, hS.mutOf (by repeat (first | exact List.Mem.head _ | apply List.Mem.tail))⟩
  · have hR : D.sync p = (D.file p, D) := by unfold Dk.sync; rw [if_pos he]
    rw [hR]
    repeat' (first
      | (show WL _ _ _ _ _ _ _; first
        | refine WL.pure rfl rfl rfl rfl ?_
        | refine WL.nil ?_
        | (refine WL.calls hS rfl rfl (dfile_c p (hS.holds (dkC q mb lb D) (by repeat (first | exact List.Mem.head _ | apply List.Mem.tail))).1 hl) rfl rfl rfl ?_; rintro v w rfl hS))
      | (show WC _ _ _ _ _ _; first
        | refine WC.seq ?_
        | refine WC.region ?_
        | refine WC.ret ?_
        | refine WC.condT rfl (decide_eq_true (by first | with_reducible assumption | omega)) ?_)
      | refine seqQ_n ?_
      | refine seqQ_r ?_)
    exact fin1r rfl rfl ⟨rfl, hS.mutOf (by repeat (first | exact List.Mem.head _ | apply List.Mem.tail))⟩
end Go.Proofs.YtccfiohagbneaaaGreatDoor

/- What is proved: what the program's disk answers and holds: a text written. Conditions: no limit at the volume. -/
set_option linter.unusedSimpArgs false
set_option linter.unusedVariables false
namespace Go.Proofs.YtccfiohagbneaaaGreatDoor
open Go Go.J Go.RowKit

def Dk.write (D : Dk) (p data : List UInt8) : Int × Dk := if D.may p 1 ≠ 0 then (D.may p 1, D) else if D.under p = false then (11, D) else if (D.at p).dir = true then (12, D) else if D.stepE ≠ 0 then (D.stepE, D.step) else (0, D.step.set p { D.at p with data := data, loose := true, anew := true })
set_option maxHeartbeats 8000000 in
set_option maxRecDepth 100000 in
theorem write_c {q mb lb : Nat} {D : Dk} (p data : List UInt8) {w0 : World} (hc : (dkC q mb lb D).holds w0) (hi : inB (dkC q mb lb D) w0) (hl : p.length ≤ 1099511627) (hno : mget D.limits (volE p) = none) (hdl : data.length ≤ 1099511627776) (hal : (D.at p).data.length ≤ 1099511627776) : Cal Tryz.prog 99 [.pointer (some ⟨q, 0, none⟩), str p, str data] w0
    (fun v w' => v = .int .i64 (D.write p data).1 ∧ Mut w0 w' (dkC q mb lb D) (dkC q mb lb (D.write p data).2)) := by
  refine Cal.mkM hc hi (by kernel_rfl) Tryz.func99 rfl rfl fun hS => ?_
  by_cases he : D.may p 1 = 0
  · have hlk := look_it D.items p
    have hat : D.at p = (mget D.items p).getD It0 := rfl
    rw [← hat] at hlk
    clear hat
    have hs2 : ¬ D.stepE = 0 → D.stepE = 14 := by intro hs; unfold Dk.stepE at hs ⊢; split at hs <;> simp_all
    by_cases hu : D.under p = false
    · have hR : D.write p data = (11, D) := by unfold Dk.write; rw [if_neg (by simp [he]), if_pos hu]
      rw [hR]
      clear hR hs2
      repeat' (first
        | (show WL _ _ _ _ _ _ _; first
          | refine WL.pure rfl rfl rfl rfl ?_
          | refine WL.nil ?_
          | (refine WL.calls hS rfl rfl (may_c p 1 (hS.holds (dkC q mb lb D) (by repeat (first | exact List.Mem.head _ | apply List.Mem.tail))).1 hl) rfl rfl rfl ?_; rintro v w rfl hS; rw [he])
          | (refine WL.load hS rfl rfl (LdOk.dk (D := D) (by repeat (first | exact List.Mem.head _ | apply List.Mem.tail)) rfl) rfl rfl rfl ?_)
          | (refine WL.mget hS rfl rfl rfl rfl (MapOk.dk (D := D) (by repeat (first | exact List.Mem.head _ | apply List.Mem.tail))) hlk rfl rfl rfl ?_)
          | (refine WL.calls hS rfl rfl (dunder_c p (D := D) (hS.holds (dkC q mb lb D) (by repeat (first | exact List.Mem.head _ | apply List.Mem.tail))).1 hl) rfl rfl rfl ?_; rintro v w rfl hS; rw [hu])
          | (refine WL.store hS rfl rfl rfl (by repeat (first | exact StB.here rfl | apply StB.there)) rfl rfl rfl ?_; intro w hS)
          | (refine WL.alloc hS rfl rfl rfl rfl rfl rfl ?_; intro w b hS))
        | (show WC _ _ _ _ _ _; first
          | refine WC.seq ?_
          | refine WC.region ?_
          | refine WC.block ?_
          | refine WC.skip ?_
          | refine WC.ret ?_
          | refine WC.condT rfl (by decide) ?_
          | refine WC.condF rfl (by decide) ?_)
        | refine seqQ_n ?_
        | refine seqQ_r ?_
        | refine blkQ_r ?_)
      exact fin1r rfl rfl ⟨rfl, hS.mutOf (by repeat (first | exact List.Mem.head _ | apply List.Mem.tail))⟩
    · have hu2 : D.under p = true := by simpa using hu
      by_cases hd : (D.at p).dir = true
      · have hR : D.write p data = (12, D) := by unfold Dk.write; rw [if_neg (by simp [he]), if_neg hu, if_pos hd]
        rw [hR]
        have hu := hu2
        clear hR hs2
        generalize D.at p = it at *
        obtain ⟨dir, dat, kept, loose, anew, stamp⟩ := it
        dsimp only at hd
        subst hd
        repeat' (first
          | (show WL _ _ _ _ _ _ _; first
            | refine WL.pure rfl rfl rfl rfl ?_
            | refine WL.nil ?_
            | refine WL.load hS rfl rfl (LdOk.box (by repeat (first | exact List.Mem.head _ | apply List.Mem.tail)) rfl) rfl rfl rfl ?_
            | (refine WL.calls hS rfl rfl (may_c p 1 (hS.holds (dkC q mb lb D) (by repeat (first | exact List.Mem.head _ | apply List.Mem.tail))).1 hl) rfl rfl rfl ?_; rintro v w rfl hS; rw [he])
            | (refine WL.load hS rfl rfl (LdOk.dk (D := D) (by repeat (first | exact List.Mem.head _ | apply List.Mem.tail)) rfl) rfl rfl rfl ?_)
            | (refine WL.mget hS rfl rfl rfl rfl (MapOk.dk (D := D) (by repeat (first | exact List.Mem.head _ | apply List.Mem.tail))) hlk rfl rfl rfl ?_)
            | (refine WL.calls hS rfl rfl (dunder_c p (D := D) (hS.holds (dkC q mb lb D) (by repeat (first | exact List.Mem.head _ | apply List.Mem.tail))).1 hl) rfl rfl rfl ?_; rintro v w rfl hS; rw [hu])
            | (refine WL.store hS rfl rfl rfl (by repeat (first | exact StB.here rfl | apply StB.there)) rfl rfl rfl ?_; intro w hS)
            | (refine WL.alloc hS rfl rfl rfl rfl rfl rfl ?_; intro w b hS))
          | (show WC _ _ _ _ _ _; first
            | refine WC.seq ?_
            | refine WC.region ?_
            | refine WC.block ?_
            | refine WC.skip ?_
            | refine WC.ret ?_
            | refine WC.condT rfl (by with_reducible rfl) ?_
            | refine WC.condF rfl (by decide) ?_)
          | refine seqQ_n ?_
          | refine seqQ_r ?_
          | refine blkQ_r ?_)
        exact fin1r rfl rfl ⟨rfl, hS.mutOf (by repeat (first | exact List.Mem.head _ | apply List.Mem.tail))⟩
      · have hd2 : (D.at p).dir = false := by simpa using hd
        by_cases hs : D.stepE = 0
        · have hR : D.write p data = (0, D.step.set p { D.at p with data := data, loose := true, anew := true }) := by unfold Dk.write; rw [if_neg (by simp [he]), if_neg hu, if_neg hd, if_neg (by simp [hs])]
          rw [hR]
          have hu := hu2
          clear hR hs2 hd
          generalize D.at p = it at *
          obtain ⟨dir, dat, kept, loose, anew, stamp⟩ := it
          dsimp only at hd2 hal
          subst hd2
          repeat' (first
            | (show WL _ _ _ _ _ _ _; first
              | refine WL.sub (a := (data.length : Int)) (b := (dat.length : Int)) rfl rfl rfl (by omega) rfl rfl rfl ?_
              | refine WL.pure rfl rfl rfl rfl ?_
              | refine WL.nil ?_
              | refine WL.load hS rfl rfl (LdOk.box (by repeat (first | exact List.Mem.head _ | apply List.Mem.tail)) rfl) rfl rfl rfl ?_
              | (refine WL.calls hS rfl rfl (may_c p 1 (hS.holds (dkC q mb lb D) (by repeat (first | exact List.Mem.head _ | apply List.Mem.tail))).1 hl) rfl rfl rfl ?_; rintro v w rfl hS; rw [he])
              | (refine WL.load hS rfl rfl (LdOk.dk (D := D) (by repeat (first | exact List.Mem.head _ | apply List.Mem.tail)) rfl) rfl rfl rfl ?_)
              | (refine WL.mget hS rfl rfl rfl rfl (MapOk.dk (D := D) (by repeat (first | exact List.Mem.head _ | apply List.Mem.tail))) hlk rfl rfl rfl ?_)
              | (refine WL.calls hS rfl rfl (dunder_c p (D := D) (hS.holds (dkC q mb lb D) (by repeat (first | exact List.Mem.head _ | apply List.Mem.tail))).1 hl) rfl rfl rfl ?_; rintro v w rfl hS; rw [hu])
              | (refine WL.calls hS rfl rfl (room_c p _ (hS.holds (dkC q mb lb D) (by repeat (first | exact List.Mem.head _ | apply List.Mem.tail))).1 hl hno) rfl rfl rfl ?_; rintro v w rfl hS)
              | (refine WL.callG rfl rfl (step_c (D := D) (hS.holds (dkC q mb lb D) (by repeat (first | exact List.Mem.head _ | apply List.Mem.tail))) (hS.inB_of (by repeat (first | exact List.Mem.head _ | apply List.Mem.tail)))) rfl rfl rfl ?_; rintro v w ⟨rfl, hmut⟩; have hS := hS.mut hmut (by repeat (first | exact Repl.here | apply Repl.there)); clear hmut; rw [hs])
              | (refine WL.callG rfl rfl (dset_c p ⟨false, data, kept, true, true, stamp⟩ (D := D.step) (hS.holds (dkC q mb lb D.step) (by repeat (first | exact List.Mem.head _ | apply List.Mem.tail))) (hS.inB_of (by repeat (first | exact List.Mem.head _ | apply List.Mem.tail)))) rfl rfl rfl ?_; rintro v w ⟨rfl, hmut⟩; have hS := hS.mut hmut (by repeat (first | exact Repl.here | apply Repl.there)); clear hmut)
              | (refine WL.store hS rfl rfl rfl (by repeat (first | exact StB.here rfl | apply StB.there)) rfl rfl rfl ?_; intro w hS)
              | (refine WL.alloc hS rfl rfl rfl rfl rfl rfl ?_; intro w b hS))
            | (show WC _ _ _ _ _ _; first
              | refine WC.seq ?_
              | refine WC.region ?_
              | refine WC.block ?_
              | refine WC.skip ?_
              | refine WC.ret ?_
              | refine WC.condF rfl (by with_reducible rfl) ?_
              | refine WC.condF rfl (by decide) ?_)
            | refine seqQ_n ?_
            | refine blkQ_n ?_)
          exact fin1r rfl rfl ⟨rfl, hS.mutOf (by repeat (first | exact List.Mem.head _ | apply List.Mem.tail))⟩
        · have hR : D.write p data = (14, D.step) := by unfold Dk.write; rw [if_neg (by simp [he]), if_neg hu, if_neg hd, if_pos hs, hs2 hs]
          rw [hR]
          have hu := hu2
          have hs := hs2 hs
          clear hR hs2 hd
          generalize D.at p = it at *
          obtain ⟨dir, dat, kept, loose, anew, stamp⟩ := it
          dsimp only at hd2 hal
          subst hd2
          repeat' (first
            | (show WL _ _ _ _ _ _ _; first
              | refine WL.sub (a := (data.length : Int)) (b := (dat.length : Int)) rfl rfl rfl (by omega) rfl rfl rfl ?_
              | refine WL.pure rfl rfl rfl rfl ?_
              | refine WL.nil ?_
              | refine WL.load hS rfl rfl (LdOk.box (by repeat (first | exact List.Mem.head _ | apply List.Mem.tail)) rfl) rfl rfl rfl ?_
              | (refine WL.calls hS rfl rfl (may_c p 1 (hS.holds (dkC q mb lb D) (by repeat (first | exact List.Mem.head _ | apply List.Mem.tail))).1 hl) rfl rfl rfl ?_; rintro v w rfl hS; rw [he])
              | (refine WL.load hS rfl rfl (LdOk.dk (D := D) (by repeat (first | exact List.Mem.head _ | apply List.Mem.tail)) rfl) rfl rfl rfl ?_)
              | (refine WL.mget hS rfl rfl rfl rfl (MapOk.dk (D := D) (by repeat (first | exact List.Mem.head _ | apply List.Mem.tail))) hlk rfl rfl rfl ?_)
              | (refine WL.calls hS rfl rfl (dunder_c p (D := D) (hS.holds (dkC q mb lb D) (by repeat (first | exact List.Mem.head _ | apply List.Mem.tail))).1 hl) rfl rfl rfl ?_; rintro v w rfl hS; rw [hu])
              | (refine WL.calls hS rfl rfl (room_c p _ (hS.holds (dkC q mb lb D) (by repeat (first | exact List.Mem.head _ | apply List.Mem.tail))).1 hl hno) rfl rfl rfl ?_; rintro v w rfl hS)
              | (refine WL.callG rfl rfl (step_c (D := D) (hS.holds (dkC q mb lb D) (by repeat (first | exact List.Mem.head _ | apply List.Mem.tail))) (hS.inB_of (by repeat (first | exact List.Mem.head _ | apply List.Mem.tail)))) rfl rfl rfl ?_; rintro v w ⟨rfl, hmut⟩; have hS := hS.mut hmut (by repeat (first | exact Repl.here | apply Repl.there)); clear hmut; rw [hs])
              | (refine WL.store hS rfl rfl rfl (by repeat (first | exact StB.here rfl | apply StB.there)) rfl rfl rfl ?_; intro w hS)
              | (refine WL.alloc hS rfl rfl rfl rfl rfl rfl ?_; intro w b hS))
            | (show WC _ _ _ _ _ _; first
              | refine WC.seq ?_
              | refine WC.region ?_
              | refine WC.block ?_
              | refine WC.skip ?_
              | refine WC.ret ?_
              | refine WC.condF rfl (by with_reducible rfl) ?_
              | refine WC.condT rfl (by decide) ?_
              | refine WC.condF rfl (by decide) ?_)
            | refine seqQ_n ?_
            | refine blkQ_n ?_
            | refine seqQ_r ?_)
          exact fin1r rfl rfl ⟨rfl, hS.mutOf (by repeat (first | exact List.Mem.head _ | apply List.Mem.tail))⟩
  · have hR : D.write p data = (D.may p 1, D) := by unfold Dk.write; rw [if_pos he]
    rw [hR]
    repeat' (first
      | (show WL _ _ _ _ _ _ _; first
        | refine WL.pure rfl rfl rfl rfl ?_
        | refine WL.nil ?_
        | (refine WL.calls hS rfl rfl (may_c p 1 (hS.holds (dkC q mb lb D) (by repeat (first | exact List.Mem.head _ | apply List.Mem.tail))).1 hl) rfl rfl rfl ?_; rintro v w rfl hS))
      | (show WC _ _ _ _ _ _; first
        | refine WC.seq ?_
        | refine WC.region ?_
        | refine WC.ret ?_
        | refine WC.condT rfl (decide_eq_true (by first | with_reducible assumption | omega)) ?_)
      | refine seqQ_n ?_
      | refine seqQ_r ?_)
    exact fin1r rfl rfl ⟨rfl, hS.mutOf (by repeat (first | exact List.Mem.head _ | apply List.Mem.tail))⟩
end Go.Proofs.YtccfiohagbneaaaGreatDoor

/- What is proved: what the program's disk answers: a text read. Conditions: none. -/
set_option linter.unusedSimpArgs false
set_option linter.unusedVariables false
namespace Go.Proofs.YtccfiohagbneaaaGreatDoor
open Go Go.J Go.RowKit

def Dk.read (D : Dk) (p : List UInt8) : List UInt8 × Int := if D.down = true then ([], 14) else if D.has p = false then ([], 11) else if (D.at p).dir = true then ([], 12) else ((D.at p).data, 0)
set_option maxHeartbeats 8000000 in
set_option maxRecDepth 100000 in
theorem dread_c {b mb lb : Nat} {D : Dk} (p : List UInt8) {w0 : World} (h : DkIs b mb lb D w0) : Cal Tryz.prog 27 [.pointer (some ⟨b, 0, none⟩), str p] w0
    (fun v w' => Upd [] w0 w' ∧ v = .tuple #[str (D.read p).1, .int .i64 (D.read p).2]) := by
  refine Cal.mk' (by kernel_rfl) Tryz.func27 rfl rfl fun hS => ?_
  obtain ⟨_, _, _, hb, hm, hlm⟩ := h
  have hb : w0.heap[b]? = some (.cells ⟨[.map (some mb), .map (some lb), .int .i64 D.steps, .int .i64 D.stamps, .int .i64 D.armed, .bool D.down]⟩ 122 (0, 0)) := hb
  unfold Dk.read Dk.has Dk.at
  have hlk := look_it2 D.items p
  generalize (mget D.items p).isSome = has at *
  generalize (mget D.items p).getD It0 = it at *
  generalize D.down = dn at *
  obtain ⟨dir, data, kept, loose, anew, stamp⟩ := it
  cases dn <;> cases has <;> cases dir
  all_goals
    repeat' (first
      | (show WL _ _ _ _ _ _ _; first
        | refine WL.pure rfl rfl rfl rfl ?_
        | refine WL.nil ?_
        | refine WL.load hS rfl rfl (LdOk.box (by repeat (first | exact List.Mem.head _ | apply List.Mem.tail)) rfl) rfl rfl rfl ?_
        | (refine WL.load hS rfl rfl (LdOk.old hb (by repeat (first | exact List.Mem.head _ | apply List.Mem.tail)) rfl) rfl rfl rfl ?_)
        | (refine WL.mget hS rfl rfl rfl rfl (MapOk.old hm (by repeat (first | exact List.Mem.head _ | apply List.Mem.tail))) hlk rfl rfl rfl ?_)
        | (refine WL.store hS rfl rfl rfl (by repeat (first | exact StB.here rfl | apply StB.there)) rfl rfl rfl ?_; intro w hS)
        | (refine WL.alloc hS rfl rfl rfl rfl rfl rfl ?_; intro w b hS))
      | (show WC _ _ _ _ _ _; first
        | refine WC.seq ?_
        | refine WC.region ?_
        | refine WC.block ?_
        | refine WC.skip ?_
        | refine WC.ret ?_
        | refine WC.condT rfl (by with_reducible rfl) ?_
        | refine WC.condF rfl (by with_reducible rfl) ?_
        | refine WC.condT rfl (by decide) ?_
        | refine WC.condF rfl (by decide) ?_)
      | refine seqQ_n ?_
      | refine blkQ_n ?_
      | refine seqQ_r ?_
      | refine blkQ_r ?_)
    exact fin2r rfl rfl rfl ⟨hS.upd, rfl⟩
end Go.Proofs.YtccfiohagbneaaaGreatDoor

/- What is proved: the walk's rule for a value that goes nowhere, and for a key struck from a map so. Conditions: as each rule names them. -/
set_option linter.unusedSimpArgs false
set_option linter.unusedVariables false
namespace Go.J
open Go Go.RowKit

section
variable {P : Program} {N : Fz} {f : Fr} {w w0 : World} {Q : Post} {ops l : List Oper} {o : Oper} {M : List Nat} {H H' : List Chunk} {Z : List Snap}
theorem WL.val0 (hg : wants ops f o = true) (hd : o.dst = none) {v : Value} {w' : World} (hr : (execOp (ev f) o).run P w = .ok (.value v) w')
    (h : WL P N ops l f w' Q) : WL P N ops (o :: l) f w Q := by
  refine ⟨fun a ha => wpList_step fun K hK => ?_⟩
  rw [if_pos ((wanted_eq ha o).trans hg)]
  simp only [Oper.wp, ha.eval, hr, Oper.upon]
  exact hK _ _ (h.out _ (by rw [hd]; exact ha))
theorem WL.mdel0 {t k t2 : TypeId} {z : Value} {x i : Operand} {b : Nat} {m : KV} {s : List UInt8} (hS : St w0 M w H Z) (ho : o.op = .call ⟨.builtin .delete, ⟨[x, i]⟩, ⟨[t, t2]⟩⟩) (ht : mapOf P t = some (k, z)) (hx : ev f x = .map (some b)) (hi : ev f i = str s)
    (hr : Repl (mapC b m) (mapC b (Go.J.mdel m s)) H H') (hg : wants ops f o = true) (hd : o.dst = none) (h : ∀ w', St w0 M w' H' Z → WL P N ops l f w' Q) : WL P N ops (o :: l) f w Q := by
  obtain ⟨ob, h1, h2⟩ := run_delete (t2 := t2) (ty := o.type) (s := s) ht (hS.holds _ hr.mem).1
  have hrun : (execOp (ev f) o).run P w = .ok (.value (.tuple #[])) { w with heap := w.heap.setIfInBounds b ob } := by
    simp [execOp, ho, resolve, invoke, builtin, hx, hi, Sem.run_bind, h1]
  exact .val0 hg hd hrun (h _ (hS.setMap hr h2))
end
end Go.J

/- What is proved: what the program's disk answers and holds: a file in another one's place. Conditions: no limit at the volume. -/
set_option linter.unusedSimpArgs false
set_option linter.unusedVariables false
namespace Go.Proofs.YtccfiohagbneaaaGreatDoor
open Go Go.J Go.RowKit

/-- a file's item taken away -/
def Dk.del (D : Dk) (p : List UInt8) : Dk := { D with items := mdel D.items p }
def Dk.rename (D : Dk) (p r : List UInt8) : Int × Dk :=
  if D.may p 1 ≠ 0 then (D.may p 1, D) else if D.may r 1 ≠ 0 then (D.may r 1, D) else if D.has p = false ∨ D.under r = false then (11, D)
  else if (D.at p).dir = true ∨ (D.at r).dir = true then (12, D) else if D.stepE ≠ 0 then (D.stepE, D.step) else (0, (D.step.del p).set r (D.at p))
theorem St.dkDel {w0 w : World} {M : List Nat} {H : List Chunk} {Z : List Snap} {b mb lb : Nat} {D : Dk} {p : List UInt8} (h1 : b ≠ mb) (h2 : b ≠ lb) (h3 : mb ≠ lb)
    (hS : St w0 M w (.box b 122 [.map (some mb), .map (some lb), .int .i64 D.steps, .int .i64 D.stamps, .int .i64 D.armed, .bool D.down] :: mapC mb (mdel (mmap encIt D.items) p) :: mapC lb (mmap encI D.limits) :: H) Z) : St w0 M w (dkC b mb lb (D.del p) :: H) Z := by
  rw [mdel_map] at hS
  exact St.dkClose (D.del p) h1 h2 h3 hS
set_option maxHeartbeats 8000000 in
set_option maxRecDepth 100000 in
theorem rename_c {q mb lb : Nat} {D : Dk} (p r : List UInt8) {w0 : World} (hc : (dkC q mb lb D).holds w0) (hi : inB (dkC q mb lb D) w0) (hl : p.length ≤ 1099511627) (hl2 : r.length ≤ 1099511627) (hno : mget D.limits (volE r) = none) (hal : (D.at p).data.length ≤ 1099511627776) (hal2 : (D.at r).data.length ≤ 1099511627776) : Cal Tryz.prog 100 [.pointer (some ⟨q, 0, none⟩), str p, str r] w0
    (fun v w' => v = .int .i64 (D.rename p r).1 ∧ Mut w0 w' (dkC q mb lb D) (dkC q mb lb (D.rename p r).2)) := by
  refine Cal.mkM hc hi (by kernel_rfl) Tryz.func100 rfl rfl fun hS => ?_
  by_cases he : D.may p 1 = 0
  · by_cases he2 : D.may r 1 = 0
    · have hlk := look_it2 D.items p
      have hlk2 := look_it D.items r
      have hhas : D.has p = (mget D.items p).isSome := rfl
      have hat : D.at p = (mget D.items p).getD It0 := rfl
      have hat2 : D.at r = (mget D.items r).getD It0 := rfl
      rw [← hhas, ← hat] at hlk
      rw [← hat2] at hlk2
      clear hhas hat hat2
      by_cases h11 : D.has p = false ∨ D.under r = false
      · have hR : D.rename p r = (11, D) := by unfold Dk.rename; rw [if_neg (by simp [he]), if_neg (by simp [he2]), if_pos h11]
        rw [hR]
        have hcase : (D.has p = false) ∨ (D.has p = true ∧ D.under r = false) := by
          cases h1 : D.has p
          · exact .inl rfl
          · rcases h11 with h2 | h2
            · rw [h1] at h2; cases h2
            · exact .inr ⟨rfl, h2⟩
        clear hR h11
        generalize D.has p = has at *
        generalize D.at p = it at *
        generalize D.at r = it2 at *
        obtain ⟨dir, dat, kept, loose, anew, stamp⟩ := it
        obtain ⟨dir2, dat2, kept2, loose2, anew2, stamp2⟩ := it2
        dsimp only at hal hal2
        rcases hcase with rfl | ⟨rfl, hu⟩
        case' inl => have hu : D.under r = D.under r := rfl
        all_goals
          repeat' (first
            | (show WL _ _ _ _ _ _ _; first
              | refine WL.sub (a := (dat.length : Int)) (b := (dat2.length : Int)) rfl rfl rfl (by omega) rfl rfl rfl ?_
              | refine WL.pure rfl rfl rfl rfl ?_
              | refine WL.nil ?_
              | refine WL.load hS rfl rfl (LdOk.box (by repeat (first | exact List.Mem.head _ | apply List.Mem.tail)) rfl) rfl rfl rfl ?_
              | (refine WL.calls hS rfl rfl (may_c p 1 (hS.holds (dkC q mb lb D) (by repeat (first | exact List.Mem.head _ | apply List.Mem.tail))).1 hl) rfl rfl rfl ?_; rintro v w rfl hS; rw [he])
              | (refine WL.calls hS rfl rfl (may_c r 1 (hS.holds (dkC q mb lb D) (by repeat (first | exact List.Mem.head _ | apply List.Mem.tail))).1 hl2) rfl rfl rfl ?_; rintro v w rfl hS; rw [he2])
              | (refine WL.load hS rfl rfl (LdOk.dk (D := D) (by repeat (first | exact List.Mem.head _ | apply List.Mem.tail)) rfl) rfl rfl rfl ?_)
              | (refine WL.mget hS rfl rfl rfl rfl (MapOk.dk (D := D) (by repeat (first | exact List.Mem.head _ | apply List.Mem.tail))) hlk rfl rfl rfl ?_)
              | (refine WL.mget hS rfl rfl rfl rfl (MapOk.dk (D := D) (by repeat (first | exact List.Mem.head _ | apply List.Mem.tail))) hlk2 rfl rfl rfl ?_)
              | (refine WL.calls hS rfl rfl (volume_c p _ (by omega)) rfl rfl rfl ?_; rintro v w rfl hS)
              | (refine WL.calls hS rfl rfl (volume_c r _ (by omega)) rfl rfl rfl ?_; rintro v w rfl hS)
              | (refine WL.calls hS rfl rfl (dunder_c r (D := D) (hS.holds (dkC q mb lb D) (by repeat (first | exact List.Mem.head _ | apply List.Mem.tail))).1 hl2) rfl rfl rfl ?_; rintro v w rfl hS; rw [hu])
              | (refine WL.store hS rfl rfl rfl (by repeat (first | exact StB.here rfl | apply StB.there)) rfl rfl rfl ?_; intro w hS)
              | (refine WL.alloc hS rfl rfl rfl rfl rfl rfl ?_; intro w b hS)
              | refine WL.skip rfl rfl rfl ?_)
            | (show WC _ _ _ _ _ _; first
              | refine WC.seq ?_
              | refine WC.region ?_
              | refine WC.block ?_
              | refine WC.skip ?_
              | refine WC.ret ?_
              | refine WC.condT rfl (by with_reducible rfl) ?_
              | refine WC.condT rfl (by decide) ?_
              | refine WC.condF rfl (by decide) ?_
              | (refine WC.cond rfl (fun h => ?_) (fun h => ?_) <;> (try simp only [Classical.not_not, Bool.not_eq_true', Bool.not_eq_false', Bool.not_eq_eq_eq_not, Bool.not_true, Bool.not_false, beq_iff_eq, beq_eq_false_iff_ne, ne_eq, decide_eq_decide, decide_eq_true_eq, decide_eq_false_iff_not, Bool.and_eq_true, Bool.or_eq_true, Bool.and_eq_false_iff, Bool.or_eq_false_iff] at h) <;> (try (exfalso; first | omega | contradiction))))
            | refine seqQ_n ?_
            | refine seqQ_r ?_
            | refine blkQ_r ?_)
          all_goals exact fin1r rfl rfl ⟨rfl, hS.mutOf (by repeat (first | exact List.Mem.head _ | apply List.Mem.tail))⟩
      · have hh : D.has p = true := by
          cases h1 : D.has p
          · exact absurd (.inl h1) h11
          · rfl
        have hu : D.under r = true := by
          cases h1 : D.under r
          · exact absurd (.inr h1) h11
          · rfl
        by_cases h12 : (D.at p).dir = true ∨ (D.at r).dir = true
        · have hR : D.rename p r = (12, D) := by unfold Dk.rename; rw [if_neg (by simp [he]), if_neg (by simp [he2]), if_neg h11, if_pos h12]
          rw [hR]
          clear hR h11
          generalize D.has p = has at *
          generalize D.at p = it at *
          generalize D.at r = it2 at *
          obtain ⟨dir, dat, kept, loose, anew, stamp⟩ := it
          obtain ⟨dir2, dat2, kept2, loose2, anew2, stamp2⟩ := it2
          dsimp only at hal hal2 h12
          subst hh
          cases dir <;> cases dir2 <;> (first | (exfalso; simp at h12; done) | skip)
          all_goals
            clear h12
            repeat' (first
              | (show WL _ _ _ _ _ _ _; first
                | refine WL.sub (a := (dat.length : Int)) (b := (dat2.length : Int)) rfl rfl rfl (by omega) rfl rfl rfl ?_
                | refine WL.pure rfl rfl rfl rfl ?_
                | refine WL.nil ?_
                | refine WL.load hS rfl rfl (LdOk.box (by repeat (first | exact List.Mem.head _ | apply List.Mem.tail)) rfl) rfl rfl rfl ?_
                | (refine WL.calls hS rfl rfl (may_c p 1 (hS.holds (dkC q mb lb D) (by repeat (first | exact List.Mem.head _ | apply List.Mem.tail))).1 hl) rfl rfl rfl ?_; rintro v w rfl hS; rw [he])
                | (refine WL.calls hS rfl rfl (may_c r 1 (hS.holds (dkC q mb lb D) (by repeat (first | exact List.Mem.head _ | apply List.Mem.tail))).1 hl2) rfl rfl rfl ?_; rintro v w rfl hS; rw [he2])
                | (refine WL.load hS rfl rfl (LdOk.dk (D := D) (by repeat (first | exact List.Mem.head _ | apply List.Mem.tail)) rfl) rfl rfl rfl ?_)
                | (refine WL.mget hS rfl rfl rfl rfl (MapOk.dk (D := D) (by repeat (first | exact List.Mem.head _ | apply List.Mem.tail))) hlk rfl rfl rfl ?_)
                | (refine WL.mget hS rfl rfl rfl rfl (MapOk.dk (D := D) (by repeat (first | exact List.Mem.head _ | apply List.Mem.tail))) hlk2 rfl rfl rfl ?_)
                | (refine WL.calls hS rfl rfl (volume_c p _ (by omega)) rfl rfl rfl ?_; rintro v w rfl hS)
                | (refine WL.calls hS rfl rfl (volume_c r _ (by omega)) rfl rfl rfl ?_; rintro v w rfl hS)
                | (refine WL.calls hS rfl rfl (dunder_c r (D := D) (hS.holds (dkC q mb lb D) (by repeat (first | exact List.Mem.head _ | apply List.Mem.tail))).1 hl2) rfl rfl rfl ?_; rintro v w rfl hS; rw [hu])
                | (refine WL.store hS rfl rfl rfl (by repeat (first | exact StB.here rfl | apply StB.there)) rfl rfl rfl ?_; intro w hS)
                | (refine WL.alloc hS rfl rfl rfl rfl rfl rfl ?_; intro w b hS)
                | refine WL.skip rfl rfl rfl ?_)
              | (show WC _ _ _ _ _ _; first
                | refine WC.seq ?_
                | refine WC.region ?_
                | refine WC.block ?_
                | refine WC.skip ?_
                | refine WC.ret ?_
                | refine WC.condT rfl (by with_reducible rfl) ?_
                | refine WC.condT rfl (by decide) ?_
                | refine WC.condF rfl (by decide) ?_
                | (refine WC.cond rfl (fun h => ?_) (fun h => ?_) <;> (try simp only [Classical.not_not, Bool.not_eq_true', Bool.not_eq_false', Bool.not_eq_eq_eq_not, Bool.not_true, Bool.not_false, beq_iff_eq, beq_eq_false_iff_ne, ne_eq, decide_eq_decide, decide_eq_true_eq, decide_eq_false_iff_not, Bool.and_eq_true, Bool.or_eq_true, Bool.and_eq_false_iff, Bool.or_eq_false_iff] at h) <;> (try (exfalso; first | omega | contradiction))))
              | refine seqQ_n ?_
              | refine seqQ_r ?_
              | refine blkQ_r ?_)
            all_goals exact fin1r rfl rfl ⟨rfl, hS.mutOf (by repeat (first | exact List.Mem.head _ | apply List.Mem.tail))⟩
        · have hd1 : (D.at p).dir = false := by
            cases h1 : (D.at p).dir
            · rfl
            · exact absurd (.inl h1) h12
          have hd2 : (D.at r).dir = false := by
            cases h1 : (D.at r).dir
            · rfl
            · exact absurd (.inr h1) h12
          by_cases hs : D.stepE = 0
          · have hR : D.rename p r = (0, (D.step.del p).set r (D.at p)) := by unfold Dk.rename; rw [if_neg (by simp [he]), if_neg (by simp [he2]), if_neg h11, if_neg h12, if_neg (by simp [hs])]
            rw [hR]
            clear hR h11 h12
            generalize D.has p = has at *
            generalize D.at p = it at *
            generalize D.at r = it2 at *
            obtain ⟨dir, dat, kept, loose, anew, stamp⟩ := it
            obtain ⟨dir2, dat2, kept2, loose2, anew2, stamp2⟩ := it2
            dsimp only at hal hal2 hd1 hd2
            subst hh hd1 hd2
            repeat' (first
              | (show WL _ _ _ _ _ _ _; first
                | refine WL.sub (a := (dat.length : Int)) (b := (dat2.length : Int)) rfl rfl rfl (by omega) rfl rfl rfl ?_
                | refine WL.pure rfl rfl rfl rfl ?_
                | refine WL.nil ?_
                | refine WL.load hS rfl rfl (LdOk.box (by repeat (first | exact List.Mem.head _ | apply List.Mem.tail)) rfl) rfl rfl rfl ?_
                | (refine WL.calls hS rfl rfl (may_c p 1 (hS.holds (dkC q mb lb D) (by repeat (first | exact List.Mem.head _ | apply List.Mem.tail))).1 hl) rfl rfl rfl ?_; rintro v w rfl hS; rw [he])
                | (refine WL.calls hS rfl rfl (may_c r 1 (hS.holds (dkC q mb lb D) (by repeat (first | exact List.Mem.head _ | apply List.Mem.tail))).1 hl2) rfl rfl rfl ?_; rintro v w rfl hS; rw [he2])
                | (refine WL.load hS rfl rfl (LdOk.dk (D := D) (by repeat (first | exact List.Mem.head _ | apply List.Mem.tail)) rfl) rfl rfl rfl ?_)
                | (refine WL.load hS rfl rfl (LdOk.dk (D := D.step) (by repeat (first | exact List.Mem.head _ | apply List.Mem.tail)) rfl) rfl rfl rfl ?_)
                | (refine WL.mget hS rfl rfl rfl rfl (MapOk.dk (D := D) (by repeat (first | exact List.Mem.head _ | apply List.Mem.tail))) hlk rfl rfl rfl ?_)
                | (refine WL.mget hS rfl rfl rfl rfl (MapOk.dk (D := D) (by repeat (first | exact List.Mem.head _ | apply List.Mem.tail))) hlk2 rfl rfl rfl ?_)
                | (refine WL.calls hS rfl rfl (volume_c p _ (by omega)) rfl rfl rfl ?_; rintro v w rfl hS)
                | (refine WL.calls hS rfl rfl (volume_c r _ (by omega)) rfl rfl rfl ?_; rintro v w rfl hS)
                | (refine WL.calls hS rfl rfl (dunder_c r (D := D) (hS.holds (dkC q mb lb D) (by repeat (first | exact List.Mem.head _ | apply List.Mem.tail))).1 hl2) rfl rfl rfl ?_; rintro v w rfl hS; rw [hu])
                | (refine WL.calls hS rfl rfl (room_c r _ (hS.holds (dkC q mb lb D) (by repeat (first | exact List.Mem.head _ | apply List.Mem.tail))).1 hl2 hno) rfl rfl rfl ?_; rintro v w rfl hS)
                | (refine WL.callG rfl rfl (step_c (D := D) (hS.holds (dkC q mb lb D) (by repeat (first | exact List.Mem.head _ | apply List.Mem.tail))) (hS.inB_of (by repeat (first | exact List.Mem.head _ | apply List.Mem.tail)))) rfl rfl rfl ?_; rintro v w ⟨rfl, hmut⟩; have hS := hS.mut hmut (by repeat (first | exact Repl.here | apply Repl.there)); clear hmut; rw [hs])
                | (obtain ⟨h1, h2, h3, hS⟩ := St.dkOpen (St.pull (c := dkC q mb lb D.step) hS (by repeat (first | exact Pull.here | apply Pull.there))); refine WL.mdel0 hS rfl rfl rfl rfl (by repeat (first | exact Repl.here | apply Repl.there)) rfl rfl ?_; clear hS; intro w hS; have hS := St.dkDel h1 h2 h3 hS)
                | (refine WL.callG rfl rfl (dset_c r ⟨false, dat, kept, loose, anew, stamp⟩ (D := D.step.del p) (hS.holds (dkC q mb lb (D.step.del p)) (by repeat (first | exact List.Mem.head _ | apply List.Mem.tail))) (hS.inB_of (by repeat (first | exact List.Mem.head _ | apply List.Mem.tail)))) rfl rfl rfl ?_; rintro v w ⟨rfl, hmut⟩; have hS := hS.mut hmut (by repeat (first | exact Repl.here | apply Repl.there)); clear hmut)
                | (refine WL.store hS rfl rfl rfl (by repeat (first | exact StB.here rfl | apply StB.there)) rfl rfl rfl ?_; intro w hS)
                | (refine WL.alloc hS rfl rfl rfl rfl rfl rfl ?_; intro w b hS)
                | refine WL.skip rfl rfl rfl ?_
                | ((fail_if_success (refine WL.wanted rfl ?_)); refine WL.guard rfl rfl rfl (fun h => ?_) (fun h => ?_) <;> (try simp only [Classical.not_not, Bool.not_eq_true', Bool.not_eq_false', Bool.not_eq_eq_eq_not, Bool.not_true, Bool.not_false, beq_iff_eq, beq_eq_false_iff_ne, ne_eq, decide_eq_decide, decide_eq_true_eq, decide_eq_false_iff_not, Bool.and_eq_true, Bool.or_eq_true, Bool.and_eq_false_iff, Bool.or_eq_false_iff] at h) <;> (try (exfalso; first | omega | contradiction))))
              | (show WC _ _ _ _ _ _; first
                | refine WC.seq ?_
                | refine WC.region ?_
                | refine WC.block ?_
                | refine WC.skip ?_
                | refine WC.ret ?_
                | refine WC.condF rfl (by with_reducible rfl) ?_
                | refine WC.condT rfl (by decide) ?_
                | refine WC.condF rfl (by decide) ?_
                | (refine WC.cond rfl (fun h => ?_) (fun h => ?_) <;> (try simp only [Classical.not_not, Bool.not_eq_true', Bool.not_eq_false', Bool.not_eq_eq_eq_not, Bool.not_true, Bool.not_false, beq_iff_eq, beq_eq_false_iff_ne, ne_eq, decide_eq_decide, decide_eq_true_eq, decide_eq_false_iff_not, Bool.and_eq_true, Bool.or_eq_true, Bool.and_eq_false_iff, Bool.or_eq_false_iff] at h) <;> (try (exfalso; first | omega | contradiction))))
              | refine seqQ_n ?_
              | refine blkQ_n ?_)
            all_goals exact fin1r rfl rfl ⟨rfl, hS.mutOf (by repeat (first | exact List.Mem.head _ | apply List.Mem.tail))⟩
          · have hs2 : D.stepE = 14 := by unfold Dk.stepE at hs ⊢; split at hs <;> simp_all
            have hR : D.rename p r = (14, D.step) := by unfold Dk.rename; rw [if_neg (by simp [he]), if_neg (by simp [he2]), if_neg h11, if_neg h12, if_pos hs, hs2]
            rw [hR]
            clear hR h11 h12 hs
            have hs := hs2
            generalize D.has p = has at *
            generalize D.at p = it at *
            generalize D.at r = it2 at *
            obtain ⟨dir, dat, kept, loose, anew, stamp⟩ := it
            obtain ⟨dir2, dat2, kept2, loose2, anew2, stamp2⟩ := it2
            dsimp only at hal hal2 hd1 hd2
            subst hh hd1 hd2
            repeat' (first
              | (show WL _ _ _ _ _ _ _; first
                | refine WL.sub (a := (dat.length : Int)) (b := (dat2.length : Int)) rfl rfl rfl (by omega) rfl rfl rfl ?_
                | refine WL.pure rfl rfl rfl rfl ?_
                | refine WL.nil ?_
                | refine WL.load hS rfl rfl (LdOk.box (by repeat (first | exact List.Mem.head _ | apply List.Mem.tail)) rfl) rfl rfl rfl ?_
                | (refine WL.calls hS rfl rfl (may_c p 1 (hS.holds (dkC q mb lb D) (by repeat (first | exact List.Mem.head _ | apply List.Mem.tail))).1 hl) rfl rfl rfl ?_; rintro v w rfl hS; rw [he])
                | (refine WL.calls hS rfl rfl (may_c r 1 (hS.holds (dkC q mb lb D) (by repeat (first | exact List.Mem.head _ | apply List.Mem.tail))).1 hl2) rfl rfl rfl ?_; rintro v w rfl hS; rw [he2])
                | (refine WL.load hS rfl rfl (LdOk.dk (D := D) (by repeat (first | exact List.Mem.head _ | apply List.Mem.tail)) rfl) rfl rfl rfl ?_)
                | (refine WL.mget hS rfl rfl rfl rfl (MapOk.dk (D := D) (by repeat (first | exact List.Mem.head _ | apply List.Mem.tail))) hlk rfl rfl rfl ?_)
                | (refine WL.mget hS rfl rfl rfl rfl (MapOk.dk (D := D) (by repeat (first | exact List.Mem.head _ | apply List.Mem.tail))) hlk2 rfl rfl rfl ?_)
                | (refine WL.calls hS rfl rfl (volume_c p _ (by omega)) rfl rfl rfl ?_; rintro v w rfl hS)
                | (refine WL.calls hS rfl rfl (volume_c r _ (by omega)) rfl rfl rfl ?_; rintro v w rfl hS)
                | (refine WL.calls hS rfl rfl (dunder_c r (D := D) (hS.holds (dkC q mb lb D) (by repeat (first | exact List.Mem.head _ | apply List.Mem.tail))).1 hl2) rfl rfl rfl ?_; rintro v w rfl hS; rw [hu])
                | (refine WL.calls hS rfl rfl (room_c r _ (hS.holds (dkC q mb lb D) (by repeat (first | exact List.Mem.head _ | apply List.Mem.tail))).1 hl2 hno) rfl rfl rfl ?_; rintro v w rfl hS)
                | (refine WL.callG rfl rfl (step_c (D := D) (hS.holds (dkC q mb lb D) (by repeat (first | exact List.Mem.head _ | apply List.Mem.tail))) (hS.inB_of (by repeat (first | exact List.Mem.head _ | apply List.Mem.tail)))) rfl rfl rfl ?_; rintro v w ⟨rfl, hmut⟩; have hS := hS.mut hmut (by repeat (first | exact Repl.here | apply Repl.there)); clear hmut; rw [hs])
                | (refine WL.store hS rfl rfl rfl (by repeat (first | exact StB.here rfl | apply StB.there)) rfl rfl rfl ?_; intro w hS)
                | (refine WL.alloc hS rfl rfl rfl rfl rfl rfl ?_; intro w b hS)
                | refine WL.skip rfl rfl rfl ?_
                | ((fail_if_success (refine WL.wanted rfl ?_)); refine WL.guard rfl rfl rfl (fun h => ?_) (fun h => ?_) <;> (try simp only [Classical.not_not, Bool.not_eq_true', Bool.not_eq_false', Bool.not_eq_eq_eq_not, Bool.not_true, Bool.not_false, beq_iff_eq, beq_eq_false_iff_ne, ne_eq, decide_eq_decide, decide_eq_true_eq, decide_eq_false_iff_not, Bool.and_eq_true, Bool.or_eq_true, Bool.and_eq_false_iff, Bool.or_eq_false_iff] at h) <;> (try (exfalso; first | omega | contradiction))))
              | (show WC _ _ _ _ _ _; first
                | refine WC.seq ?_
                | refine WC.region ?_
                | refine WC.block ?_
                | refine WC.skip ?_
                | refine WC.ret ?_
                | refine WC.condF rfl (by with_reducible rfl) ?_
                | refine WC.condT rfl (by decide) ?_
                | refine WC.condF rfl (by decide) ?_
                | (refine WC.cond rfl (fun h => ?_) (fun h => ?_) <;> (try simp only [Classical.not_not, Bool.not_eq_true', Bool.not_eq_false', Bool.not_eq_eq_eq_not, Bool.not_true, Bool.not_false, beq_iff_eq, beq_eq_false_iff_ne, ne_eq, decide_eq_decide, decide_eq_true_eq, decide_eq_false_iff_not, Bool.and_eq_true, Bool.or_eq_true, Bool.and_eq_false_iff, Bool.or_eq_false_iff] at h) <;> (try (exfalso; first | omega | contradiction))))
              | refine seqQ_n ?_
              | refine blkQ_n ?_
              | refine seqQ_r ?_)
            all_goals exact fin1r rfl rfl ⟨rfl, hS.mutOf (by repeat (first | exact List.Mem.head _ | apply List.Mem.tail))⟩
    · have hR : D.rename p r = (D.may r 1, D) := by unfold Dk.rename; rw [if_neg (by simp [he]), if_pos he2]
      rw [hR]
      repeat' (first
        | (show WL _ _ _ _ _ _ _; first
          | refine WL.pure rfl rfl rfl rfl ?_
          | refine WL.nil ?_
          | (refine WL.calls hS rfl rfl (may_c p 1 (hS.holds (dkC q mb lb D) (by repeat (first | exact List.Mem.head _ | apply List.Mem.tail))).1 hl) rfl rfl rfl ?_; rintro v w rfl hS; rw [he])
          | (refine WL.calls hS rfl rfl (may_c r 1 (hS.holds (dkC q mb lb D) (by repeat (first | exact List.Mem.head _ | apply List.Mem.tail))).1 hl2) rfl rfl rfl ?_; rintro v w rfl hS))
        | (show WC _ _ _ _ _ _; first
          | refine WC.seq ?_
          | refine WC.region ?_
          | refine WC.ret ?_
          | refine WC.condT rfl (by decide) ?_
          | refine WC.condT rfl (decide_eq_true (by first | with_reducible assumption | omega)) ?_)
        | refine seqQ_n ?_
        | refine seqQ_r ?_)
      exact fin1r rfl rfl ⟨rfl, hS.mutOf (by repeat (first | exact List.Mem.head _ | apply List.Mem.tail))⟩
  · have hR : D.rename p r = (D.may p 1, D) := by unfold Dk.rename; rw [if_pos he]
    rw [hR]
    repeat' (first
      | (show WL _ _ _ _ _ _ _; first
        | refine WL.pure rfl rfl rfl rfl ?_
        | refine WL.nil ?_
        | (refine WL.calls hS rfl rfl (may_c p 1 (hS.holds (dkC q mb lb D) (by repeat (first | exact List.Mem.head _ | apply List.Mem.tail))).1 hl) rfl rfl rfl ?_; rintro v w rfl hS))
      | (show WC _ _ _ _ _ _; first
        | refine WC.seq ?_
        | refine WC.region ?_
        | refine WC.skip ?_
        | refine WC.ret ?_
        | refine WC.condT rfl (decide_eq_true (by first | with_reducible assumption | omega)) ?_
        | refine WC.condF rfl (decide_eq_false (by first | with_reducible assumption | omega)) ?_)
      | refine seqQ_n ?_
      | refine seqQ_r ?_)
    exact fin1r rfl rfl ⟨rfl, hS.mutOf (by repeat (first | exact List.Mem.head _ | apply List.Mem.tail))⟩
end Go.Proofs.YtccfiohagbneaaaGreatDoor

/- What is proved: what a builder of texts (strings.Builder) does. Conditions: no more than 2^40 bytes. -/
set_option linter.unusedSimpArgs false
set_option linter.unusedVariables false
namespace Go.Proofs.YtccfiohagbneaaaGreatDoor
open Go Go.J Go.RowKit

def sbD (b : Nat) (p A : Option Addr) (n cap : Nat) (s : List UInt8) : List Chunk := [.box b 199 [.pointer p, .slice A n cap], .own (.slice A n cap) 5 1 n (byteC s)]
/-- a builder that has been used -/
def sbU (b : Nat) (s : List UInt8) (D : List Chunk) : Prop := ∃ A n cap, D = sbD b (some ⟨b, 0, none⟩) A n cap s ∧ (A = none ∨ cap ≠ 0)
def sbφ (b : Nat) (s : List UInt8) (D : List Chunk) : Prop := (D = sbD b none none 0 0 [] ∧ s = []) ∨ sbU b s D
abbrev sbC (b : Nat) (s : List UInt8) (fp : List Nat) : Chunk := objC (sbφ b s) fp
abbrev sbK (b : Nat) (s : List UInt8) (fp : List Nat) : Chunk := objC (sbU b s) fp

set_option maxHeartbeats 4000000 in
set_option maxRecDepth 100000 in
theorem bcheck_c (b : Nat) (s : List UInt8) (fp : List Nat) (w0 : World) (hc : (sbC b s fp).holds w0) (hi : inB (sbC b s fp) w0) : Cal Tryz.prog 183 [.pointer (some ⟨b, 0, none⟩)] w0
    (fun v w' => v = .tuple #[] ∧ ∃ fp', Mut w0 w' (sbC b s fp) (sbK b s fp')) := by
  refine Cal.mkM hc hi (by kernel_rfl) Tryz.func183 rfl rfl fun hS => ?_
  have hne : ExtIs Tryz.prog 214 Extern.AbiNoEscape.same := ⟨_, Tryz.func214, by kernel_rfl, by kernel_rfl, by kernel_rfl, by kernel_rfl⟩
  obtain ⟨D, hφ, hfp, hS⟩ := hS.objOpen
  rcases hφ with ⟨rfl, rfl⟩ | ⟨A, n, cap, rfl, hA⟩
  · replace hS : St w0 (sbC b [] fp).fp w0 [.box b 199 [.pointer none, .slice none 0 0], .own (.slice none 0 0) 5 1 0 (byteC [])] _ := hS
    repeat' (first
      | (show WL _ _ _ _ _ _ _; first
        | refine WL.pure rfl rfl rfl rfl ?_
        | refine WL.nil ?_
        | refine WL.load hS rfl rfl (LdOk.box (by repeat (first | exact List.Mem.head _ | apply List.Mem.tail)) rfl) rfl rfl rfl ?_
        | (refine WL.toU hS rfl rfl (by kernel_rfl) rfl (by repeat (first | exact List.Mem.head _ | apply List.Mem.tail)) (by decide) rfl rfl rfl ?_)
        | (refine WL.ext rfl rfl hne (run_noEsc _) rfl rfl rfl ?_)
        | (refine WL.fromU hS rfl (by kernel_rfl) rfl rfl (by repeat (first | exact List.Mem.head _ | apply List.Mem.tail)) (by kernel_rfl) rfl rfl rfl ?_)
        | (refine WL.store hS rfl rfl rfl (by repeat (first | exact StB.here rfl | apply StB.there)) rfl rfl rfl ?_; intro w hS))
      | (show WC _ _ _ _ _ _; first
        | refine WC.seq ?_
        | refine WC.region ?_
        | refine WC.condT rfl (by with_reducible rfl) ?_)
      | refine seqQ_n ?_)
    exact fin0n rfl ⟨rfl, _, (St.objClose (H := []) (φ := sbU b []) (D := sbD b (some ⟨b, 0, none⟩) none 0 0 []) hS ⟨_, _, _, rfl, .inl rfl⟩).mutOf (List.Mem.head _)⟩
  · replace hS : St w0 (sbC b s fp).fp w0 [.box b 199 [.pointer (some ⟨b, 0, none⟩), .slice A n cap], .own (.slice A n cap) 5 1 n (byteC s)] _ := hS
    repeat' (first
      | (show WL _ _ _ _ _ _ _; first
        | refine WL.pure rfl rfl rfl rfl ?_
        | refine WL.nil ?_
        | refine WL.load hS rfl rfl (LdOk.box (by repeat (first | exact List.Mem.head _ | apply List.Mem.tail)) rfl) rfl rfl rfl ?_
        | (refine WL.neSame rfl rfl rfl rfl rfl rfl rfl ?_))
      | (show WC _ _ _ _ _ _; first
        | refine WC.seq ?_
        | refine WC.region ?_
        | refine WC.skip ?_
        | refine WC.condF rfl (by with_reducible rfl) ?_)
      | refine seqQ_n ?_)
    exact fin0n rfl ⟨rfl, _, (St.objClose (H := []) (φ := sbU b s) (D := sbD b (some ⟨b, 0, none⟩) A n cap s) hS ⟨_, _, _, rfl, hA⟩).mutOf (List.Mem.head _)⟩
set_option maxHeartbeats 4000000 in
set_option maxRecDepth 100000 in
theorem bwrite_c (q : Nat) (s : List UInt8) (fp : List Nat) (c : UInt8) (w0 : World) (hc : (sbC q s fp).holds w0) (hi : inB (sbC q s fp) w0) (hl : s.length ≤ 1099511627776) : Cal Tryz.prog 201 [.pointer (some ⟨q, 0, none⟩), .int .u8 (c.toNat : Int)] w0
    (fun v w' => v = .nilIface ∧ ∃ fp', Mut w0 w' (sbC q s fp) (sbC q (s ++ [c]) fp')) := by
  refine Cal.mkM hc hi (by kernel_rfl) Tryz.func201 rfl rfl fun hS => ?_
  repeat' (first
    | (show WL _ _ _ _ _ _ _; first
      | refine WL.pure rfl rfl rfl rfl ?_
      | refine WL.nil ?_
      | refine WL.load hS rfl rfl (LdOk.box (by repeat (first | exact List.Mem.head _ | apply List.Mem.tail)) rfl) rfl rfl rfl ?_
      | (refine WL.callG rfl rfl (bcheck_c q s fp _ (hS.holds _ (List.Mem.head _)) (hS.inB_of (List.Mem.head _))) rfl rfl rfl ?_; rintro v w ⟨rfl, fp', hmut⟩; have hS := hS.mut hmut .here; obtain ⟨D, ⟨A, n, cap, rfl, hA⟩, hfp, hS⟩ := hS.objOpen; replace hS : St w0 _ w [.box q 199 [.pointer (some ⟨q, 0, none⟩), .slice A n cap], .own (.slice A n cap) 5 1 n (byteC s)] _ := hS; have hlen := (hS.own_len (List.Mem.tail _ (List.Mem.head _))).1; rw [byteC_len, Nat.mul_one] at hlen)
      | (refine WL.app hS rfl rfl rfl rfl (.box (by repeat (first | exact List.Mem.head _ | apply List.Mem.tail))) rfl rfl (fun A' cap' => by repeat (first | exact Repl.here | apply Repl.there)) (by omega) rfl rfl rfl ?_; intro A2 cap2 w hS)
      | (refine WL.store hS rfl rfl rfl (by repeat (first | exact StB.here rfl | apply StB.there)) rfl rfl rfl ?_; intro w hS)
      | (refine WL.slit hS rfl rfl rfl rfl rfl ?_; intro w b hS))
    | (show WC _ _ _ _ _ _; first
      | refine WC.seq ?_
      | refine WC.region ?_
      | refine WC.ret ?_)
    | refine seqQ_n ?_)
  exact fin1r rfl rfl ⟨rfl, _, (St.objClose (H := []) (φ := sbφ q (s ++ [c])) (D := sbD q (some ⟨q, 0, none⟩) A2 (n + 1) cap2 (s ++ [c])) (by rw [sbD, byteC_app]; exact hS.drop) (.inr ⟨_, _, _, rfl, .inr (by have := (hS.own_len (List.Mem.tail _ (List.Mem.tail _ (List.Mem.head _)))).2.2; omega)⟩)).mutOf (List.Mem.head _)⟩

set_option maxHeartbeats 4000000 in
set_option maxRecDepth 100000 in
/-- what the text is: the builder is behind it of no more use -/
theorem bstring_c (q : Nat) (s : List UInt8) (fp : List Nat) (w0 : World) (hc : (sbC q s fp).holds w0) (hi : inB (sbC q s fp) w0) (hl : s.length ≤ 1099511627776) : Cal Tryz.prog 146 [.pointer (some ⟨q, 0, none⟩)] w0
    (fun v w' => v = str s ∧ Upd fp w0 w') := by
  refine Cal.mkM hc hi (by kernel_rfl) Tryz.func146 rfl rfl fun hS => ?_
  obtain ⟨D, hφ, hfp, hS⟩ := hS.objOpen
  obtain ⟨p, A, n, cap, rfl, hA⟩ : ∃ p A n cap, D = sbD q p A n cap s ∧ (A = none ∨ cap ≠ 0) := by
    rcases hφ with ⟨rfl, rfl⟩ | ⟨A, n, cap, rfl, hA⟩
    · exact ⟨_, _, _, _, rfl, .inl rfl⟩
    · exact ⟨_, _, _, _, rfl, hA⟩
  replace hS : St w0 (sbC q s fp).fp w0 [.box q 199 [.pointer p, .slice A n cap], .own (.slice A n cap) 5 1 n (byteC s)] _ := hS
  have hlen := (hS.own_len (List.Mem.tail _ (List.Mem.head _))).1
  rw [byteC_len, Nat.mul_one] at hlen
  subst hlen
  replace hS := hS.perm (.swap _ _ _)
  clear hφ
  repeat' (first
    | (show WL _ _ _ _ _ _ _; first
      | refine WL.pure rfl rfl rfl rfl ?_
      | refine WL.nil ?_)
    | (show WC _ _ _ _ _ _; first
      | refine WC.seq ?_
      | refine WC.region ?_)
    | refine seqQ_n ?_)
  refine WC.drawC hS [0,1,2,3,5,6,7,8,9,11] [0,1,2,3,5,6,7,8,9,4,10,11] (by kernel_rfl) (by kernel_rfl) ?_
  clear hS
  intro w hS hM
  repeat' (first
    | (show WC _ _ _ _ _ _; first
      | refine WC.ret ?_)
    | (show WD _ _ _ _ _ _ _ _ _; first
      | refine WD.pure rfl rfl rfl rfl rfl ?_
      | refine WD.nil ?_
      | refine WD.load rfl rfl (LdOk.box (by repeat (first | exact List.Mem.head _ | apply List.Mem.tail)) rfl) rfl rfl rfl rfl ?_
      | (refine WD.sliceData hS hM rfl rfl hA rfl rfl rfl rfl rfl ?_)
      | (refine WD.unsStr hS (More.refl _ _) rfl rfl rfl rfl (by omega) rfl rfl rfl rfl rfl ?_; clear hS hM; intro w hS))
    | refine seqQ_n ?_)
  exact fin1r rfl rfl ⟨rfl, hS.upd⟩
end Go.Proofs.YtccfiohagbneaaaGreatDoor

/- What is proved: plain facts on numbers and texts as bytes. Conditions: none. -/
set_option linter.unusedSimpArgs false
set_option linter.unusedVariables false
namespace Go.J
open Go

/-- seven bits a byte, the lowest first -/
def putN (n : Nat) : List UInt8 := if h : n < 128 then [UInt8.ofNat n] else UInt8.ofNat (n % 128 + 128) :: putN (n / 128)
termination_by n
decreasing_by omega
theorem putN_small {n : Nat} (h : n < 128) : putN n = [UInt8.ofNat n] := by rw [putN, dif_pos h]
theorem putN_big {n : Nat} (h : ¬ n < 128) : putN n = UInt8.ofNat (n % 128 + 128) :: putN (n / 128) := by rw [putN, dif_neg h]
theorem putN_ne (n : Nat) : putN n ≠ [] := by
  by_cases h : n < 128
  · rw [putN_small h]; simp
  · rw [putN_big h]; simp
theorem putN_len : ∀ (k n : Nat), n < 128 ^ (k + 1) → (putN n).length ≤ k + 1
  | k, n, h => by
    by_cases hn : n < 128
    · rw [putN_small hn]; simp
    · rw [putN_big hn]
      cases k with
      | zero => simp at h; omega
      | succ k =>
        have := putN_len k (n / 128) (by
          rw [Nat.div_lt_iff_lt_mul (by omega)]
          rwa [Nat.pow_succ] at h)
        simp only [List.length_cons]; omega
theorem putN_len10 {n : Nat} (h : n < 18446744073709551616) : (putN n).length ≤ 10 := putN_len 9 n (by
  have : (128 : Nat) ^ (9 + 1) = 1180591620717411303424 := by decide
  omega)
def textE (s : List UInt8) : List UInt8 := putN s.length ++ s
theorem ofNat_toNat {n : Nat} (h : n < 256) : (UInt8.ofNat n).toNat = n := by simp; omega
theorem byte_low {n : Nat} (h : n < 128) : IntKind.u8.wrap (n : Int) = (((UInt8.ofNat n).toNat : Nat) : Int) := by
  rw [IntKind.wrap_u8', ofNat_toNat (by omega)]; omega
set_option maxRecDepth 100000 in
theorem or128 : ∀ a, a < 256 → a ||| 128 = a % 128 + 128 := by decide
theorem byte_high (n : Nat) : bits .or .u8 (IntKind.u8.wrap (n : Int)) 128 = (((UInt8.ofNat (n % 128 + 128)).toNat : Nat) : Int) := by
  have e : IntKind.u8.wrap (n : Int) = ((n % 256 : Nat) : Int) := by rw [IntKind.wrap_u8']; omega
  have := u8_or_nat (n % 256) 128 (by omega) (by omega)
  rw [e]
  refine Eq.trans this ?_
  rw [or128 _ (by omega), ofNat_toNat (by omega)]
  omega
theorem shrI_nat (k : IntKind) (n m : Nat) (h : m ≤ k.bits) : shrI k (n : Int) (m : Int) = ((n / 2 ^ m : Nat) : Int) := by
  unfold shrI
  have : min ((m : Int).toNat) k.bits = m := by simp; omega
  rw [this, Int.fdiv_eq_ediv_of_nonneg _ (by exact Int.le_of_lt (Int.pow_pos (by decide)))]
  rw [Int.natCast_ediv, Int.natCast_pow]; rfl
theorem shr7 (n : Nat) : shrI .u64 (n : Int) 7 = ((n / 128 : Nat) : Int) := shrI_nat .u64 n 7 (by decide)

/-! ## read back -/
/-- the number that stands at the head of the bytes, how many bytes it has, the error -/
def varE : List UInt8 → Nat → Nat → Nat × Nat × Int
  | [], _, _ => (0, 0, 2)
  | c :: t, i, x => if i = 9 ∧ 1 < c.toNat then (0, 0, 3)
    else if 128 ≤ c.toNat then varE t (i + 1) (x + c.toNat % 128 * 128 ^ i)
    else if c.toNat = 0 ∧ 0 < i then (0, 0, 3)
    else (x + c.toNat % 128 * 128 ^ i, i + 1, 0)
theorem pow128 (i : Nat) : 128 ^ i = 2 ^ (7 * i) := by rw [Nat.pow_mul]
theorem pow128_9 : 128 ^ 9 = 9223372036854775808 := by decide
theorem pow128_le {i : Nat} (h : i ≤ 8) : 128 ^ i ≤ 72057594037927936 := by
  have := Nat.pow_le_pow_right (n := 128) (by omega) h
  have e : 128 ^ 8 = 72057594037927936 := by decide
  omega
theorem u64_var {x i : Nat} {c : UInt8} (hx : x < 128 ^ i) (hi : i ≤ 9) (h9 : i = 9 → c.toNat ≤ 1) :
    bits .or .u64 (x : Int) (shlI .u64 (IntKind.u64.wrap (bits .and .u8 (c.toNat : Int) 127)) (7 * (i : Int))) = ((x + c.toNat % 128 * 128 ^ i : Nat) : Int) := by
  have hc := c.toNat_lt
  have h1 : bits .and .u8 (c.toNat : Int) 127 = ((c.toNat % 128 : Nat) : Int) := by
    have := u8_and_nat c.toNat 127 (by omega) (by omega)
    rw [nat_mask7] at this
    exact this
  have hw : ∀ m : Nat, m < 18446744073709551616 → IntKind.u64.wrap (m : Int) = (m : Int) := fun m hm => by
    simp only [IntKind.wrap, IntKind.bits, IntKind.signed, Bool.false_and, Bool.false_eq_true, if_false]; omega
  have hb : c.toNat % 128 * 128 ^ i < 18446744073709551616 := by
    rcases Nat.lt_or_ge i 9 with h | h
    · have := pow128_le (i := i) (by omega)
      have h2 : c.toNat % 128 * 128 ^ i ≤ 127 * 128 ^ i := Nat.mul_le_mul_right _ (by omega)
      omega
    · obtain rfl : i = 9 := by omega
      have := h9 rfl
      have h2 : c.toNat % 128 * 128 ^ 9 ≤ 1 * 128 ^ 9 := Nat.mul_le_mul_right _ (by omega)
      rw [pow128_9] at h2 ⊢
      omega
  rw [h1, hw _ (by omega)]
  have h3 : shlI .u64 ((c.toNat % 128 : Nat) : Int) (7 * (i : Int)) = ((c.toNat % 128 * 128 ^ i : Nat) : Int) := by
    unfold shlI
    have e : min (7 * (i : Int)).toNat (IntKind.u64.bits) = 7 * i := by
      have : IntKind.u64.bits = 64 := rfl
      rw [this]; omega
    rw [e, show (2 : Int) ^ (7 * i) = ((2 ^ (7 * i) : Nat) : Int) by rw [Int.natCast_pow]; rfl, ← pow128, ← Int.natCast_mul]
    exact hw _ hb
  rw [h3]
  have hx64 : x < 18446744073709551616 := by
    rcases Nat.lt_or_ge i 9 with h | h
    · have := pow128_le (i := i) (by omega); omega
    · obtain rfl : i = 9 := by omega
      rw [pow128_9] at hx; omega
  rw [u64_or_nat _ _ hx64 hb, Nat.or_comm, nat_join (7 * i) _ _ (by rw [pow128]; exact Nat.mul_mod_left _ _) (by rw [← pow128]; exact hx), Nat.add_comm]
theorem varE_put : ∀ (k m : Nat), m ≤ k → ∀ (i x : Nat) (t : List UInt8), (m ≠ 0 ∨ i = 0) → i ≤ 9 → m * 128 ^ i < 18446744073709551616 → varE (putN m ++ t) i x = (x + m * 128 ^ i, i + (putN m).length, 0)
  | k, m, hk, i, x, t, h0, hi, hm => by
    have h9 : i = 9 → m ≤ 1 := by
      rintro rfl
      rw [pow128_9] at hm; omega
    by_cases h : m < 128
    · rw [putN_small h]
      simp only [List.singleton_append, varE, ofNat_toNat (show m < 256 by omega)]
      rw [if_neg (by omega), if_neg (by omega), if_neg (by omega), Nat.mod_eq_of_lt h]
      rfl
    · have hm0 : m / 128 < m := by omega
      cases k with
      | zero => omega
      | succ k =>
        rw [putN_big h]
        simp only [List.cons_append, varE, ofNat_toNat (show m % 128 + 128 < 256 by omega)]
        have hi9 : i ≠ 9 := fun e => by have := h9 e; omega
        rw [if_neg (by omega), if_pos (by omega)]
        have e1 : m / 128 * 128 ^ (i + 1) ≤ m * 128 ^ i := by
          rw [Nat.pow_succ, Nat.mul_comm (128 ^ i) 128, ← Nat.mul_assoc]
          exact Nat.mul_le_mul_right _ (by omega)
        rw [varE_put k (m / 128) (by omega) (i + 1) _ t (.inl (by omega)) (by omega) (by omega)]
        have e2 : (m % 128 + 128) % 128 = m % 128 := by omega
        have e3 : m % 128 * 128 ^ i + m / 128 * 128 ^ (i + 1) = m * 128 ^ i := by
          rw [Nat.pow_succ, Nat.mul_comm (128 ^ i) 128, ← Nat.mul_assoc, ← Nat.add_mul]
          congr 1; omega
        simp only [List.length_cons, Prod.mk.injEq, and_true]
        refine ⟨by rw [e2, Nat.add_assoc, e3], by omega⟩
theorem varE_ok : ∀ (t : List UInt8) (i x : Nat), x < 128 ^ i → i ≤ 9 → (varE t i x).2.2 = 0 → (varE t i x).1 < 18446744073709551616 ∧ (varE t i x).2.1 ≤ i + t.length
  | [], i, x, hx, hi, h => by simp [varE] at h
  | c :: t, i, x, hx, hi, h => by
    have hp : 0 < 128 ^ i := Nat.pow_pos (by omega)
    simp only [varE] at h ⊢
    split at h
    · simp at h
    · rename_i h9
      rw [if_neg h9]
      split at h
      · rename_i hc
        rw [if_pos hc]
        have hi8 : i ≤ 8 := by
          rcases Nat.lt_or_ge i 9 with h2 | h2
          · omega
          · exact absurd ⟨by omega, by omega⟩ h9
        have hn : x + c.toNat % 128 * 128 ^ i < 128 ^ (i + 1) := by
          rw [Nat.pow_succ]
          have : c.toNat % 128 * 128 ^ i ≤ 127 * 128 ^ i := Nat.mul_le_mul_right _ (by omega)
          omega
        have := varE_ok t (i + 1) _ hn (by omega) h
        simp only [List.length_cons]
        omega
      · rename_i hc
        rw [if_neg hc]
        split at h
        · simp at h
        · rename_i hz
          rw [if_neg hz]
          simp only [List.length_cons]
          refine ⟨?_, by omega⟩
          rcases Nat.lt_or_ge i 9 with h2 | h2
          · have := pow128_le (i := i) (by omega)
            have : c.toNat % 128 * 128 ^ i ≤ 127 * 128 ^ i := Nat.mul_le_mul_right _ (by omega)
            omega
          · obtain rfl : i = 9 := by omega
            have h1 : c.toNat ≤ 1 := by
              rcases Nat.lt_or_ge 1 c.toNat with h3 | h3
              · exact absurd ⟨rfl, h3⟩ h9
              · exact h3
            have : c.toNat % 128 * 128 ^ 9 ≤ 1 * 128 ^ 9 := Nat.mul_le_mul_right _ (by omega)
            rw [pow128_9] at *
            omega
end Go.J

/- What is proved: what the package wire writes. Conditions: as each names them. -/
set_option linter.unusedSimpArgs false
set_option linter.unusedVariables false
namespace Go.Proofs.YtccfiohagbneaaaGreatDoor
open Go Go.J Go.RowKit

set_option maxHeartbeats 4000000 in
set_option maxRecDepth 100000 in
theorem put_c (n : Nat) (w0 : World) (hn : n < 18446744073709551616) : Cal Tryz.prog 177 [.int .u64 (n : Int)] w0 (fun v w' => Upd [] w0 w' ∧ v = str (putN n)) := by
  refine Cal.mk' (by kernel_rfl) Tryz.func177 rfl rfl fun hS => ?_
  have hmax := putN_len10 hn
  repeat' (first
    | (show WL _ _ _ _ _ _ _; first
      | refine WL.pure rfl rfl rfl rfl ?_
      | refine WL.nil ?_
      | (refine WL.alloc hS rfl rfl rfl rfl rfl rfl ?_; intro w b hS))
    | (show WC _ _ _ _ _ _; first
      | refine WC.seq ?_
      | refine WC.region ?_
      | refine WC.block ?_)
    | refine seqQ_n ?_)
  revert b
  intro q hS
  have hS := (hS.nilRow 5 1).perm (.swap _ _ _)
  have hS := St.objClose (H := []) (φ := sbφ q []) (D := sbD q none none 0 0 []) hS (.inl ⟨rfl, rfl⟩)
  refine WC.loop (σ := Nat × List UInt8 × List Nat) [3] (fun (m, s, fp) => [(0, .int .u64 (m : Int))]) (fun (m, s, fp) w => m ≤ n ∧ s ++ putN m = putN n ∧ St w0 [] w [sbC q s fp] _) (fun (m, _) => m) (n, [], _) ⟨Nat.le_refl _, rfl, hS⟩ ⟨rfl, trivial⟩ ?_
  clear hS
  rintro ⟨m, s, fp⟩ g w ⟨hm, hs, hS⟩
  by_cases h : m < 128
  · rw [putN_small h] at hs
    have hb := byte_low h
    have hl : s.length < 10 := by rw [← hs] at hmax; simp at hmax; omega
    repeat' (first
      | (show WL _ _ _ _ _ _ _; first
        | refine WL.pure rfl rfl rfl rfl ?_
        | refine WL.nil ?_
        | (refine WL.callG rfl (by rw [← hb]; rfl) (bwrite_c q s fp (UInt8.ofNat m) _ (hS.holds _ (List.Mem.head _)) (hS.inB_of (List.Mem.head _)) (by omega)) rfl rfl rfl ?_; rintro v w ⟨rfl, fp', hmut⟩; have hS := hS.mut hmut .here; rw [hs] at hS)
        | (refine WL.callG rfl rfl (bstring_c q (putN n) fp' _ (hS.holds _ (List.Mem.head _)) (hS.inB_of (List.Mem.head _)) (by omega)) rfl rfl rfl ?_; rintro v w ⟨rfl, hu⟩; have hS := hS.lose hu))
      | (show WC _ _ _ _ _ _; first
        | refine WC.seq ?_
        | refine WC.region ?_
        | refine WC.exit ?_
        | refine WC.ret ?_
        | refine WC.condF rfl (decide_eq_false (by first | with_reducible assumption | omega)) ?_)
      | refine seqQ_n ?_
      | refine seqQ_x ?_
      | refine blkQ_hit rfl ?_
      | refine rndQ_x ?_)
    exact fin1r rfl rfl ⟨hS.upd, rfl⟩
  · rw [putN_big h] at hs
    have hb := byte_high m
    have hq := shr7 m
    have hl : s.length < 10 := by rw [← hs] at hmax; simp at hmax; omega
    repeat' (first
      | (show WL _ _ _ _ _ _ _; first
        | refine WL.pure rfl rfl rfl rfl ?_
        | refine WL.nil ?_
        | (refine WL.callG rfl (by rw [← hb]; rfl) (bwrite_c q s fp (UInt8.ofNat (m % 128 + 128)) _ (hS.holds _ (List.Mem.head _)) (hS.inB_of (List.Mem.head _)) (by omega)) rfl rfl rfl ?_; rintro v w ⟨rfl, fp', hmut⟩; have hS := hS.mut hmut .here)
        | (refine WL.shr rfl rfl rfl (by decide) rfl rfl rfl ?_; rw [hq]))
      | (show WC _ _ _ _ _ _; first
        | refine WC.seq ?_
        | refine WC.region ?_
        | refine WC.block ?_
        | refine WC.skip ?_
        | refine WC.condT rfl (decide_eq_true (by first | with_reducible assumption | omega)) ?_)
      | refine seqQ_n ?_
      | refine blkQ_n ?_)
    exact rndQ_n (m / 128, s ++ [UInt8.ofNat (m % 128 + 128)], fp') ⟨by omega, by rw [← hs]; simp, hS⟩ (by show m / 128 < m; omega) ⟨rfl, trivial⟩ ⟨rfl, trivial⟩

set_option maxHeartbeats 4000000 in
set_option maxRecDepth 100000 in
theorem wtext_c (s : List UInt8) (w0 : World) (hl : s.length ≤ 1099511627776) : Cal Tryz.prog 134 [str s] w0 (fun v w' => Upd [] w0 w' ∧ v = str (textE s)) := by
  refine Cal.mk' (by kernel_rfl) Tryz.func134 rfl rfl fun hS => ?_
  have hp := putN_len10 (n := s.length) (by omega)
  have hw : IntKind.u64.wrap (s.length : Int) = (s.length : Int) := by
    simp only [IntKind.wrap, IntKind.bits, IntKind.signed, Bool.false_and, Bool.false_eq_true, if_false]; omega
  repeat' (first
    | (show WL _ _ _ _ _ _ _; first
      | refine WL.pure rfl rfl rfl rfl ?_
      | refine WL.nil ?_
      | (refine WL.calls hS rfl (congrArg (fun z => [Value.int .u64 z]) hw) (put_c s.length _ (by omega)) rfl rfl rfl ?_; rintro v w rfl hS)
      | refine WL.cat rfl rfl rfl (by omega) rfl rfl rfl ?_)
    | (show WC _ _ _ _ _ _; first
      | refine WC.seq ?_
      | refine WC.region ?_
      | refine WC.ret ?_)
    | refine seqQ_n ?_)
  exact fin1r rfl rfl ⟨hS.upd, rfl⟩
end Go.Proofs.YtccfiohagbneaaaGreatDoor

/- What is proved: what a reader of the package wire reads. Conditions: no more than 2^40 bytes. -/
set_option linter.unusedSimpArgs false
set_option linter.unusedVariables false
namespace Go.Proofs.YtccfiohagbneaaaGreatDoor
open Go Go.J Go.RowKit

/-- a reader's cells -/
abbrev rdCells (s : List UInt8) (p : Nat) : List Value := [str s, .int .i64 (p : Int)]
def RdAt (r : Nat) (s : List UInt8) (p : Nat) (w : World) : Prop := w.heap[r]? = some (.cells ⟨rdCells s p⟩ 243 (0, 0))
def varV (p : Nat) (r : Nat × Nat × Int) : Value := if r.2.2 = 0 then .tuple #[.int .u64 (r.1 : Int), .int .i64 ((p + r.2.1 : Nat) : Int), .int .i64 0] else .tuple #[.int .u64 0, .int .i64 0, .int .i64 r.2.2]

theorem varV_ok {p n u : Nat} {a b : Int} (ha : a = (n : Int)) (hb : b = ((p + u : Nat) : Int)) : Value.tuple #[.int .u64 a, .int .i64 b, .int .i64 0] = varV p (n, u, 0) := by subst ha hb; simp [varV]
set_option maxHeartbeats 8000000 in
set_option maxRecDepth 100000 in
theorem varint_c (r : Nat) (s : List UInt8) (p : Nat) (w0 : World) (h : RdAt r s p w0) (hp : p ≤ s.length) (hl : s.length ≤ 1099511627776) : Cal Tryz.prog 184 [.pointer (some ⟨r, 0, none⟩)] w0
    (fun v w' => Upd [] w0 w' ∧ v = varV p (varE (s.drop p) 0 0)) := by
  refine Cal.mk' (by kernel_rfl) Tryz.func184 rfl rfl fun hS => ?_
  have hrd : w0.heap[r]? = some (.cells ⟨[str s, .int .i64 (p : Int)]⟩ 243 (0, 0)) := h
  clear h
  repeat' (first
    | (show WL _ _ _ _ _ _ _; first
      | refine WL.pure rfl rfl rfl rfl ?_
      | refine WL.nil ?_)
    | (show WC _ _ _ _ _ _; first
      | refine WC.seq ?_
      | refine WC.region ?_
      | refine WC.block ?_)
    | refine seqQ_n ?_)
  refine WC.loop (σ := Nat × Nat) [0] (fun (i, x) => [(5, .int .u64 (x : Int)), (6, .int .i64 (i : Int))]) (fun (i, x) w => i ≤ 9 ∧ p + i ≤ s.length ∧ x < 128 ^ i ∧ varE (s.drop p) 0 0 = varE (s.drop (p + i)) i x ∧ St w0 [] w [] [⟨w0, Old w0⟩]) (fun (i, _) => 10 - i) (0, 0) ⟨by omega, hp, by decide, rfl, hS⟩ ⟨rfl, rfl, trivial⟩ ?_
  clear hS
  rintro ⟨i, x⟩ g w ⟨hi, hpi, hx, hv, hS⟩
  rw [hv]
  clear hv
  by_cases hlt : p + i < s.length
  · have hd : s.drop (p + i) = s[p + i] :: s.drop (p + i + 1) := List.drop_eq_getElem_cons hlt
    have hc : s[p + i]? = some s[p + i] := List.getElem?_eq_getElem hlt
    rw [hd]
    generalize s[p + i] = c at *
    have hc256 := c.toNat_lt
    by_cases h9 : i = 9 ∧ 1 < c.toNat
    · have hres : varE (c :: s.drop (p + i + 1)) i x = (0, 0, 3) := by rw [varE, if_pos h9]
      rw [hres]
      obtain ⟨h9, h91⟩ := h9
      subst h9
      repeat' (first
        | (show WL _ _ _ _ _ _ _; first
          | refine WL.pure rfl rfl rfl rfl ?_
          | refine WL.nil ?_)
        | (show WC _ _ _ _ _ _; first
          | refine WC.seq ?_
          | refine WC.region ?_
          | refine WC.block ?_
          | refine WC.skip ?_
          | refine WC.ret ?_
          | (show WC _ _ (Code.region _ (List.toArray [_, _, _, _, _, _, _, _, _, _, _, _]) true) _ _ _; refine WC.drawS hS [0, 1, 2, 3, 4, 5, 6, 7, 8, 9, 10, 11] [0, 1, 2, 3, 4, 5, 6, 7, 8, 9, 10, 11] (by kernel_rfl) (by kernel_rfl) ?_; clear hS; intro w hS hM)
          | refine WC.condT rfl (decide_eq_true (by first | with_reducible assumption | omega)) ?_
          | refine WC.condF rfl (decide_eq_false (by first | with_reducible assumption | omega)) ?_)
        | (show WD _ _ _ _ _ _ _ _ _; first
          | refine WD.pure rfl rfl rfl rfl rfl ?_
          | refine WD.nil ?_
          | refine WD.add rfl rfl rfl (by omega) rfl rfl rfl rfl ?_
          | (refine WD.load rfl rfl (LdOk.old hrd (by repeat (first | exact List.Mem.head _ | apply List.Mem.tail)) rfl) rfl rfl rfl rfl ?_)
          | (refine WD.idxS (j := p + 9) (c := c) rfl rfl rfl rfl hc rfl rfl rfl rfl ?_))
        | refine seqQ_n ?_
        | refine seqQ_r ?_
        | refine blkQ_r ?_
        | refine rndQ_r ?_)
      exact fin3r rfl rfl rfl rfl ⟨hS.upd, rfl⟩
    · have h91 : i = 9 → c.toNat ≤ 1 := fun e => by
        rcases Nat.lt_or_ge 1 c.toNat with h3 | h3
        · exact absurd ⟨e, h3⟩ h9
        · exact h3
      have huv := u64_var (c := c) hx hi h91
      have hn9 : ¬ ((i : Int) = 9 ∧ (c.toNat : Int) > 1) := fun e => h9 ⟨by omega, by omega⟩
      by_cases h128 : 128 ≤ c.toNat
      · have hi8 : i ≤ 8 := by
          rcases Nat.lt_or_ge i 9 with h2 | h2
          · omega
          · have := h91 (by omega); omega
        have hres : varE (c :: s.drop (p + i + 1)) i x = varE (s.drop (p + (i + 1))) (i + 1) (x + c.toNat % 128 * 128 ^ i) := by rw [varE, if_neg h9, if_pos h128]; rfl
        have hxn : x + c.toNat % 128 * 128 ^ i < 128 ^ (i + 1) := by
          rw [Nat.pow_succ]
          have : c.toNat % 128 * 128 ^ i ≤ 127 * 128 ^ i := Nat.mul_le_mul_right _ (by omega)
          omega
        rw [hres]
        clear hres h9 h91 hn9
        repeat' (first
          | (show WL _ _ _ _ _ _ _; first
            | refine WL.pure rfl rfl rfl rfl ?_
            | refine WL.nil ?_
            | refine WL.add rfl rfl rfl (by omega) rfl rfl rfl ?_
            | (refine WL.mul rfl rfl rfl (by omega) rfl rfl rfl ?_)
            | (refine WL.shl rfl rfl rfl (by omega) rfl rfl rfl ?_)
            | refine WL.skip rfl rfl rfl ?_
            | ((fail_if_success (refine WL.wanted rfl ?_)); refine WL.guard rfl rfl rfl (fun h => ?_) (fun h => ?_) <;> (try simp only [Classical.not_not, Bool.not_eq_true', Bool.not_eq_false', Bool.not_eq_eq_eq_not, Bool.not_true, Bool.not_false, beq_iff_eq, beq_eq_false_iff_ne, ne_eq, decide_eq_decide, decide_eq_true_eq, decide_eq_false_iff_not, Bool.and_eq_true, Bool.or_eq_true, Bool.and_eq_false_iff, Bool.or_eq_false_iff] at h) <;> (try (exfalso; first | omega | contradiction))))
          | (show WC _ _ _ _ _ _; first
            | refine WC.seq ?_
            | refine WC.region ?_
            | refine WC.block ?_
            | refine WC.skip ?_
            | refine WC.exit ?_
            | (show WC _ _ (Code.region _ (List.toArray [_, _, _, _, _, _, _, _, _, _, _, _]) true) _ _ _; refine WC.drawS hS [0, 1, 2, 3, 4, 5, 6, 7, 8, 9, 10, 11] [0, 1, 2, 3, 4, 5, 6, 7, 8, 9, 10, 11] (by kernel_rfl) (by kernel_rfl) ?_; clear hS; intro w hS hM)
            | refine WC.condF rfl (by with_reducible rfl) ?_
            | refine WC.condT rfl (decide_eq_true (by first | with_reducible assumption | omega)) ?_
            | refine WC.condF rfl (decide_eq_false (by first | with_reducible assumption | omega)) ?_)
          | (show WD _ _ _ _ _ _ _ _ _; first
            | refine WD.pure rfl rfl rfl rfl rfl ?_
            | refine WD.nil ?_
            | refine WD.add rfl rfl rfl (by omega) rfl rfl rfl rfl ?_
            | (refine WD.load rfl rfl (LdOk.old hrd (by repeat (first | exact List.Mem.head _ | apply List.Mem.tail)) rfl) rfl rfl rfl rfl ?_)
            | (refine WD.idxS (j := p + i) (c := c) rfl rfl rfl rfl hc rfl rfl rfl rfl ?_))
          | refine seqQ_n ?_
          | refine seqQ_x ?_
          | refine blkQ_hit rfl ?_)
        exact rndQ_n (i + 1, x + c.toNat % 128 * 128 ^ i) ⟨by omega, by omega, hxn, rfl, hS⟩ (by show 10 - (i + 1) < 10 - i; omega) ⟨congrArg (Value.int .u64) huv, vint (by omega), trivial⟩ ⟨rfl, trivial⟩
      · by_cases h0 : c.toNat = 0 ∧ 0 < i
        · have hres : varE (c :: s.drop (p + i + 1)) i x = (0, 0, 3) := by rw [varE, if_neg h9, if_neg h128, if_pos h0]
          rw [hres]
          obtain ⟨h0, h00⟩ := h0
          clear hres h9 h91 hn9
          repeat' (first
            | (show WL _ _ _ _ _ _ _; first
              | refine WL.pure rfl rfl rfl rfl ?_
              | refine WL.nil ?_
              | (refine WL.mul rfl rfl rfl (by omega) rfl rfl rfl ?_)
              | (refine WL.shl rfl rfl rfl (by omega) rfl rfl rfl ?_)
              | refine WL.skip rfl rfl rfl ?_
              | ((fail_if_success (refine WL.wanted rfl ?_)); refine WL.guard rfl rfl rfl (fun h => ?_) (fun h => ?_) <;> (try simp only [Classical.not_not, Bool.not_eq_true', Bool.not_eq_false', Bool.not_eq_eq_eq_not, Bool.not_true, Bool.not_false, beq_iff_eq, beq_eq_false_iff_ne, ne_eq, decide_eq_decide, decide_eq_true_eq, decide_eq_false_iff_not, Bool.and_eq_true, Bool.or_eq_true, Bool.and_eq_false_iff, Bool.or_eq_false_iff] at h) <;> (try (exfalso; first | omega | contradiction))))
            | (show WC _ _ _ _ _ _; first
              | refine WC.seq ?_
              | refine WC.region ?_
              | refine WC.block ?_
              | refine WC.skip ?_
              | refine WC.ret ?_
              | (show WC _ _ (Code.region _ (List.toArray [_, _, _, _, _, _, _, _, _, _, _, _]) true) _ _ _; refine WC.drawS hS [0, 1, 2, 3, 4, 5, 6, 7, 8, 9, 10, 11] [0, 1, 2, 3, 4, 5, 6, 7, 8, 9, 10, 11] (by kernel_rfl) (by kernel_rfl) ?_; clear hS; intro w hS hM)
              | refine WC.condF rfl (by with_reducible rfl) ?_
              | refine WC.condT rfl (decide_eq_true (by first | with_reducible assumption | omega)) ?_
              | refine WC.condF rfl (decide_eq_false (by first | with_reducible assumption | omega)) ?_)
            | (show WD _ _ _ _ _ _ _ _ _; first
              | refine WD.pure rfl rfl rfl rfl rfl ?_
              | refine WD.nil ?_
              | refine WD.add rfl rfl rfl (by omega) rfl rfl rfl rfl ?_
              | (refine WD.load rfl rfl (LdOk.old hrd (by repeat (first | exact List.Mem.head _ | apply List.Mem.tail)) rfl) rfl rfl rfl rfl ?_)
              | (refine WD.idxS (j := p + i) (c := c) rfl rfl rfl rfl hc rfl rfl rfl rfl ?_))
            | refine seqQ_n ?_
            | refine seqQ_r ?_
            | refine blkQ_r ?_
            | refine rndQ_r ?_)
          all_goals exact fin3r rfl rfl rfl rfl ⟨hS.upd, rfl⟩
        · have hres : varE (c :: s.drop (p + i + 1)) i x = (x + c.toNat % 128 * 128 ^ i, i + 1, 0) := by rw [varE, if_neg h9, if_neg h128, if_neg h0]
          rw [hres]
          by_cases hz : c.toNat = 0
          · have hi0 : i = 0 := by
              rcases Nat.eq_zero_or_pos i with h | h
              · exact h
              · exact absurd ⟨hz, h⟩ h0
            clear hres h9 h91 hn9 h0
            repeat' (first
              | (show WL _ _ _ _ _ _ _; first
                | refine WL.pure rfl rfl rfl rfl ?_
                | refine WL.nil ?_
                | (refine WL.mul rfl rfl rfl (by omega) rfl rfl rfl ?_)
                | (refine WL.shl rfl rfl rfl (by omega) rfl rfl rfl ?_)
                | refine WL.skip rfl rfl rfl ?_
                | ((fail_if_success (refine WL.wanted rfl ?_)); refine WL.guard rfl rfl rfl (fun h => ?_) (fun h => ?_) <;> (try simp only [Classical.not_not, Bool.not_eq_true', Bool.not_eq_false', Bool.not_eq_eq_eq_not, Bool.not_true, Bool.not_false, beq_iff_eq, beq_eq_false_iff_ne, ne_eq, decide_eq_decide, decide_eq_true_eq, decide_eq_false_iff_not, Bool.and_eq_true, Bool.or_eq_true, Bool.and_eq_false_iff, Bool.or_eq_false_iff] at h) <;> (try (exfalso; first | omega | contradiction))))
              | (show WC _ _ _ _ _ _; first
                | refine WC.seq ?_
                | refine WC.region ?_
                | refine WC.block ?_
                | refine WC.skip ?_
                | refine WC.ret ?_
                | (show WC _ _ (Code.region _ (List.toArray [_, _, _, _, _, _, _, _, _, _, _, _]) true) _ _ _; refine WC.drawS hS [0, 1, 2, 3, 4, 5, 6, 7, 8, 9, 10, 11] [0, 1, 2, 3, 4, 5, 6, 7, 8, 9, 10, 11] (by kernel_rfl) (by kernel_rfl) ?_; clear hS; intro w hS hM)
                | (show WC _ _ (Code.region _ (List.toArray [_, _, _, _, _, _, _, _, _, _, _]) true) _ _ _; refine WC.drawS hS [0, 1, 2, 3, 4, 5, 6, 7, 8, 9, 10] [0, 1, 2, 3, 4, 5, 6, 7, 8, 9, 10] (by kernel_rfl) (by kernel_rfl) ?_; clear hS; intro w hS hM)
                | refine WC.condF rfl (by with_reducible rfl) ?_
                | refine WC.condF rfl (decide_eq_false (by first | with_reducible assumption | omega)) ?_)
              | (show WD _ _ _ _ _ _ _ _ _; first
                | refine WD.pure rfl rfl rfl rfl rfl ?_
                | refine WD.nil ?_
                | refine WD.add rfl rfl rfl (by omega) rfl rfl rfl rfl ?_
                | (refine WD.load rfl rfl (LdOk.old hrd (by repeat (first | exact List.Mem.head _ | apply List.Mem.tail)) rfl) rfl rfl rfl rfl ?_)
                | (refine WD.idxS (j := p + i) (c := c) rfl rfl rfl rfl hc rfl rfl rfl rfl ?_))
              | refine seqQ_n ?_
              | refine seqQ_r ?_
              | refine blkQ_r ?_
              | refine rndQ_r ?_)
            all_goals exact fin3r rfl rfl rfl rfl ⟨hS.upd, varV_ok huv (by omega)⟩
          · clear hres hn9 h0
            rcases Nat.lt_or_ge i 9 with h99 | h99
            · clear h9 h91
              repeat' (first
                | (show WL _ _ _ _ _ _ _; first
                  | refine WL.pure rfl rfl rfl rfl ?_
                  | refine WL.nil ?_
                  | (refine WL.mul rfl rfl rfl (by omega) rfl rfl rfl ?_)
                  | (refine WL.shl rfl rfl rfl (by omega) rfl rfl rfl ?_)
                  | refine WL.skip rfl rfl rfl ?_
                  | ((fail_if_success (refine WL.wanted rfl ?_)); refine WL.guard rfl rfl rfl (fun h => ?_) (fun h => ?_) <;> (try simp only [Classical.not_not, Bool.not_eq_true', Bool.not_eq_false', Bool.not_eq_eq_eq_not, Bool.not_true, Bool.not_false, beq_iff_eq, beq_eq_false_iff_ne, ne_eq, decide_eq_decide, decide_eq_true_eq, decide_eq_false_iff_not, Bool.and_eq_true, Bool.or_eq_true, Bool.and_eq_false_iff, Bool.or_eq_false_iff] at h) <;> (try (exfalso; first | omega | contradiction))))
                | (show WC _ _ _ _ _ _; first
                  | refine WC.seq ?_
                  | refine WC.region ?_
                  | refine WC.block ?_
                  | refine WC.skip ?_
                  | refine WC.ret ?_
                  | (show WC _ _ (Code.region _ (List.toArray [_, _, _, _, _, _, _, _, _, _, _, _]) true) _ _ _; refine WC.drawS hS [0, 1, 2, 3, 4, 5, 6, 7, 8, 9, 10, 11] [0, 1, 2, 3, 4, 5, 6, 7, 8, 9, 10, 11] (by kernel_rfl) (by kernel_rfl) ?_; clear hS; intro w hS hM)
                  | (show WC _ _ (Code.region _ (List.toArray [_, _, _, _, _, _, _, _, _, _, _]) true) _ _ _; refine WC.drawS hS [0, 1, 2, 3, 4, 5, 6, 7, 8, 9, 10] [0, 1, 2, 3, 4, 5, 6, 7, 8, 9, 10] (by kernel_rfl) (by kernel_rfl) ?_; clear hS; intro w hS hM)
                  | refine WC.condF rfl (by with_reducible rfl) ?_
                  | refine WC.condF rfl (decide_eq_false (by first | with_reducible assumption | omega)) ?_)
                | (show WD _ _ _ _ _ _ _ _ _; first
                  | refine WD.pure rfl rfl rfl rfl rfl ?_
                  | refine WD.nil ?_
                  | refine WD.add rfl rfl rfl (by omega) rfl rfl rfl rfl ?_
                  | (refine WD.load rfl rfl (LdOk.old hrd (by repeat (first | exact List.Mem.head _ | apply List.Mem.tail)) rfl) rfl rfl rfl rfl ?_)
                  | (refine WD.idxS (j := p + i) (c := c) rfl rfl rfl rfl hc rfl rfl rfl rfl ?_))
                | refine seqQ_n ?_
                | refine seqQ_r ?_
                | refine blkQ_r ?_
                | refine rndQ_r ?_)
              all_goals exact fin3r rfl rfl rfl rfl ⟨hS.upd, varV_ok huv (by omega)⟩
            · have h92 := h91 (by omega)
              clear h9 h91
              repeat' (first
                | (show WL _ _ _ _ _ _ _; first
                  | refine WL.pure rfl rfl rfl rfl ?_
                  | refine WL.nil ?_
                  | (refine WL.mul rfl rfl rfl (by omega) rfl rfl rfl ?_)
                  | (refine WL.shl rfl rfl rfl (by omega) rfl rfl rfl ?_)
                  | refine WL.skip rfl rfl rfl ?_
                  | ((fail_if_success (refine WL.wanted rfl ?_)); refine WL.guard rfl rfl rfl (fun h => ?_) (fun h => ?_) <;> (try simp only [Classical.not_not, Bool.not_eq_true', Bool.not_eq_false', Bool.not_eq_eq_eq_not, Bool.not_true, Bool.not_false, beq_iff_eq, beq_eq_false_iff_ne, ne_eq, decide_eq_decide, decide_eq_true_eq, decide_eq_false_iff_not, Bool.and_eq_true, Bool.or_eq_true, Bool.and_eq_false_iff, Bool.or_eq_false_iff] at h) <;> (try (exfalso; first | omega | contradiction))))
                | (show WC _ _ _ _ _ _; first
                  | refine WC.seq ?_
                  | refine WC.region ?_
                  | refine WC.block ?_
                  | refine WC.skip ?_
                  | refine WC.ret ?_
                  | (show WC _ _ (Code.region _ (List.toArray [_, _, _, _, _, _, _, _, _, _, _, _]) true) _ _ _; refine WC.drawS hS [0, 1, 2, 3, 4, 5, 6, 7, 8, 9, 10, 11] [0, 1, 2, 3, 4, 5, 6, 7, 8, 9, 10, 11] (by kernel_rfl) (by kernel_rfl) ?_; clear hS; intro w hS hM)
                  | (show WC _ _ (Code.region _ (List.toArray [_, _, _, _, _, _, _, _, _, _, _]) true) _ _ _; refine WC.drawS hS [0, 1, 2, 3, 4, 5, 6, 7, 8, 9, 10] [0, 1, 2, 3, 4, 5, 6, 7, 8, 9, 10] (by kernel_rfl) (by kernel_rfl) ?_; clear hS; intro w hS hM)
                  | refine WC.condF rfl (by with_reducible rfl) ?_
                  | refine WC.condF rfl (decide_eq_false (by first | with_reducible assumption | omega)) ?_)
                | (show WD _ _ _ _ _ _ _ _ _; first
                  | refine WD.pure rfl rfl rfl rfl rfl ?_
                  | refine WD.nil ?_
                  | refine WD.add rfl rfl rfl (by omega) rfl rfl rfl rfl ?_
                  | (refine WD.load rfl rfl (LdOk.old hrd (by repeat (first | exact List.Mem.head _ | apply List.Mem.tail)) rfl) rfl rfl rfl rfl ?_)
                  | (refine WD.idxS (j := p + i) (c := c) rfl rfl rfl rfl hc rfl rfl rfl rfl ?_))
                | refine seqQ_n ?_
                | refine seqQ_r ?_
                | refine blkQ_r ?_
                | refine rndQ_r ?_)
              all_goals exact fin3r rfl rfl rfl rfl ⟨hS.upd, varV_ok huv (by omega)⟩
  · have hd : s.drop (p + i) = [] := List.drop_of_length_le (by omega)
    rw [hd]
    have hres : varE [] i x = (0, 0, 2) := rfl
    rw [hres]
    repeat' (first
      | (show WL _ _ _ _ _ _ _; first
        | refine WL.pure rfl rfl rfl rfl ?_
        | refine WL.nil ?_)
      | (show WC _ _ _ _ _ _; first
        | refine WC.seq ?_
        | refine WC.region ?_
        | refine WC.block ?_
        | refine WC.ret ?_
        | (show WC _ _ (Code.region _ (List.toArray [_, _, _, _, _, _, _, _, _, _, _, _]) true) _ _ _; refine WC.drawS hS [0, 1, 2, 3, 4, 5, 6, 7, 8, 9, 10, 11] [0, 1, 2, 3, 4, 5, 6, 7, 8, 9, 10, 11] (by kernel_rfl) (by kernel_rfl) ?_; clear hS; intro w hS hM)
        | refine WC.condT rfl (decide_eq_true (by first | with_reducible assumption | omega)) ?_)
      | (show WD _ _ _ _ _ _ _ _ _; first
        | refine WD.pure rfl rfl rfl rfl rfl ?_
        | refine WD.nil ?_
        | refine WD.add rfl rfl rfl (by omega) rfl rfl rfl rfl ?_
        | (refine WD.load rfl rfl (LdOk.old hrd (by repeat (first | exact List.Mem.head _ | apply List.Mem.tail)) rfl) rfl rfl rfl rfl ?_))
      | refine seqQ_n ?_
      | refine seqQ_r ?_
      | refine blkQ_r ?_
      | refine rndQ_r ?_)
    exact fin3r rfl rfl rfl rfl ⟨hS.upd, rfl⟩

/-! a number from 0 on, and a text -/
def uintE (t : List UInt8) : Nat × Nat × Int := if (varE t 0 0).2.2 = 0 then (if (varE t 0 0).1 < 9223372036854775808 then varE t 0 0 else (0, 0, 3)) else (0, 0, (varE t 0 0).2.2)
/-- the text at the head of the bytes, how many bytes it has with its length, the error -/
def rtextE (t : List UInt8) : List UInt8 × Nat × Int := if (uintE t).2.2 = 0 then (if (uintE t).1 + (uintE t).2.1 ≤ t.length then ((t.drop (uintE t).2.1).take (uintE t).1, (uintE t).1 + (uintE t).2.1, 0) else ([], 0, 2)) else ([], 0, (uintE t).2.2)
abbrev rdC (r : Nat) (s : List UInt8) (p : Nat) : Chunk := .box r 243 (rdCells s p)

set_option maxHeartbeats 8000000 in
set_option maxRecDepth 100000 in
theorem left_c (r : Nat) (s : List UInt8) (p : Nat) (w0 : World) (h : RdAt r s p w0) (hp : p ≤ s.length) (hl : s.length ≤ 1099511627776) : Cal Tryz.prog 175 [.pointer (some ⟨r, 0, none⟩)] w0
    (fun v w' => Upd [] w0 w' ∧ v = .int .i64 ((s.length : Int) - p)) := by
  refine Cal.mk' (by kernel_rfl) Tryz.func175 rfl rfl fun hS => ?_
  have hrd : w0.heap[r]? = some (.cells ⟨[str s, .int .i64 (p : Int)]⟩ 243 (0, 0)) := h
  clear h
  repeat' (first
    | (show WL _ _ _ _ _ _ _; first
      | refine WL.pure rfl rfl rfl rfl ?_
      | refine WL.nil ?_)
    | (show WC _ _ _ _ _ _; first
      | refine WC.seq ?_
      | refine WC.region ?_
      | refine WC.skip ?_
      | refine WC.ret ?_
      | (show WC _ _ (Code.region _ (List.toArray [_, _, _, _, _, _, _, _, _, _, _]) true) _ _ _; refine WC.drawS hS [0, 1, 2, 3, 4, 5, 6, 7, 8, 9, 10] [0, 1, 2, 3, 4, 5, 6, 7, 8, 9, 10] (by kernel_rfl) (by kernel_rfl) ?_; clear hS; intro w hS hM)
      | refine WC.condF rfl (by with_reducible rfl) ?_)
    | (show WD _ _ _ _ _ _ _ _ _; first
      | refine WD.pure rfl rfl rfl rfl rfl ?_
      | refine WD.nil ?_
      | refine WD.sub rfl rfl rfl (by omega) rfl rfl rfl rfl ?_
      | (refine WD.load rfl rfl (LdOk.old hrd (by repeat (first | exact List.Mem.head _ | apply List.Mem.tail)) rfl) rfl rfl rfl rfl ?_))
    | refine seqQ_n ?_)
  exact fin1r rfl rfl ⟨hS.upd, rfl⟩

set_option maxHeartbeats 8000000 in
set_option maxRecDepth 100000 in
theorem uint_c (r : Nat) (s : List UInt8) (p : Nat) (w0 : World) (h : RdAt r s p w0) (hi : inB (rdC r s p) w0) (hp : p ≤ s.length) (hl : s.length ≤ 1099511627776) : Cal Tryz.prog 148 [.pointer (some ⟨r, 0, none⟩)] w0
    (fun v w' => v = .tuple #[.int .i64 ((uintE (s.drop p)).1 : Int), .int .i64 (uintE (s.drop p)).2.2] ∧ Mut w0 w' (rdC r s p) (rdC r s (p + (uintE (s.drop p)).2.1))) := by
  refine Cal.mkM (k := rdC r s p) h hi (by kernel_rfl) Tryz.func148 rfl rfl fun hS => ?_
  have hok := varE_ok (s.drop p) 0 0 (by decide) (by omega)
  have hlen : (s.drop p).length = s.length - p := by simp
  rcases hv : varE (s.drop p) 0 0 with ⟨n, u, e⟩
  have hu : uintE (s.drop p) = if e = 0 then (if n < 9223372036854775808 then (n, u, 0) else (0, 0, 3)) else (0, 0, e) := by unfold uintE; rw [hv]; by_cases he : e = 0 <;> simp [he]
  rw [hv] at hok
  rw [hu]
  clear hu
  by_cases he : e = 0
  · subst he
    obtain ⟨hn, hul⟩ := hok rfl
    dsimp only at hn hul
    clear hok
    rw [if_pos rfl]
    have hvv : varV p (n, u, 0) = .tuple #[.int .u64 (n : Int), .int .i64 ((p + u : Nat) : Int), .int .i64 0] := by simp [varV]
    have hsh : shrI .u64 (n : Int) 63 = ((n / 9223372036854775808 : Nat) : Int) := shrI_nat .u64 n 63 (by decide)
    by_cases h63 : n < 9223372036854775808
    · rw [if_pos h63]
      have h0 : n / 9223372036854775808 = 0 := by omega
      rw [h0] at hsh
      repeat' (first
        | (show WL _ _ _ _ _ _ _; first
          | refine WL.pure rfl rfl rfl rfl ?_
          | refine WL.nil ?_
          | (refine WL.callG rfl rfl (varint_c r s p _ (hS.holds _ (List.Mem.head _)) hp hl) rfl rfl rfl ?_; rintro v w ⟨hu, rfl⟩; have hS := hS.upd0 hu; rw [hv, hvv])
          | (refine WL.shr rfl rfl rfl (by decide) rfl rfl rfl ?_; rw [hsh])
          | refine WL.conv64 rfl rfl rfl (by omega) rfl rfl rfl ?_
          | (refine WL.store hS rfl rfl rfl (by repeat (first | exact StB.here rfl | apply StB.there)) rfl rfl rfl ?_; intro w hS))
        | (show WC _ _ _ _ _ _; first
          | refine WC.seq ?_
          | refine WC.region ?_
          | refine WC.skip ?_
          | refine WC.ret ?_
          | refine WC.condF rfl (by with_reducible rfl) ?_
          | refine WC.condF rfl (by decide) ?_)
        | refine seqQ_n ?_)
      all_goals exact fin2r rfl rfl rfl ⟨rfl, hS.mutOf (List.Mem.head _)⟩
    · rw [if_neg h63]
      have h0 : n / 9223372036854775808 = 1 := by omega
      rw [h0] at hsh
      repeat' (first
        | (show WL _ _ _ _ _ _ _; first
          | refine WL.pure rfl rfl rfl rfl ?_
          | refine WL.nil ?_
          | (refine WL.callG rfl rfl (varint_c r s p _ (hS.holds _ (List.Mem.head _)) hp hl) rfl rfl rfl ?_; rintro v w ⟨hu, rfl⟩; have hS := hS.upd0 hu; rw [hv, hvv])
          | (refine WL.shr rfl rfl rfl (by decide) rfl rfl rfl ?_; rw [hsh]))
        | (show WC _ _ _ _ _ _; first
          | refine WC.seq ?_
          | refine WC.region ?_
          | refine WC.skip ?_
          | refine WC.ret ?_
          | refine WC.condF rfl (by with_reducible rfl) ?_
          | refine WC.condT rfl (by decide) ?_)
        | refine seqQ_n ?_
        | refine seqQ_r ?_)
      all_goals exact fin2r rfl rfl rfl ⟨rfl, hS.mutOf (List.Mem.head _)⟩
  · rw [if_neg he]
    have hvv : varV p (n, u, e) = .tuple #[.int .u64 0, .int .i64 0, .int .i64 e] := by simp [varV, he]
    clear hok
    repeat' (first
      | (show WL _ _ _ _ _ _ _; first
        | refine WL.pure rfl rfl rfl rfl ?_
        | refine WL.nil ?_
        | (refine WL.callG rfl rfl (varint_c r s p _ (hS.holds _ (List.Mem.head _)) hp hl) rfl rfl rfl ?_; rintro v w ⟨hu, rfl⟩; have hS := hS.upd0 hu; rw [hv, hvv])
        | refine WL.skip rfl rfl rfl ?_
        | ((fail_if_success (refine WL.wanted rfl ?_)); refine WL.guard rfl rfl rfl (fun h => ?_) (fun h => ?_) <;> (try simp only [Classical.not_not, Bool.not_eq_true', Bool.not_eq_false', Bool.not_eq_eq_eq_not, Bool.not_true, Bool.not_false, beq_iff_eq, beq_eq_false_iff_ne, ne_eq, decide_eq_decide, decide_eq_true_eq, decide_eq_false_iff_not, Bool.and_eq_true, Bool.or_eq_true, Bool.and_eq_false_iff, Bool.or_eq_false_iff] at h) <;> (try (exfalso; first | omega | contradiction))))
      | (show WC _ _ _ _ _ _; first
        | refine WC.seq ?_
        | refine WC.region ?_
        | refine WC.skip ?_
        | refine WC.ret ?_
        | refine WC.condF rfl (by with_reducible rfl) ?_
        | refine WC.condT rfl (decide_eq_true (by first | with_reducible assumption | omega)) ?_)
      | refine seqQ_n ?_
      | refine seqQ_r ?_)
    all_goals exact fin2r rfl rfl rfl ⟨rfl, hS.mutOf (List.Mem.head _)⟩
end Go.Proofs.YtccfiohagbneaaaGreatDoor

/- What is proved: what a reader of the package wire reads as a text. Conditions: no more than 2^40 bytes. -/
set_option linter.unusedSimpArgs false
set_option linter.unusedVariables false
namespace Go.Proofs.YtccfiohagbneaaaGreatDoor
open Go Go.J Go.RowKit

theorem uintE_ok (t : List UInt8) (h : (uintE t).2.2 = 0) : (uintE t).1 < 9223372036854775808 ∧ (uintE t).2.1 ≤ t.length := by
  have hok := varE_ok t 0 0 (by decide) (by omega)
  unfold uintE at *
  by_cases h1 : (varE t 0 0).2.2 = 0
  · rw [if_pos h1] at h ⊢
    by_cases h2 : (varE t 0 0).1 < 9223372036854775808
    · rw [if_pos h2]
      exact ⟨h2, by have := (hok h1).2; omega⟩
    · rw [if_neg h2] at h; simp at h
  · rw [if_neg h1] at h; exact absurd h h1
theorem uint_e {r : Nat} {s : List UInt8} {p n u : Nat} {e : Int} (hu : uintE (s.drop p) = (n, u, e)) {w0 : World} (h : RdAt r s p w0) (hi : inB (rdC r s p) w0) (hp : p ≤ s.length) (hl : s.length ≤ 1099511627776) : Cal Tryz.prog 148 [.pointer (some ⟨r, 0, none⟩)] w0
    (fun v w' => v = .tuple #[.int .i64 (n : Int), .int .i64 e] ∧ Mut w0 w' (rdC r s p) (rdC r s (p + u))) := by
  have := uint_c r s p w0 h hi hp hl
  rw [hu] at this
  exact this
set_option maxHeartbeats 4000000 in
set_option maxRecDepth 100000 in
theorem wnew_c (s : List UInt8) (w0 : World) : Cal Tryz.prog 147 [str s] w0 (fun v w' => Upd [] w0 w' ∧ ∃ r, v = .pointer (some ⟨r, 0, none⟩) ∧ New w0 w' (rdC r s 0)) := by
  refine Cal.mk' (by kernel_rfl) Tryz.func147 rfl rfl fun hS => ?_
  repeat' (first
    | (show WL _ _ _ _ _ _ _; first
      | refine WL.pure rfl rfl rfl rfl ?_
      | refine WL.nil ?_
      | (refine WL.box hS rfl rfl rfl rfl rfl ?_; intro w b hS)
      | refine WL.build rfl rfl rfl rfl rfl ?_)
    | (show WC _ _ _ _ _ _; first
      | refine WC.seq ?_
      | refine WC.region ?_
      | refine WC.ret ?_)
    | refine seqQ_n ?_)
  exact fin1r rfl rfl ⟨hS.upd, _, rfl, hS.newOf (List.Mem.head _)⟩
set_option maxHeartbeats 8000000 in
set_option maxRecDepth 100000 in
theorem rtext_c (r : Nat) (s : List UInt8) (p : Nat) (w0 : World) (h : RdAt r s p w0) (hi : inB (rdC r s p) w0) (hp : p ≤ s.length) (hl : s.length ≤ 1099511627776) : Cal Tryz.prog 149 [.pointer (some ⟨r, 0, none⟩)] w0
    (fun v w' => v = .tuple #[str (rtextE (s.drop p)).1, .int .i64 (rtextE (s.drop p)).2.2] ∧ Mut w0 w' (rdC r s p) (rdC r s (p + (rtextE (s.drop p)).2.1))) := by
  refine Cal.mkM (k := rdC r s p) h hi (by kernel_rfl) Tryz.func149 rfl rfl fun hS => ?_
  have hlen : (s.drop p).length = s.length - p := by simp
  have hok := uintE_ok (s.drop p)
  rcases hu : uintE (s.drop p) with ⟨n, u, e⟩
  rw [hu] at hok
  have hr : rtextE (s.drop p) = if e = 0 then (if n + u ≤ (s.drop p).length then (((s.drop p).drop u).take n, n + u, 0) else ([], 0, 2)) else ([], 0, e) := by unfold rtextE; rw [hu]
  rw [hr, hlen]
  clear hr
  by_cases he : e = 0
  · subst he
    obtain ⟨hn, hul⟩ := hok rfl
    dsimp only at hn hul
    rw [hlen] at hul
    clear hok
    rw [if_pos rfl]
    by_cases hnu : n + u ≤ s.length - p
    · rw [if_pos hnu]
      have hcut : (s.take (p + u + n)).drop (p + u) = ((s.drop p).drop u).take n := by rw [List.drop_take, List.drop_drop, show p + u + n - (p + u) = n by omega]
      rw [← hcut]
      have hsub : (((p + u : Nat) : Int) + (n : Int)) - (n : Int) = Int.ofNat (p + u) := by show _ = ((p + u : Nat) : Int); omega
      have hend : ((p + u : Nat) : Int) + (n : Int) = ((p + (n + u) : Nat) : Int) := by omega
      repeat' (first
        | (show WL _ _ _ _ _ _ _; first
          | refine WL.pure rfl rfl rfl rfl ?_
          | refine WL.nil ?_
          | refine WL.load hS rfl rfl (LdOk.box (by repeat (first | exact List.Mem.head _ | apply List.Mem.tail)) rfl) rfl rfl rfl ?_
          | refine WL.add rfl rfl rfl (by omega) rfl rfl rfl ?_
          | (refine WL.callG rfl rfl (uint_e hu (hS.holds _ (List.Mem.head _)) (hS.inB_of (List.Mem.head _)) hp hl) rfl rfl rfl ?_; rintro v w ⟨rfl, hmut⟩; have hS := hS.mut hmut .here; clear hmut)
          | (refine WL.callG rfl rfl (left_c r s (p + u) _ (hS.holds _ (List.Mem.head _)) (by omega) hl) rfl rfl rfl ?_; rintro v w ⟨hup, rfl⟩; have hS := hS.upd0 hup; clear hup)
          | (refine WL.store hS rfl rfl rfl (by repeat (first | exact StB.here rfl | apply StB.there)) rfl rfl rfl ?_; intro w hS))
        | (show WC _ _ _ _ _ _; first
          | refine WC.seq ?_
          | refine WC.region ?_
          | refine WC.skip ?_
          | refine WC.ret ?_
          | (show WC _ _ (Code.region _ (List.toArray [_, _, _, _, _, _, _, _, _, _, _, _, _, _, _, _, _]) true) _ _ _; refine WC.drawS hS [0, 1, 2, 3, 4, 5, 6, 7, 8, 9, 10, 11, 12, 13, 14, 15, 16] [0, 1, 2, 3, 4, 5, 6, 7, 8, 9, 10, 11, 12, 13, 14, 15, 16] (by kernel_rfl) (by kernel_rfl) ?_; clear hS; intro w hS hM)
          | refine WC.condF rfl (by with_reducible rfl) ?_
          | refine WC.condF rfl (by decide) ?_
          | refine WC.condF rfl (decide_eq_false (by first | with_reducible assumption | omega)) ?_)
        | (show WD _ _ _ _ _ _ _ _ _; first
          | refine WD.pure rfl rfl rfl rfl rfl ?_
          | refine WD.nil ?_
          | refine WD.load rfl rfl (LdOk.box (by repeat (first | exact List.Mem.head _ | apply List.Mem.tail)) rfl) rfl rfl rfl rfl ?_
          | refine WD.sub rfl rfl rfl (by omega) rfl rfl rfl rfl ?_
          | (refine WD.midS (a := p + u) (b := p + u + n) rfl rfl rfl (congrArg (Value.int .i64) hsub) rfl (by omega) (by omega) rfl rfl rfl rfl ?_))
        | refine seqQ_n ?_)
      rw [hend] at hS
      exact fin2r rfl rfl rfl ⟨rfl, hS.mutOf (List.Mem.head _)⟩
    · rw [if_neg hnu]
      repeat' (first
        | (show WL _ _ _ _ _ _ _; first
          | refine WL.pure rfl rfl rfl rfl ?_
          | refine WL.nil ?_
          | refine WL.load hS rfl rfl (LdOk.box (by repeat (first | exact List.Mem.head _ | apply List.Mem.tail)) rfl) rfl rfl rfl ?_
          | (refine WL.callG rfl rfl (uint_e hu (hS.holds _ (List.Mem.head _)) (hS.inB_of (List.Mem.head _)) hp hl) rfl rfl rfl ?_; rintro v w ⟨rfl, hmut⟩; have hS := hS.mut hmut .here; clear hmut)
          | (refine WL.callG rfl rfl (left_c r s (p + u) _ (hS.holds _ (List.Mem.head _)) (by omega) hl) rfl rfl rfl ?_; rintro v w ⟨hup, rfl⟩; have hS := hS.upd0 hup; clear hup)
          | (refine WL.store hS rfl rfl rfl (by repeat (first | exact StB.here rfl | apply StB.there)) rfl rfl rfl ?_; intro w hS))
        | (show WC _ _ _ _ _ _; first
          | refine WC.seq ?_
          | refine WC.region ?_
          | refine WC.skip ?_
          | refine WC.ret ?_
          | refine WC.condF rfl (by with_reducible rfl) ?_
          | refine WC.condT rfl (by decide) ?_
          | refine WC.condT rfl (decide_eq_true (by first | with_reducible assumption | omega)) ?_)
        | refine seqQ_n ?_
        | refine seqQ_r ?_)
      all_goals exact fin2r rfl rfl rfl ⟨rfl, hS.mutOf (List.Mem.head _)⟩
  · rw [if_neg he]
    repeat' (first
      | (show WL _ _ _ _ _ _ _; first
        | refine WL.pure rfl rfl rfl rfl ?_
        | refine WL.nil ?_
        | refine WL.load hS rfl rfl (LdOk.box (by repeat (first | exact List.Mem.head _ | apply List.Mem.tail)) rfl) rfl rfl rfl ?_
        | (refine WL.callG rfl rfl (uint_e hu (hS.holds _ (List.Mem.head _)) (hS.inB_of (List.Mem.head _)) hp hl) rfl rfl rfl ?_; rintro v w ⟨rfl, hmut⟩; have hS := hS.mut hmut .here; clear hmut)
        | (refine WL.store hS rfl rfl rfl (by repeat (first | exact StB.here rfl | apply StB.there)) rfl rfl rfl ?_; intro w hS)
        | refine WL.skip rfl rfl rfl ?_
        | ((fail_if_success (refine WL.wanted rfl ?_)); refine WL.guard rfl rfl rfl (fun h => ?_) (fun h => ?_) <;> (try simp only [Classical.not_not, Bool.not_eq_true', Bool.not_eq_false', Bool.not_eq_eq_eq_not, Bool.not_true, Bool.not_false, beq_iff_eq, beq_eq_false_iff_ne, ne_eq, decide_eq_decide, decide_eq_true_eq, decide_eq_false_iff_not, Bool.and_eq_true, Bool.or_eq_true, Bool.and_eq_false_iff, Bool.or_eq_false_iff] at h) <;> (try (exfalso; first | omega | contradiction))))
      | (show WC _ _ _ _ _ _; first
        | refine WC.seq ?_
        | refine WC.region ?_
        | refine WC.skip ?_
        | refine WC.ret ?_
        | refine WC.condF rfl (by with_reducible rfl) ?_
        | refine WC.condT rfl (decide_eq_true (by first | with_reducible assumption | omega)) ?_)
      | refine seqQ_n ?_
      | refine seqQ_r ?_)
    all_goals exact fin2r rfl rfl rfl ⟨rfl, hS.mutOf (List.Mem.head _)⟩
theorem rtext_e {r : Nat} {s : List UInt8} {p u : Nat} {t : List UInt8} {e : Int} (hu : rtextE (s.drop p) = (t, u, e)) {w0 : World} (h : RdAt r s p w0) (hi : inB (rdC r s p) w0) (hp : p ≤ s.length) (hl : s.length ≤ 1099511627776) : Cal Tryz.prog 149 [.pointer (some ⟨r, 0, none⟩)] w0
    (fun v w' => v = .tuple #[str t, .int .i64 e] ∧ Mut w0 w' (rdC r s p) (rdC r s (p + u))) := by
  have := rtext_c r s p w0 h hi hp hl
  rw [hu] at this
  exact this
end Go.Proofs.YtccfiohagbneaaaGreatDoor

/- What is proved: plain facts on checksums. Conditions: none. -/
set_option linter.unusedSimpArgs false
set_option linter.unusedVariables false
namespace Go.J
open Go

/-- one bit of the checksum -/
def crcS (c : Nat) : Nat := (c / 2) ^^^ (if c % 2 = 1 then 3988292384 else 0)
def crcN : Nat → Nat → Nat
  | 0, c => c
  | j + 1, c => crcN j (crcS c)
def crcB (c : Nat) (x : UInt8) : Nat := crcN 8 (c ^^^ x.toNat)
def crcL (c : Nat) (s : List UInt8) : Nat := s.foldl crcB c
def sumE (s : List UInt8) : Nat := 4294967295 ^^^ crcL 4294967295 s
def le4 (n : Nat) : List UInt8 := [UInt8.ofNat (n % 256), UInt8.ofNat (n / 256 % 256), UInt8.ofNat (n / 65536 % 256), UInt8.ofNat (n / 16777216 % 256)]
def packE (s : List UInt8) : List UInt8 := textE s ++ le4 (sumE s)
theorem crcS_lt {c : Nat} (h : c < 4294967296) : crcS c < 4294967296 := by
  unfold crcS
  refine Nat.xor_lt_two_pow (n := 32) (by omega) ?_
  split <;> omega
theorem crcN_lt : ∀ (j : Nat) {c : Nat}, c < 4294967296 → crcN j c < 4294967296
  | 0, _, h => h
  | j + 1, _, h => crcN_lt j (crcS_lt h)
theorem crcB_lt {c : Nat} (h : c < 4294967296) (x : UInt8) : crcB c x < 4294967296 :=
  crcN_lt 8 (Nat.xor_lt_two_pow (n := 32) h (by have := x.toNat_lt; omega))
theorem crcL_lt : ∀ (s : List UInt8) {c : Nat}, c < 4294967296 → crcL c s < 4294967296
  | [], _, h => h
  | x :: s, _, h => crcL_lt s (crcB_lt h x)
theorem sumE_lt (s : List UInt8) : sumE s < 4294967296 := Nat.xor_lt_two_pow (n := 32) (by omega) (crcL_lt s (by omega))
theorem crcL_snoc (c : Nat) (s : List UInt8) (x : UInt8) : crcL c (s ++ [x]) = crcB (crcL c s) x := by unfold crcL; rw [List.foldl_append]; rfl
theorem u32_step {c : Nat} (h : c < 4294967296) : bits .xor .u32 (shrI .u32 (c : Int) 1) (bits .and .u32 3988292384 (IntKind.u32.wrap (0 - bits .and .u32 (c : Int) 1))) = ((crcS c : Nat) : Int) := by
  have h1 : bits .and .u32 (c : Int) 1 = ((c % 2 : Nat) : Int) := by
    have := u32_and_nat c 1 h (by omega)
    rw [Nat.and_one_is_mod] at this
    exact this
  have h2 : shrI .u32 (c : Int) 1 = ((c / 2 : Nat) : Int) := shrI_nat .u32 c 1 (by decide)
  rw [h1, h2, IntKind.wrap_u32']
  unfold crcS
  by_cases hp : c % 2 = 1
  · rw [hp, if_pos rfl]
    have h3 : (0 - ((1 : Nat) : Int)) % 4294967296 = ((4294967295 : Nat) : Int) := by decide
    have h4 := u32_and_nat 3988292384 4294967295 (by omega) (by omega)
    rw [h3, show (3988292384 : Int) = ((3988292384 : Nat) : Int) from rfl, h4]
    have h5 : 3988292384 &&& 4294967295 = 3988292384 := by decide
    rw [h5]
    exact u32_xor_nat _ _ (by omega) (by omega)
  · have hp : c % 2 = 0 := by omega
    rw [hp, if_neg (by omega)]
    have h3 : (0 - ((0 : Nat) : Int)) % 4294967296 = ((0 : Nat) : Int) := by decide
    have h4 := u32_and_nat 3988292384 0 (by omega) (by omega)
    rw [h3, show (3988292384 : Int) = ((3988292384 : Nat) : Int) from rfl, h4, Nat.and_zero]
    exact u32_xor_nat _ _ (by omega) (by omega)
theorem u32_mix {c : Nat} (h : c < 4294967296) (x : UInt8) : bits .xor .u32 (c : Int) (IntKind.u32.wrap (x.toNat : Int)) = ((c ^^^ x.toNat : Nat) : Int) := by
  have hx := x.toNat_lt
  have e : IntKind.u32.wrap (x.toNat : Int) = ((x.toNat : Nat) : Int) := by rw [IntKind.wrap_u32']; omega
  rw [e]
  exact u32_xor_nat _ _ h (by omega)
theorem u32_comp {c : Nat} (h : c < 4294967296) : compI .u32 (c : Int) = ((4294967295 ^^^ c : Nat) : Int) := u32_xor_nat 4294967295 c (by omega) h
theorem le4_bytes {n : Nat} (h : n < 4294967296) : [Value.int .u8 (IntKind.u8.wrap (n : Int)), .int .u8 (IntKind.u8.wrap (shrI .u32 (n : Int) 8)), .int .u8 (IntKind.u8.wrap (shrI .u32 (n : Int) 16)), .int .u8 (IntKind.u8.wrap (shrI .u32 (n : Int) 24))] = byteC (le4 n) := by
  have h1 : shrI .u32 (n : Int) 8 = ((n / 256 : Nat) : Int) := shrI_nat .u32 n 8 (by decide)
  have h2 : shrI .u32 (n : Int) 16 = ((n / 65536 : Nat) : Int) := shrI_nat .u32 n 16 (by decide)
  have h3 : shrI .u32 (n : Int) 24 = ((n / 16777216 : Nat) : Int) := shrI_nat .u32 n 24 (by decide)
  have hw : ∀ m : Nat, IntKind.u8.wrap (m : Int) = (((UInt8.ofNat (m % 256)).toNat : Nat) : Int) := fun m => by rw [IntKind.wrap_u8', ofNat_toNat (by omega)]; omega
  rw [h1, h2, h3, hw, hw, hw, hw]
  rfl
end Go.J
