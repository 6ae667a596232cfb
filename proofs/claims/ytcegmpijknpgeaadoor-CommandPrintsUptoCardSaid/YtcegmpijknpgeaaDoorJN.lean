/- What is proved: the walk's rules for quotients and rests of numbers that are not negative, for loads at a place that is not fixed, and for rows given to callees. Conditions: as each rule names them. -/
import Derived.Test.YtcegmpijknpgeaaDoorJA
set_option linter.unusedSimpArgs false
set_option linter.unusedVariables false
namespace Go.J
open Go Go.RowKit

section
variable {P : Program} {N : Nat} {f : Fr} {w w0 : World} {Q : Post} {ops l : List Oper} {o : Oper} {M : List Nat} {H H' : List Chunk} {Z : List Snap} {ρ : Operand → Value}
theorem run_rem {ty ty' : TypeId} {x y : Operand} {a b : Int} (ho : o.op = .binOp .rem ty x y ty') (hx : ρ x = .int .i64 a) (hy : ρ y = .int .i64 b) (ha : 0 ≤ a) (hb : 0 < b) :
    (execOp ρ o).run P w = .ok (.value (.int .i64 (a % b))) w := by
  have h0 : ¬ b = 0 := by omega
  have h1 : (eqGuard .rem ty x y (.int .i64 a) (.int .i64 b)).run P w = .ok () w := by simp [eqGuard]
  have h2 : (binOp .rem ty (.int .i64 a) (.int .i64 b)).run P w = .ok (.int .i64 (a % b)) w := by simp [binOp, Op.intDiv, h0, Int.tmod_eq_emod_of_nonneg ha]
  simp only [execOp, ho, hx, hy, Sem.run_bind, h1, h2, Result.andThen_ok]
  rfl
theorem run_quo {ty ty' : TypeId} {x y : Operand} {a b : Int} (ho : o.op = .binOp .quo ty x y ty') (hx : ρ x = .int .i64 a) (hy : ρ y = .int .i64 b) (ha : 0 ≤ a) (ha2 : a ≤ 9223372036854775807) (hb : 0 < b) :
    (execOp ρ o).run P w = .ok (.value (.int .i64 (a / b))) w := by
  have h0 : ¬ b = 0 := by omega
  have h1 : (eqGuard .quo ty x y (.int .i64 a) (.int .i64 b)).run P w = .ok () w := by simp [eqGuard]
  have hle : a / b ≤ a := Int.ediv_le_self _ ha
  have hge : 0 ≤ a / b := Int.ediv_nonneg ha (by omega)
  have h2 : (binOp .quo ty (.int .i64 a) (.int .i64 b)).run P w = .ok (.int .i64 (a / b)) w := by
    simp only [binOp, Op.intDiv, h0, if_false, Int.tdiv_eq_ediv_of_nonneg ha, wrap_in (n := a / b) (by omega), ne_eq, not_true]
    rfl
  simp only [execOp, ho, hx, hy, Sem.run_bind, h1, h2, Result.andThen_ok]
  rfl
theorem WL.rem {ty ty' : TypeId} {x y : Operand} {a b : Int} (ho : o.op = .binOp .rem ty x y ty') (hx : ev f x = .int .i64 a) (hy : ev f y = .int .i64 b) (ha : 0 ≤ a) (hb : 0 < b)
    (hg : wants ops f o = true) {d : Nat} (hd : o.dst = some d) (hn : Nat.blt d N = true) (h : WL P N ops l (up f d (.int .i64 (a % b))) w Q) : WL P N ops (o :: l) f w Q :=
  .val hg hd hn (run_rem ho hx hy ha hb) h
theorem WL.quo {ty ty' : TypeId} {x y : Operand} {a b : Int} (ho : o.op = .binOp .quo ty x y ty') (hx : ev f x = .int .i64 a) (hy : ev f y = .int .i64 b) (ha : 0 ≤ a) (ha2 : a ≤ 9223372036854775807) (hb : 0 < b)
    (hg : wants ops f o = true) {d : Nat} (hd : o.dst = some d) (hn : Nat.blt d N = true) (h : WL P N ops l (up f d (.int .i64 (a / b))) w Q) : WL P N ops (o :: l) f w Q :=
  .val hg hd hn (run_quo ho hx hy ha ha2 hb) h
theorem ediv_mul_in {a b : Int} (ha : 0 ≤ a) (hb : 0 < b) (h2 : a ≤ 9223372036854775807) : -9223372036854775808 ≤ a / b * b ∧ a / b * b ≤ 9223372036854775807 := by
  have h1 := Int.mul_ediv_add_emod a b
  have h3 := Int.emod_nonneg a (show b ≠ 0 by omega)
  have h4 := Int.emod_lt_of_pos a hb
  have h5 : a / b * b = b * (a / b) := Int.mul_comm ..
  have h6 : 0 ≤ b * (a / b) := Int.mul_nonneg (by omega) (Int.ediv_nonneg ha (by omega))
  omega
theorem ediv_mul_eq {a b : Int} (ha : 0 ≤ a) (hb : 0 < b) : (a / b * b = a) ↔ (a % b = 0) := by
  have h1 := Int.mul_ediv_add_emod a b
  have h5 : a / b * b = b * (a / b) := Int.mul_comm ..
  omega

def toI64 (P : Program) (s d : TypeId) : Bool := match P.underlying s, P.underlying d with
  | some (.int _), some (.int .i64) => true
  | _, _ => false
theorem run_conv64 {s d : TypeId} {x : Operand} {k : IntKind} {a : Int} (ho : o.op = .convert s d x) (ht : toI64 P s d = true) (hx : ρ x = .int k a) (hr : -9223372036854775808 ≤ a ∧ a ≤ 9223372036854775807) :
    (execOp ρ o).run P w = .ok (.value (.int .i64 a)) w := by
  unfold toI64 at ht
  split at ht
  · rename_i hs hd
    simp [execOp, ho, hx, convert, run_underlying hs, run_underlying hd, Conv.intToInt, Sem.run_bind, wrap_in hr]
  · cases ht
theorem WL.conv64 {s d' : TypeId} {x : Operand} {k : IntKind} {a : Int} (ho : o.op = .convert s d' x) (ht : toI64 P s d' = true) (hx : ev f x = .int k a) (hr : -9223372036854775808 ≤ a ∧ a ≤ 9223372036854775807)
    (hg : wants ops f o = true) {d : Nat} (hd : o.dst = some d) (hn : Nat.blt d N = true) (h : WL P N ops l (up f d (.int .i64 a)) w Q) : WL P N ops (o :: l) f w Q :=
  .val hg hd hn (run_conv64 ho ht hx hr) h
/-- what a cell at a place that isn't fixed holds -/
theorem getV_at {ty : TypeId} {cs : List Value} {off : Nat} {v : Value} (h0 : tyAgg P ty = some false) (h1 : ∃ n, tySize P ty = some n) (h : cs[off]? = some v) (hv : nfv v = some v) : getV P ty cs off = some v := by
  obtain ⟨n, hn⟩ := h1
  unfold getV getV0
  rw [h0, hn]
  simp only [h, nfo, hv]
theorem LdOk.boxAt {b off : Nat} {ty t : TypeId} {cs : List Value} {v : Value} (hm : Chunk.box b t cs ∈ H) (h0 : tyAgg P ty = some false) (h1 : ∃ n, tySize P ty = some n) (h : cs[off]? = some v) (hv : nfv v = some v) : LdOk P H Z ty ⟨b, off, none⟩ v :=
  .box hm (getV_at h0 h1 h hv)

theorem getV_all {ty : TypeId} {cs : List Value} (h0 : tyAgg P ty = some true) (hn : tySize P ty = some cs.length) : getV P ty cs 0 = some (.agg ⟨cs⟩) := by
  unfold getV getV0
  rw [h0, hn]
  simp only [Nat.zero_add, List.drop_zero, List.take_length]
  have : Nat.ble cs.length cs.length = true := Nat.ble_eq_true_of_le (Nat.le_refl _)
  rw [this]
  rfl
theorem LdOk.boxAll {b : Nat} {ty t : TypeId} {cs : List Value} (hm : Chunk.box b t cs ∈ H) (h0 : tyAgg P ty = some true) (hn : tySize P ty = some cs.length) : LdOk P H Z ty ⟨b, 0, none⟩ (.agg ⟨cs⟩) :=
  .box hm (getV_all h0 hn)
theorem LdOk.ownAt {g off0 n cap off : Nat} {e ty : TypeId} {size n' : Nat} {xs : List Value} {v : Value} (hm : Chunk.own (.slice (some ⟨g, off0, none⟩) n cap) e size n' xs ∈ H) (h0 : tyAgg P ty = some false) (h1 : ∃ n, tySize P ty = some n) (h : xs[off]? = some v) (hv : nfv v = some v) : LdOk P H Z ty ⟨g, off0 + off, none⟩ v :=
  .own hm (getV_at h0 h1 h hv)
theorem More.new {H0 : List Chunk} {Z0 : List Snap} {c : Chunk} (hM : More H0 Z0 H Z) (_ : St w0 M w (c :: H) Z) : More H0 Z0 (c :: H) Z := hM.chunk c

/-! ## rows for callees -/
theorem flat_len {α : Type} {enc : α → List Value} {sz : Nat} (hsz : ∀ x, (enc x).length = sz) (l : List α) : (l.flatMap enc).length = l.length * sz := by
  induction l with
  | nil => simp
  | cons a l ih => simp only [List.flatMap_cons, List.length_append, hsz, ih, List.length_cons, Nat.add_mul]; omega
theorem St.ownSl {α : Type} {enc : α → List Value} {sz : Nat} {hsz : ∀ x, (enc x).length = sz} {e : TypeId} {A : Option Addr} {n cap n' : Nat} {l : List α} (h0 : 0 < sz) (hS : St w0 M w H Z) (hm : Chunk.own (.slice A n cap) e sz n' (l.flatMap enc) ∈ H) :
    SlAt (Cod.flat enc sz hsz) (Old w) w A l :=
  SlAt.ofOwn h0 (hS.holds _ hm) fun g hg => (hS.inb _ hm g (by simp [Chunk.fp, hg])).1
theorem St.boxSl {α : Type} {enc : α → List Value} {sz : Nat} {hsz : ∀ x, (enc x).length = sz} {e : TypeId} {b : Nat} (l : List α) (h0 : 0 < sz) (hS : St w0 M w H Z) (hm : Chunk.box b e (l.flatMap enc) ∈ H) (hlen : l.length ≤ maxLen) :
    SlAt (Cod.flat enc sz hsz) (Old w) w (some ⟨b, 0, none⟩) l :=
  SlAt.ofOwn (e := e) (n := l.length) (n' := l.length) (cap := l.length) h0 ⟨flat_len hsz l, .inr ⟨b, 0, l.length, l.flatMap enc, rfl, hS.holds _ hm, Nat.le_refl _, hlen, by rw [Nat.zero_add, flat_len hsz l]; exact Nat.le_refl _, by rw [← flat_len hsz l, List.drop_zero]; exact List.take_length⟩⟩
    fun g hg => by have := (hS.inb _ hm b (by simp [Chunk.fp])).1; simp [Value.ownBlock] at hg; subst hg; exact this
theorem encInt (l : List Int) (x : Int) : l.flatMap (fun n => [Value.int .i64 n]) ++ [.int .i64 x] = (l ++ [x]).flatMap fun n => [Value.int .i64 n] := by simp
end
section
variable {P : Program} {N : Nat} {f : Fr} {w w0 : World} {Q : Post} {ops : List Oper} {M : List Nat} {H0 H H' : List Chunk} {Z0 Z : List Snap} {q : Qs} {l : List Nat} {i : Nat}
theorem WD.conv64 {S : World → Prop} {s d' : TypeId} {x : Operand} {k : IntKind} {a : Int} (ho : (ix ops i).op = .convert s d' x) (ht : toI64 P s d' = true) (hx : ev f x = .int k a) (hr : -9223372036854775808 ≤ a ∧ a ≤ 9223372036854775807)
    (hq : q.contains i = true) (hg : wants ops f (ix ops i) = true) {d : Nat} (hd : (ix ops i).dst = some d) (hn : Nat.blt d N = true) (h : WD P N S ops q l (up f d (.int .i64 a)) w Q) : WD P N S ops q (i :: l) f w Q :=
  .take hq hd hn (.inl ⟨hg, fun _ _ => run_conv64 ho ht hx hr⟩) h
/-- a call, whatever it does -/
theorem WD.callG {fid : FuncId} {xs : List Operand} {ts : Array TypeId} {args : List Value} {R : Value → World → Prop} (ho : (ix ops i).op = .call ⟨.value (.func fid), ⟨xs⟩, ts⟩) (ha : xs.map (ev f) = args)
    (hc : Cal P fid args w R) (hq : q.contains i = false) (hi : Nat.blt i ops.length = true) (hg : wants ops f (ix ops i) = true) {d : Nat} (hd : (ix ops i).dst = some d) (hn : Nat.blt d N = true)
    (h : ∀ v w', R v w' → SS w0 M H0 Z0 w' ∧ WD P N (SS w0 M H0 Z0) ops q l (up f d v) w' Q) : WD P N (SS w0 M H0 Z0) ops q (i :: l) f w Q :=
  .enter hq hi hg hd hn (run_callOp ho ha hc.ok) hc.calls h
end
end Go.J
