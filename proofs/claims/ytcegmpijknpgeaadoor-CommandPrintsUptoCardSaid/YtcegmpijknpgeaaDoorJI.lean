/- What is proved: the walk's rules for results that lie in variables, and elements of array values. Conditions: as each rule names them. -/
import Derived.Test.YtcegmpijknpgeaaDoorJY
set_option linter.unusedSimpArgs false
set_option linter.unusedVariables false
namespace Go.J
open Go Go.RowKit

section
variable {P : Program} {fn : Func} {rs : Array ResultVar} {R : Value → World → Prop} {f : Fr} {w w0 : World} {M : List Nat} {H : List Chunk} {Z : List Snap}
theorem St.loads (hS : St w0 M w H Z) {ty : TypeId} {a : Addr} {v : Value} (hl : LdOk P H Z ty a v) : (loadVar ty a).run P w = .ok v w := hl.out w0 M w [] [] hS
theorem resC1 {t : Tmp} {ty : TypeId} {a : Addr} {v : Value} (hS : St w0 M w H Z) (h : fn.results = #[.cell t ty]) (hx : f t = .pointer (some a)) (hl : LdOk P H Z ty a v) : ∀ b, Is b fn.ntmps f → (results fn b.tmps).run P w = .ok v w := fun b hb => by
  have h1 := hb.get t
  rw [hx] at h1
  have h2 := hS.loads hl
  simp only [Array.getD_eq_getD_getElem?] at h1
  simp [results, h, h1, h2, asAddr, Sem.run_bind]
theorem resC2 {t u : Tmp} {ty : TypeId} {a : Addr} {v : Value} (hS : St w0 M w H Z) (h : fn.results = #[.cell t ty, .tmp u]) (hx : f t = .pointer (some a)) (hl : LdOk P H Z ty a v) : ∀ b, Is b fn.ntmps f → (results fn b.tmps).run P w = .ok (.tuple #[v, f u]) w := fun b hb => by
  have h1 := hb.get t
  rw [hx] at h1
  have h2 := hS.loads hl
  rw [← hb.get u]
  simp only [Array.getD_eq_getD_getElem?] at h1
  simp [results, h, h1, h2, asAddr, Sem.run_bind]
theorem finC1r {t : Tmp} {ty : TypeId} {a : Addr} {v : Value} (hS : St w0 M w H Z) (h : fn.results = #[.cell t ty]) (hx : f t = .pointer (some a)) (hl : LdOk P H Z ty a v) (hR : R v w) : funQ P rs fn (Ret R) .ret f w := by unfold funQ; exact ⟨v, ⟨v, rfl, hR⟩, resC1 hS h hx hl⟩
theorem finC2r {t u : Tmp} {ty : TypeId} {a : Addr} {v v' : Value} (hS : St w0 M w H Z) (h : fn.results = #[.cell t ty, .tmp u]) (hx : f t = .pointer (some a)) (hl : LdOk P H Z ty a v) (hv : nfv (f u) = some v') (hR : R (.tuple #[v, v']) w) : funQ P rs fn (Ret R) .ret f w := by unfold funQ; exact ⟨_, ⟨_, rfl, hR⟩, by rw [nfv_eq hv]; exact resC2 hS h hx hl⟩
end
section
variable {P : Program} {N : Nat} {f : Fr} {w w0 : World} {Q : Post} {ops l : List Oper} {o : Oper} {M : List Nat} {H H' : List Chunk} {Z : List Snap} {ρ : Operand → Value}
theorem run_idxA {t e : TypeId} {x y : Operand} {len size j : Nat} {k : IntKind} {cs : List Value} {v : Value} (ho : o.op = .index t x y) (ht : arrOf P t = some (len, e, size)) (hx : ρ x = .agg ⟨cs⟩) (hy : ρ y = .int k (Int.ofNat j)) (hj : j < len) (hv : partOf P e cs (j * size) = some v) :
    (execOp ρ o).run P w = .ok (.value v) w := by
  have h2 : (0 : Int) ≤ Int.ofNat j ∧ Int.ofNat j < (len : Int) := ⟨Int.natCast_nonneg j, Int.ofNat_lt.2 hj⟩
  have h3 : (Int.ofNat j).toNat = j := rfl
  unfold arrOf at ht
  split at ht
  · rename_i e' hu
    split at ht
    · rename_i n' hn
      simp only [Option.some.injEq, Prod.mk.injEq] at ht
      obtain ⟨rfl, rfl, rfl⟩ := ht
      simp only [execOp, ho, hx, hy, Instr.index, asIntOf, Sem.run_bind, run_underlying hu, Result.andThen_ok, Sem.run_pure, h2, if_true, h3, run_sizeOf hn, run_part hv, and_self]
    · cases ht
  · cases ht
theorem WL.idxA {t e : TypeId} {x y : Operand} {len size j : Nat} {k : IntKind} {cs : List Value} {v : Value} (ho : o.op = .index t x y) (ht : arrOf P t = some (len, e, size)) (hx : ev f x = .agg ⟨cs⟩) (hy : ev f y = .int k (Int.ofNat j)) (hj : j < len) (hv : partOf P e cs (j * size) = some v)
    (hg : wants ops f o = true) {d : Nat} (hd : o.dst = some d) (hn : Nat.blt d N = true) (h : WL P N ops l (up f d v) w Q) : WL P N ops (o :: l) f w Q :=
  .val hg hd hn (run_idxA ho ht hx hy hj hv) h
theorem WL.b2sBox {t t2 : TypeId} {x : Operand} {e e' : TypeId} {b n : Nat} {s : List UInt8} {cs : List Value} (hS : St w0 M w H Z) (ho : o.op = .convert t t2 x) (ht : bytesOf P t = some e) (ht2 : isStr P t2 = true) (hx : ev f x = .slice (some ⟨b, 0, none⟩) n n) (hm : Chunk.box b e' cs ∈ H) (hxs : cs = byteC s) (hl : s.length = n) (hmx : n ≤ 1048576)
    (hg : wants ops f o = true) {d : Nat} (hd : o.dst = some d) (hn : Nat.blt d N = true) (h : WL P N ops l (up f d (str s)) w Q) : WL P N ops (o :: l) f w Q :=
  .val hg hd hn (run_b2s ho ht ht2 hx (hxs ▸ row_box (hS.holds _ hm) (by rw [hxs, byteC_len]; exact hl) (by unfold maxLen; omega))) h
end
end Go.J
