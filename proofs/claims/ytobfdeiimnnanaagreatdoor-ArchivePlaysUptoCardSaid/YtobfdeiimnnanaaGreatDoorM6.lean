/- What is proved: contracts and plain facts that the law leans on (texts put together). Conditions: as each names them. -/
import Derived.Test.YtobfdeiimnnanaaGreatDoorM5
import Derived.Lib.LaidTab
import Derived.Stop.LaidErr
/- What is proved: append that keeps the row before it; chunks by place; rows that are marked and grown. Conditions: as each names them. -/
set_option linter.unusedSimpArgs false
set_option linter.unusedVariables false
namespace Go.J
open Go Go.RowKit

section
variable {P : Program} {N : Nat} {f : Fr} {w w0 : World} {Q : Post} {ops l : List Oper} {o : Oper} {M : List Nat} {H H' : List Chunk} {Z : List Snap} {ρ : Operand → Value}
/-- append: in its place, or as a new row beside the one before -/
theorem run_appK {s x : Operand} {t e : TypeId} {size bytes n m cap c b off : Nat} {A : Option Addr} {xs news : List Value} (ho : o.op = .call ⟨.builtin .append, ⟨[s, x]⟩, ⟨[t, t]⟩⟩) (hi : appOf P t = some (e, size, bytes))
    (hs : ρ s = .slice A n cap) (hx : ρ x = .slice (some ⟨b, off, none⟩) m c) (hown : RowAt w e size (.slice A n cap) n xs) (hnews : ∀ j u, news[j]? = some u → w.cell? ⟨b, off + j, none⟩ = some u) (hl : news.length = m * size) (h1 : one news = true) (hm0 : 0 < m)
    (hb : (n + m) * bytes ≤ 140737488355328) :
    (∃ w', (execOp ρ o).run P w = .ok (.value (.slice A (n + m) cap)) w' ∧ RowAt w' e size (.slice A (n + m) cap) (n + m) (xs ++ news) ∧ Upd (Value.slice A n cap).ownBlock.toList w w') ∨
    (∃ A' cap' w', (execOp ρ o).run P w = .ok (.value (.slice A' (n + m) cap')) w' ∧ New w w' (.own (.slice A' (n + m) cap') e size (n + m) (xs ++ news)) ∧ Upd [] w w') := by
  obtain ⟨i, z, hu, hinfo, hz, rfl, rfl, hzs, h0, h0b⟩ := appOf_spec hi
  have hle : n + m ≤ (n + m) * i.bytes := Nat.le_mul_of_pos_right _ h0b
  have hmx : n + m ≤ maxLen := by unfold maxLen; omega
  have hnews' : ∀ j u, news[j]? = some u → w.cell? ((⟨b, off, none⟩ : Addr).add j) = some u := fun j u hj => by rw [Addr.add_mid]; exact hnews j u hj
  have h1' : ∀ u ∈ news, u.oneCell' = true := by simpa [one] using h1
  have hlen : (xs ++ news).length = (n + m) * i.size := by rw [List.length_append, hown.1, hl, Nat.add_mul]
  have run : ∀ v' w', (Builtin.append_ #[t, t] o.type #[.slice A n cap, .slice (some ⟨b, off, none⟩) m c]).run P w = .ok v' w' → (execOp ρ o).run P w = .ok (.value v') w' := fun v' w' hr => by
    unfold execOp
    simp only [ho, resolve, invoke, builtin, Sem.run_bind, Sem.run_pure, Result.andThen_ok, List.map_toArray, List.map_cons, List.map_nil, hs, hx, hr]
  have grown : ∀ old, old < n + m → New w (w.drew.alloc (.cells (xs.toArray ++ news.toArray ++ Builtin.zeroCells z.cells (grownCap w (n + m) old e - (n + m))) e))
      (.own (.slice (some ⟨w.heap.size, 0, none⟩) (n + m) (grownCap w (n + m) old e)) e i.size (n + m) (xs ++ news)) := by
    intro old ho
    have hge := grownCap_ge w (n + m) old e
    have hcm : grownCap w (n + m) old e ≤ maxLen := grownCap_le_maxLen w (n + m) old e hmx
    refine ⟨⟨hlen, .inr ⟨w.heap.size, 0, _, (xs.toArray ++ news.toArray ++ Builtin.zeroCells z.cells (grownCap w (n + m) old e - (n + m))).toList, rfl, heap_alloc_new w.drew _, hge, hcm, ?_, ?_⟩⟩, fun g hg => ?_⟩
    · simp only [Array.length_toList, Array.size_append, List.size_toArray, size_zeroCells, hzs, hown.1, hl, ← Nat.add_mul, Nat.zero_add]
      exact Nat.mul_le_mul_right _ (by omega)
    · simp only [Array.toList_append, List.append_assoc, List.drop_zero]
      rw [← List.append_assoc, ← hlen]
      exact List.take_left
    · simp only [Chunk.fp, Value.ownBlock, Option.toList, List.mem_singleton] at hg
      subst hg
      simp
  have hup : ∀ (fp : List Nat) (ob : Obj), Upd fp w (w.drew.alloc ob) := fun fp ob => (Upd.drew fp w).trans (.alloc _ _ _)
  rcases hown.2 with ⟨h2, rfl⟩ | ⟨g, og, cap0, cur, h2, hgg, hnc, hcm, hcs, htake⟩
  · simp only [Value.slice.injEq] at h2
    obtain ⟨rfl, _, rfl⟩ := h2
    have hx0 : xs = [] := List.eq_nil_of_length_eq_zero (by simpa using hown.1)
    subst hx0
    have hr := run_append_nil (P := P) w t o.type e i z hu hinfo hz ⟨b, off, none⟩ m c news hl hnews' (by omega) (by omega) (by have hb := hb; simp only [Nat.zero_add] at hb; omega)
    have hgr := grown 0 (by omega)
    simp only [Nat.zero_add, List.nil_append, Array.empty_append] at hgr ⊢
    exact .inr ⟨_, _, _, run _ _ hr, hgr, hup _ _⟩
  · simp only [Value.slice.injEq] at h2
    obtain ⟨rfl, _, rfl⟩ := h2
    by_cases hroom : n + m ≤ cap
    · have hns : (n + m) * i.size ≤ cap * i.size := Nat.mul_le_mul_right _ hroom
      rw [Nat.add_mul] at hns
      have hfit : og + n * i.size + news.length ≤ cur.length := by rw [hl]; omega
      have hr := run_append_off (P := P) t o.type e i hu hinfo g og n cap cur hgg ⟨b, off, none⟩ m c news hl hnews' h1' hroom hfit
      refine .inl ⟨_, run _ _ hr, ⟨hlen, .inr ⟨g, og, cap, _, rfl, heap_setRow hgg, hroom, hcm, ?_, ?_⟩⟩, (Upd.setRow _ _ _).mono (by simp [Value.ownBlock])⟩
      · simp only [List.length_append, List.length_take, List.length_drop]; omega
      · rw [Nat.add_mul, ← hl]
        rw [drop_take_app cur news og (n * i.size) hfit, htake]
    · have holds : ∀ j u, xs[j]? = some u → w.cell? ((⟨g, og, none⟩ : Addr).add j) = some u := fun j u hj => by rw [Addr.add_mid]; exact hown.cells j u hj
      have hr := run_append_grow (P := P) w t o.type e i z hu hinfo hz ⟨g, og, none⟩ n cap xs hown.1 holds ⟨b, off, none⟩ m c news hl hnews' (by omega) (by omega) (growslice_fits (by omega) hb)
      exact .inr ⟨_, _, _, run _ _ hr, grown cap (by omega), hup _ _⟩
theorem WL.appK {s x : Operand} {t e : TypeId} {size bytes n m cap c b off : Nat} {A : Option Addr} {xs news : List Value} (hS : St w0 M w H Z) (ho : o.op = .call ⟨.builtin .append, ⟨[s, x]⟩, ⟨[t, t]⟩⟩) (hi : appOf P t = some (e, size, bytes))
    (hs : ev f s = .slice A n cap) (hx : ev f x = .slice (some ⟨b, off, none⟩) m c) (hnews : RdOk H Z b off news) (hl : news.length = m * size) (h1 : one news = true) (hm0 : 0 < m)
    (hr : Repl (.own (.slice A n cap) e size n xs) (.own (.slice A (n + m) cap) e size (n + m) (xs ++ news)) H H') (hb : (n + m) * bytes ≤ 140737488355328)
    (hg : wants ops f o = true) {d : Nat} (hd : o.dst = some d) (hn : Nat.blt d N = true)
    (ha : ∀ w', St w0 M w' H' Z → WL P N ops l (up f d (.slice A (n + m) cap)) w' Q)
    (hb2 : ∀ A' cap' w', St w0 M w' (.own (.slice A' (n + m) cap') e size (n + m) (xs ++ news) :: H) Z → WL P N ops l (up f d (.slice A' (n + m) cap')) w' Q) : WL P N ops (o :: l) f w Q := by
  rcases run_appK (P := P) (w := w) ho hi hs hx (hS.holds _ hr.mem) (hnews.out w0 M w [] [] hS) hl h1 hm0 hb with ⟨w', hrun, hown', hgr⟩ | ⟨A', cap', w', hrun, hnew, hup⟩
  · exact .val hg hd hn hrun (ha w' (hS.app hr hown' hgr fun g hg => .inl (by cases A <;> exact hg)))
  · exact .val hg hd hn hrun (hb2 A' cap' w' (hS.new hup hnew))
end
section
variable {P : Program} {N : Nat} {f : Fr} {w w0 : World} {Q : Post} {ops : List Oper} {M : List Nat} {H0 H H' : List Chunk} {Z0 Z : List Snap} {q : Qs} {l : List Nat} {i : Nat}
/-- append of the caller's list to a row on which the region does not lean -/
theorem WD.appSl {α : Type} {enc : α → List Value} {sz : Nat} {hsz : ∀ x, (enc x).length = sz} {F : Nat → Prop} {wz : World} {ys : List α} {s x : Operand} {t e : TypeId} {bytes n cap c : Nat} {A B : Option Addr} {xs : List Value} (hS : St w0 M w H Z) (hp : Pull (.own (.slice A n cap) e sz n xs) H H') (hM : More H0 Z0 H' Z) (ho : (ix ops i).op = .call ⟨.builtin .append, ⟨[s, x]⟩, ⟨[t, t]⟩⟩) (hi0 : appOf P t = some (e, sz, bytes))
    (hs : ev f s = .slice A n cap) (hx : ev f x = .slice B ys.length c) (h : SlAt (Cod.flat enc sz hsz) F wz B ys) (hz : Snap.mk wz F ∈ Z) (h0 : 0 < sz) (h1 : one (ys.flatMap enc) = true) (hb : (n + ys.length) * bytes ≤ 140737488355328)
    (hq : q.contains i = false) (hi : Nat.blt i ops.length = true) (hg : wants ops f (ix ops i) = true) {d : Nat} (hd : (ix ops i).dst = some d) (hn : Nat.blt d N = true)
    (hk : ∀ A' cap' w', St w0 M w' (.own (.slice A' (n + ys.length) cap') e sz (n + ys.length) (xs ++ ys.flatMap enc) :: H') Z → More H0 Z0 (.own (.slice A' (n + ys.length) cap') e sz (n + ys.length) (xs ++ ys.flatMap enc) :: H') Z → WD P N (SS w0 M H0 Z0) ops q l (up f d (.slice A' (n + ys.length) cap')) w' Q) : WD P N (SS w0 M H0 Z0) ops q (i :: l) f w Q := by
  rcases ys with _ | ⟨y, ys⟩
  · have hS' := hS.pull hp
    have hcap := (hS'.own_len (List.Mem.head _)).2.2
    have hS2 := hS'.recast (c' := .own (.slice A (n + 0) cap) e sz (n + 0) (xs ++ [])) .here (fun h => by simpa using h) (fun b hb => by simpa using hb)
    exact .val hq hi hg hd hn (run_app0B ho hi0 hs hx hcap) ((hM.chunk _).ss hS2) (hk A cap w hS2 (hM.chunk _))
  · obtain ⟨b, off, es, rfl, hF, _, _⟩ := h.at_ (k := 0) (by simp)
    exact WD.app hS hp hM ho hi0 hs hx (RdOk.ofSl h hz h0) (flat_len hsz _) h1 hb hq hi hg hd hn hk
end
/-- a row of the call's own that nobody changes any more -/
theorem St.keepRow {w0 w wz : World} {M : List Nat} {c : Chunk} {H : List Chunk} {Z : List Snap} {F : Nat → Prop} (hS : St w0 M w (c :: H) Z) (hz : Snap.mk wz F ∈ Z) : St w0 M w H (⟨w, fun b => b ∈ c.fp ∨ F b⟩ :: Z) :=
  ⟨hS.upd, fun d hd => hS.holds d (List.mem_cons_of_mem _ hd), fun d hd => hS.inb d (List.mem_cons_of_mem _ hd), (List.pairwise_cons.1 hS.disj).2, fun z hzm b hb => by
    rcases List.mem_cons.1 hzm with rfl | hzm
    · rcases hb with hb | hb
      · exact ⟨(hS.inb c (List.mem_cons_self ..) b hb).1, rfl, fun d hd => (List.pairwise_cons.1 hS.disj).1 d hd b hb⟩
      · obtain ⟨h1, _, h3⟩ := hS.snap _ hz b hb
        exact ⟨h1, rfl, fun d hd => h3 d (List.mem_cons_of_mem _ hd)⟩
    · obtain ⟨h1, h2, h3⟩ := hS.snap z hzm b hb
      exact ⟨h1, h2, fun d hd => h3 d (List.mem_cons_of_mem _ hd)⟩⟩
/-! ## chunks by their place -/
theorem erase_perm : ∀ {cs : List Chunk} {i : Nat} (h : i < cs.length), (cs[i] :: cs.eraseIdx i).Perm cs
  | _ :: _, 0, _ => .refl _
  | a :: cs, i + 1, h => (List.Perm.swap _ _ _).trans (.cons a (erase_perm (cs := cs) (i := i) (by simpa using h)))
theorem pfront {cs : List Chunk} {i : Nat} {c : Chunk} (h : cs[i]? = some c) : cs.Perm (c :: cs.eraseIdx i) := by
  obtain ⟨hi, rfl⟩ := List.getElem?_eq_some_iff.1 h
  exact (erase_perm hi).symm
theorem pback {cs : List Chunk} {i : Nat} (h : i < cs.length) (c : Chunk) : (c :: cs.eraseIdx i).Perm (cs.set i c) := by
  have hi : i < (cs.set i c).length := by rw [List.length_set]; exact h
  have := erase_perm hi
  rwa [List.getElem_set_self, List.eraseIdx_set_eq] at this
/-- what is there now stays as it is, for one who changes nothing any more -/
theorem St.freeze {w0 w : World} {M : List Nat} {H : List Chunk} {Z : List Snap} (hS : St w0 M w H Z) : St w0 M w [] (⟨w, fun b => b < w.heap.size⟩ :: Z) :=
  ⟨hS.upd, fun c hc => (by cases hc), fun c hc => (by cases hc), .nil, fun z hz b hb => by
    rcases List.mem_cons.1 hz with rfl | hz
    · exact ⟨hb, rfl, fun c hc => (by cases hc)⟩
    · obtain ⟨h1, h2, _⟩ := hS.snap z hz b hb
      exact ⟨h1, h2, fun c hc => (by cases hc)⟩⟩
theorem flat_set {α : Type} {enc : α → List Value} {sz : Nat} (hsz : ∀ x, (enc x).length = sz) (x : α) : ∀ {l : List α} {k : Nat}, k < l.length → (l.flatMap enc).take (k * sz) ++ enc x ++ (l.flatMap enc).drop (k * sz + (enc x).length) = (l.set k x).flatMap enc
  | [], _, h => absurd h (Nat.not_lt_zero _)
  | a :: l, 0, _ => by
    simp only [List.flatMap_cons, List.set_cons_zero, Nat.zero_mul, List.take_zero, List.nil_append, Nat.zero_add, hsz]
    rw [List.drop_append_of_le_length (by rw [hsz]; exact Nat.le_refl _), List.drop_of_length_le (by rw [hsz]; exact Nat.le_refl _), List.nil_append]
  | a :: l, k + 1, h => by
    have ih := flat_set hsz x (l := l) (k := k) (by simpa using h)
    rw [List.flatMap_cons, List.set_cons_succ, List.flatMap_cons, ← ih, show (k + 1) * sz = (enc a).length + k * sz by rw [hsz, Nat.add_mul]; omega]
    rw [List.take_append, List.take_of_length_le (show (enc a).length ≤ (enc a).length + k * sz by omega), Nat.add_sub_cancel_left, Nat.add_assoc, ← List.drop_drop, List.drop_left]
    simp only [List.append_assoc]
/-! ## rows that are marked, then grown -/
structure Rw where
  A : Option Addr
  n : Nat
  cap : Nat
def Rw.val (r : Rw) : Value := .slice r.A r.n r.cap
def encRw (r : Rw) : List Value := [r.val]
def ownRw {α : Type} (enc : α → List Value) (e : TypeId) (sz : Nat) (r : Rw) (l : List α) : Chunk := .own (.slice r.A r.n r.cap) e sz r.n (l.flatMap enc)
def grw {α : Type} (mk nw : Nat → α) (j n k : Nat) : List α := List.replicate n (mk j) ++ List.replicate k (nw j)
/-- a row that has grown by k: in its place, or beside itself -/
def GrowP {α : Type} (enc : α → List Value) (e : TypeId) (sz : Nat) (mk nw : Nat → α) (j : Nat) (r : Rw) (k : Nat) (A : Option Addr) (cap : Nat) (D : List Chunk) : Prop :=
  (A = r.A ∧ cap = r.cap ∧ D = [.own (.slice r.A (r.n + k) r.cap) e sz (r.n + k) ((grw mk nw j r.n k).flatMap enc)]) ∨
  (∃ i, D = [.own (.slice A (r.n + k) cap) e sz (r.n + k) ((grw mk nw j r.n k).flatMap enc), .own (.slice r.A (r.n + i) r.cap) e sz (r.n + i) ((grw mk nw j r.n i).flatMap enc)])
section
variable {α : Type} {enc : α → List Value} {e : TypeId} {sz : Nat} {mk nw : Nat → α} {rs ls : List Rw} {cs : List Chunk} {i j : Nat}
/-- as far as rows are marked -/
structure MarkIs (enc : α → List Value) (e : TypeId) (sz : Nat) (mk : Nat → α) (rs : List Rw) (cs : List Chunk) (i : Nat) : Prop where
  len : cs.length = rs.length
  at_ : ∀ j (h : j < rs.length), ∃ l : List α, l.length = rs[j].n ∧ cs[j]? = some (ownRw enc e sz rs[j] l) ∧ (j < i → l = List.replicate rs[j].n (mk j))
/-- as far as rows are grown -/
structure GrowIs (enc : α → List Value) (e : TypeId) (sz : Nat) (mk nw : Nat → α) (rs ls : List Rw) (cs : List Chunk) (i : Nat) : Prop where
  len : cs.length = rs.length
  llen : ls.length = i
  at_ : ∀ j (h : j < rs.length), i ≤ j → cs[j]? = some (ownRw enc e sz rs[j] (List.replicate rs[j].n (mk j)))
  got : ∀ j (h : j < rs.length), j < i → ∃ l fp, ls[j]? = some l ∧ l.n = rs[j].n + 20 ∧ cs[j]? = some (objC (GrowP enc e sz mk nw j rs[j] 20 l.A l.cap) fp)
theorem MarkIs.next (h : MarkIs enc e sz mk rs cs i) (hi : i < rs.length) : MarkIs enc e sz mk rs (cs.set i (ownRw enc e sz rs[i] (List.replicate rs[i].n (mk i)))) (i + 1) := by
  refine ⟨by rw [List.length_set]; exact h.len, fun j hj => ?_⟩
  obtain ⟨l, h0, h1, h2⟩ := h.at_ j hj
  by_cases e : i = j
  · subst e
    exact ⟨_, List.length_replicate, by rw [List.getElem?_set_self (by rw [h.len]; exact hi)], fun _ => rfl⟩
  · exact ⟨l, h0, by rw [List.getElem?_set_ne e]; exact h1, fun hlt => h2 (by omega)⟩
theorem MarkIs.grow (h : MarkIs enc e sz mk rs cs i) (hi : i = rs.length) : GrowIs enc e sz mk nw rs [] cs 0 := by
  subst hi
  refine ⟨h.len, rfl, fun j hj _ => ?_, fun j _ hj => absurd hj (Nat.not_lt_zero _)⟩
  obtain ⟨l, _, h1, h2⟩ := h.at_ j hj
  rw [h1, h2 hj]
theorem GrowIs.next (h : GrowIs enc e sz mk nw rs ls cs i) (hi : i < rs.length) {A : Option Addr} {cap : Nat} {fp : List Nat} : GrowIs enc e sz mk nw rs (ls ++ [⟨A, rs[i].n + 20, cap⟩]) (cs.set i (objC (GrowP enc e sz mk nw i rs[i] 20 A cap) fp)) (i + 1) := by
  refine ⟨by rw [List.length_set]; exact h.len, by rw [List.length_append, h.llen]; rfl, fun j hj hij => ?_, fun j hj hij => ?_⟩
  · rw [List.getElem?_set_ne (by omega)]; exact h.at_ j hj (by omega)
  · by_cases e : i = j
    · subst e
      refine ⟨⟨A, rs[i].n + 20, cap⟩, fp, ?_, rfl, by rw [List.getElem?_set_self (by rw [h.len]; exact hi)]⟩
      rw [List.getElem?_append_right (by rw [h.llen]; exact Nat.le_refl _), h.llen, Nat.sub_self]; rfl
    · obtain ⟨l, fp', h1, h2, h3⟩ := h.got j hj (by omega)
      exact ⟨l, fp', by rw [List.getElem?_append_left (by rw [h.llen]; omega)]; exact h1, h2, by rw [List.getElem?_set_ne e]; exact h3⟩
theorem ownAll {hsz : ∀ x, (enc x).length = sz} (h0 : 0 < sz) {w : World} {A : Option Addr} {n cap n' : Nat} {l : List α} (h : RowAt w e sz (.slice A n cap) n' (l.flatMap enc)) (hin : ∀ b ∈ (Value.slice A n cap).ownBlock.toList, b < w.heap.size) : SlAt (Cod.flat enc sz hsz) (fun b => b < w.heap.size) w A l :=
  SlAt.ofOwn h0 h fun g hg => hin g (by rw [hg]; simp)
/-- how they read when all are grown -/
theorem GrowIs.reads (h : GrowIs enc e sz mk nw rs ls cs i) (hi : i = rs.length) {hsz : ∀ x, (enc x).length = sz} (h0 : 0 < sz) {w w0 : World} {M : List Nat} {H : List Chunk} {Z : List Snap} (hS : St w0 M w H Z) (hc : ∀ c ∈ cs, c ∈ H) (j : Nat) (hj : j < rs.length) :
    ∃ l, ls[j]? = some l ∧ l.n = rs[j].n + 20 ∧ SlAt (Cod.flat enc sz hsz) (fun b => b < w.heap.size) w rs[j].A (List.replicate rs[j].n (mk j)) ∧ SlAt (Cod.flat enc sz hsz) (fun b => b < w.heap.size) w l.A (grw mk nw j rs[j].n 20) := by
  subst hi
  obtain ⟨l, fp, h1, h2, h3⟩ := h.got j hj hj
  have hm := hc _ (List.mem_of_getElem? h3)
  obtain ⟨D, hD, hfp, _, hh⟩ := (hS.holds _ hm).1
  have hb : ∀ d ∈ D, ∀ b ∈ d.fp, b < w.heap.size := fun d hd b hb => (hS.inb _ hm b (by show b ∈ fp; rw [hfp]; exact List.mem_flatMap.2 ⟨d, hd, hb⟩)).1
  refine ⟨l, h1, h2, ?_⟩
  rcases hD with ⟨e1, e2, rfl⟩ | ⟨k, rfl⟩
  · have hd := hh _ (List.Mem.head _)
    have hf := ownAll (hsz := hsz) h0 (show RowAt w e sz _ _ _ from hd) (hb _ (List.Mem.head _))
    rw [e1]
    exact ⟨SlAt.pre hf, hf⟩
  · have hd := hh _ (List.Mem.head _)
    have hf := ownAll (hsz := hsz) h0 (show RowAt w e sz _ _ _ from hd) (hb _ (List.Mem.head _))
    have hd2 := hh _ (List.Mem.tail _ (List.Mem.head _))
    have hf2 := ownAll (hsz := hsz) h0 (show RowAt w e sz _ _ _ from hd2) (hb _ (List.Mem.tail _ (List.Mem.head _)))
    exact ⟨SlAt.pre hf2, hf⟩
theorem grw_snoc (j n k : Nat) : grw mk nw j n (k + 1) = grw mk nw j n k ++ [nw j] := by
  unfold grw
  rw [List.append_assoc, ← List.replicate_succ']
theorem grw_flat (j n k : Nat) : (grw mk nw j n (k + 1)).flatMap enc = (grw mk nw j n k).flatMap enc ++ enc (nw j) := by
  rw [grw_snoc, List.flatMap_append]; simp
theorem grw_at {j n k p : Nat} (h : p < n + k) : (grw mk nw j n k)[p]? = some (if p < n then mk j else nw j) := by
  unfold grw
  split
  · rename_i h1
    rw [List.getElem?_append_left (by simpa using h1), List.getElem?_replicate, if_pos h1]
  · rename_i h1
    rw [List.getElem?_append_right (by simpa using h1), List.getElem?_replicate, List.length_replicate, if_pos (by omega)]
end
end Go.J

/- What is proved: that Apart of reference 4 answers true of rows that are the call's own. Conditions: rows of bounded length. -/
set_option linter.unusedSimpArgs false
set_option linter.unusedVariables false
namespace Go.Proofs.YtobfdeiimnnanaaGreatDoor
open Go Go.J Go.RowKit

def mE (j : Nat) : Ent := ⟨[], 1000 + (j : Int), []⟩
def nE (j : Nat) : Ent := ⟨[], 2000 + (j : Int), []⟩
theorem rwMap : ∀ rs : List Rw, rs.flatMap encRw = rs.map Rw.val
  | [] => rfl
  | a :: l => by rw [List.flatMap_cons, List.map_cons, rwMap l]; rfl
theorem rwAt {rs : List Rw} {i : Nat} (h : i < rs.length) : (rs.flatMap encRw)[i * 1]? = some rs[i].val := by
  rw [Nat.mul_one, rwMap, List.getElem?_map, List.getElem?_eq_getElem h]
  rfl
set_option maxHeartbeats 32000000 in
set_option maxRecDepth 100000 in
theorem rapart_c (rs : List Rw) (cs : List Chunk) {OA : Option Addr} {oc : Nat} {w0 : World} (hi : InL w0 (.own (.slice OA rs.length oc) 34 1 rs.length (rs.flatMap encRw) :: cs)) (hm : MarkIs encEnt 115 3 mE rs cs 0) (hl : rs.length ≤ 1000) (hz : ∀ r ∈ rs, r.n ≤ 1048576) :
    Cal Tryz.prog 82 [.slice OA rs.length oc] w0 (fun v w' => v = .bool true ∧ MutL w0 w' (.own (.slice OA rs.length oc) 34 1 rs.length (rs.flatMap encRw) :: cs) []) := by
  refine Cal.mkL hi (by kernel_rfl) Tryz.func82 rfl rfl fun hS => ?_
  have hfp : ∀ {w : World}, St w0 (fps (.own (.slice OA rs.length oc) 34 1 rs.length (rs.flatMap encRw) :: cs)) w [] (ZL w0 (.own (.slice OA rs.length oc) 34 1 rs.length (rs.flatMap encRw) :: cs)) → MutL w0 w (.own (.slice OA rs.length oc) 34 1 rs.length (rs.flatMap encRw) :: cs) [] := fun hS => hS.mutLp .nil
  replace hS : St w0 (fps (.own (.slice OA rs.length oc) 34 1 rs.length (rs.flatMap encRw) :: cs)) w0 (.own (.slice OA rs.length oc) 34 1 rs.length (rs.flatMap encRw) :: cs) (ZL w0 (.own (.slice OA rs.length oc) 34 1 rs.length (rs.flatMap encRw) :: cs)) := hS
  generalize ZL w0 (.own (.slice OA rs.length oc) 34 1 rs.length (rs.flatMap encRw) :: cs) = Z0 at *
  generalize fps (.own (.slice OA rs.length oc) 34 1 rs.length (rs.flatMap encRw) :: cs) = M0 at *
  clear hi
  repeat' (first
    | (show WL _ _ _ _ _ _ _; first
      | refine WL.pure rfl rfl rfl rfl ?_
      | refine WL.nil ?_)
    | (show WC _ _ _ _ _ _; first
      | refine WC.seq ?_
      | refine WC.region ?_
      | refine WC.block ?_)
    | refine seqQ_n ?_)
  refine WC.loop (σ := Nat × List Chunk) [0] (fun (i, _) => [(3, .int .i64 (i : Int))]) (fun (i, cs) w => (i ≤ rs.length ∧ MarkIs encEnt 115 3 mE rs cs i) ∧ St w0 M0 w (.own (.slice OA rs.length oc) 34 1 rs.length (rs.flatMap encRw) :: cs) Z0) (fun (i, _) => rs.length - i) (0, cs) ⟨⟨Nat.zero_le _, hm⟩, hS⟩ ⟨rfl, trivial⟩ ?_
  clear hS hm
  rintro ⟨i, cs⟩ g w ⟨⟨hi, hmk⟩, hS⟩
  show WC _ _ _ (lf _ [(3, .int .i64 (i : Int))] _ _) _ _
  by_cases hlt : i < rs.length
  · obtain ⟨og, oo, rfl⟩ := hS.own_addr (A := OA) (n := rs.length) (List.Mem.head _) (by omega)
    obtain ⟨l0, hl0, hci, _⟩ := hmk.at_ i hlt
    have hnx := hmk.next hlt
    have hov := rwAt hlt
    replace hS := hS.perm ((pfront hci).cons _)
    have hbk := pback (show i < cs.length by rw [hmk.len]; exact hlt) (ownRw encEnt 115 3 rs[i] (List.replicate rs[i].n (mE i)))
    have hrz := hz _ (List.getElem_mem hlt)
    generalize cs.set i (ownRw encEnt 115 3 rs[i] (List.replicate rs[i].n (mE i))) = cs2 at *
    generalize cs.eraseIdx i = R at *
    generalize rs[i] = r at *
    obtain ⟨A, n, cap⟩ := r
    dsimp only [Rw.val, ownRw] at *
    clear hmk hci
    repeat' (first
      | (show WL _ _ _ _ _ _ _; first
        | refine WL.pure rfl rfl rfl rfl ?_
        | refine WL.nil ?_)
      | (show WC _ _ _ _ _ _; first
        | refine WC.seq ?_
        | refine WC.region ?_
        | refine WC.block ?_
        | refine WC.skip ?_
        | refine WC.condT rfl (decide_eq_true (by first | with_reducible assumption | omega)) ?_)
      | refine seqQ_n ?_)
    refine WC.loop (σ := Nat × List Ent) [0, 3] (fun (k, _) => [(4, .int .i64 (k : Int))]) (fun (k, l) w => (k ≤ n ∧ l.length = n ∧ l.take k = List.replicate k (mE i)) ∧ St w0 M0 w (.own (.slice (some ⟨og, oo, none⟩) rs.length oc) 34 1 rs.length (rs.flatMap encRw) :: .own (.slice A n cap) 115 3 n (l.flatMap encEnt) :: R) Z0) (fun (k, _) => n - k) (0, l0) ⟨⟨Nat.zero_le _, hl0, rfl⟩, hS⟩ ⟨rfl, trivial⟩ ?_
    clear hS hl0
    rintro ⟨k, l⟩ g2 w ⟨⟨hk, hll, hlk⟩, hS⟩
    show WC _ _ _ (lf _ [(4, .int .i64 (k : Int))] _ _) _ _
    by_cases hkl : k < n
    · obtain ⟨ag, ao, rfl⟩ := hS.own_addr (A := A) (n := n) (List.Mem.tail _ (List.Mem.head _)) (by omega)
      have hfs := flat_set (enc := encEnt) (sz := 3) (fun _ => rfl) (mE i) (l := l) (k := k) (by omega)
      have hfl := flat_len (enc := encEnt) (sz := 3) (fun _ => rfl) l
      have hnk : (l.set k (mE i)).take (k + 1) = List.replicate (k + 1) (mE i) := by
        rw [List.take_succ_eq_append_getElem (by rw [List.length_set]; omega), List.getElem_set_self, List.take_set_of_le (Nat.le_refl _), hlk, ← List.replicate_succ']
      have hnl : (l.set k (mE i)).length = n := by rw [List.length_set]; exact hll
      have hel : (encEnt (mE i)).length = 3 := rfl
      obtain ⟨HN, rfl⟩ : ∃ h : (l.set k (mE i)).take (k + 1) = List.replicate (k + 1) (mE i), h = hnk := ⟨_, rfl⟩
      clear hlk
      repeat' (first
        | (show WL _ _ _ _ _ _ _; first
          | refine WL.pure rfl rfl rfl rfl ?_
          | refine WL.nil ?_
          | refine WL.add rfl rfl rfl (by omega) rfl rfl rfl ?_
          | (refine WL.load hS rfl rfl (LdOk.ownAt (by repeat (first | exact List.Mem.head _ | apply List.Mem.tail)) rfl ⟨_, rfl⟩ hov rfl) rfl rfl rfl ?_)
          | (refine WL.storeOwn (off := k * 3) (vs := encEnt (mE i)) hS rfl rfl rfl (by repeat (first | exact Repl.here | apply Repl.there)) (by rw [hfl, hel]; omega) rfl rfl rfl rfl ?_; intro w hS; rw [hfs] at hS)
          | refine WL.index rfl rfl rfl rfl (by first | with_reducible assumption | omega) rfl rfl rfl rfl ?_
          | refine WL.build rfl rfl rfl rfl rfl ?_)
        | (show WC _ _ _ _ _ _; first
          | refine WC.seq ?_
          | refine WC.region ?_
          | refine WC.block ?_
          | refine WC.skip ?_
          | refine WC.condT rfl (decide_eq_true (by first | with_reducible assumption | omega)) ?_)
        | refine seqQ_n ?_
        | refine blkQ_n ?_)
      exact rndQ_n (k + 1, _) ⟨⟨by omega, hnl, HN⟩, hS⟩ (by show n - (k + 1) < n - k; omega) ⟨vint (by omega), trivial⟩ ⟨rfl, rfl, trivial⟩
    · have hkn : k = n := by omega
      subst hkn
      rw [← hll, List.take_length] at hlk
      rw [hll] at hlk
      subst hlk
      replace hS := hS.perm (hbk.cons _)
      repeat' (first
        | (show WL _ _ _ _ _ _ _; first
          | refine WL.pure rfl rfl rfl rfl ?_
          | refine WL.nil ?_
          | refine WL.add rfl rfl rfl (by omega) rfl rfl rfl ?_
          | (refine WL.load hS rfl rfl (LdOk.ownAt (by repeat (first | exact List.Mem.head _ | apply List.Mem.tail)) rfl ⟨_, rfl⟩ hov rfl) rfl rfl rfl ?_)
          | refine WL.index rfl rfl rfl rfl (by first | with_reducible assumption | omega) rfl rfl rfl rfl ?_)
        | (show WC _ _ _ _ _ _; first
          | refine WC.seq ?_
          | refine WC.region ?_
          | refine WC.exit ?_
          | refine WC.condF rfl (decide_eq_false (by first | with_reducible assumption | omega)) ?_)
        | refine seqQ_n ?_
        | refine blkQ_n ?_
        | refine seqQ_x ?_
        | refine blkQ_hit rfl ?_
        | refine rndQ_x ?_)
      exact rndQ_n (i + 1, cs2) ⟨⟨by omega, hnx⟩, hS⟩ (by show rs.length - (i + 1) < rs.length - i; omega) ⟨vint (by omega), trivial⟩ ⟨rfl, trivial⟩
  · have hie : i = rs.length := by omega
    have hg := hmk.grow (nw := nE) hie
    subst hie
    clear hmk hlt hi
    replace hS := hS.nilRow 34 1
    repeat' (first
      | (show WL _ _ _ _ _ _ _; first
        | refine WL.pure rfl rfl rfl rfl ?_
        | refine WL.nil ?_)
      | (show WC _ _ _ _ _ _; first
        | refine WC.seq ?_
        | refine WC.region ?_
        | refine WC.block ?_
        | refine WC.exit ?_
        | refine WC.condF rfl (decide_eq_false (by first | with_reducible assumption | omega)) ?_)
      | refine seqQ_n ?_
      | refine seqQ_x ?_
      | refine blkQ_hit rfl ?_
      | refine rndQ_x ?_)
    refine WC.loop (σ := Nat × List Rw × Option Addr × Nat × List Chunk) [0] (fun (i, ls, LA, lc, _) => [(5, .slice LA i lc), (6, .int .i64 (i : Int))]) (fun (i, ls, LA, lc, cs) w => (i ≤ rs.length ∧ GrowIs encEnt 115 3 mE nE rs ls cs i) ∧ St w0 M0 w (.own (.slice LA i lc) 34 1 i (ls.flatMap encRw) :: .own (.slice OA rs.length oc) 34 1 rs.length (rs.flatMap encRw) :: cs) Z0) (fun (i, _) => rs.length - i) (0, [], none, 0, cs) ⟨⟨Nat.zero_le _, hg⟩, hS⟩ ⟨rfl, rfl, trivial⟩ ?_
    clear hS hg
    rintro ⟨i, ls, LA, lc, cs⟩ g2 w ⟨⟨hi, hgr⟩, hS⟩
    show WC _ _ _ (lf _ [(5, .slice LA i lc), (6, .int .i64 (i : Int))] _ _) _ _
    by_cases hlt : i < rs.length
    · obtain ⟨og, oo, rfl⟩ := hS.own_addr (A := OA) (n := rs.length) (List.Mem.tail _ (List.Mem.head _)) (by omega)
      have hci := hgr.at_ i hlt (Nat.le_refl _)
      have hnx := fun {A2 : Option Addr} {cap2 : Nat} {fp : List Nat} => hgr.next hlt (A := A2) (cap := cap2) (fp := fp)
      have hov := rwAt hlt
      replace hS := hS.perm (((pfront hci).cons _).cons _)
      have hbk := fun {c : Chunk} => pback (cs := cs) (i := i) (show i < cs.length by rw [hgr.len]; exact hlt) c
      have hrz := hz _ (List.getElem_mem hlt)
      have hll := hgr.llen
      generalize cs.eraseIdx i = R at *
      generalize rs[i] = r at *
      obtain ⟨A, n, cap⟩ := r
      dsimp only [Rw.val, ownRw] at *
      clear hgr hci
      repeat' (first
        | (show WL _ _ _ _ _ _ _; first
          | refine WL.pure rfl rfl rfl rfl ?_
          | refine WL.nil ?_
          | (refine WL.load hS rfl rfl (LdOk.ownAt (by repeat (first | exact List.Mem.head _ | apply List.Mem.tail)) rfl ⟨_, rfl⟩ hov rfl) rfl rfl rfl ?_)
          | refine WL.index rfl rfl rfl rfl (by first | with_reducible assumption | omega) rfl rfl rfl rfl ?_)
        | (show WC _ _ _ _ _ _; first
          | refine WC.seq ?_
          | refine WC.region ?_
          | refine WC.block ?_
          | refine WC.skip ?_
          | refine WC.condT rfl (decide_eq_true (by first | with_reducible assumption | omega)) ?_)
        | refine seqQ_n ?_)
      replace hS := ((hS.pull (.there (.there .here))).objClose (D := [_]) (φ := GrowP encEnt 115 3 mE nE i ⟨A, n, cap⟩ 0 A cap) (.inl ⟨rfl, rfl, by unfold grw; rw [List.replicate_zero, List.append_nil]; rfl⟩))
      refine WC.loop (σ := Nat × Option Addr × Nat) [0, 5, 6] (fun (k, A2, cap2) => [(7, .slice A2 (n + k) cap2), (8, .int .i64 (k : Int))]) (fun (k, A2, cap2) w => k ≤ 20 ∧ ∃ fp, St w0 M0 w (objC (GrowP encEnt 115 3 mE nE i ⟨A, n, cap⟩ k A2 cap2) fp :: .own (.slice LA i lc) 34 1 i (ls.flatMap encRw) :: .own (.slice (some ⟨og, oo, none⟩) rs.length oc) 34 1 rs.length (rs.flatMap encRw) :: R) Z0) (fun (k, _) => 20 - k) (0, A, cap) ⟨Nat.zero_le _, _, hS⟩ ⟨rfl, rfl, trivial⟩ ?_
      clear hS
      rintro ⟨k, A2, cap2⟩ g3 w ⟨hk, fp, hS⟩
      show WC _ _ _ (lf _ [(7, .slice A2 (n + k) cap2), (8, .int .i64 (k : Int))] _ _) _ _
      by_cases hk20 : k < 20
      · obtain ⟨D, hD, -, hS⟩ := hS.objOpen
        have hgf := grw_flat (enc := encEnt) (mk := mE) (nw := nE) i n k
        clear hnx hbk hov
        rcases hD with ⟨rfl, rfl, rfl⟩ | ⟨p, rfl⟩
        · dsimp only [List.cons_append, List.nil_append] at hS
          repeat' (first
            | (show WL _ _ _ _ _ _ _; first
              | refine WL.pure rfl rfl rfl rfl ?_
              | refine WL.nil ?_
              | refine WL.add rfl rfl rfl (by omega) rfl rfl rfl ?_
              | (refine WL.slit (t := 34) hS rfl rfl rfl rfl rfl ?_; intro w ob hS)
              | (refine WL.appK hS rfl rfl rfl rfl (RdOk.box (by repeat (first | exact List.Mem.head _ | apply List.Mem.tail))) rfl rfl (by decide) (by repeat (first | exact Repl.here | apply Repl.there)) (by omega) rfl rfl rfl (fun w hS => ?_) (fun A3 cap3 w hS => ?_))
              | refine WL.build rfl rfl rfl rfl rfl ?_)
            | (show WC _ _ _ _ _ _; first
              | refine WC.seq ?_
              | refine WC.region ?_
              | refine WC.block ?_
              | refine WC.skip ?_
              | refine WC.condT rfl (decide_eq_true (by first | with_reducible assumption | omega)) ?_)
            | refine seqQ_n ?_
            | refine blkQ_n ?_)
          · have hS := (hS.drop).objClose (D := [_]) (φ := GrowP encEnt 115 3 mE nE i ⟨A2, n, cap2⟩ (k + 1) A2 cap2) (.inl ⟨rfl, rfl, by rw [grw_flat]; rfl⟩)
            exact rndQ_n (k + 1, A2, cap2) ⟨by omega, _, hS⟩ (by show 20 - (k + 1) < 20 - k; omega) ⟨rfl, vint (by omega), trivial⟩ ⟨rfl, rfl, rfl, trivial⟩
          · have hS := ((hS.pull (.there .here)).drop).objClose (D := [_, _]) (φ := GrowP encEnt 115 3 mE nE i ⟨A2, n, cap2⟩ (k + 1) A3 cap3) (.inr ⟨k, by rw [grw_flat]; rfl⟩)
            exact rndQ_n (k + 1, A3, cap3) ⟨by omega, _, hS⟩ (by show 20 - (k + 1) < 20 - k; omega) ⟨rfl, vint (by omega), trivial⟩ ⟨rfl, rfl, rfl, trivial⟩
        · dsimp only [List.cons_append, List.nil_append] at hS
          repeat' (first
            | (show WL _ _ _ _ _ _ _; first
              | refine WL.pure rfl rfl rfl rfl ?_
              | refine WL.nil ?_
              | refine WL.add rfl rfl rfl (by omega) rfl rfl rfl ?_
              | (refine WL.slit (t := 34) hS rfl rfl rfl rfl rfl ?_; intro w ob hS)
              | (refine WL.app hS rfl rfl rfl rfl (RdOk.box (by repeat (first | exact List.Mem.head _ | apply List.Mem.tail))) rfl rfl (fun A cap => by repeat (first | exact Repl.here | apply Repl.there)) (by omega) rfl rfl rfl ?_; intro A3 cap3 w hS)
              | refine WL.build rfl rfl rfl rfl rfl ?_)
            | (show WC _ _ _ _ _ _; first
              | refine WC.seq ?_
              | refine WC.region ?_
              | refine WC.block ?_
              | refine WC.skip ?_
              | refine WC.condT rfl (decide_eq_true (by first | with_reducible assumption | omega)) ?_)
            | refine seqQ_n ?_
            | refine blkQ_n ?_)
          have hS := (hS.drop).objClose (D := [_, _]) (φ := GrowP encEnt 115 3 mE nE i ⟨A, n, cap⟩ (k + 1) A3 cap3) (.inr ⟨p, by rw [grw_flat]; rfl⟩)
          exact rndQ_n (k + 1, A3, cap3) ⟨by omega, _, hS⟩ (by show 20 - (k + 1) < 20 - k; omega) ⟨rfl, vint (by omega), trivial⟩ ⟨rfl, rfl, rfl, trivial⟩
      · obtain rfl : k = 20 := by omega
        have hx := @hnx A2 cap2 fp
        clear hnx hov
        repeat' (first
          | (show WL _ _ _ _ _ _ _; first
            | refine WL.pure rfl rfl rfl rfl ?_
            | refine WL.nil ?_
            | refine WL.add rfl rfl rfl (by omega) rfl rfl rfl ?_
            | (refine WL.slit (t := 149) hS rfl rfl rfl rfl rfl ?_; intro w ob hS)
            | (refine WL.app hS rfl rfl rfl rfl (RdOk.box (by repeat (first | exact List.Mem.head _ | apply List.Mem.tail))) rfl rfl (fun A cap => by repeat (first | exact Repl.here | apply Repl.there)) (by omega) rfl rfl rfl ?_; intro A3 cap3 w hS))
          | (show WC _ _ _ _ _ _; first
            | refine WC.seq ?_
            | refine WC.region ?_
            | refine WC.exit ?_
            | refine WC.condF rfl (by decide) ?_)
          | refine seqQ_n ?_
          | refine blkQ_n ?_
          | refine seqQ_x ?_
          | refine blkQ_hit rfl ?_
          | refine rndQ_x ?_)
        have hS := (((hS.drop.pull (.there (.there .here))).pull (.there (.there .here))).perm ((hbk.cons _).cons _))
        have hle : ls.flatMap encRw ++ [Value.slice A2 (n + 20) cap2] = (ls ++ [(⟨A2, n + 20, cap2⟩ : Rw)]).flatMap encRw := by rw [List.flatMap_append]; rfl
        refine rndQ_n (i + 1, ls ++ [⟨A2, n + 20, cap2⟩], A3, cap3, _) ⟨⟨by omega, hx⟩, ?_⟩ (by show rs.length - (i + 1) < rs.length - i; omega) ⟨rfl, vint (by omega), trivial⟩ ⟨rfl, trivial⟩
        rw [← hle]
        exact hS
    · have hie : i = rs.length := by omega
      have hrd := hgr.reads (hsz := fun _ => rfl) hie (by decide) hS fun c hc => List.Mem.tail _ (List.Mem.tail _ hc)
      have hro := ownAll (enc := encRw) (hsz := fun _ => rfl) (sz := 1) (by decide) (hS.holds _ (List.Mem.tail _ (List.Mem.head _))) fun b hb => (hS.inb _ (List.Mem.tail _ (List.Mem.head _)) b hb).1
      have hrl := ownAll (enc := encRw) (hsz := fun _ => rfl) (sz := 1) (by decide) (hS.holds _ (List.Mem.head _)) fun b hb => (hS.inb _ (List.Mem.head _) b hb).1
      have hll := hgr.llen
      replace hS := hS.freeze
      subst hie
      clear hgr hlt hi
      generalize w = w3 at *
      repeat' (first
        | (show WL _ _ _ _ _ _ _; first
          | refine WL.pure rfl rfl rfl rfl ?_
          | refine WL.nil ?_)
        | (show WC _ _ _ _ _ _; first
          | refine WC.seq ?_
          | refine WC.region ?_
          | refine WC.block ?_
          | refine WC.exit ?_
          | refine WC.condF rfl (decide_eq_false (by first | with_reducible assumption | omega)) ?_)
        | refine seqQ_n ?_
        | refine seqQ_x ?_
        | refine blkQ_hit rfl ?_
        | refine rndQ_x ?_)
      refine WC.loop (σ := Nat) [0, 5] (fun i => [(9, .int .i64 (i : Int))]) (fun i w => i ≤ rs.length ∧ St w0 M0 w [] (⟨w3, fun b => b < w3.heap.size⟩ :: Z0)) (fun i => rs.length - i) 0 ⟨Nat.zero_le _, hS⟩ ⟨rfl, trivial⟩ ?_
      clear hS
      rintro i g4 w ⟨hi, hS⟩
      show WC _ _ _ (lf _ [(9, .int .i64 (i : Int))] _ _) _ _
      by_cases hlt : i < rs.length
      · obtain ⟨l, hli, hln, hA1, hA2⟩ := hrd i hlt
        obtain ⟨xb, xo, xs, rfl, hxF, hxr, hxe⟩ := hro.at_ hlt
        have hxe : xs = encRw rs[i] := hxe
        subst hxe
        obtain ⟨hl2, hle⟩ := List.getElem?_eq_some_iff.1 hli
        obtain ⟨yb, yo, ys, rfl, hyF, hyr, hye⟩ := hrl.at_ hl2
        have hye : ys = encRw ls[i] := hye
        rw [hle] at hye
        subst hye
        have hrz := hz _ (List.getElem_mem hlt)
        generalize rs[i] = r at *
        obtain ⟨A, n, cap⟩ := r
        obtain ⟨A2, n2, cap2⟩ := l
        dsimp only at hln hA1 hA2 hrz
        subst hln
        have hxr : w3.rangeAt xb (xo + i * 1) [.slice A n cap] := hxr
        have hyr : w3.rangeAt yb (yo + i * 1) [.slice A2 (n + 20) cap2] := hyr
        clear hrd hro hrl hli hle hz
        repeat' (first
          | (show WL _ _ _ _ _ _ _; first
            | refine WL.pure rfl rfl rfl rfl ?_
            | refine WL.nil ?_)
          | (show WC _ _ _ _ _ _; first
            | refine WC.seq ?_
            | refine WC.region ?_
            | refine WC.block ?_
            | refine WC.skip ?_
            | refine WC.condT rfl (decide_eq_true (by first | with_reducible assumption | omega)) ?_)
          | refine seqQ_n ?_)
        refine WC.loop (σ := Nat) [0, 5, 9] (fun k => [(10, .int .i64 (k : Int))]) (fun k w => k ≤ n + 20 ∧ St w0 M0 w [] (⟨w3, fun b => b < w3.heap.size⟩ :: Z0)) (fun k => n + 20 - k) 0 ⟨Nat.zero_le _, hS⟩ ⟨rfl, trivial⟩ ?_
        clear hS
        rintro k g5 w ⟨hk, hS⟩
        show WC _ _ _ (lf _ [(10, .int .i64 (k : Int))] _ _) _ _
        by_cases hkl : k < n + 20
        · obtain ⟨eb, eo, es, rfl, heF, her, hee⟩ := hA2.at_ (k := k) (by simp [grw]; omega)
          have hgk := grw_at (mk := mE) (nw := nE) (j := i) hkl
          rw [List.getElem?_eq_getElem (by simp [grw]; omega)] at hgk
          have hgk := Option.some.inj hgk
          have hee : es = encEnt _ := hee
          rw [hgk] at hee
          by_cases hkn : k < n
          · rw [if_pos hkn] at hee
            subst hee
            have her : w3.rangeAt eb (eo + k * 3) (encEnt (mE i)) := her
            obtain ⟨fb, fo, es2, rfl, hfF, hfr, hfe⟩ := hA1.at_ (k := k) (by simpa using hkn)
            have hfe : es2 = encEnt _ := hfe
            rw [List.getElem_replicate] at hfe
            subst hfe
            have hfr : w3.rangeAt fb (fo + k * 3) (encEnt (mE i)) := hfr
            repeat' (first
              | (show WL _ _ _ _ _ _ _; first
                | refine WL.pure rfl rfl rfl rfl ?_
                | refine WL.nil ?_
                | refine WL.add rfl rfl rfl (by omega) rfl rfl rfl ?_
                | (first | (refine WL.load hS rfl rfl (LdOk.snap0 hyF hyr (by repeat (first | exact List.Mem.head _ | apply List.Mem.tail)) rfl) rfl rfl rfl ?_) | (refine WL.load hS rfl rfl (LdOk.snap0 hxF hxr (by repeat (first | exact List.Mem.head _ | apply List.Mem.tail)) rfl) rfl rfl rfl ?_) | (refine WL.load hS rfl rfl (LdOk.snap (off := 1) heF her (by repeat (first | exact List.Mem.head _ | apply List.Mem.tail)) rfl) rfl rfl rfl ?_) | (refine WL.load hS rfl rfl (LdOk.snap (off := 1) hfF hfr (by repeat (first | exact List.Mem.head _ | apply List.Mem.tail)) rfl) rfl rfl rfl ?_))
                | refine WL.index rfl rfl rfl rfl (by first | with_reducible assumption | omega) rfl rfl rfl rfl ?_
                | ((fail_if_success (refine WL.wanted rfl ?_)); refine WL.guard rfl rfl rfl (fun h => ?_) (fun h => ?_) <;> (try simp only [Classical.not_not, Bool.not_eq_true', Bool.not_eq_false', Bool.not_eq_eq_eq_not, Bool.not_true, Bool.not_false, beq_iff_eq, beq_eq_false_iff_ne, ne_eq, decide_eq_decide, decide_eq_true_eq, decide_eq_false_iff_not, Bool.and_eq_true, Bool.or_eq_true, Bool.and_eq_false_iff, Bool.or_eq_false_iff] at h) <;> (try (exfalso; first | omega | contradiction))))
              | (show WC _ _ _ _ _ _; first
                | refine WC.seq ?_
                | refine WC.region ?_
                | refine WC.block ?_
                | refine WC.skip ?_
                | refine WC.condT rfl (decide_eq_true (by first | with_reducible assumption | omega)) ?_
                | refine WC.condF rfl (decide_eq_false (by first | with_reducible assumption | omega)) ?_)
              | refine seqQ_n ?_
              | refine blkQ_n ?_)
            exact rndQ_n (k + 1) ⟨by omega, hS⟩ (by show n + 20 - (k + 1) < n + 20 - k; omega) ⟨vint (by omega), trivial⟩ ⟨rfl, rfl, rfl, trivial⟩
          · rw [if_neg hkn] at hee
            subst hee
            have her : w3.rangeAt eb (eo + k * 3) (encEnt (nE i)) := her
            clear hA1
            repeat' (first
              | (show WL _ _ _ _ _ _ _; first
                | refine WL.pure rfl rfl rfl rfl ?_
                | refine WL.nil ?_
                | refine WL.add rfl rfl rfl (by omega) rfl rfl rfl ?_
                | (first | (refine WL.load hS rfl rfl (LdOk.snap0 hyF hyr (by repeat (first | exact List.Mem.head _ | apply List.Mem.tail)) rfl) rfl rfl rfl ?_) | (refine WL.load hS rfl rfl (LdOk.snap0 hxF hxr (by repeat (first | exact List.Mem.head _ | apply List.Mem.tail)) rfl) rfl rfl rfl ?_) | (refine WL.load hS rfl rfl (LdOk.snap (off := 1) heF her (by repeat (first | exact List.Mem.head _ | apply List.Mem.tail)) rfl) rfl rfl rfl ?_) | (refine WL.load hS rfl rfl (LdOk.snap (off := 1) hfF hfr (by repeat (first | exact List.Mem.head _ | apply List.Mem.tail)) rfl) rfl rfl rfl ?_))
                | refine WL.index rfl rfl rfl rfl (by first | with_reducible assumption | omega) rfl rfl rfl rfl ?_
                | refine WL.skip rfl rfl rfl ?_
                | ((fail_if_success (refine WL.wanted rfl ?_)); refine WL.guard rfl rfl rfl (fun h => ?_) (fun h => ?_) <;> (try simp only [Classical.not_not, Bool.not_eq_true', Bool.not_eq_false', Bool.not_eq_eq_eq_not, Bool.not_true, Bool.not_false, beq_iff_eq, beq_eq_false_iff_ne, ne_eq, decide_eq_decide, decide_eq_true_eq, decide_eq_false_iff_not, Bool.and_eq_true, Bool.or_eq_true, Bool.and_eq_false_iff, Bool.or_eq_false_iff] at h) <;> (try (exfalso; first | omega | contradiction))))
              | (show WC _ _ _ _ _ _; first
                | refine WC.seq ?_
                | refine WC.region ?_
                | refine WC.block ?_
                | refine WC.skip ?_
                | refine WC.condF rfl (by with_reducible rfl) ?_
                | refine WC.condT rfl (decide_eq_true (by first | with_reducible assumption | omega)) ?_)
              | refine seqQ_n ?_
              | refine blkQ_n ?_)
            exact rndQ_n (k + 1) ⟨by omega, hS⟩ (by show n + 20 - (k + 1) < n + 20 - k; omega) ⟨vint (by omega), trivial⟩ ⟨rfl, rfl, rfl, trivial⟩
        · repeat' (first
            | (show WL _ _ _ _ _ _ _; first
              | refine WL.pure rfl rfl rfl rfl ?_
              | refine WL.nil ?_
              | refine WL.add rfl rfl rfl (by omega) rfl rfl rfl ?_
              | (first | (refine WL.load hS rfl rfl (LdOk.snap0 hyF hyr (by repeat (first | exact List.Mem.head _ | apply List.Mem.tail)) rfl) rfl rfl rfl ?_) | (refine WL.load hS rfl rfl (LdOk.snap0 hxF hxr (by repeat (first | exact List.Mem.head _ | apply List.Mem.tail)) rfl) rfl rfl rfl ?_) | (refine WL.load hS rfl rfl (LdOk.snap (off := 1) heF her (by repeat (first | exact List.Mem.head _ | apply List.Mem.tail)) rfl) rfl rfl rfl ?_) | (refine WL.load hS rfl rfl (LdOk.snap (off := 1) hfF hfr (by repeat (first | exact List.Mem.head _ | apply List.Mem.tail)) rfl) rfl rfl rfl ?_))
              | refine WL.index rfl rfl rfl rfl (by first | with_reducible assumption | omega) rfl rfl rfl rfl ?_)
            | (show WC _ _ _ _ _ _; first
              | refine WC.seq ?_
              | refine WC.region ?_
              | refine WC.exit ?_
              | refine WC.condF rfl (decide_eq_false (by first | with_reducible assumption | omega)) ?_)
            | refine seqQ_n ?_
            | refine blkQ_n ?_
            | refine seqQ_x ?_
            | refine blkQ_hit rfl ?_
            | refine rndQ_x ?_)
          exact rndQ_n (i + 1) ⟨by omega, hS⟩ (by show rs.length - (i + 1) < rs.length - i; omega) ⟨vint (by omega), trivial⟩ ⟨rfl, rfl, trivial⟩
      · repeat' (first
          | (show WL _ _ _ _ _ _ _; first
            | refine WL.pure rfl rfl rfl rfl ?_
            | refine WL.nil ?_)
          | (show WC _ _ _ _ _ _; first
            | refine WC.seq ?_
            | refine WC.region ?_
            | refine WC.exit ?_
            | refine WC.ret ?_
            | refine WC.condF rfl (decide_eq_false (by first | with_reducible assumption | omega)) ?_)
          | refine seqQ_n ?_
          | refine seqQ_x ?_
          | refine blkQ_hit rfl ?_
          | refine rndQ_x ?_)
        exact fin1r rfl rfl ⟨rfl, hfp (hS.less fun z hz => List.mem_cons_of_mem _ hz)⟩
end Go.Proofs.YtobfdeiimnnanaaGreatDoor

/- What is proved: what Roomy and Held of reference 4 and the archives of reference 16 answer. Conditions: entries of bounded length. -/
set_option linter.unusedSimpArgs false
set_option linter.unusedVariables false
namespace Go.Proofs.YtobfdeiimnnanaaGreatDoor
open Go Go.J Go.RowKit

def spareE : Ent := ⟨[115, 112, 97, 114, 101], 0, []⟩
section
variable {w0 : World}
theorem ents_one (t : List Ent) : Go.J.one (t.flatMap encEnt) = true := by
  unfold Go.J.one
  rw [List.all_flatMap, List.all_eq_true]
  intro e _
  rfl
set_option maxHeartbeats 4000000 in
set_option maxRecDepth 100000 in
theorem roomy_c (t : List Ent) {A : Option Addr} {cap : Nat} (hA : SlAt cEnt (Old w0) w0 A t) (hl : t.length ≤ 1048576) :
    Cal Tryz.prog 23 [.slice A t.length cap] w0 (fun v w' => Upd [] w0 w' ∧ ∃ A' cap', v = .slice A' t.length cap' ∧ t.length + 1 ≤ cap' ∧ New w0 w' (.own (.slice A' (t.length + 1) cap') 115 3 (t.length + 1) ((t ++ [spareE]).flatMap encEnt))) := by
  refine Cal.mk' (by kernel_rfl) Tryz.func23 rfl rfl fun hS => ?_
  have hfl : t.flatMap encEnt ++ [str [115, 112, 97, 114, 101], .int .i64 0, str []] = (t ++ [spareE]).flatMap encEnt := by rw [List.flatMap_append]; rfl
  repeat' (first
    | (show WL _ _ _ _ _ _ _; first
      | refine WL.pure rfl rfl rfl rfl ?_
      | refine WL.nil ?_
      | (refine WL.slit (t := 34) hS rfl rfl rfl rfl rfl ?_; intro w ob hS; try have hS := hS.boxRow (n := 0) (size := 3) .here rfl (Nat.zero_le _))
      | (refine WL.appSl (sz := 3) (enc := encEnt) (hsz := fun _ => rfl) hS rfl rfl rfl rfl hA (by repeat (first | exact List.Mem.head _ | apply List.Mem.tail)) (by decide) (ents_one t) (fun A cap => by repeat (first | exact Repl.here | apply Repl.there)) (by omega) rfl rfl rfl ?_; intro A2 cap2 w hS)
      | (refine WL.app hS rfl rfl rfl rfl (RdOk.box (by repeat (first | exact List.Mem.head _ | apply List.Mem.tail))) rfl rfl (fun A cap => by repeat (first | exact Repl.here | apply Repl.there)) (by omega) rfl rfl rfl ?_; intro A3 cap3 w hS; obtain ⟨ag, ao, rfl⟩ := hS.own_addr (A := A3) (by repeat (first | exact List.Mem.head _ | apply List.Mem.tail)) (by omega); have hcp := (hS.own_len (A := some ⟨ag, ao, none⟩) (by repeat (first | exact List.Mem.head _ | apply List.Mem.tail))).2.2)
      | (refine WL.highV rfl rfl rfl rfl (by omega) rfl rfl rfl ?_)
      | refine WL.build rfl rfl rfl rfl rfl ?_)
    | (show WC _ _ _ _ _ _; first
      | refine WC.seq ?_
      | refine WC.region ?_
      | refine WC.ret ?_)
    | refine seqQ_n ?_)
  rw [Nat.zero_add] at hcp
  rw [Nat.zero_add] at hS
  exact fin1r rfl rfl ⟨hS.upd, _, _, rfl, hcp, by rw [← hfl]; exact hS.newOf (by repeat (first | exact List.Mem.head _ | apply List.Mem.tail))⟩
set_option maxHeartbeats 4000000 in
set_option maxRecDepth 100000 in
theorem held_c (t : List Ent) {A B : Option Addr} {cap cap2 : Nat} (hA : SlAt cEnt (Old w0) w0 A (t ++ [spareE])) (hB : SlAt cEnt (Old w0) w0 B t) (hcap : t.length + 1 ≤ cap) (hl : t.length ≤ 1048576) :
    Cal Tryz.prog 25 [.slice A t.length cap, .slice B t.length cap2] w0 (fun v w' => Upd [] w0 w' ∧ v = .bool true) := by
  refine Cal.mk' (by kernel_rfl) Tryz.func25 rfl rfl fun hS => ?_
  obtain ⟨rb, ro, es, rfl, hF, hrr, hes⟩ := hA.at_ (k := t.length) (by simp)
  have hes : es = encEnt (t ++ [spareE])[t.length] := hes
  rw [List.getElem_append_right (Nat.le_refl _)] at hes
  simp only [Nat.sub_self, List.getElem_cons_zero] at hes
  subst hes
  have hrr : w0.rangeAt rb (ro + t.length * 3) (encEnt spareE) := hrr
  have hA1 := SlAt.pre hA
  repeat' (first
    | (show WL _ _ _ _ _ _ _; first
      | refine WL.pure rfl rfl rfl rfl ?_
      | refine WL.nil ?_
      | refine WL.add rfl rfl rfl (by omega) rfl rfl rfl ?_
      | (refine WL.calls hS rfl rfl (rsame_c t (hS.slO (by repeat (first | exact List.Mem.head _ | apply List.Mem.tail)) hA1) (hS.slO (by repeat (first | exact List.Mem.head _ | apply List.Mem.tail)) hB) (by omega)) rfl rfl rfl ?_; rintro v w rfl hS)
      | (refine WL.highV (j := t.length + 1) rfl rfl rfl rfl (by omega) rfl rfl rfl ?_)
      | (refine WL.load hS rfl rfl (LdOk.snap (off := 0) hF hrr (by repeat (first | exact List.Mem.head _ | apply List.Mem.tail)) rfl) rfl rfl rfl ?_)
      | refine WL.index rfl rfl rfl rfl (by first | with_reducible assumption | omega) rfl rfl rfl rfl ?_)
    | (show WC _ _ _ _ _ _; first
      | refine WC.seq ?_
      | refine WC.region ?_
      | refine WC.ret ?_)
    | refine seqQ_n ?_)
  exact fin1r rfl rfl ⟨hS.upd, rfl⟩
/-! ## the archives of the reference -/
def updF {α : Type} (f : Nat → α) (s : Nat) (v : α) : Nat → α := fun k => if k = s then v else f k
def cellsA (tr : Nat → Rw) (th tu : Nat → Bool) : List Value :=
  [(tr 0).val, (tr 1).val, (tr 2).val, (tr 3).val, (tr 4).val, (tr 5).val, (tr 6).val, .bool (th 0), .bool (th 1), .bool (th 2), .bool (th 3), .bool (th 4), .bool (th 5), .bool (th 6),
   .bool (tu 0), .bool (tu 1), .bool (tu 2), .bool (tu 3), .bool (tu 4), .bool (tu 5), .bool (tu 6), .int .i64 0, .int .i64 0, .int .i64 0, .int .i64 0, .int .i64 0, .int .i64 0, .int .i64 0]
variable {tr : Nat → Rw} {th tu : Nat → Bool}
theorem upto6 {s : Nat} (h : 1 ≤ s ∧ s ≤ 6) : s = 1 ∨ s = 2 ∨ s = 3 ∨ s = 4 ∨ s = 5 ∨ s = 6 := by omega
theorem getTr {s : Nat} (h : 1 ≤ s ∧ s ≤ 6) : (cellsA tr th tu)[0 + s * 1]? = some (.slice (tr s).A (tr s).n (tr s).cap) := by rcases upto6 h with rfl | rfl | rfl | rfl | rfl | rfl <;> rfl
theorem getTh {s : Nat} (h : 1 ≤ s ∧ s ≤ 6) : (cellsA tr th tu)[7 + s * 1]? = some (.bool (th s)) := by rcases upto6 h with rfl | rfl | rfl | rfl | rfl | rfl <;> rfl
theorem getTu {s : Nat} (h : 1 ≤ s ∧ s ≤ 6) : (cellsA tr th tu)[14 + s * 1]? = some (.bool (tu s)) := by rcases upto6 h with rfl | rfl | rfl | rfl | rfl | rfl <;> rfl
theorem splTr {s : Nat} (h : 1 ≤ s ∧ s ≤ 6) (r : Rw) : spl (cellsA tr th tu) (0 + s * 1) [.slice r.A r.n r.cap] = some (cellsA (updF tr s r) th tu) := by rcases upto6 h with rfl | rfl | rfl | rfl | rfl | rfl <;> rfl
theorem splTh {s : Nat} (h : 1 ≤ s ∧ s ≤ 6) (v : Bool) : spl (cellsA tr th tu) (7 + s * 1) [.bool v] = some (cellsA tr (updF th s v) tu) := by rcases upto6 h with rfl | rfl | rfl | rfl | rfl | rfl <;> rfl
theorem splTu {s : Nat} (h : 1 ≤ s ∧ s ≤ 6) (v : Bool) : spl (cellsA tr th tu) (14 + s * 1) [.bool v] = some (cellsA tr th (updF tu s v)) := by rcases upto6 h with rfl | rfl | rfl | rfl | rfl | rfl <;> rfl
set_option maxHeartbeats 4000000 in
set_option maxRecDepth 100000 in
theorem rmay_c (n : Int) : Cal Tryz.prog 76 [.int .i64 n] w0 (fun v w' => Upd [] w0 w' ∧ v = .bool (decide (1 ≤ n ∧ n ≤ 6))) := by
  refine Cal.mk' (by kernel_rfl) Tryz.func76 rfl rfl fun hS => ?_
  by_cases h1 : 1 ≤ n
  · repeat' (first
      | (show WL _ _ _ _ _ _ _; first
        | refine WL.pure rfl rfl rfl rfl ?_
        | refine WL.nil ?_
        | ((fail_if_success (refine WL.wanted rfl ?_)); refine WL.guard rfl rfl rfl (fun h => ?_) (fun h => ?_) <;> (try simp only [Classical.not_not, Bool.not_eq_true', Bool.not_eq_false', Bool.not_eq_eq_eq_not, Bool.not_true, Bool.not_false, beq_iff_eq, beq_eq_false_iff_ne, ne_eq, decide_eq_decide, decide_eq_true_eq, decide_eq_false_iff_not, Bool.and_eq_true, Bool.or_eq_true, Bool.and_eq_false_iff, Bool.or_eq_false_iff] at h) <;> (try (exfalso; first | omega | contradiction))))
      | (show WC _ _ _ _ _ _; first
        | refine WC.seq ?_
        | refine WC.region ?_
        | refine WC.ret ?_)
      | refine seqQ_n ?_)
    exact fin1r rfl rfl ⟨hS.upd, vbool (by simp [h1])⟩
  · repeat' (first
      | (show WL _ _ _ _ _ _ _; first
        | refine WL.pure rfl rfl rfl rfl ?_
        | refine WL.nil ?_
        | refine WL.skip rfl rfl rfl ?_
        | ((fail_if_success (refine WL.wanted rfl ?_)); refine WL.guard rfl rfl rfl (fun h => ?_) (fun h => ?_) <;> (try simp only [Classical.not_not, Bool.not_eq_true', Bool.not_eq_false', Bool.not_eq_eq_eq_not, Bool.not_true, Bool.not_false, beq_iff_eq, beq_eq_false_iff_ne, ne_eq, decide_eq_decide, decide_eq_true_eq, decide_eq_false_iff_not, Bool.and_eq_true, Bool.or_eq_true, Bool.and_eq_false_iff, Bool.or_eq_false_iff] at h) <;> (try (exfalso; first | omega | contradiction))))
      | (show WC _ _ _ _ _ _; first
        | refine WC.seq ?_
        | refine WC.region ?_
        | refine WC.ret ?_)
      | refine seqQ_n ?_)
    exact fin1r rfl rfl ⟨hS.upd, vbool (by simp [h1])⟩
variable {C : Nat}
def rloadE (tr : Nat → Rw) (th tu : Nat → Bool) (n : Int) : Value := if 1 ≤ n ∧ n ≤ 6 then (if th n.toNat then (if tu n.toNat then .tuple #[.slice none 0 0, .int .i64 6] else .tuple #[(tr n.toNat).val, .int .i64 0]) else .tuple #[.slice none 0 0, .int .i64 11]) else .tuple #[.slice none 0 0, .int .i64 1]
set_option maxHeartbeats 4000000 in
set_option maxRecDepth 100000 in
theorem rload_c (n : Int) (hi : InL w0 [.box C 57 (cellsA tr th tu)]) : Cal Tryz.prog 26 [.pointer (some ⟨C, 0, none⟩), .int .i64 n] w0 (fun v w' => v = rloadE tr th tu n ∧ MutL w0 w' [.box C 57 (cellsA tr th tu)] [.box C 57 (cellsA tr th tu)]) := by
  refine Cal.mkL hi (by kernel_rfl) Tryz.func26 rfl rfl fun hS => ?_
  have hmy := fun w0 => rmay_c (w0 := w0) n
  unfold rloadE
  by_cases hn : 1 ≤ n ∧ n ≤ 6
  · rw [decide_eq_true hn] at hmy
    rw [if_pos hn]
    obtain ⟨s, rfl⟩ : ∃ s : Nat, n = (s : Int) := ⟨n.toNat, by omega⟩
    rw [show (s : Int).toNat = s from rfl]
    have hs : 1 ≤ s ∧ s ≤ 6 := by omega
    have g1 := getTr (tr := tr) (th := th) (tu := tu) hs
    have g2 := getTh (tr := tr) (th := th) (tu := tu) hs
    have g3 := getTu (tr := tr) (th := th) (tu := tu) hs
    obtain ⟨HS, rfl⟩ : ∃ h : (1 ≤ s ∧ s ≤ 6), h = hs := ⟨_, rfl⟩
    obtain ⟨hs1, hs2⟩ := HS
    unfold Rw.val
    generalize tr s = r at *
    generalize hth : th s = bh at *
    generalize htu : tu s = bu at *
    clear hth htu hn
    cases bh <;> cases bu
    all_goals
      repeat' (first
        | (show WL _ _ _ _ _ _ _; first
          | refine WL.pure rfl rfl rfl rfl ?_
          | refine WL.nil ?_
          | (refine WL.calls hS rfl rfl (hmy _) rfl rfl rfl ?_; rintro v w rfl hS)
          | (refine WL.indexArr rfl rfl rfl rfl (by omega) rfl rfl rfl ?_)
          | (first | (refine WL.load hS rfl rfl (LdOk.boxAt (by repeat (first | exact List.Mem.head _ | apply List.Mem.tail)) rfl ⟨_, rfl⟩ g1 rfl) rfl rfl rfl ?_) | (refine WL.load hS rfl rfl (LdOk.boxAt (by repeat (first | exact List.Mem.head _ | apply List.Mem.tail)) rfl ⟨_, rfl⟩ g2 rfl) rfl rfl rfl ?_) | (refine WL.load hS rfl rfl (LdOk.boxAt (by repeat (first | exact List.Mem.head _ | apply List.Mem.tail)) rfl ⟨_, rfl⟩ g3 rfl) rfl rfl rfl ?_)))
        | (show WC _ _ _ _ _ _; first
          | refine WC.seq ?_
          | refine WC.region ?_
          | refine WC.skip ?_
          | refine WC.ret ?_
          | refine WC.condT rfl (by with_reducible rfl) ?_
          | refine WC.condF rfl (by with_reducible rfl) ?_
          | refine WC.condT rfl (by decide) ?_
          | refine WC.condF rfl (by decide) ?_)
        | refine seqQ_n ?_
        | refine seqQ_r ?_)
      exact fin2r rfl rfl rfl ⟨rfl, hS.mutLp (by repeat (first | exact Pulls.nil | (apply Pulls.cons; focus (repeat (first | exact Pull.here | apply Pull.there)))))⟩
  · rw [decide_eq_false hn] at hmy
    rw [if_neg hn]
    clear hn
    repeat' (first
      | (show WL _ _ _ _ _ _ _; first
        | refine WL.pure rfl rfl rfl rfl ?_
        | refine WL.nil ?_
        | (refine WL.calls hS rfl rfl (hmy _) rfl rfl rfl ?_; rintro v w rfl hS))
      | (show WC _ _ _ _ _ _; first
        | refine WC.seq ?_
        | refine WC.region ?_
        | refine WC.ret ?_
        | refine WC.condT rfl (by decide) ?_)
      | refine seqQ_n ?_
      | refine seqQ_r ?_)
    exact fin2r rfl rfl rfl ⟨rfl, hS.mutLp (by repeat (first | exact Pulls.nil | (apply Pulls.cons; focus (repeat (first | exact Pull.here | apply Pull.there)))))⟩
set_option maxHeartbeats 4000000 in
set_option maxRecDepth 100000 in
theorem rforget_c (s : Nat) (hs : 1 ≤ s ∧ s ≤ 6) (hi : InL w0 [.box C 57 (cellsA tr th tu)]) : Cal Tryz.prog 28 [.pointer (some ⟨C, 0, none⟩), .int .i64 (s : Int)] w0 (fun v w' => v = .int .i64 0 ∧ MutL w0 w' [.box C 57 (cellsA tr th tu)] [.box C 57 (cellsA tr (updF th s false) (updF tu s false))]) := by
  refine Cal.mkL hi (by kernel_rfl) Tryz.func28 rfl rfl fun hS => ?_
  have hmy := fun w0 => rmay_c (w0 := w0) (s : Int)
  rw [decide_eq_true (by omega)] at hmy
  have g2 := splTh (tr := tr) (th := th) (tu := tu) hs false
  have g3 := splTu (tr := tr) (th := updF th s false) (tu := tu) hs false
  obtain ⟨hs1, hs2⟩ := hs
  repeat' (first
    | (show WL _ _ _ _ _ _ _; first
      | refine WL.pure rfl rfl rfl rfl ?_
      | refine WL.nil ?_
      | (refine WL.calls hS rfl rfl (hmy _) rfl rfl rfl ?_; rintro v w rfl hS)
      | (refine WL.indexArr rfl rfl rfl rfl (by omega) rfl rfl rfl ?_)
      | (first | (refine WL.store hS rfl rfl rfl (.here g2) rfl rfl rfl ?_; intro w hS) | (refine WL.store hS rfl rfl rfl (.here g3) rfl rfl rfl ?_; intro w hS)))
    | (show WC _ _ _ _ _ _; first
      | refine WC.seq ?_
      | refine WC.region ?_
      | refine WC.skip ?_
      | refine WC.ret ?_
      | refine WC.condF rfl (by decide) ?_)
    | refine seqQ_n ?_)
  exact fin1r rfl rfl ⟨rfl, hS.mutLp (by repeat (first | exact Pulls.nil | (apply Pulls.cons; focus (repeat (first | exact Pull.here | apply Pull.there)))))⟩
set_option maxHeartbeats 4000000 in
set_option maxRecDepth 100000 in
theorem rforgetOut_c (n : Int) (b : Value) (hn : ¬ (1 ≤ n ∧ n ≤ 6)) : Cal Tryz.prog 28 [b, .int .i64 n] w0 (fun v w' => Upd [] w0 w' ∧ v = .int .i64 1) := by
  refine Cal.mk' (by kernel_rfl) Tryz.func28 rfl rfl fun hS => ?_
  have hmy := fun w0 => rmay_c (w0 := w0) n
  rw [decide_eq_false hn] at hmy
  clear hn
  repeat' (first
    | (show WL _ _ _ _ _ _ _; first
      | refine WL.pure rfl rfl rfl rfl ?_
      | refine WL.nil ?_
      | (refine WL.calls hS rfl rfl (hmy _) rfl rfl rfl ?_; rintro v w rfl hS))
    | (show WC _ _ _ _ _ _; first
      | refine WC.seq ?_
      | refine WC.region ?_
      | refine WC.ret ?_
      | refine WC.condT rfl (by decide) ?_)
    | refine seqQ_n ?_
    | refine seqQ_r ?_)
  exact fin1r rfl rfl ⟨hS.upd, rfl⟩
set_option maxHeartbeats 4000000 in
set_option maxRecDepth 100000 in
theorem rsaveOut_c (n : Int) (b x : Value) (hn : ¬ (1 ≤ n ∧ n ≤ 6)) : Cal Tryz.prog 24 [b, .int .i64 n, x] w0 (fun v w' => Upd [] w0 w' ∧ v = .int .i64 1) := by
  refine Cal.mk' (by kernel_rfl) Tryz.func24 rfl rfl fun hS => ?_
  have hmy := fun w0 => rmay_c (w0 := w0) n
  rw [decide_eq_false hn] at hmy
  clear hn
  repeat' (first
    | (show WL _ _ _ _ _ _ _; first
      | refine WL.pure rfl rfl rfl rfl ?_
      | refine WL.nil ?_
      | (refine WL.calls hS rfl rfl (hmy _) rfl rfl rfl ?_; rintro v w rfl hS))
    | (show WC _ _ _ _ _ _; first
      | refine WC.seq ?_
      | refine WC.region ?_
      | refine WC.ret ?_
      | refine WC.condT rfl (by decide) ?_)
    | refine seqQ_n ?_
    | refine seqQ_r ?_)
  exact fin1r rfl rfl ⟨hS.upd, rfl⟩
set_option maxHeartbeats 4000000 in
set_option maxRecDepth 100000 in
theorem rsaveBad_c (n : Int) (b : Value) (t : List Ent) {A : Option Addr} {cap : Nat} (hn : 1 ≤ n ∧ n ≤ 6) (hA : SlAt cEnt (Old w0) w0 A t) (hcap : t.length ≤ cap) (hl : t.length ≤ 1048576) (hz : ∀ e ∈ t, e.path.length ≤ 1048576) {c : Int} (hc : checkT t = c) (hc0 : c ≠ 0) :
    Cal Tryz.prog 24 [b, .int .i64 n, .slice A t.length cap] w0 (fun v w' => Upd [] w0 w' ∧ v = .int .i64 c) := by
  refine Cal.mk' (by kernel_rfl) Tryz.func24 rfl rfl fun hS => ?_
  have hmy := fun w0 => rmay_c (w0 := w0) n
  rw [decide_eq_true hn] at hmy
  clear hn
  repeat' (first
    | (show WL _ _ _ _ _ _ _; first
      | refine WL.pure rfl rfl rfl rfl ?_
      | refine WL.nil ?_
      | (refine WL.calls hS rfl rfl (hmy _) rfl rfl rfl ?_; rintro v w rfl hS)
      | (refine WL.calls hS rfl rfl (rtcheck_c t (hS.slO (by repeat (first | exact List.Mem.head _ | apply List.Mem.tail)) hA) hcap (by omega) hz) rfl rfl rfl ?_; rintro v w rfl hS; rw [hc]))
    | (show WC _ _ _ _ _ _; first
      | refine WC.seq ?_
      | refine WC.region ?_
      | refine WC.skip ?_
      | refine WC.ret ?_
      | refine WC.condF rfl (by decide) ?_
      | refine WC.condT rfl (decide_eq_true (by first | with_reducible assumption | omega)) ?_)
    | refine seqQ_n ?_
    | refine seqQ_r ?_)
  exact fin1r rfl rfl ⟨hS.upd, rfl⟩
set_option maxHeartbeats 8000000 in
set_option maxRecDepth 100000 in
theorem rsave_c (s : Nat) (t : List Ent) {A : Option Addr} {cap : Nat} (hs : 1 ≤ s ∧ s ≤ 6) (hi : InL w0 [.box C 57 (cellsA tr th tu)]) (hA : SlAt cEnt (fun b => b < w0.heap.size ∧ b ∉ fps [.box C 57 (cellsA tr th tu)]) w0 A t) (hcap : t.length ≤ cap) (hl : t.length ≤ 1048576) (hz : ∀ e ∈ t, e.path.length ≤ 1048576) (hc : checkT t = 0) :
    Cal Tryz.prog 24 [.pointer (some ⟨C, 0, none⟩), .int .i64 (s : Int), .slice A t.length cap] w0 (fun v w' => v = .int .i64 0 ∧ ∃ A' cap', MutL w0 w' [.box C 57 (cellsA tr th tu)] [.box C 57 (cellsA (updF tr s ⟨A', t.length, cap'⟩) (updF th s true) (updF tu s false)), .own (.slice A' t.length cap') 115 3 t.length (t.flatMap encEnt)]) := by
  refine Cal.mkL hi (by kernel_rfl) Tryz.func24 rfl rfl fun hS => ?_
  have hmy := fun w0 => rmay_c (w0 := w0) (s : Int)
  rw [decide_eq_true (by omega)] at hmy
  have g1 := fun tr th tu r => splTr (tr := tr) (th := th) (tu := tu) hs r
  have g2 := fun tr th tu => splTh (tr := tr) (th := th) (tu := tu) hs true
  have g3 := fun tr th tu => splTu (tr := tr) (th := th) (tu := tu) hs false
  obtain ⟨hs1, hs2⟩ := hs
  repeat' (first
    | (show WL _ _ _ _ _ _ _; first
      | refine WL.pure rfl rfl rfl rfl ?_
      | refine WL.nil ?_
      | (refine WL.calls hS rfl rfl (hmy _) rfl rfl rfl ?_; rintro v w rfl hS)
      | (refine WL.calls hS rfl rfl (rtcheck_c t (hS.slO (by repeat (first | exact List.Mem.head _ | apply List.Mem.tail)) hA) hcap (by omega) hz) rfl rfl rfl ?_; rintro v w rfl hS; rw [hc])
      | (refine WL.indexArr rfl rfl rfl rfl (by omega) rfl rfl rfl ?_)
      | (first | (refine WL.store hS rfl rfl rfl (.there (.here (g2 _ _ _))) rfl rfl rfl ?_; intro w hS) | (refine WL.store hS rfl rfl rfl (.there (.here (g3 _ _ _))) rfl rfl rfl ?_; intro w hS)))
    | (show WC _ _ _ _ _ _; first
      | refine WC.seq ?_
      | refine WC.region ?_
      | refine WC.skip ?_
      | refine WC.ret ?_
      | (show WC _ _ (Code.region _ (List.toArray [_, _, _, _, _, _, _, _, _]) true) _ _ _; refine WC.drawL [.box C 57 (cellsA tr th tu)] hS (by repeat (first | exact Pulls.nil | (apply Pulls.cons; focus (repeat (first | exact Pull.here | apply Pull.there))))) [0,1,3,5,6,7] [0,1,3,5,6,2,4,7,8] (by kernel_rfl) (by kernel_rfl) ?_; clear hS; intro w hS hM)
      | refine WC.condF rfl (by decide) ?_)
    | (show WD _ _ _ _ _ _ _ _ _; first
      | refine WD.pure rfl rfl rfl rfl rfl ?_
      | refine WD.nil ?_
      | (refine WD.slit (t := 34) hS hM rfl rfl rfl rfl rfl rfl rfl ?_; clear hS; intro w ob hS _; replace hS := hS.boxRow (n := 0) (size := 3) .here rfl (Nat.zero_le _))
      | (refine WD.appSl (sz := 3) (enc := encEnt) (hsz := fun _ => rfl) hS .here hM rfl rfl rfl rfl hA (by repeat (first | exact List.Mem.head _ | apply List.Mem.tail)) (by decide) (ents_one t) (by omega) rfl rfl rfl rfl rfl ?_; clear hS; intro A2 cap2 w hS hM)
      | (refine WD.indexArr rfl rfl rfl rfl (by omega) rfl rfl rfl rfl ?_)
      | (refine WD.store hS rfl rfl rfl (.there (.here (g1 _ _ _ ⟨A2, 0 + t.length, cap2⟩))) rfl (.chunk (.chunk (.refl _ _) _) _) rfl rfl rfl rfl ?_; clear hS hM; intro w hS hM))
    | refine seqQ_n ?_)
  rw [Nat.zero_add] at hS
  exact fin1r rfl rfl ⟨rfl, A2, cap2, hS.mutLp (by repeat (first | exact Pulls.nil | (apply Pulls.cons; focus (repeat (first | exact Pull.here | apply Pull.there)))))⟩
end
end Go.Proofs.YtobfdeiimnnanaaGreatDoor

/- What is proved: that the law's alike answers true where all archives are as the document says. Conditions: lists of bounded length; the library's table of powers laid. -/
set_option linter.unusedSimpArgs false
set_option linter.unusedVariables false
namespace Go.Proofs.YtobfdeiimnnanaaGreatDoor
open Go Go.J Go.RowKit

/-- the reference's archives are these -/
structure RefIs (P : Nat → Option Arc) (tr : Nat → Rw) (th tu : Nat → Bool) (F : Nat → Prop) (w : World) : Prop where
  th_ : ∀ n, 1 ≤ n → n ≤ 6 → th n = (P n).isSome
  tu_ : ∀ n a, 1 ≤ n → n ≤ 6 → P n = some a → tu n = a.bit.isSome
  tr_ : ∀ n a, 1 ≤ n → n ≤ 6 → P n = some a → a.bit = none → (tr n).n = a.tree.length ∧ SlAt cEnt F w (tr n).A a.tree
theorem RefIs.mono {P : Nat → Option Arc} {tr : Nat → Rw} {th tu : Nat → Bool} {F F' : Nat → Prop} {w w' : World} (h : RefIs P tr th tu F w) (hs : ∀ {A : Option Addr} {t : List Ent}, SlAt cEnt F w A t → SlAt cEnt F' w' A t) : RefIs P tr th tu F' w' :=
  ⟨h.th_, h.tu_, fun n a h1 h6 hP hb => ⟨(h.tr_ n a h1 h6 hP hb).1, hs (h.tr_ n a h1 h6 hP hb).2⟩⟩
theorem mark2 {e : TypeId} (r1 r2 : Rw) (l1 l2 : List Ent) (h1 : l1.length = r1.n) (h2 : l2.length = r2.n) : MarkIs encEnt e 3 mE [r1, r2] [ownRw encEnt e 3 r1 l1, ownRw encEnt e 3 r2 l2] 0 := by
  refine ⟨rfl, fun j hj => ?_⟩
  match j, hj with
  | 0, _ => exact ⟨l1, h1, rfl, fun h => absurd h (Nat.not_lt_zero _)⟩
  | 1, _ => exact ⟨l2, h2, rfl, fun h => absurd h (Nat.not_lt_zero _)⟩
theorem MutL.ofUpd {w w' : World} {D : List Chunk} (hi : InL w D) (hu : Upd [] w w') : MutL w w' D D := by
  have h := (St.initL hi).upd0 hu
  exact St.mutLOf (H := []) (by rw [List.append_nil]; exact h)
section
variable {B Tp q : Nat} {T : Tb} {m : Bch} {fb fp : List Nat} {w0 : World} {ex : Prop} {L : List One} {K : Nat} {P : Nat → Option Arc} {C : Nat} {tr : Nat → Rw} {th tu : Nat → Bool}
set_option maxHeartbeats 32000000 in
set_option maxRecDepth 100000 in
theorem aalike_c (hi : InL w0 [bchC B (some ⟨Tp, 0, none⟩) m fb, tabC Tp q T fp, .box C 57 (cellsA tr th tu)]) (hp : PowI w0 (fps [bchC B (some ⟨Tp, 0, none⟩) m fb, tabC Tp q T fp, .box C 57 (cellsA tr th tu)])) (hs : ArcIs ex T.rows m L K P) (hK : K ≤ 500000) (hr : RefIs P tr th tu (fun b => b < w0.heap.size ∧ b ∉ fps [bchC B (some ⟨Tp, 0, none⟩) m fb, tabC Tp q T fp, .box C 57 (cellsA tr th tu)]) w0) :
    Cal Tryz.prog 30 [.pointer (some ⟨B, 0, none⟩), .pointer (some ⟨C, 0, none⟩)] w0 (fun v w' => v = .bool true ∧ MutL w0 w' [bchC B (some ⟨Tp, 0, none⟩) m fb, tabC Tp q T fp, .box C 57 (cellsA tr th tu)] [bchC B (some ⟨Tp, 0, none⟩) m fb, tabC Tp q T fp, .box C 57 (cellsA tr th tu)]) := by
  refine Cal.mkL hi (by kernel_rfl) Tryz.func30 rfl rfl fun hS => ?_
  repeat' (first
    | (show WL _ _ _ _ _ _ _; first
      | refine WL.pure rfl rfl rfl rfl ?_
      | refine WL.nil ?_)
    | (show WC _ _ _ _ _ _; first
      | refine WC.seq ?_
      | refine WC.region ?_
      | refine WC.block ?_)
    | refine seqQ_n ?_)
  refine WC.loop (σ := Nat) [0, 1] (fun k => [(5, .int .i64 ((k : Int) - 1))]) (fun k w => k ≤ 10 ∧ St w0 (fps [bchC B (some ⟨Tp, 0, none⟩) m fb, tabC Tp q T fp, .box C 57 (cellsA tr th tu)]) w [bchC B (some ⟨Tp, 0, none⟩) m fb, tabC Tp q T fp, .box C 57 (cellsA tr th tu)] (ZL w0 [bchC B (some ⟨Tp, 0, none⟩) m fb, tabC Tp q T fp, .box C 57 (cellsA tr th tu)])) (fun k => 10 - k) 0 ⟨Nat.zero_le _, hS⟩ ⟨rfl, trivial⟩ ?_
  clear hS
  rintro k g w ⟨hk, hS⟩
  show WC _ _ _ (lf _ [(5, .int .i64 ((k : Int) - 1))] _ _) _ _
  by_cases hlt : k < 10
  rotate_left
  · obtain rfl : k = 10 := by omega
    repeat' (first
      | (show WL _ _ _ _ _ _ _; first
        | refine WL.pure rfl rfl rfl rfl ?_
        | refine WL.nil ?_)
      | (show WC _ _ _ _ _ _; first
        | refine WC.seq ?_
        | refine WC.region ?_
        | refine WC.exit ?_
        | refine WC.ret ?_
        | refine WC.condF rfl (by decide) ?_)
      | refine seqQ_n ?_
      | refine seqQ_x ?_
      | refine blkQ_hit rfl ?_
      | refine rndQ_x ?_)
    exact fin1r rfl rfl ⟨rfl, hS.mutLp (by repeat (first | exact Pulls.nil | (apply Pulls.cons; focus (repeat (first | exact Pull.here | apply Pull.there)))))⟩
  obtain ⟨n, hn⟩ : ∃ n : Int, n = (k : Int) - 1 := ⟨_, rfl⟩
  have hcase : (∃ e : Int, (∀ w0 (hi : InL w0 [bchC B (some ⟨Tp, 0, none⟩) m fb, tabC Tp q T fp]) (hp : PowI w0 (fps [bchC B (some ⟨Tp, 0, none⟩) m fb, tabC Tp q T fp])), Cal Tryz.prog 20 [.pointer (some ⟨B, 0, none⟩), .int .i64 n] w0 (fun v w' => v = .tuple #[.slice none 0 0, .int .i64 e] ∧ MutL w0 w' [bchC B (some ⟨Tp, 0, none⟩) m fb, tabC Tp q T fp] [bchC B (some ⟨Tp, 0, none⟩) m fb, tabC Tp q T fp])) ∧ rloadE tr th tu n = .tuple #[.slice none 0 0, .int .i64 e]) ∨
      (∃ (s : Nat) (a : Arc), n = (s : Int) ∧ 1 ≤ s ∧ s ≤ 6 ∧ P s = some a ∧ a.bit = none ∧ rloadE tr th tu n = .tuple #[(tr s).val, .int .i64 0]) := by
    unfold rloadE
    by_cases h6 : 1 ≤ n ∧ n ≤ 6
    · obtain ⟨s, rfl⟩ : ∃ s : Nat, n = (s : Int) := ⟨n.toNat, by omega⟩
      rw [if_pos h6, show (s : Int).toNat = s from rfl]
      have h1 : 1 ≤ s := by omega
      have h2 : s ≤ 6 := by omega
      cases hP : P s with
      | none =>
        rw [hr.th_ s h1 h2, hP]
        exact .inl ⟨11, fun w0 hi hp => aloadNo_c s ⟨h1, h2⟩ hi hp hs hP, rfl⟩
      | some a =>
        rw [hr.th_ s h1 h2, hP, hr.tu_ s a h1 h2 hP]
        cases hb : a.bit with
        | none => exact .inr ⟨s, a, rfl, h1, h2, hP, hb, rfl⟩
        | some bit => exact .inl ⟨6, fun w0 hi hp => aloadT_c s a ⟨h1, h2⟩ hi hp hs hP hb, rfl⟩
    · rw [if_neg h6]
      exact .inl ⟨1, fun w0 hi hp => (aloadOut_c n _ h6).mono fun v w' ⟨hu, h⟩ => ⟨h, MutL.ofUpd hi hu⟩, rfl⟩
  rw [← hn]
  rcases hcase with ⟨e, hL, hR⟩ | ⟨s, a, rfl, h1, h6, hP, hb, hR⟩
  · have hnil : ∀ {w : World}, SlAt cEnt (Old w) w none [] := fun k hk => absurd hk (Nat.not_lt_zero _)
    clear hr hs
    repeat' (first
      | (show WL _ _ _ _ _ _ _; first
        | refine WL.pure rfl rfl rfl rfl ?_
        | refine WL.nil ?_
        | refine WL.add rfl rfl rfl (by omega) rfl rfl rfl ?_
        | (refine WL.callL (D := [bchC B (some ⟨Tp, 0, none⟩) m fb, tabC Tp q T fp]) hS (by repeat (first | exact Pulls.nil | (apply Pulls.cons; focus (repeat (first | exact Pull.here | apply Pull.there))))) rfl rfl (fun hI => hL _ hI (hp.pull hS (by repeat (first | exact Pulls.nil | (apply Pulls.cons; focus (repeat (first | exact Pull.here | apply Pull.there))))))) rfl rfl rfl ?_; rintro v w ⟨rfl, hmu⟩ hS; replace hS := hS _ hmu; clear hmu)
        | (refine WL.callL (D := [.box C 57 (cellsA tr th tu)]) hS (by repeat (first | exact Pulls.nil | (apply Pulls.cons; focus (repeat (first | exact Pull.here | apply Pull.there))))) rfl rfl (fun hI => rload_c n hI) rfl rfl rfl ?_; rintro v w ⟨rfl, hmu⟩ hS; rw [hR]; replace hS := hS _ hmu; clear hmu)
        | (refine WL.calls hS rfl rfl (rsame_c [] hnil hnil (by decide)) rfl rfl rfl ?_; rintro v w rfl hS)
        | (refine WL.slit (t := 149) hS rfl rfl rfl rfl rfl ?_; intro w ob hS; replace hS := hS.boxRow (n := 2) (size := 1) .here rfl (by decide))
        | (replace hS := (hS.nilRow 115 3).nilRow 115 3; refine WL.callL (D := [.own (.slice (some ⟨ob, 0, none⟩) 2 2) 34 1 2 [.slice none 0 0, .slice none 0 0], .own (.slice none 0 0) 115 3 0 [], .own (.slice none 0 0) 115 3 0 []]) hS (by repeat (first | exact Pulls.nil | (apply Pulls.cons; focus (repeat (first | exact Pull.here | apply Pull.there))))) rfl rfl (fun hI => rapart_c [⟨none, 0, 0⟩, ⟨none, 0, 0⟩] [ownRw encEnt 115 3 ⟨none, 0, 0⟩ [], ownRw encEnt 115 3 ⟨none, 0, 0⟩ []] hI (mark2 _ _ _ _ rfl rfl) (by decide) (by decide)) rfl rfl rfl ?_; rintro v w ⟨rfl, hmu⟩ hS; replace hS := hS _ hmu; clear hmu)
        | ((fail_if_success (refine WL.wanted rfl ?_)); refine WL.guard rfl rfl rfl (fun h => ?_) (fun h => ?_) <;> (try simp only [Classical.not_not, Bool.not_eq_true', Bool.not_eq_false', Bool.not_eq_eq_eq_not, Bool.not_true, Bool.not_false, beq_iff_eq, beq_eq_false_iff_ne, ne_eq, decide_eq_decide, decide_eq_true_eq, decide_eq_false_iff_not, Bool.and_eq_true, Bool.or_eq_true, Bool.and_eq_false_iff, Bool.or_eq_false_iff] at h) <;> (try (exfalso; first | omega | contradiction))))
      | (show WC _ _ _ _ _ _; first
        | refine WC.seq ?_
        | refine WC.region ?_
        | refine WC.block ?_
        | refine WC.skip ?_
        | refine WC.condF rfl (by decide) ?_
        | refine WC.condT rfl (decide_eq_true (by first | with_reducible assumption | omega)) ?_)
      | refine seqQ_n ?_
      | refine blkQ_n ?_)
    exact rndQ_n (k + 1) ⟨by omega, hS.droplast2 (by repeat (first | exact Pulls.nil | (apply Pulls.cons; focus (repeat (first | exact Pull.here | apply Pull.there)))))⟩ (by show 10 - (k + 1) < 10 - k; omega) ⟨vint (by omega), trivial⟩ ⟨rfl, rfl, trivial⟩
  · obtain ⟨hrn, hrA⟩ := hr.tr_ s a h1 h6 hP hb
    have hok := hs.ok s a hP
    have hfew := hok.few
    have hL := fun (w0 : World) (hi : InL w0 [bchC B (some ⟨Tp, 0, none⟩) m fb, tabC Tp q T fp]) (hp : PowI w0 (fps [bchC B (some ⟨Tp, 0, none⟩) m fb, tabC Tp q T fp])) => aloadA_c s a ⟨h1, h6⟩ hi hp hs hP hb hK
    generalize htr : tr s = r at *
    obtain ⟨A, rn, rc⟩ := r
    dsimp only at hrn hrA
    subst hrn
    obtain ⟨t, l, bit⟩ := a
    dsimp only at hrA hL hfew
    unfold Rw.val at hR
    dsimp only at hR
    clear hr hs hok hP hb
    have hap : ∀ {ob : Nat} {AR AX : Option Addr} {cr cx : Nat} {w0 : World} (hI : InL w0 [.own (.slice (some ⟨ob, 0, none⟩) 2 2) 34 1 2 [.slice AR t.length cr, .slice AX t.length cx], .own (.slice AR t.length cr) 115 3 t.length (ents t), .own (.slice AX t.length cx) 115 3 t.length (ents t)]), Cal Tryz.prog 82 [.slice (some ⟨ob, 0, none⟩) 2 2] w0 (fun v w' => v = .bool true ∧ MutL w0 w' [.own (.slice (some ⟨ob, 0, none⟩) 2 2) 34 1 2 [.slice AR t.length cr, .slice AX t.length cx], .own (.slice AR t.length cr) 115 3 t.length (ents t), .own (.slice AX t.length cx) 115 3 t.length (ents t)] []) := fun {ob AR AX cr cx w0} hI =>
      rapart_c [⟨AR, t.length, cr⟩, ⟨AX, t.length, cx⟩] [ownRw encEnt 115 3 ⟨AR, t.length, cr⟩ t, ownRw encEnt 115 3 ⟨AX, t.length, cx⟩ t] hI (mark2 _ _ _ _ rfl rfl) (show (2 : Nat) ≤ 1000 by decide) (fun r hr => by simp only [List.mem_cons, List.not_mem_nil, or_false] at hr; rcases hr with rfl | rfl <;> (dsimp only; omega))
    have hL1 := hL
    repeat' (first
      | (show WL _ _ _ _ _ _ _; first
        | refine WL.pure rfl rfl rfl rfl ?_
        | refine WL.nil ?_
        | refine WL.add rfl rfl rfl (by omega) rfl rfl rfl ?_
        | (refine WL.callL (D := [bchC B (some ⟨Tp, 0, none⟩) m fb, tabC Tp q T fp]) hS (by repeat (first | exact Pulls.nil | (apply Pulls.cons; focus (repeat (first | exact Pull.here | apply Pull.there))))) rfl rfl (fun hI => hL1 _ hI (hp.pull hS (by repeat (first | exact Pulls.nil | (apply Pulls.cons; focus (repeat (first | exact Pull.here | apply Pull.there))))))) rfl rfl rfl ?_; clear hL1; rintro v w ⟨AR, cr, rfl, hmu⟩ hS; replace hS := hS _ hmu; clear hmu)
        | (refine WL.callL (D := [bchC B (some ⟨Tp, 0, none⟩) m fb, tabC Tp q T fp]) hS (by repeat (first | exact Pulls.nil | (apply Pulls.cons; focus (repeat (first | exact Pull.here | apply Pull.there))))) rfl rfl (fun hI => hL _ hI (hp.pull hS (by repeat (first | exact Pulls.nil | (apply Pulls.cons; focus (repeat (first | exact Pull.here | apply Pull.there))))))) rfl rfl rfl ?_; rintro v w ⟨AX, cx, rfl, hmu⟩ hS; replace hS := hS _ hmu; clear hmu)
        | (refine WL.callL (D := [.box C 57 (cellsA tr th tu)]) hS (by repeat (first | exact Pulls.nil | (apply Pulls.cons; focus (repeat (first | exact Pull.here | apply Pull.there))))) rfl rfl (fun hI => rload_c (s : Int) hI) rfl rfl rfl ?_; rintro v w ⟨rfl, hmu⟩ hS; rw [hR]; replace hS := hS _ hmu; clear hmu)
        | (refine WL.calls hS rfl rfl (rsame_c t (St.ownSl (enc := encEnt) (hsz := fun _ => rfl) (l := t) (by decide) hS (by repeat (first | exact List.Mem.head _ | apply List.Mem.tail))) (hS.slO (by repeat (first | exact List.Mem.head _ | apply List.Mem.tail)) hrA) (by omega)) rfl rfl rfl ?_; rintro v w rfl hS)
        | (refine WL.slit (t := 149) hS rfl rfl rfl rfl rfl ?_; intro w ob hS; replace hS := hS.boxRow (n := 2) (size := 1) .here rfl (by decide))
        | (refine WL.callL (D := [.own (.slice (some ⟨ob, 0, none⟩) 2 2) 34 1 2 [.slice AR t.length cr, .slice AX t.length cx], .own (.slice AR t.length cr) 115 3 t.length (ents t), .own (.slice AX t.length cx) 115 3 t.length (ents t)]) hS (by repeat (first | exact Pulls.nil | (apply Pulls.cons; focus (repeat (first | exact Pull.here | apply Pull.there))))) rfl rfl (fun hI => hap hI) rfl rfl rfl ?_; rintro v w ⟨rfl, hmu⟩ hS; replace hS := hS _ hmu; clear hmu))
      | (show WC _ _ _ _ _ _; first
        | refine WC.seq ?_
        | refine WC.region ?_
        | refine WC.block ?_
        | refine WC.skip ?_
        | refine WC.condF rfl (by decide) ?_
        | refine WC.condT rfl (decide_eq_true (by first | with_reducible assumption | omega)) ?_)
      | refine seqQ_n ?_
      | refine blkQ_n ?_)
    exact rndQ_n (k + 1) ⟨by omega, hS.droplast2 (by repeat (first | exact Pulls.nil | (apply Pulls.cons; focus (repeat (first | exact Pull.here | apply Pull.there)))))⟩ (by show 10 - (k + 1) < 10 - k; omega) ⟨vint (by omega), trivial⟩ ⟨rfl, rfl, trivial⟩
end
end Go.Proofs.YtobfdeiimnnanaaGreatDoor

/- What is proved: a batch that is committed, and the table that is opened again. Conditions: sizes as named. -/
set_option linter.unusedSimpArgs false
set_option linter.unusedVariables false
namespace Go.Proofs.YtobfdeiimnnanaaGreatDoor
open Go Go.J Go.RowKit

/-- the table again: what was committed is there, in the order in which it was laid -/
theorem TabSt.again {D : Dk} {bs : Option (List Chg)} {ls : List (List Chg)} (h : TabSt D bs ls) (hw : TabWf bs ls) {KS : List (List UInt8)} {S : Nat} {m : Bch} (hf : ls.length ≤ 15) (hm : BookM KS S m) (hr : BookR KS S (rowsOf bs ls)) (hS : KS.length * S ≤ 1073000000) :
    ∃ D' bs' ls', tabCommit ⟨sysP, rowsOf bs ls, ⟨sysL, ls.map recordE, false⟩⟩ D (m.map Prod.snd) = (0, ⟨sysP, applyE (rowsOf bs ls) (m.map Prod.snd), ⟨sysL, ls'.map recordE, false⟩⟩, D') ∧ TabSt D' bs' ls' ∧ TabWf bs' ls' ∧ ls'.length ≤ 15 ∧
      (∀ k, getE (rowsOf bs' ls') k = bgetE (rowsOf bs ls) m k) ∧ BookR KS S (rowsOf bs' ls') := by
  have hsz : szL (m.map Prod.snd) ≤ 1073000000 := Nat.le_trans hm.size hS
  have hge := getE_commit (rowsOf_are bs ls) hm.ok
  have hra := (rowsOf_are bs ls).apply (l := m.map Prod.snd)
  have hbr := hm.commit hr
  by_cases hl : ls.length < 15
  · obtain ⟨D', ls', h1, h2, h3, h4, h5⟩ := h.commitAny hw (rowsOf bs ls) (m.map Prod.snd) hm.ok.clean hsz hl
    refine ⟨D', bs, ls', h1, h2, h3, by omega, ?_, ?_⟩
    · rw [h5]; exact hge
    · rw [h5]; exact hbr
  · by_cases hne : m.map Prod.snd = []
    · rw [hne] at hge hbr ⊢
      exact ⟨D, bs, ls, rfl, h, hw, hf, hge, hbr⟩
    · obtain ⟨D', h1, h2⟩ := h.commit16 (rowsOf bs ls) (m.map Prod.snd) hne (by omega)
      refine ⟨D', _, [], h1, h2, ⟨by decide, fun l hl => (by cases hl), fun l hl => (by cases hl), packL_clean _, ?_⟩, Nat.zero_le _, fun k => ?_, ?_⟩
      · show szL (packL _) ≤ _
        rw [szL_pack hra.1]
        have := hbr.size
        omega
      · have hp := packL_rows hra
        have ha : RowsAre (rowsOf (some (packL (applyE (rowsOf bs ls) (m.map Prod.snd)))) []) _ := rowsOf_are _ _
        rw [getE_of ha, ← hge k, getE_of hra]
        show ((applyF (fun _ => none) (packL _) k).getD [], (applyF (fun _ => none) (packL _) k).isSome) = _
        rw [hp]
      · show BookR KS S (applyE [] (packL _))
        refine BookR.nil.apply fun o ho => ?_
        obtain ⟨k, hk, rfl⟩ := List.mem_map.1 ho
        have hk := (keysE_perm _).mem_iff.1 hk
        obtain ⟨p, hp, rfl⟩ := List.mem_map.1 hk
        have hg := mget_of_mem hra.1 (k := p.1) (v := p.2) hp
        have h2 := hbr.in_ p hp
        unfold rowOp szO
        rw [hg]
        exact h2
end Go.Proofs.YtobfdeiimnnanaaGreatDoor

/- What is proved: where the law ArchivePlays stands, in plain lists. Conditions: as each names them. -/
set_option linter.unusedSimpArgs false
set_option linter.unusedVariables false
namespace Go.Proofs.YtobfdeiimnnanaaGreatDoor
open Go Go.J Go.RowKit

structure Stp16 where
  kind : Int
  spoke : Int
  n : Int
  t : List Ent
instance : Inhabited Stp16 := ⟨⟨0, 0, 0, []⟩⟩
def cStp16 : Cod Stp16 where
  sz := 4
  rd F w cs s := ∃ A cap, cs = [.int .i64 s.kind, .int .i64 s.spoke, .int .i64 s.n, .slice A s.t.length cap] ∧ s.t.length ≤ cap ∧ SlAt cEnt F w A s.t
  len := fun ⟨_, _, e, _⟩ => by rw [e]; rfl
  loc := fun ⟨A, cap, e, hc, h⟩ hs => ⟨A, cap, e, hc, h.loc hs⟩
  mono := fun ⟨A, cap, e, hc, h⟩ hs => ⟨A, cap, e, hc, h.mono hs⟩
section
variable {rows rows1 : Rws} {m : Bch} {L : List One} {K K' : Nat} {P : Nat → Option Arc} {ex : Prop}
theorem ArcIs.weak (h : ArcIs ex rows m L K P) : ArcIs False rows m L K P := ⟨h.blob, ⟨h.held.have_, fun x hx => ⟨(h.held.cnt x hx).1, fun hf => hf.elim⟩⟩, h.has, h.no, h.ok, h.only, h.zero⟩
theorem ArcIs.upK (h : ArcIs ex rows m L K P) (hK : K ≤ K') : ArcIs ex rows m L K' P := ⟨h.blob.upK hK, h.held, h.has, h.no, h.ok, h.only, h.zero⟩
theorem ArcIs.commit (h : ArcIs ex rows m L K P) (hn : (rows1.map Prod.fst).Nodup) (hg : ∀ k, getE rows1 k = bgetE rows m k) : ArcIs ex rows1 [] L K P := by
  have hb : ∀ k, bgetE rows1 [] k = bgetE rows m k := hg
  exact ⟨⟨hn, by simp, fun x hx => by rw [hb]; exact h.blob.has x hx, fun k hk => by rw [hb] at hk; exact h.blob.only k hk, h.blob.low, h.blob.refs, h.blob.nums, h.blob.len, h.blob.size, h.blob.knd, h.blob.dnd⟩,
    h.held, fun n a h1 h6 hP => by rw [hb]; exact h.has n a h1 h6 hP, fun n h1 h6 hP => by rw [hb]; exact h.no n h1 h6 hP, h.ok, fun k hk => by rw [hb] at hk; exact h.only k hk, h.zero⟩
theorem ArcIs.as (h : ArcIs ex rows m L K P) {ex' : Prop} (hx : ex' → ex) : ArcIs ex' rows m L K P := ⟨h.blob, ⟨h.held.have_, fun x hx2 => ⟨(h.held.cnt x hx2).1, fun e => (h.held.cnt x hx2).2 (hx e)⟩⟩, h.has, h.no, h.ok, h.only, h.zero⟩
/-- all are forgotten: nothing is left -/
theorem ArcIs.empty (h : ArcIs True rows m L K P) (hP : ∀ n, 1 ≤ n → n ≤ 6 → P n = none) : bkeysP rows m [98, 47] = [] ∧ bkeysP rows m [97, 47] = [] := by
  constructor
  · have hH : heldA P = [] := by
      unfold heldA
      rw [List.flatMap_eq_nil_iff]
      intro n hn
      have hn := List.mem_range.1 hn
      by_cases h0 : n = 0
      · subst h0; rw [h.zero]; rfl
      · rw [hP n (by omega) (by omega)]; rfl
    have hL : L = [] := by
      rcases L with _ | ⟨x, L⟩
      · rfl
      · have h1 := (h.held.cnt x (List.mem_cons_self ..)).2 trivial
        have h2 := (h.blob.refs x (List.mem_cons_self ..)).1
        rw [hH] at h1
        simp at h1
        omega
    have := h.blob.all_len
    rw [hL] at this
    exact List.eq_nil_of_length_eq_zero this
  · refine List.eq_nil_iff_forall_not_mem.2 fun k hk => ?_
    obtain ⟨h1, h2⟩ := (mem_bkeys h.blob.mnd _ _).1 hk
    obtain ⟨n, h3, h4, rfl⟩ := h.only k h1 h2
    rw [h.no n h3 h4 (hP n h3 h4)] at h1
    cases h1
end
theorem updA_none {P : Nat → Option Arc} {k : Nat} (h : ∀ n, 1 ≤ n → n ≤ k → P n = none) : ∀ n, 1 ≤ n → n ≤ k + 1 → updA P (k + 1) none n = none := fun n h1 h2 => by
  unfold updA
  split
  · rfl
  · exact h n h1 (by omega)
/-- where the law stands -/
structure PlayA (i : Nat) (m : Bch) (L : List One) (K : Nat) (P : Nat → Option Arc) (KS : List (List UInt8)) (bs : Option (List Chg)) (ls : List (List Chg)) (D : Dk) : Prop where
  is_ : ArcIs False (rowsOf bs ls) m L K P
  hK : 1200 ≤ K ∧ K ≤ 1200 + i * 200
  bm : BookM KS 50000 m
  bl : BookL KS 50000 L
  br : BookR KS 50000 (rowsOf bs ls)
  ks : KS.length ≤ i * 201
  st : TabSt D bs ls
  wf : TabWf bs ls
  few : ls.length ≤ 15
  sm : D.Sm (i * 1073742000)
section
variable {i K : Nat} {m m' : Bch} {L L' : List One} {P P' : Nat → Option Arc} {KS : List (List UInt8)} {bs : Option (List Chg)} {ls : List (List Chg)} {D : Dk}
theorem PlayA.start : PlayA 0 [] [] 1200 (fun _ => none) [] none [] Dt0 :=
  ⟨(ArcIs.nil False).upK (Nat.zero_le _), ⟨Nat.le_refl _, Nat.le_refl _⟩, .nil, .nil, .nil, Nat.le_refl _, Dt0_st, ⟨by decide, fun l h => (by cases h), fun l h => (by cases h), fun o h => (by cases h), Nat.zero_le _⟩, Nat.zero_le _, Dt0_sm⟩
theorem PlayA.mlen (h : PlayA i m L K P KS bs ls D) : m.length ≤ i * 201 ∧ (rowsOf bs ls).length ≤ i * 201 := ⟨Nat.le_trans h.bm.few h.ks, Nat.le_trans h.br.few h.ks⟩
theorem PlayA.step (h : PlayA i m L K P KS bs ls D) {c k : Nat} (hc : c ≤ 201) (hk : k ≤ 200) (hg : Grows c m L m' L') (hi : ArcIs False (rowsOf bs ls) m' L' (K + k) P') : ∃ KS', PlayA (i + 1) m' L' (K + k) P' KS' bs ls D := by
  obtain ⟨KS', e, hks, hm, hl⟩ := hg KS 50000 (Nat.le_refl _) h.bl h.bm
  have h1 := h.hK
  have h2 := h.ks
  exact ⟨KS', hi, by omega, hm, hl, h.br.up hks, by omega, h.st, h.wf, h.few, h.sm.up (Nat.mul_le_mul_right _ (Nat.le_succ _))⟩
theorem PlayA.up (h : PlayA i m L K P KS bs ls D) : PlayA (i + 1) m L K P KS bs ls D := by
  have h1 := h.hK
  have h2 := h.ks
  exact ⟨h.is_, by omega, h.bm, h.bl, h.br, by omega, h.st, h.wf, h.few, h.sm.up (Nat.mul_le_mul_right _ (Nat.le_succ _))⟩
theorem PlayA.commit (h : PlayA i m L K P KS bs ls D) (hi : i < 60) : ∃ D' bs' ls', PlayA (i + 1) [] L K P KS bs' ls' D' ∧
    tabCommit ⟨sysP, rowsOf bs ls, ⟨sysL, ls.map recordE, false⟩⟩ D (m.map Prod.snd) = (0, ⟨sysP, applyE (rowsOf bs ls) (m.map Prod.snd), ⟨sysL, ls'.map recordE, false⟩⟩, D') ∧
    (recordE (m.map Prod.snd)).length ≤ 1073741824 ∧ (recordE (packL (applyE (rowsOf bs ls) (m.map Prod.snd)))).length ≤ 549755813888 ∧ (applyE (rowsOf bs ls) (m.map Prod.snd)).length ≤ 1048576 ∧ (∀ p ∈ applyE (rowsOf bs ls) (m.map Prod.snd), p.1.length ≤ 1099511627776) := by
  have hks := h.ks
  have hKS : KS.length * 50000 ≤ 603000000 := by
    have : KS.length * 50000 ≤ 12060 * 50000 := Nat.mul_le_mul_right _ (by omega)
    omega
  obtain ⟨D', bs', ls', hcm, hst, hwf, hfw, hge, hbr⟩ := h.st.again h.wf h.few h.bm h.br (by omega)
  have hsz := h.bm.size
  have hbc := h.bm.commit h.br
  have hrs := hbc.size
  have hrl := hbc.few
  have rc := rec_small (l := m.map Prod.snd) (by omega)
  obtain ⟨p1, p2⟩ := pack_small hbc.nd (B := 603000000) (by omega) (by decide)
  have hsm := tabCommit_sm (T := ⟨sysP, rowsOf bs ls, ⟨sysL, ls.map recordE, false⟩⟩) (D := D) (ops := m.map Prod.snd) (B := i * 1073742000) h.sm rc (by dsimp only; omega)
  rw [hcm] at hsm
  have h1 := h.hK
  refine ⟨D', bs', ls', ⟨h.is_.commit hbr.nd hge, by omega, .nil, h.bl, hbr, by omega, hst, hwf, hfw, hsm.up (by rw [Nat.succ_mul]; exact Nat.le_refl _)⟩, hcm, rc, by omega, by omega, fun p hp => by have := (hbc.in_ p hp).2; omega⟩
end
section
variable {P : Nat → Option Arc} {tr : Nat → Rw} {th tu : Nat → Bool} {F : Nat → Prop} {w : World} {s : Nat}
theorem RefIs.save (h : RefIs P tr th tu F w) {t : List Ent} {l : List Ae} {A : Option Addr} {cap : Nat} (hA : SlAt cEnt F w A t) : RefIs (updA P s (some ⟨t, l, none⟩)) (updF tr s ⟨A, t.length, cap⟩) (updF th s true) (updF tu s false) F w := by
  refine ⟨fun n h1 h6 => ?_, fun n a h1 h6 hP => ?_, fun n a h1 h6 hP hb => ?_⟩
  · unfold updF updA; split
    · rfl
    · exact h.th_ n h1 h6
  · unfold updF
    unfold updA at hP
    split at hP
    · rename_i e; cases hP; rw [if_pos e]; rfl
    · rename_i e; rw [if_neg e]; exact h.tu_ n a h1 h6 hP
  · unfold updF
    unfold updA at hP
    split at hP
    · rename_i e; cases hP; rw [if_pos e]; exact ⟨rfl, hA⟩
    · rename_i e; rw [if_neg e]; exact h.tr_ n a h1 h6 hP hb
theorem RefIs.turn (h : RefIs P tr th tu F w) (hth : th s = true) {a : Arc} {bit : Int} : RefIs (updA P s (some ⟨a.tree, a.l, some bit⟩)) tr th (updF tu s true) F w := by
  refine ⟨fun n h1 h6 => ?_, fun n a h1 h6 hP => ?_, fun n a h1 h6 hP hb => ?_⟩
  · unfold updA; split
    · rename_i e; subst e; exact hth
    · exact h.th_ n h1 h6
  · unfold updF
    unfold updA at hP
    split at hP
    · rename_i e; cases hP; rw [if_pos e]; rfl
    · rename_i e; rw [if_neg e]; exact h.tu_ n a h1 h6 hP
  · unfold updA at hP
    split at hP
    · cases hP; cases hb
    · exact h.tr_ n a h1 h6 hP hb
theorem RefIs.forget (h : RefIs P tr th tu F w) : RefIs (updA P s none) tr (updF th s false) (updF tu s false) F w := by
  refine ⟨fun n h1 h6 => ?_, fun n a h1 h6 hP => ?_, fun n a h1 h6 hP hb => ?_⟩
  · unfold updF updA; split
    · rfl
    · exact h.th_ n h1 h6
  · unfold updF
    unfold updA at hP
    split at hP
    · cases hP
    · rename_i e; rw [if_neg e]; exact h.tu_ n a h1 h6 hP
  · unfold updA at hP
    split at hP
    · cases hP
    · exact h.tr_ n a h1 h6 hP hb
end
section
variable {B Tp q : Nat} {T : Tb} {m : Bch} {fb fp : List Nat} {w0 : World} {ex : Prop} {L : List One} {K : Nat} {P : Nat → Option Arc}
theorem aturnG_c (n : Nat) (a : Arc) (bit : Int) (hn : 1 ≤ n ∧ n ≤ 6) (hi : InL w0 [bchC B (some ⟨Tp, 0, none⟩) m fb, tabC Tp q T fp]) (hp : PowI w0 (fps [bchC B (some ⟨Tp, 0, none⟩) m fb, tabC Tp q T fp])) (hs : ArcIs ex T.rows m L K P) (hP : P n = some a) (hb : a.bit = none) (hm : m.length ≤ 1048576) :
    Cal Tryz.prog 22 [.pointer (some ⟨B, 0, none⟩), .int .i64 (n : Int), .int .i64 bit] w0 (fun v w' => v = .int .i64 0 ∧ ∃ m' fb', ArcIs False T.rows m' L K (updA P n (some ⟨a.tree, a.l, some bit⟩)) ∧ Grows 1 m L m' L ∧
      MutL w0 w' [bchC B (some ⟨Tp, 0, none⟩) m fb, tabC Tp q T fp] [bchC B (some ⟨Tp, 0, none⟩) m' fb', tabC Tp q T fp]) :=
  (aturnA_c n a bit hn hi hp hs hP hm).mono fun v w' ⟨h1, fb', h2⟩ => by
    have hv : a.val = a.raw := by unfold Arc.val; rw [hb]
    rw [hv] at h2
    refine ⟨h1, _, fb', hs.turn hn.1 hn.2 hP bit, (Grows.refl m L).note ?_ (fun e => by cases e), h2⟩
    have h3 : a.raw.length ≤ 40000 := arc_small (hs.ok n a hP)
    have h4 : (arcK (n : Int)).length ≤ 100 := by
      unfold arcK
      rw [itoa_nat, List.length_append]
      have := dec_len (n := n) (k := 12) (by omega)
      show 2 + _ ≤ 100
      omega
    have h5 := turnE_len a.raw bit
    unfold szO
    dsimp only
    omega
end
end Go.Proofs.YtobfdeiimnnanaaGreatDoor

/- What is proved: the law ArchivePlays answers true. Conditions: the statement's own bound on the bulk; the library's table of powers laid. -/
set_option linter.unusedSimpArgs false
set_option linter.unusedVariables false
namespace Go.Proofs.YtobfdeiimnnanaaGreatDoor
open Go Go.J Go.RowKit

set_option maxHeartbeats 64000000 in
set_option maxRecDepth 100000 in
theorem archivePlays_c (steps : List Stp16) {A : Option Addr} {cap : Nat} {w0 : World} (h0 : SlAt cStp16 (Old w0) w0 A steps) (hz : ∀ s ∈ steps, s.t.length ≤ 1048576 ∧ (∀ e ∈ s.t, e.path.length ≤ 1048576) ∧ (-9223372036854775808 ≤ s.spoke ∧ s.spoke ≤ 9223372036854775807)) (hsl : steps.length ≤ 1048576) (ht : powT w0) :
    Cal Tryz.prog 6 [.slice A steps.length cap] w0 (fun v w' => Upd [] w0 w' ∧ v = .bool true) := by
  refine Cal.mk' (by kernel_rfl) Tryz.func6 rfl rfl fun hS => ?_
  have hp := PowI.of ht
  repeat' (first
    | (show WL _ _ _ _ _ _ _; first
      | refine WL.pure rfl rfl rfl rfl ?_
      | refine WL.nil ?_
      | (refine WL.callG rfl rfl (dnew_c _) rfl rfl rfl ?_; rintro v w ⟨hu, q, mb, lb, rfl, hn⟩; replace hS := hS.new hu hn; clear hu hn)
      | (refine WL.callL (D := [dkC q mb lb Dk0]) hS (by repeat (first | exact Pulls.nil | (apply Pulls.cons; focus (repeat (first | exact Pull.here | apply Pull.there))))) rfl rfl (fun hI => topenFirst_c hI) rfl rfl rfl ?_; rintro v w ⟨Tp, fp, rfl, hmu⟩ hS; replace hS := hS _ hmu; clear hmu)
      | (refine WL.calls hS rfl rfl (aawake_c _ (hp.at hS)) rfl rfl rfl ?_; rintro v w rfl hS)
      | (refine WL.callG rfl rfl (begin_c _) rfl rfl rfl ?_; rintro v w ⟨hu, B, fb, rfl, hn⟩; replace hS := hS.new hu hn; clear hu hn)
      | (refine WL.box hS rfl rfl rfl rfl rfl ?_; intro w C hS)
      | refine WL.build rfl rfl rfl rfl rfl ?_)
    | (show WC _ _ _ _ _ _; first
      | refine WC.seq ?_
      | refine WC.region ?_
      | refine WC.block ?_
      | refine WC.skip ?_
      | refine WC.condF rfl (by decide) ?_)
    | refine seqQ_n ?_)
  refine WC.loop (σ := Nat × Nat) [0, 3, 7] (fun (i, B) => [(6, .pointer (some ⟨B, 0, none⟩)), (8, .int .i64 (i : Int))]) (fun (i, B) w => ∃ m L K P KS bs ls D fb fp tr th tu wz Fz Tp, (i ≤ 60 ∧ PlayA i m L K P KS bs ls D) ∧ RefIs P tr th tu Fz wz ∧ St w0 [] w [bchC B (some ⟨Tp, 0, none⟩) m fb, tabC Tp q ⟨sysP, rowsOf bs ls, ⟨sysL, ls.map recordE, false⟩⟩ fp, dkC q mb lb D, .box C 57 (cellsA tr th tu)] [⟨w0, Old w0⟩, ⟨wz, Fz⟩]) (fun (i, _) => steps.length - i) (0, B) ⟨[], [], 1200, fun _ => none, [], none, [], Dt0, fb, fp, fun _ => ⟨none, 0, 0⟩, fun _ => false, fun _ => false, w0, Old w0, Tp, ⟨Nat.zero_le _, PlayA.start⟩, ⟨fun n _ _ => rfl, fun n a _ _ h => (by cases h), fun n a _ _ h => (by cases h)⟩, (hS.droplast2 (by repeat (first | exact Pulls.nil | (apply Pulls.cons; focus (repeat (first | exact Pull.here | apply Pull.there)))))).less (fun z hz => by simp only [List.mem_cons, List.not_mem_nil, or_false, or_self] at hz ⊢; exact hz)⟩ ⟨rfl, rfl, trivial⟩ ?_
  clear hS
  rintro ⟨i, B⟩ g w ⟨m, L, K, P, KS, bs, ls, D, fb, fp, tr, th, tu, wz, Fz, Tp, ⟨hi, hpi⟩, hri, hS⟩
  show WC _ _ _ (lf _ [(6, .pointer (some ⟨B, 0, none⟩)), (8, .int .i64 (i : Int))] _ _) _ _
  have hml := hpi.mlen
  have hKK := hpi.hK
  by_cases hlt : i < steps.length ∧ i < 60
  rotate_left
  · by_cases hlt2 : i < steps.length
    all_goals
      repeat' (first
        | (show WL _ _ _ _ _ _ _; first
          | refine WL.pure rfl rfl rfl rfl ?_
          | refine WL.nil ?_
          | refine WL.skip rfl rfl rfl ?_
          | ((fail_if_success (refine WL.wanted rfl ?_)); refine WL.guard rfl rfl rfl (fun h => ?_) (fun h => ?_) <;> (try simp only [Classical.not_not, Bool.not_eq_true', Bool.not_eq_false', Bool.not_eq_eq_eq_not, Bool.not_true, Bool.not_false, beq_iff_eq, beq_eq_false_iff_ne, ne_eq, decide_eq_decide, decide_eq_true_eq, decide_eq_false_iff_not, Bool.and_eq_true, Bool.or_eq_true, Bool.and_eq_false_iff, Bool.or_eq_false_iff] at h) <;> (try (exfalso; first | omega | contradiction))))
        | (show WC _ _ _ _ _ _; first
          | refine WC.seq ?_
          | refine WC.region ?_
          | refine WC.block ?_
          | refine WC.exit ?_
          | refine WC.condF rfl (by with_reducible rfl) ?_
          | refine WC.condF rfl (decide_eq_false (by first | with_reducible assumption | omega)) ?_)
        | refine seqQ_n ?_
        | refine seqQ_x ?_
        | refine blkQ_hit rfl ?_
        | refine rndQ_x ?_)
      refine WC.loop (σ := Nat) [6] (fun k => [(17, .int .i64 ((k + 1 : Nat) : Int))])
        (fun k w => ∃ m L P KS fb, (k ≤ 6 ∧ ArcIs (0 < k) (rowsOf bs ls) m L K P ∧ (∀ n, 1 ≤ n → n ≤ k → P n = none) ∧ KS.length ≤ 12060 + k ∧ BookM KS 50000 m ∧ BookL KS 50000 L) ∧ St w0 [] w [bchC B (some ⟨Tp, 0, none⟩) m fb, tabC Tp q ⟨sysP, rowsOf bs ls, ⟨sysL, ls.map recordE, false⟩⟩ fp] [⟨w0, Old w0⟩])
        (fun k => 6 - k) 0 ⟨m, L, P, KS, fb, ⟨Nat.zero_le _, hpi.is_.as (fun h => absurd h (Nat.lt_irrefl 0)), fun n h1 h2 => by omega, by have := hpi.ks; omega, hpi.bm, hpi.bl⟩, (hS.droplast2 (by repeat (first | exact Pulls.nil | (apply Pulls.cons; focus (repeat (first | exact Pull.here | apply Pull.there)))))).less fun z hz => by rw [List.mem_singleton.1 hz]; exact List.Mem.head _⟩ ⟨rfl, trivial⟩ ?_
      have hrl := hml.2
      clear hS hpi hri hml hz
      rintro k g2 w ⟨m, L, P, KS, fb, ⟨hk, his, hno, hks, hbm, hbl⟩, hS⟩
      show WC _ _ _ (lf _ [(17, .int .i64 ((k + 1 : Nat) : Int))] _ _) _ _
      by_cases hk6 : k < 6
      · have hmf := hbm.few
        have hrf : (rowsOf bs ls).length ≤ 1000000 := by have := hrl; omega
        have hnk := updA_none hno
        obtain ⟨HN, rfl⟩ : ∃ h : (∀ n, 1 ≤ n → n ≤ k + 1 → updA P (k + 1) none n = none), h = hnk := ⟨_, rfl⟩
        clear hno
        repeat' (first
          | (show WL _ _ _ _ _ _ _; first
            | refine WL.pure rfl rfl rfl rfl ?_
            | refine WL.nil ?_
            | refine WL.add rfl rfl rfl (by omega) rfl rfl rfl ?_
            | (refine WL.callL (D := [bchC B (some ⟨Tp, 0, none⟩) m fb, tabC Tp q ⟨sysP, rowsOf bs ls, ⟨sysL, ls.map recordE, false⟩⟩ fp]) hS (by repeat (first | exact Pulls.nil | (apply Pulls.cons; focus (repeat (first | exact Pull.here | apply Pull.there))))) rfl rfl (fun hI => aforget_c (ex := 0 < k) (L := L) (K := K) (P := P) (T := ⟨sysP, rowsOf bs ls, ⟨sysL, ls.map recordE, false⟩⟩) (k + 1) ⟨by omega, by omega⟩ hI (hp.pull hS (by repeat (first | exact Pulls.nil | (apply Pulls.cons; focus (repeat (first | exact Pull.here | apply Pull.there)))))) his (by omega) (by omega) (by omega) hrf) rfl rfl rfl ?_; rintro v w ⟨rfl, m2, fb2, L2, hs2, hg2, hmu⟩ hS; replace hS := hS _ hmu; clear hmu))
          | (show WC _ _ _ _ _ _; first
            | refine WC.seq ?_
            | refine WC.region ?_
            | refine WC.block ?_
            | refine WC.skip ?_
            | refine WC.condF rfl (by decide) ?_
            | refine WC.condT rfl (decide_eq_true (by first | with_reducible assumption | omega)) ?_)
          | refine seqQ_n ?_
          | refine blkQ_n ?_)
        obtain ⟨KS2, e2, _, hbm2, hbl2⟩ := hg2 KS 50000 (Nat.le_refl _) hbl hbm
        exact rndQ_n (k + 1) ⟨m2, L2, _, KS2, fb2, ⟨by omega, hs2.as (fun _ => trivial), HN, by omega, hbm2, hbl2⟩, hS.droplast2 (by repeat (first | exact Pulls.nil | (apply Pulls.cons; focus (repeat (first | exact Pull.here | apply Pull.there)))))⟩ (by show 6 - (k + 1) < 6 - k; omega) ⟨vint (by omega), trivial⟩ ⟨rfl, trivial⟩
      · obtain rfl : k = 6 := by omega
        obtain ⟨e1, e2⟩ := (his.as (ex' := True) (fun _ => by decide)).empty fun n h1 h2 => hno n h1 h2
        have hmf := hbm.few
        have hrf : (rowsOf bs ls).length ≤ 1000000 := by have := hrl; omega
        have hk1 := fun {B : Nat} {fb : List Nat} {w : World} (hI : InL w [bchC B (some ⟨Tp, 0, none⟩) m fb, tabC Tp q ⟨sysP, rowsOf bs ls, ⟨sysL, ls.map recordE, false⟩⟩ fp]) => bkeys_c [98, 47] hI (show (rowsOf bs ls).length ≤ _ by omega) (show m.length ≤ _ by omega)
        have hk2 := fun {B : Nat} {fb : List Nat} {w : World} (hI : InL w [bchC B (some ⟨Tp, 0, none⟩) m fb, tabC Tp q ⟨sysP, rowsOf bs ls, ⟨sysL, ls.map recordE, false⟩⟩ fp]) => bkeys_c [97, 47] hI (show (rowsOf bs ls).length ≤ _ by omega) (show m.length ≤ _ by omega)
        have e1 : bkeysP (Tb.rows ⟨sysP, rowsOf bs ls, ⟨sysL, ls.map recordE, false⟩⟩) m [98, 47] = [] := e1
        have e2 : bkeysP (Tb.rows ⟨sysP, rowsOf bs ls, ⟨sysL, ls.map recordE, false⟩⟩) m [97, 47] = [] := e2
        rw [e1] at hk1
        rw [e2] at hk2
        clear hno his
        repeat' (first
          | (show WL _ _ _ _ _ _ _; first
            | refine WL.pure rfl rfl rfl rfl ?_
            | refine WL.nil ?_
            | (first | (refine WL.callL (D := [bchC B (some ⟨Tp, 0, none⟩) m fb, tabC Tp q ⟨sysP, rowsOf bs ls, ⟨sysL, ls.map recordE, false⟩⟩ fp]) hS (by repeat (first | exact Pulls.nil | (apply Pulls.cons; focus (repeat (first | exact Pull.here | apply Pull.there))))) rfl rfl (fun hI => hk1 hI) rfl rfl rfl ?_; rintro v w ⟨KA, kc, rfl, hmu⟩ hS; replace hS := hS _ hmu; clear hmu) | (refine WL.callL (D := [bchC B (some ⟨Tp, 0, none⟩) m fb, tabC Tp q ⟨sysP, rowsOf bs ls, ⟨sysL, ls.map recordE, false⟩⟩ fp]) hS (by repeat (first | exact Pulls.nil | (apply Pulls.cons; focus (repeat (first | exact Pull.here | apply Pull.there))))) rfl rfl (fun hI => hk2 hI) rfl rfl rfl ?_; rintro v w ⟨KA, kc, rfl, hmu⟩ hS; replace hS := hS _ hmu; clear hmu)))
          | (show WC _ _ _ _ _ _; first
            | refine WC.seq ?_
            | refine WC.region ?_
            | refine WC.exit ?_
            | refine WC.ret ?_
            | refine WC.condF rfl (by decide) ?_)
          | refine seqQ_n ?_
          | refine seqQ_x ?_
          | refine blkQ_hit rfl ?_
          | refine rndQ_x ?_)
        exact fin1r rfl rfl ⟨hS.upd, rfl⟩
  obtain ⟨hlt, h60⟩ := hlt
  obtain ⟨rb, ro, es, rfl, hF, hr, hes⟩ := h0.at_ hlt
  obtain ⟨SA, sc, hes, hsc, hsA⟩ := (show cStp16.rd _ _ es steps[i] from hes)
  obtain ⟨hzl, hzp, hzs⟩ := hz steps[i] (List.getElem_mem hlt)
  generalize steps[i] = sp at *
  obtain ⟨kind, spoke, bit, t⟩ := sp
  dsimp only at hes hsc hsA hzl hzp hzs
  subst hes
  have hr : w0.rangeAt rb (ro + i * 4) [.int .i64 kind, .int .i64 spoke, .int .i64 bit, .slice SA t.length sc] := hr
  clear hz
  by_cases k1 : kind = 1
  · subst k1
    have hpi2 := hpi.up
    by_cases hsp : 1 ≤ spoke ∧ spoke ≤ 6
    rotate_left
    · obtain ⟨HN, rfl⟩ : ∃ h : ¬ (1 ≤ spoke ∧ spoke ≤ 6), h = hsp := ⟨_, rfl⟩
      repeat' (first
        | (show WL _ _ _ _ _ _ _; first
          | refine WL.pure rfl rfl rfl rfl ?_
          | refine WL.nil ?_
          | refine WL.load hS rfl rfl (LdOk.box (by repeat (first | exact List.Mem.head _ | apply List.Mem.tail)) rfl) rfl rfl rfl ?_
          | refine WL.add rfl rfl rfl (by omega) rfl rfl rfl ?_
          | (refine WL.load hS rfl rfl (LdOk.snap0 hF hr (by repeat (first | exact List.Mem.head _ | apply List.Mem.tail)) rfl) rfl rfl rfl ?_)
          | (refine WL.callG rfl rfl (roomy_c t (hS.slO (z := ⟨w0, Old w0⟩) (by repeat (first | exact List.Mem.head _ | apply List.Mem.tail)) hsA) (by omega)) rfl rfl rfl ?_; rintro v w ⟨hu, RA, rc, rfl, hrc, hn⟩; replace hS := hS.new hu hn; clear hu hn)
          | (refine WL.callL (D := [bchC B (some ⟨Tp, 0, none⟩) m fb, tabC Tp q ⟨sysP, rowsOf bs ls, ⟨sysL, ls.map recordE, false⟩⟩ fp, .box C 57 (cellsA tr th tu)]) hS (by repeat (first | exact Pulls.nil | (apply Pulls.cons; focus (repeat (first | exact Pull.here | apply Pull.there))))) rfl rfl (fun hI => aalike_c (T := ⟨sysP, rowsOf bs ls, ⟨sysL, ls.map recordE, false⟩⟩) hI (hp.pull hS (by repeat (first | exact Pulls.nil | (apply Pulls.cons; focus (repeat (first | exact Pull.here | apply Pull.there)))))) hpi.is_ (by omega) (hri.mono fun h => St.slXD (z := ⟨wz, Fz⟩) (hS.pulls (by repeat (first | exact Pulls.nil | (apply Pulls.cons; focus (repeat (first | exact Pull.here | apply Pull.there)))))) (by repeat (first | exact List.Mem.head _ | apply List.Mem.tail)) h)) rfl rfl rfl ?_; rintro v w ⟨rfl, hmu⟩ hS; replace hS := hS _ hmu; clear hmu)
          | (refine WL.store hS rfl rfl rfl (by repeat (first | exact StB.here rfl | apply StB.there)) rfl rfl rfl ?_; intro w hS)
          | (refine WL.alloc hS rfl rfl rfl rfl rfl rfl ?_; intro w b hS)
          | refine WL.index rfl rfl rfl rfl (by first | with_reducible assumption | omega) rfl rfl rfl rfl ?_
          | ((fail_if_success (refine WL.wanted rfl ?_)); refine WL.guard rfl rfl rfl (fun h => ?_) (fun h => ?_) <;> (try simp only [Classical.not_not, Bool.not_eq_true', Bool.not_eq_false', Bool.not_eq_eq_eq_not, Bool.not_true, Bool.not_false, beq_iff_eq, beq_eq_false_iff_ne, ne_eq, decide_eq_decide, decide_eq_true_eq, decide_eq_false_iff_not, Bool.and_eq_true, Bool.or_eq_true, Bool.and_eq_false_iff, Bool.or_eq_false_iff] at h) <;> (try (exfalso; first | omega | contradiction))))
        | (show WC _ _ _ _ _ _; first
          | refine WC.seq ?_
          | refine WC.region ?_
          | refine WC.block ?_
          | refine WC.skip ?_
          | (show WC _ _ (Code.region _ (List.toArray [_, _, _, _, _, _, _, _, _, _, _, _, _, _, _, _, _, _, _]) true) _ _ _; refine WC.drawL [bchC B (some ⟨Tp, 0, none⟩) m fb, tabC Tp q ⟨sysP, rowsOf bs ls, ⟨sysL, ls.map recordE, false⟩⟩ fp, .box C 57 (cellsA tr th tu)] hS (by repeat (first | exact Pulls.nil | (apply Pulls.cons; focus (repeat (first | exact Pull.here | apply Pull.there))))) [0,1,2,3,5,6,7,8,9,11,12,13,14,15,17,18] [0,1,2,3,5,6,7,8,9,4,10,11,12,13,14,15,16,17,18] (by kernel_rfl) (by kernel_rfl) ?_; clear hS; intro w hS hM)
          | refine WC.condT rfl (by decide) ?_
          | refine WC.condF rfl (by decide) ?_
          | refine WC.condT rfl (decide_eq_true (by first | with_reducible assumption | omega)) ?_)
        | (show WD _ _ _ _ _ _ _ _ _; first
          | refine WD.pure rfl rfl rfl rfl rfl ?_
          | refine WD.nil ?_
          | refine WD.load rfl rfl (LdOk.box (by repeat (first | exact List.Mem.head _ | apply List.Mem.tail)) rfl) rfl rfl rfl rfl ?_
          | (refine WD.calls hS hM rfl rfl (asaveOut_c spoke _ _ HN) rfl rfl rfl rfl rfl ?_; clear hS; rintro v w rfl hS)
          | (refine WD.calls hS hM rfl rfl (rsaveOut_c spoke _ _ HN) rfl rfl rfl rfl rfl ?_; clear hS; rintro v w rfl hS)
          | (refine WD.calls hS hM rfl rfl (held_c t (St.ownSl (enc := encEnt) (hsz := fun _ => rfl) (l := t ++ [spareE]) (by decide) hS (by repeat (first | exact List.Mem.head _ | apply List.Mem.tail))) (hS.slO (z := ⟨w0, Old w0⟩) (by repeat (first | exact List.Mem.head _ | apply List.Mem.tail)) hsA) (by omega) (by omega)) rfl rfl rfl rfl rfl ?_; clear hS; rintro v w rfl hS))
        | refine seqQ_n ?_
        | refine blkQ_n ?_)
      exact rndQ_n (i + 1, B) ⟨m, L, K, P, KS, bs, ls, D, fb, fp, tr, th, tu, wz, Fz, Tp, ⟨by omega, hpi2⟩, hri, hS.droplast2 (by repeat (first | exact Pulls.nil | (apply Pulls.cons; focus (repeat (first | exact Pull.here | apply Pull.there)))))⟩ (by show steps.length - (i + 1) < steps.length - i; omega) ⟨rfl, vint (by omega), trivial⟩ ⟨rfl, rfl, rfl, trivial⟩
    obtain ⟨s, rfl⟩ : ∃ s : Nat, spoke = (s : Int) := ⟨spoke.toNat, by omega⟩
    obtain ⟨c, hc⟩ : ∃ c, checkT t = c := ⟨_, rfl⟩
    by_cases hc0 : c = 0
    rotate_left
    · have hsb := fun {w1 : World} {A1 : Option Addr} {cap1 : Nat} {b1 : Value} (hA : SlAt cEnt (Old w1) w1 A1 t) (h : t.length ≤ cap1) => asaveBad_c (w0 := w1) (s : Int) b1 t hsp hA h (by omega) hzp hc hc0
      have hrb := fun {w1 : World} {A1 : Option Addr} {cap1 : Nat} {b1 : Value} (hA : SlAt cEnt (Old w1) w1 A1 t) (h : t.length ≤ cap1) => rsaveBad_c (w0 := w1) (s : Int) b1 t hsp hA h (by omega) hzp hc hc0
      clear hsp
      repeat' (first
        | (show WL _ _ _ _ _ _ _; first
          | refine WL.pure rfl rfl rfl rfl ?_
          | refine WL.nil ?_
          | refine WL.load hS rfl rfl (LdOk.box (by repeat (first | exact List.Mem.head _ | apply List.Mem.tail)) rfl) rfl rfl rfl ?_
          | refine WL.add rfl rfl rfl (by omega) rfl rfl rfl ?_
          | (refine WL.load hS rfl rfl (LdOk.snap0 hF hr (by repeat (first | exact List.Mem.head _ | apply List.Mem.tail)) rfl) rfl rfl rfl ?_)
          | (refine WL.callG rfl rfl (roomy_c t (hS.slO (z := ⟨w0, Old w0⟩) (by repeat (first | exact List.Mem.head _ | apply List.Mem.tail)) hsA) (by omega)) rfl rfl rfl ?_; rintro v w ⟨hu, RA, rc, rfl, hrc, hn⟩; replace hS := hS.new hu hn; clear hu hn)
          | (refine WL.callL (D := [bchC B (some ⟨Tp, 0, none⟩) m fb, tabC Tp q ⟨sysP, rowsOf bs ls, ⟨sysL, ls.map recordE, false⟩⟩ fp, .box C 57 (cellsA tr th tu)]) hS (by repeat (first | exact Pulls.nil | (apply Pulls.cons; focus (repeat (first | exact Pull.here | apply Pull.there))))) rfl rfl (fun hI => aalike_c (T := ⟨sysP, rowsOf bs ls, ⟨sysL, ls.map recordE, false⟩⟩) hI (hp.pull hS (by repeat (first | exact Pulls.nil | (apply Pulls.cons; focus (repeat (first | exact Pull.here | apply Pull.there)))))) hpi.is_ (by omega) (hri.mono fun h => St.slXD (z := ⟨wz, Fz⟩) (hS.pulls (by repeat (first | exact Pulls.nil | (apply Pulls.cons; focus (repeat (first | exact Pull.here | apply Pull.there)))))) (by repeat (first | exact List.Mem.head _ | apply List.Mem.tail)) h)) rfl rfl rfl ?_; rintro v w ⟨rfl, hmu⟩ hS; replace hS := hS _ hmu; clear hmu)
          | (refine WL.store hS rfl rfl rfl (by repeat (first | exact StB.here rfl | apply StB.there)) rfl rfl rfl ?_; intro w hS)
          | (refine WL.alloc hS rfl rfl rfl rfl rfl rfl ?_; intro w b hS)
          | refine WL.index rfl rfl rfl rfl (by first | with_reducible assumption | omega) rfl rfl rfl rfl ?_
          | ((fail_if_success (refine WL.wanted rfl ?_)); refine WL.guard rfl rfl rfl (fun h => ?_) (fun h => ?_) <;> (try simp only [Classical.not_not, Bool.not_eq_true', Bool.not_eq_false', Bool.not_eq_eq_eq_not, Bool.not_true, Bool.not_false, beq_iff_eq, beq_eq_false_iff_ne, ne_eq, decide_eq_decide, decide_eq_true_eq, decide_eq_false_iff_not, Bool.and_eq_true, Bool.or_eq_true, Bool.and_eq_false_iff, Bool.or_eq_false_iff] at h) <;> (try (exfalso; first | omega | contradiction))))
        | (show WC _ _ _ _ _ _; first
          | refine WC.seq ?_
          | refine WC.region ?_
          | refine WC.block ?_
          | refine WC.skip ?_
          | (show WC _ _ (Code.region _ (List.toArray [_, _, _, _, _, _, _, _, _, _, _, _, _, _, _, _, _, _, _]) true) _ _ _; refine WC.drawL [bchC B (some ⟨Tp, 0, none⟩) m fb, tabC Tp q ⟨sysP, rowsOf bs ls, ⟨sysL, ls.map recordE, false⟩⟩ fp, .box C 57 (cellsA tr th tu)] hS (by repeat (first | exact Pulls.nil | (apply Pulls.cons; focus (repeat (first | exact Pull.here | apply Pull.there))))) [0,1,2,3,5,6,7,8,9,11,12,13,14,15,17,18] [0,1,2,3,5,6,7,8,9,4,10,11,12,13,14,15,16,17,18] (by kernel_rfl) (by kernel_rfl) ?_; clear hS; intro w hS hM)
          | refine WC.condT rfl (by decide) ?_
          | refine WC.condF rfl (by decide) ?_
          | refine WC.condT rfl (decide_eq_true (by first | with_reducible assumption | omega)) ?_)
        | (show WD _ _ _ _ _ _ _ _ _; first
          | refine WD.pure rfl rfl rfl rfl rfl ?_
          | refine WD.nil ?_
          | refine WD.load rfl rfl (LdOk.box (by repeat (first | exact List.Mem.head _ | apply List.Mem.tail)) rfl) rfl rfl rfl rfl ?_
          | (refine WD.calls hS hM rfl rfl (hsb (SlAt.pre (St.ownSl (enc := encEnt) (hsz := fun _ => rfl) (l := t ++ [spareE]) (by decide) hS (by repeat (first | exact List.Mem.head _ | apply List.Mem.tail)))) (by omega)) rfl rfl rfl rfl rfl ?_; clear hS; rintro v w rfl hS)
          | (refine WD.calls hS hM rfl rfl (hrb (hS.slO (z := ⟨w0, Old w0⟩) (by repeat (first | exact List.Mem.head _ | apply List.Mem.tail)) hsA) hsc) rfl rfl rfl rfl rfl ?_; clear hS; rintro v w rfl hS)
          | (refine WD.calls hS hM rfl rfl (held_c t (St.ownSl (enc := encEnt) (hsz := fun _ => rfl) (l := t ++ [spareE]) (by decide) hS (by repeat (first | exact List.Mem.head _ | apply List.Mem.tail))) (hS.slO (z := ⟨w0, Old w0⟩) (by repeat (first | exact List.Mem.head _ | apply List.Mem.tail)) hsA) (by omega) (by omega)) rfl rfl rfl rfl rfl ?_; clear hS; rintro v w rfl hS)
          | ((fail_if_success (refine WD.wanted rfl ?_)); refine WD.guard rfl rfl rfl (fun h => ?_) (fun h => ?_) <;> (try simp only [Classical.not_not, Bool.not_eq_true', Bool.not_eq_false', Bool.not_eq_eq_eq_not, Bool.not_true, Bool.not_false, beq_iff_eq, beq_eq_false_iff_ne, ne_eq, decide_eq_decide, decide_eq_true_eq, decide_eq_false_iff_not, Bool.and_eq_true, Bool.or_eq_true, Bool.and_eq_false_iff, Bool.or_eq_false_iff] at h) <;> (try (exfalso; first | omega | contradiction))))
        | refine seqQ_n ?_
        | refine blkQ_n ?_)
      exact rndQ_n (i + 1, B) ⟨m, L, K, P, KS, bs, ls, D, fb, fp, tr, th, tu, wz, Fz, Tp, ⟨by omega, hpi2⟩, hri, hS.droplast2 (by repeat (first | exact Pulls.nil | (apply Pulls.cons; focus (repeat (first | exact Pull.here | apply Pull.there)))))⟩ (by show steps.length - (i + 1) < steps.length - i; omega) ⟨rfl, vint (by omega), trivial⟩ ⟨rfl, rfl, rfl, trivial⟩
    subst hc0
    obtain ⟨ot, hlt2⟩ := checkT_zero hc
    have hsp : 1 ≤ s ∧ s ≤ 6 := by omega
    have hst := fun {m' : Bch} {L' : List One} {P' : Nat → Option Arc} => hpi.step (m' := m') (L' := L') (P' := P') (c := 201) (k := t.length) (Nat.le_refl _) hlt2
    have hri2 := fun {w1 : World} {F1 : Nat → Prop} {l1 : List Ae} {A1 : Option Addr} {cap1 : Nat} (h : RefIs P tr th tu F1 w1) (hA : SlAt cEnt F1 w1 A1 t) => h.save (s := s) (t := t) (l := l1) (A := A1) (cap := cap1) hA
    have his := hpi.is_
    clear hpi hpi2
    repeat' (first
      | (show WL _ _ _ _ _ _ _; first
        | refine WL.pure rfl rfl rfl rfl ?_
        | refine WL.nil ?_
        | refine WL.load hS rfl rfl (LdOk.box (by repeat (first | exact List.Mem.head _ | apply List.Mem.tail)) rfl) rfl rfl rfl ?_
        | refine WL.add rfl rfl rfl (by omega) rfl rfl rfl ?_
        | (refine WL.load hS rfl rfl (LdOk.snap0 hF hr (by repeat (first | exact List.Mem.head _ | apply List.Mem.tail)) rfl) rfl rfl rfl ?_)
        | (refine WL.callG rfl rfl (roomy_c t (hS.slO (z := ⟨w0, Old w0⟩) (by repeat (first | exact List.Mem.head _ | apply List.Mem.tail)) hsA) (by omega)) rfl rfl rfl ?_; rintro v w ⟨hu, RA, rc, rfl, hrc, hn⟩; replace hS := hS.new hu hn; clear hu hn)
        | (refine WL.callL (D := [bchC B (some ⟨Tp, 0, none⟩) m2 fb2, tabC Tp q ⟨sysP, rowsOf bs ls, ⟨sysL, ls.map recordE, false⟩⟩ fp, .box C 57 (cellsA (updF tr s ⟨A2, t.length, cap2⟩) (updF th s true) (updF tu s false))]) hS (by repeat (first | exact Pulls.nil | (apply Pulls.cons; focus (repeat (first | exact Pull.here | apply Pull.there))))) rfl rfl (fun hI => aalike_c (T := ⟨sysP, rowsOf bs ls, ⟨sysL, ls.map recordE, false⟩⟩) hI (hp.pull hS (by repeat (first | exact Pulls.nil | (apply Pulls.cons; focus (repeat (first | exact Pull.here | apply Pull.there)))))) hpi2.is_ (by omega) (hri2 (hri.mono fun h => St.slXD (z := ⟨wz, Fz⟩) (hS.pulls (by repeat (first | exact Pulls.nil | (apply Pulls.cons; focus (repeat (first | exact Pull.here | apply Pull.there)))))) (by repeat (first | exact List.Mem.head _ | apply List.Mem.tail)) h) (St.ownSlA (A := A2) (n := t.length) (n' := t.length) (cap := cap2) (e := 115) (sz := 3) (enc := encEnt) (hsz := fun _ => rfl) (l := t) (by decide) (hS.pulls (by repeat (first | exact Pulls.nil | (apply Pulls.cons; focus (repeat (first | exact Pull.here | apply Pull.there)))))) (by repeat (first | exact List.Mem.head _ | apply List.Mem.tail))))) rfl rfl rfl ?_; rintro v w ⟨rfl, hmu⟩ hS; replace hS := hS _ hmu; clear hmu)
        | (refine WL.store hS rfl rfl rfl (by repeat (first | exact StB.here rfl | apply StB.there)) rfl rfl rfl ?_; intro w hS)
        | (refine WL.alloc hS rfl rfl rfl rfl rfl rfl ?_; intro w b hS)
        | refine WL.index rfl rfl rfl rfl (by first | with_reducible assumption | omega) rfl rfl rfl rfl ?_
        | ((fail_if_success (refine WL.wanted rfl ?_)); refine WL.guard rfl rfl rfl (fun h => ?_) (fun h => ?_) <;> (try simp only [Classical.not_not, Bool.not_eq_true', Bool.not_eq_false', Bool.not_eq_eq_eq_not, Bool.not_true, Bool.not_false, beq_iff_eq, beq_eq_false_iff_ne, ne_eq, decide_eq_decide, decide_eq_true_eq, decide_eq_false_iff_not, Bool.and_eq_true, Bool.or_eq_true, Bool.and_eq_false_iff, Bool.or_eq_false_iff] at h) <;> (try (exfalso; first | omega | contradiction))))
      | (show WC _ _ _ _ _ _; first
        | refine WC.seq ?_
        | refine WC.region ?_
        | refine WC.block ?_
        | refine WC.skip ?_
        | (show WC _ _ (Code.region _ (List.toArray [_, _, _, _, _, _, _, _, _, _, _, _, _, _, _, _, _, _, _]) true) _ _ _; refine WC.drawL [bchC B (some ⟨Tp, 0, none⟩) m fb, tabC Tp q ⟨sysP, rowsOf bs ls, ⟨sysL, ls.map recordE, false⟩⟩ fp, .box C 57 (cellsA tr th tu)] hS (by repeat (first | exact Pulls.nil | (apply Pulls.cons; focus (repeat (first | exact Pull.here | apply Pull.there))))) [0,1,2,3,5,6,7,8,9,11,12,13,14,15,17,18] [0,1,2,3,5,6,7,8,9,4,10,11,12,13,14,15,16,17,18] (by kernel_rfl) (by kernel_rfl) ?_; clear hS; intro w hS hM)
        | refine WC.condT rfl (by decide) ?_
        | refine WC.condF rfl (by decide) ?_
        | refine WC.condT rfl (decide_eq_true (by first | with_reducible assumption | omega)) ?_)
      | (show WD _ _ _ _ _ _ _ _ _; first
        | refine WD.pure rfl rfl rfl rfl rfl ?_
        | refine WD.nil ?_
        | refine WD.load rfl rfl (LdOk.box (by repeat (first | exact List.Mem.head _ | apply List.Mem.tail)) rfl) rfl rfl rfl rfl ?_
        | (refine WD.callL (D := [bchC B (some ⟨Tp, 0, none⟩) m fb, tabC Tp q ⟨sysP, rowsOf bs ls, ⟨sysL, ls.map recordE, false⟩⟩ fp]) hS (by repeat (first | exact Pulls.nil | (apply Pulls.cons; focus (repeat (first | exact Pull.here | apply Pull.there))))) (by first | exact .refl _ _ | exact .chunk (.refl _ _) _ | exact .chunk (.chunk (.refl _ _) _) _) rfl rfl (fun hI => asave_c (ex := False) (L := L) (K := K) (P := P) (T := ⟨sysP, rowsOf bs ls, ⟨sysL, ls.map recordE, false⟩⟩) s t hsp hI (hp.pull hS (by repeat (first | exact Pulls.nil | (apply Pulls.cons; focus (repeat (first | exact Pull.here | apply Pull.there)))))) (SlAt.pre (St.ownSlA (enc := encEnt) (hsz := fun _ => rfl) (l := t ++ [spareE]) (by decide) (hS.pulls (by repeat (first | exact Pulls.nil | (apply Pulls.cons; focus (repeat (first | exact Pull.here | apply Pull.there)))))) (by repeat (first | exact List.Mem.head _ | apply List.Mem.tail)))) (by omega) his ot hlt2 hzp (by omega) (by omega) (by show (rowsOf bs ls).length ≤ _; omega)) rfl rfl rfl rfl rfl ?_; rintro v w ⟨rfl, m2, fb2, L2, l2, hs2, hm2, hg2, hmu⟩; refine ⟨_, hmu, fun hS hM => ?_⟩; clear hmu; obtain ⟨KS2, hpi2⟩ := hst hg2 hs2)
        | (refine WD.callL (D := [.box C 57 (cellsA tr th tu)]) hS (by repeat (first | exact Pulls.nil | (apply Pulls.cons; focus (repeat (first | exact Pull.here | apply Pull.there))))) (by first | exact .refl _ _ | exact .chunk (.refl _ _) _ | exact .chunk (.chunk (.refl _ _) _) _) rfl rfl (fun hI => rsave_c s t hsp hI (St.slXD (z := ⟨w0, Old w0⟩) (hS.pulls (by repeat (first | exact Pulls.nil | (apply Pulls.cons; focus (repeat (first | exact Pull.here | apply Pull.there)))))) (by repeat (first | exact List.Mem.head _ | apply List.Mem.tail)) hsA) hsc (by omega) hzp hc) rfl rfl rfl rfl rfl ?_; rintro v w ⟨rfl, A2, cap2, hmu⟩; refine ⟨_, hmu, fun hS hM => ?_⟩; clear hmu)
        | (have hx := St.ownSl (A := RA) (n := t.length + 1) (n' := t.length + 1) (cap := rc) (e := 115) (sz := 3) (enc := encEnt) (hsz := fun _ => rfl) (l := t ++ [spareE]) (by decide) hS (by repeat (first | exact List.Mem.head _ | apply List.Mem.tail)); refine WD.calls hS hM rfl rfl (held_c t hx (hS.slO (z := ⟨w0, Old w0⟩) (by repeat (first | exact List.Mem.head _ | apply List.Mem.tail)) hsA) (by omega) (by omega)) rfl rfl rfl rfl rfl ?_; clear hS hx; rintro v w rfl hS))
      | refine seqQ_n ?_
      | refine blkQ_n ?_)
    have hS1 := hS.droplast2 (D := [.own (.slice A2 t.length cap2) 115 3 t.length (t.flatMap encEnt), bchC B (some ⟨Tp, 0, none⟩) m2 fb2, tabC Tp q ⟨sysP, rowsOf bs ls, ⟨sysL, ls.map recordE, false⟩⟩ fp, dkC q mb lb D, .box C 57 (cellsA (updF tr s ⟨A2, t.length, cap2⟩) (updF th s true) (updF tu s false))]) (by repeat (first | exact Pulls.nil | (apply Pulls.cons; focus (repeat (first | exact Pull.here | apply Pull.there)))))
    have hzm : Snap.mk wz Fz ∈ [⟨w0, Old w0⟩, ⟨wz, Fz⟩] := List.Mem.tail _ (List.Mem.head _)
    have hk := hS1.keepRow hzm
    refine rndQ_n (i + 1, B) ⟨m2, L2, K + t.length, _, KS2, bs, ls, D, fb2, fp, _, _, _, _, _, Tp, ⟨by omega, hpi2⟩, ?_, hk.less fun z hz => by
      rcases List.mem_cons.1 hz with rfl | hz
      · exact List.Mem.tail _ (List.Mem.head _)
      · rw [List.mem_singleton.1 hz]; exact List.Mem.head _⟩ (by show steps.length - (i + 1) < steps.length - i; omega) ⟨rfl, vint (by omega), trivial⟩ ⟨rfl, rfl, rfl, trivial⟩
    exact hri2 (l1 := l2) (cap1 := cap2) (hri.mono fun h => (hS1.sl hzm h).mono fun b hb => .inr hb) (SlAt.ofOwn (sz := 3) (enc := encEnt) (hsz := fun _ => rfl) (n' := t.length) (n := t.length) (cap := cap2) (e := 115) (by decide) (hS1.holds _ (List.Mem.head _)) fun g hg => .inl (by show g ∈ (Value.slice A2 t.length cap2).ownBlock.toList; rw [hg]; exact List.Mem.head _))
  by_cases k2 : kind = 2
  · subst k2
    have hpi2 := hpi.up
    by_cases hsp : 1 ≤ spoke ∧ spoke ≤ 6
    rotate_left
    · have hR : rloadE tr th tu spoke = .tuple #[.slice none 0 0, .int .i64 1] := by unfold rloadE; rw [if_neg hsp]
      obtain ⟨HN, rfl⟩ : ∃ h : ¬ (1 ≤ spoke ∧ spoke ≤ 6), h = hsp := ⟨_, rfl⟩
      repeat' (first
        | (show WL _ _ _ _ _ _ _; first
          | refine WL.pure rfl rfl rfl rfl ?_
          | refine WL.nil ?_
          | refine WL.load hS rfl rfl (LdOk.box (by repeat (first | exact List.Mem.head _ | apply List.Mem.tail)) rfl) rfl rfl rfl ?_
          | refine WL.add rfl rfl rfl (by omega) rfl rfl rfl ?_
          | (refine WL.load hS rfl rfl (LdOk.snap0 hF hr (by repeat (first | exact List.Mem.head _ | apply List.Mem.tail)) rfl) rfl rfl rfl ?_)
          | (refine WL.callL (D := [.box C 57 (cellsA tr th tu)]) hS (by repeat (first | exact Pulls.nil | (apply Pulls.cons; focus (repeat (first | exact Pull.here | apply Pull.there))))) rfl rfl (fun hI => rload_c _ hI) rfl rfl rfl ?_; rintro v w ⟨rfl, hmu⟩ hS; rw [hR]; replace hS := hS _ hmu; clear hmu)
          | (refine WL.calls hS rfl rfl (aturnOut_c spoke bit _ HN) rfl rfl rfl ?_; rintro v w rfl hS)
          | (refine WL.callL (D := [bchC B (some ⟨Tp, 0, none⟩) m fb, tabC Tp q ⟨sysP, rowsOf bs ls, ⟨sysL, ls.map recordE, false⟩⟩ fp, .box C 57 (cellsA tr th tu)]) hS (by repeat (first | exact Pulls.nil | (apply Pulls.cons; focus (repeat (first | exact Pull.here | apply Pull.there))))) rfl rfl (fun hI => aalike_c (T := ⟨sysP, rowsOf bs ls, ⟨sysL, ls.map recordE, false⟩⟩) hI (hp.pull hS (by repeat (first | exact Pulls.nil | (apply Pulls.cons; focus (repeat (first | exact Pull.here | apply Pull.there)))))) hpi.is_ (by omega) (hri.mono fun h => St.slXD (z := ⟨wz, Fz⟩) (hS.pulls (by repeat (first | exact Pulls.nil | (apply Pulls.cons; focus (repeat (first | exact Pull.here | apply Pull.there)))))) (by repeat (first | exact List.Mem.head _ | apply List.Mem.tail)) h)) rfl rfl rfl ?_; rintro v w ⟨rfl, hmu⟩ hS; replace hS := hS _ hmu; clear hmu)
          | (refine WL.store hS rfl rfl rfl (by repeat (first | exact StB.here rfl | apply StB.there)) rfl rfl rfl ?_; intro w hS)
          | (refine WL.alloc hS rfl rfl rfl rfl rfl rfl ?_; intro w b hS)
          | refine WL.index rfl rfl rfl rfl (by first | with_reducible assumption | omega) rfl rfl rfl rfl ?_
          | refine WL.skip rfl rfl rfl ?_
          | ((fail_if_success (refine WL.wanted rfl ?_)); refine WL.guard rfl rfl rfl (fun h => ?_) (fun h => ?_) <;> (try simp only [Classical.not_not, Bool.not_eq_true', Bool.not_eq_false', Bool.not_eq_eq_eq_not, Bool.not_true, Bool.not_false, beq_iff_eq, beq_eq_false_iff_ne, ne_eq, decide_eq_decide, decide_eq_true_eq, decide_eq_false_iff_not, Bool.and_eq_true, Bool.or_eq_true, Bool.and_eq_false_iff, Bool.or_eq_false_iff] at h) <;> (try (exfalso; first | omega | contradiction))))
        | (show WC _ _ _ _ _ _; first
          | refine WC.seq ?_
          | refine WC.region ?_
          | refine WC.block ?_
          | refine WC.skip ?_
          | refine WC.condT rfl (by with_reducible rfl) ?_
          | refine WC.condT rfl (by decide) ?_
          | refine WC.condF rfl (by decide) ?_
          | refine WC.condT rfl (decide_eq_true (by first | with_reducible assumption | omega)) ?_)
        | refine seqQ_n ?_
        | refine blkQ_n ?_)
      exact rndQ_n (i + 1, B) ⟨m, L, K, P, KS, bs, ls, D, fb, fp, tr, th, tu, wz, Fz, Tp, ⟨by omega, hpi2⟩, hri, hS.droplast2 (by repeat (first | exact Pulls.nil | (apply Pulls.cons; focus (repeat (first | exact Pull.here | apply Pull.there)))))⟩ (by show steps.length - (i + 1) < steps.length - i; omega) ⟨rfl, vint (by omega), trivial⟩ ⟨rfl, rfl, rfl, trivial⟩
    obtain ⟨s, rfl⟩ : ∃ s : Nat, spoke = (s : Int) := ⟨spoke.toNat, by omega⟩
    have hs6 : 1 ≤ s ∧ s ≤ 6 := by omega
    have hR : rloadE tr th tu (s : Int) = if th s then (if tu s then .tuple #[.slice none 0 0, .int .i64 6] else .tuple #[(tr s).val, .int .i64 0]) else .tuple #[.slice none 0 0, .int .i64 11] := by unfold rloadE; rw [if_pos hsp]; rfl
    cases hP : P s with
    | none =>
      rw [hri.th_ s hs6.1 hs6.2, hP] at hR
      have hR : rloadE tr th tu (s : Int) = .tuple #[.slice none 0 0, .int .i64 11] := hR
      have his := hpi.is_
      repeat' (first
        | (show WL _ _ _ _ _ _ _; first
          | refine WL.pure rfl rfl rfl rfl ?_
          | refine WL.nil ?_
          | refine WL.load hS rfl rfl (LdOk.box (by repeat (first | exact List.Mem.head _ | apply List.Mem.tail)) rfl) rfl rfl rfl ?_
          | refine WL.add rfl rfl rfl (by omega) rfl rfl rfl ?_
          | (refine WL.load hS rfl rfl (LdOk.snap0 hF hr (by repeat (first | exact List.Mem.head _ | apply List.Mem.tail)) rfl) rfl rfl rfl ?_)
          | (refine WL.callL (D := [.box C 57 (cellsA tr th tu)]) hS (by repeat (first | exact Pulls.nil | (apply Pulls.cons; focus (repeat (first | exact Pull.here | apply Pull.there))))) rfl rfl (fun hI => rload_c _ hI) rfl rfl rfl ?_; rintro v w ⟨rfl, hmu⟩ hS; rw [hR]; replace hS := hS _ hmu; clear hmu)
          | (refine WL.callL (D := [bchC B (some ⟨Tp, 0, none⟩) m fb, tabC Tp q ⟨sysP, rowsOf bs ls, ⟨sysL, ls.map recordE, false⟩⟩ fp]) hS (by repeat (first | exact Pulls.nil | (apply Pulls.cons; focus (repeat (first | exact Pull.here | apply Pull.there))))) rfl rfl (fun hI => aturnNo_c (T := ⟨sysP, rowsOf bs ls, ⟨sysL, ls.map recordE, false⟩⟩) s bit hs6 hI (hp.pull hS (by repeat (first | exact Pulls.nil | (apply Pulls.cons; focus (repeat (first | exact Pull.here | apply Pull.there)))))) his hP) rfl rfl rfl ?_; rintro v w ⟨rfl, hmu⟩ hS; replace hS := hS _ hmu; clear hmu)
          | (refine WL.callL (D := [bchC B (some ⟨Tp, 0, none⟩) m fb, tabC Tp q ⟨sysP, rowsOf bs ls, ⟨sysL, ls.map recordE, false⟩⟩ fp, .box C 57 (cellsA tr th tu)]) hS (by repeat (first | exact Pulls.nil | (apply Pulls.cons; focus (repeat (first | exact Pull.here | apply Pull.there))))) rfl rfl (fun hI => aalike_c (T := ⟨sysP, rowsOf bs ls, ⟨sysL, ls.map recordE, false⟩⟩) hI (hp.pull hS (by repeat (first | exact Pulls.nil | (apply Pulls.cons; focus (repeat (first | exact Pull.here | apply Pull.there)))))) hpi.is_ (by omega) (hri.mono fun h => St.slXD (z := ⟨wz, Fz⟩) (hS.pulls (by repeat (first | exact Pulls.nil | (apply Pulls.cons; focus (repeat (first | exact Pull.here | apply Pull.there)))))) (by repeat (first | exact List.Mem.head _ | apply List.Mem.tail)) h)) rfl rfl rfl ?_; rintro v w ⟨rfl, hmu⟩ hS; replace hS := hS _ hmu; clear hmu)
          | (refine WL.store hS rfl rfl rfl (by repeat (first | exact StB.here rfl | apply StB.there)) rfl rfl rfl ?_; intro w hS)
          | (refine WL.alloc hS rfl rfl rfl rfl rfl rfl ?_; intro w b hS)
          | refine WL.index rfl rfl rfl rfl (by first | with_reducible assumption | omega) rfl rfl rfl rfl ?_
          | ((fail_if_success (refine WL.wanted rfl ?_)); refine WL.guard rfl rfl rfl (fun h => ?_) (fun h => ?_) <;> (try simp only [Classical.not_not, Bool.not_eq_true', Bool.not_eq_false', Bool.not_eq_eq_eq_not, Bool.not_true, Bool.not_false, beq_iff_eq, beq_eq_false_iff_ne, ne_eq, decide_eq_decide, decide_eq_true_eq, decide_eq_false_iff_not, Bool.and_eq_true, Bool.or_eq_true, Bool.and_eq_false_iff, Bool.or_eq_false_iff] at h) <;> (try (exfalso; first | omega | contradiction))))
        | (show WC _ _ _ _ _ _; first
          | refine WC.seq ?_
          | refine WC.region ?_
          | refine WC.block ?_
          | refine WC.skip ?_
          | refine WC.condT rfl (by decide) ?_
          | refine WC.condF rfl (by decide) ?_
          | refine WC.condT rfl (decide_eq_true (by first | with_reducible assumption | omega)) ?_)
        | refine seqQ_n ?_
        | refine blkQ_n ?_)
      exact rndQ_n (i + 1, B) ⟨m, L, K, P, KS, bs, ls, D, fb, fp, tr, th, tu, wz, Fz, Tp, ⟨by omega, hpi2⟩, hri, hS.droplast2 (by repeat (first | exact Pulls.nil | (apply Pulls.cons; focus (repeat (first | exact Pull.here | apply Pull.there)))))⟩ (by show steps.length - (i + 1) < steps.length - i; omega) ⟨rfl, vint (by omega), trivial⟩ ⟨rfl, rfl, rfl, trivial⟩
    | some a =>
      have htu := hri.tu_ s a hs6.1 hs6.2 hP
      have hth := hri.th_ s hs6.1 hs6.2
      rw [hP] at hth
      rw [hth, htu] at hR
      cases hb : a.bit with
      | some bb =>
        rw [hb] at hR
        have hR : rloadE tr th tu (s : Int) = .tuple #[.slice none 0 0, .int .i64 6] := hR
        repeat' (first
          | (show WL _ _ _ _ _ _ _; first
            | refine WL.pure rfl rfl rfl rfl ?_
            | refine WL.nil ?_
            | refine WL.load hS rfl rfl (LdOk.box (by repeat (first | exact List.Mem.head _ | apply List.Mem.tail)) rfl) rfl rfl rfl ?_
            | refine WL.add rfl rfl rfl (by omega) rfl rfl rfl ?_
            | (refine WL.load hS rfl rfl (LdOk.snap0 hF hr (by repeat (first | exact List.Mem.head _ | apply List.Mem.tail)) rfl) rfl rfl rfl ?_)
            | (refine WL.callL (D := [.box C 57 (cellsA tr th tu)]) hS (by repeat (first | exact Pulls.nil | (apply Pulls.cons; focus (repeat (first | exact Pull.here | apply Pull.there))))) rfl rfl (fun hI => rload_c _ hI) rfl rfl rfl ?_; rintro v w ⟨rfl, hmu⟩ hS; rw [hR]; replace hS := hS _ hmu; clear hmu)
            | (refine WL.callL (D := [bchC B (some ⟨Tp, 0, none⟩) m fb, tabC Tp q ⟨sysP, rowsOf bs ls, ⟨sysL, ls.map recordE, false⟩⟩ fp, .box C 57 (cellsA tr th tu)]) hS (by repeat (first | exact Pulls.nil | (apply Pulls.cons; focus (repeat (first | exact Pull.here | apply Pull.there))))) rfl rfl (fun hI => aalike_c (T := ⟨sysP, rowsOf bs ls, ⟨sysL, ls.map recordE, false⟩⟩) hI (hp.pull hS (by repeat (first | exact Pulls.nil | (apply Pulls.cons; focus (repeat (first | exact Pull.here | apply Pull.there)))))) hpi.is_ (by omega) (hri.mono fun h => St.slXD (z := ⟨wz, Fz⟩) (hS.pulls (by repeat (first | exact Pulls.nil | (apply Pulls.cons; focus (repeat (first | exact Pull.here | apply Pull.there)))))) (by repeat (first | exact List.Mem.head _ | apply List.Mem.tail)) h)) rfl rfl rfl ?_; rintro v w ⟨rfl, hmu⟩ hS; replace hS := hS _ hmu; clear hmu)
            | (refine WL.store hS rfl rfl rfl (by repeat (first | exact StB.here rfl | apply StB.there)) rfl rfl rfl ?_; intro w hS)
            | (refine WL.alloc hS rfl rfl rfl rfl rfl rfl ?_; intro w b hS)
            | refine WL.index rfl rfl rfl rfl (by first | with_reducible assumption | omega) rfl rfl rfl rfl ?_
            | ((fail_if_success (refine WL.wanted rfl ?_)); refine WL.guard rfl rfl rfl (fun h => ?_) (fun h => ?_) <;> (try simp only [Classical.not_not, Bool.not_eq_true', Bool.not_eq_false', Bool.not_eq_eq_eq_not, Bool.not_true, Bool.not_false, beq_iff_eq, beq_eq_false_iff_ne, ne_eq, decide_eq_decide, decide_eq_true_eq, decide_eq_false_iff_not, Bool.and_eq_true, Bool.or_eq_true, Bool.and_eq_false_iff, Bool.or_eq_false_iff] at h) <;> (try (exfalso; first | omega | contradiction))))
          | (show WC _ _ _ _ _ _; first
            | refine WC.seq ?_
            | refine WC.region ?_
            | refine WC.block ?_
            | refine WC.skip ?_
            | refine WC.condT rfl (by decide) ?_
            | refine WC.condF rfl (by decide) ?_
            | refine WC.condT rfl (decide_eq_true (by first | with_reducible assumption | omega)) ?_)
          | refine seqQ_n ?_
          | refine blkQ_n ?_)
        exact rndQ_n (i + 1, B) ⟨m, L, K, P, KS, bs, ls, D, fb, fp, tr, th, tu, wz, Fz, Tp, ⟨by omega, hpi2⟩, hri, hS.droplast2 (by repeat (first | exact Pulls.nil | (apply Pulls.cons; focus (repeat (first | exact Pull.here | apply Pull.there)))))⟩ (by show steps.length - (i + 1) < steps.length - i; omega) ⟨rfl, vint (by omega), trivial⟩ ⟨rfl, rfl, rfl, trivial⟩
      | none =>
        rw [hb] at hR
        have hR : rloadE tr th tu (s : Int) = .tuple #[.slice (tr s).A (tr s).n (tr s).cap, .int .i64 0] := hR
        have his := hpi.is_
        have hst := fun {m' : Bch} {L' : List One} {P' : Nat → Option Arc} => hpi.step (m' := m') (L' := L') (P' := P') (c := 1) (k := 0) (by decide) (by decide)
        have hrt := fun {w1 : World} {F1 : Nat → Prop} (h : RefIs P tr th tu F1 w1) => h.turn (s := s) hth (a := a) (bit := bit)
        generalize tr s = rr at hR
        clear hpi hpi2
        repeat' (first
          | (show WL _ _ _ _ _ _ _; first
            | refine WL.pure rfl rfl rfl rfl ?_
            | refine WL.nil ?_
            | refine WL.load hS rfl rfl (LdOk.box (by repeat (first | exact List.Mem.head _ | apply List.Mem.tail)) rfl) rfl rfl rfl ?_
            | refine WL.add rfl rfl rfl (by omega) rfl rfl rfl ?_
            | (refine WL.load hS rfl rfl (LdOk.snap0 hF hr (by repeat (first | exact List.Mem.head _ | apply List.Mem.tail)) rfl) rfl rfl rfl ?_)
            | (refine WL.callL (D := [.box C 57 (cellsA tr th tu)]) hS (by repeat (first | exact Pulls.nil | (apply Pulls.cons; focus (repeat (first | exact Pull.here | apply Pull.there))))) rfl rfl (fun hI => rload_c _ hI) rfl rfl rfl ?_; rintro v w ⟨rfl, hmu⟩ hS; rw [hR]; replace hS := hS _ hmu; clear hmu)
            | (refine WL.callL (D := [bchC B (some ⟨Tp, 0, none⟩) m fb, tabC Tp q ⟨sysP, rowsOf bs ls, ⟨sysL, ls.map recordE, false⟩⟩ fp]) hS (by repeat (first | exact Pulls.nil | (apply Pulls.cons; focus (repeat (first | exact Pull.here | apply Pull.there))))) rfl rfl (fun hI => aturnG_c (T := ⟨sysP, rowsOf bs ls, ⟨sysL, ls.map recordE, false⟩⟩) s a bit hs6 hI (hp.pull hS (by repeat (first | exact Pulls.nil | (apply Pulls.cons; focus (repeat (first | exact Pull.here | apply Pull.there)))))) his hP hb (by omega)) rfl rfl rfl ?_; rintro v w ⟨rfl, m2, fb2, hs2, hg2, hmu⟩ hS; replace hS := hS _ hmu; clear hmu; obtain ⟨KS2, hpi2⟩ := hst hg2 hs2)
            | (refine WL.callL (D := [bchC B (some ⟨Tp, 0, none⟩) m2 fb2, tabC Tp q ⟨sysP, rowsOf bs ls, ⟨sysL, ls.map recordE, false⟩⟩ fp, .box C 57 (cellsA tr th (updF tu s true))]) hS (by repeat (first | exact Pulls.nil | (apply Pulls.cons; focus (repeat (first | exact Pull.here | apply Pull.there))))) rfl rfl (fun hI => aalike_c (T := ⟨sysP, rowsOf bs ls, ⟨sysL, ls.map recordE, false⟩⟩) hI (hp.pull hS (by repeat (first | exact Pulls.nil | (apply Pulls.cons; focus (repeat (first | exact Pull.here | apply Pull.there)))))) hpi2.is_ (by omega) (hrt (hri.mono fun h => St.slXD (z := ⟨wz, Fz⟩) (hS.pulls (by repeat (first | exact Pulls.nil | (apply Pulls.cons; focus (repeat (first | exact Pull.here | apply Pull.there)))))) (by repeat (first | exact List.Mem.head _ | apply List.Mem.tail)) h))) rfl rfl rfl ?_; rintro v w ⟨rfl, hmu⟩ hS; replace hS := hS _ hmu; clear hmu)
            | (refine WL.store hS rfl rfl rfl (by repeat (first | exact StB.here rfl | apply StB.there)) rfl rfl rfl ?_; intro w hS)
            | (refine WL.alloc hS rfl rfl rfl rfl rfl rfl ?_; intro w b hS)
            | refine WL.index rfl rfl rfl rfl (by first | with_reducible assumption | omega) rfl rfl rfl rfl ?_
            | ((fail_if_success (refine WL.wanted rfl ?_)); refine WL.guard rfl rfl rfl (fun h => ?_) (fun h => ?_) <;> (try simp only [Classical.not_not, Bool.not_eq_true', Bool.not_eq_false', Bool.not_eq_eq_eq_not, Bool.not_true, Bool.not_false, beq_iff_eq, beq_eq_false_iff_ne, ne_eq, decide_eq_decide, decide_eq_true_eq, decide_eq_false_iff_not, Bool.and_eq_true, Bool.or_eq_true, Bool.and_eq_false_iff, Bool.or_eq_false_iff] at h) <;> (try (exfalso; first | omega | contradiction))))
          | (show WC _ _ _ _ _ _; first
            | refine WC.seq ?_
            | refine WC.region ?_
            | refine WC.block ?_
            | refine WC.skip ?_
            | (show WC _ _ (Code.region _ (List.toArray [_, _, _, _, _, _, _]) true) _ _ _; refine WC.drawL [.box C 57 (cellsA tr th tu)] hS (by repeat (first | exact Pulls.nil | (apply Pulls.cons; focus (repeat (first | exact Pull.here | apply Pull.there))))) [0,1,2,3,4,5] [0,1,2,3,4,5,6] (by kernel_rfl) (by kernel_rfl) ?_; clear hS; intro w hS hM)
            | refine WC.condT rfl (by decide) ?_
            | refine WC.condF rfl (by decide) ?_
            | refine WC.condT rfl (decide_eq_true (by first | with_reducible assumption | omega)) ?_)
          | (show WD _ _ _ _ _ _ _ _ _; first
            | refine WD.pure rfl rfl rfl rfl rfl ?_
            | refine WD.nil ?_
            | refine WD.load rfl rfl (LdOk.box (by repeat (first | exact List.Mem.head _ | apply List.Mem.tail)) rfl) rfl rfl rfl rfl ?_
            | (refine WD.indexArr rfl rfl rfl rfl (by omega) rfl rfl rfl rfl ?_)
            | (refine WD.store hS rfl rfl rfl (.here (splTu hs6 true)) rfl (.chunk (.refl _ _) _) rfl rfl rfl rfl ?_; clear hS hM; intro w hS hM))
          | refine seqQ_n ?_
          | refine blkQ_n ?_)
        exact rndQ_n (i + 1, B) ⟨m2, L, K + 0, _, KS2, bs, ls, D, fb2, fp, _, _, _, wz, Fz, Tp, ⟨by omega, hpi2⟩, hrt hri, hS.droplast2 (by repeat (first | exact Pulls.nil | (apply Pulls.cons; focus (repeat (first | exact Pull.here | apply Pull.there)))))⟩ (by show steps.length - (i + 1) < steps.length - i; omega) ⟨rfl, vint (by omega), trivial⟩ ⟨rfl, rfl, rfl, trivial⟩
  by_cases k3 : kind = 3
  · subst k3
    by_cases hsp : 1 ≤ spoke ∧ spoke ≤ 6
    rotate_left
    · have hpi2 := hpi.up
      obtain ⟨HN, rfl⟩ : ∃ h : ¬ (1 ≤ spoke ∧ spoke ≤ 6), h = hsp := ⟨_, rfl⟩
      repeat' (first
        | (show WL _ _ _ _ _ _ _; first
          | refine WL.pure rfl rfl rfl rfl ?_
          | refine WL.nil ?_
          | refine WL.load hS rfl rfl (LdOk.box (by repeat (first | exact List.Mem.head _ | apply List.Mem.tail)) rfl) rfl rfl rfl ?_
          | refine WL.add rfl rfl rfl (by omega) rfl rfl rfl ?_
          | (refine WL.load hS rfl rfl (LdOk.snap0 hF hr (by repeat (first | exact List.Mem.head _ | apply List.Mem.tail)) rfl) rfl rfl rfl ?_)
          | (refine WL.callL (D := [bchC B (some ⟨Tp, 0, none⟩) m fb, tabC Tp q ⟨sysP, rowsOf bs ls, ⟨sysL, ls.map recordE, false⟩⟩ fp, .box C 57 (cellsA tr th tu)]) hS (by repeat (first | exact Pulls.nil | (apply Pulls.cons; focus (repeat (first | exact Pull.here | apply Pull.there))))) rfl rfl (fun hI => aalike_c (T := ⟨sysP, rowsOf bs ls, ⟨sysL, ls.map recordE, false⟩⟩) hI (hp.pull hS (by repeat (first | exact Pulls.nil | (apply Pulls.cons; focus (repeat (first | exact Pull.here | apply Pull.there)))))) hpi.is_ (by omega) (hri.mono fun h => St.slXD (z := ⟨wz, Fz⟩) (hS.pulls (by repeat (first | exact Pulls.nil | (apply Pulls.cons; focus (repeat (first | exact Pull.here | apply Pull.there)))))) (by repeat (first | exact List.Mem.head _ | apply List.Mem.tail)) h)) rfl rfl rfl ?_; rintro v w ⟨rfl, hmu⟩ hS; replace hS := hS _ hmu; clear hmu)
          | (refine WL.store hS rfl rfl rfl (by repeat (first | exact StB.here rfl | apply StB.there)) rfl rfl rfl ?_; intro w hS)
          | (refine WL.alloc hS rfl rfl rfl rfl rfl rfl ?_; intro w b hS)
          | refine WL.index rfl rfl rfl rfl (by first | with_reducible assumption | omega) rfl rfl rfl rfl ?_
          | ((fail_if_success (refine WL.wanted rfl ?_)); refine WL.guard rfl rfl rfl (fun h => ?_) (fun h => ?_) <;> (try simp only [Classical.not_not, Bool.not_eq_true', Bool.not_eq_false', Bool.not_eq_eq_eq_not, Bool.not_true, Bool.not_false, beq_iff_eq, beq_eq_false_iff_ne, ne_eq, decide_eq_decide, decide_eq_true_eq, decide_eq_false_iff_not, Bool.and_eq_true, Bool.or_eq_true, Bool.and_eq_false_iff, Bool.or_eq_false_iff] at h) <;> (try (exfalso; first | omega | contradiction))))
        | (show WC _ _ _ _ _ _; first
          | refine WC.seq ?_
          | refine WC.region ?_
          | refine WC.block ?_
          | refine WC.skip ?_
          | (show WC _ _ (Code.region _ (List.toArray [_, _, _, _, _, _, _, _, _, _]) true) _ _ _; refine WC.drawL [bchC B (some ⟨Tp, 0, none⟩) m fb, tabC Tp q ⟨sysP, rowsOf bs ls, ⟨sysL, ls.map recordE, false⟩⟩ fp, .box C 57 (cellsA tr th tu)] hS (by repeat (first | exact Pulls.nil | (apply Pulls.cons; focus (repeat (first | exact Pull.here | apply Pull.there))))) [0,1,2,4,5,6,8,9] [0,1,2,4,5,6,3,7,8,9] (by kernel_rfl) (by kernel_rfl) ?_; clear hS; intro w hS hM)
          | refine WC.condT rfl (by decide) ?_
          | refine WC.condF rfl (by decide) ?_
          | refine WC.condT rfl (decide_eq_true (by first | with_reducible assumption | omega)) ?_)
        | (show WD _ _ _ _ _ _ _ _ _; first
          | refine WD.pure rfl rfl rfl rfl rfl ?_
          | refine WD.nil ?_
          | refine WD.load rfl rfl (LdOk.box (by repeat (first | exact List.Mem.head _ | apply List.Mem.tail)) rfl) rfl rfl rfl rfl ?_
          | (refine WD.calls hS hM rfl rfl (aforgetOut_c spoke _ HN) rfl rfl rfl rfl rfl ?_; clear hS; rintro v w rfl hS)
          | (refine WD.calls hS hM rfl rfl (rforgetOut_c spoke _ HN) rfl rfl rfl rfl rfl ?_; clear hS; rintro v w rfl hS))
        | refine seqQ_n ?_
        | refine blkQ_n ?_)
      exact rndQ_n (i + 1, B) ⟨m, L, K, P, KS, bs, ls, D, fb, fp, tr, th, tu, wz, Fz, Tp, ⟨by omega, hpi2⟩, hri, hS.droplast2 (by repeat (first | exact Pulls.nil | (apply Pulls.cons; focus (repeat (first | exact Pull.here | apply Pull.there)))))⟩ (by show steps.length - (i + 1) < steps.length - i; omega) ⟨rfl, vint (by omega), trivial⟩ ⟨rfl, rfl, rfl, trivial⟩
    obtain ⟨s, rfl⟩ : ∃ s : Nat, spoke = (s : Int) := ⟨spoke.toNat, by omega⟩
    have hs6 : 1 ≤ s ∧ s ≤ 6 := by omega
    have his := hpi.is_
    have hst := fun {m' : Bch} {L' : List One} {P' : Nat → Option Arc} => hpi.step (m' := m') (L' := L') (P' := P') (c := 1) (k := 0) (by decide) (by decide)
    have hrt := fun {w1 : World} {F1 : Nat → Prop} (h : RefIs P tr th tu F1 w1) => h.forget (s := s)
    clear hpi
    repeat' (first
      | (show WL _ _ _ _ _ _ _; first
        | refine WL.pure rfl rfl rfl rfl ?_
        | refine WL.nil ?_
        | refine WL.load hS rfl rfl (LdOk.box (by repeat (first | exact List.Mem.head _ | apply List.Mem.tail)) rfl) rfl rfl rfl ?_
        | refine WL.add rfl rfl rfl (by omega) rfl rfl rfl ?_
        | (refine WL.load hS rfl rfl (LdOk.snap0 hF hr (by repeat (first | exact List.Mem.head _ | apply List.Mem.tail)) rfl) rfl rfl rfl ?_)
        | (refine WL.callL (D := [bchC B (some ⟨Tp, 0, none⟩) m2 fb2, tabC Tp q ⟨sysP, rowsOf bs ls, ⟨sysL, ls.map recordE, false⟩⟩ fp, .box C 57 (cellsA tr (updF th s false) (updF tu s false))]) hS (by repeat (first | exact Pulls.nil | (apply Pulls.cons; focus (repeat (first | exact Pull.here | apply Pull.there))))) rfl rfl (fun hI => aalike_c (T := ⟨sysP, rowsOf bs ls, ⟨sysL, ls.map recordE, false⟩⟩) hI (hp.pull hS (by repeat (first | exact Pulls.nil | (apply Pulls.cons; focus (repeat (first | exact Pull.here | apply Pull.there)))))) hpi2.is_ (by omega) (hrt (hri.mono fun h => St.slXD (z := ⟨wz, Fz⟩) (hS.pulls (by repeat (first | exact Pulls.nil | (apply Pulls.cons; focus (repeat (first | exact Pull.here | apply Pull.there)))))) (by repeat (first | exact List.Mem.head _ | apply List.Mem.tail)) h))) rfl rfl rfl ?_; rintro v w ⟨rfl, hmu⟩ hS; replace hS := hS _ hmu; clear hmu)
        | (refine WL.store hS rfl rfl rfl (by repeat (first | exact StB.here rfl | apply StB.there)) rfl rfl rfl ?_; intro w hS)
        | (refine WL.alloc hS rfl rfl rfl rfl rfl rfl ?_; intro w b hS)
        | refine WL.index rfl rfl rfl rfl (by first | with_reducible assumption | omega) rfl rfl rfl rfl ?_
        | ((fail_if_success (refine WL.wanted rfl ?_)); refine WL.guard rfl rfl rfl (fun h => ?_) (fun h => ?_) <;> (try simp only [Classical.not_not, Bool.not_eq_true', Bool.not_eq_false', Bool.not_eq_eq_eq_not, Bool.not_true, Bool.not_false, beq_iff_eq, beq_eq_false_iff_ne, ne_eq, decide_eq_decide, decide_eq_true_eq, decide_eq_false_iff_not, Bool.and_eq_true, Bool.or_eq_true, Bool.and_eq_false_iff, Bool.or_eq_false_iff] at h) <;> (try (exfalso; first | omega | contradiction))))
      | (show WC _ _ _ _ _ _; first
        | refine WC.seq ?_
        | refine WC.region ?_
        | refine WC.block ?_
        | refine WC.skip ?_
        | (show WC _ _ (Code.region _ (List.toArray [_, _, _, _, _, _, _, _, _, _]) true) _ _ _; refine WC.drawL [bchC B (some ⟨Tp, 0, none⟩) m fb, tabC Tp q ⟨sysP, rowsOf bs ls, ⟨sysL, ls.map recordE, false⟩⟩ fp, .box C 57 (cellsA tr th tu)] hS (by repeat (first | exact Pulls.nil | (apply Pulls.cons; focus (repeat (first | exact Pull.here | apply Pull.there))))) [0,1,2,4,5,6,8,9] [0,1,2,4,5,6,3,7,8,9] (by kernel_rfl) (by kernel_rfl) ?_; clear hS; intro w hS hM)
        | refine WC.condT rfl (by decide) ?_
        | refine WC.condF rfl (by decide) ?_
        | refine WC.condT rfl (decide_eq_true (by first | with_reducible assumption | omega)) ?_)
      | (show WD _ _ _ _ _ _ _ _ _; first
        | refine WD.pure rfl rfl rfl rfl rfl ?_
        | refine WD.nil ?_
        | refine WD.load rfl rfl (LdOk.box (by repeat (first | exact List.Mem.head _ | apply List.Mem.tail)) rfl) rfl rfl rfl rfl ?_
        | (refine WD.callL (D := [bchC B (some ⟨Tp, 0, none⟩) m fb, tabC Tp q ⟨sysP, rowsOf bs ls, ⟨sysL, ls.map recordE, false⟩⟩ fp]) hS (by repeat (first | exact Pulls.nil | (apply Pulls.cons; focus (repeat (first | exact Pull.here | apply Pull.there))))) (by first | exact .refl _ _ | exact .chunk (.refl _ _) _ | exact .chunk (.chunk (.refl _ _) _) _) rfl rfl (fun hI => aforget_c (ex := False) (L := L) (K := K) (P := P) (T := ⟨sysP, rowsOf bs ls, ⟨sysL, ls.map recordE, false⟩⟩) s hs6 hI (hp.pull hS (by repeat (first | exact Pulls.nil | (apply Pulls.cons; focus (repeat (first | exact Pull.here | apply Pull.there)))))) his (by omega) (by omega) (by omega) (by show (rowsOf bs ls).length ≤ _; omega)) rfl rfl rfl rfl rfl ?_; rintro v w ⟨rfl, m2, fb2, L2, hs2, hg2, hmu⟩; refine ⟨_, hmu, fun hS hM => ?_⟩; clear hmu; obtain ⟨KS2, hpi2⟩ := hst hg2 hs2.weak)
        | (refine WD.callL (D := [.box C 57 (cellsA tr th tu)]) hS (by repeat (first | exact Pulls.nil | (apply Pulls.cons; focus (repeat (first | exact Pull.here | apply Pull.there))))) (by first | exact .refl _ _ | exact .chunk (.refl _ _) _ | exact .chunk (.chunk (.refl _ _) _) _) rfl rfl (fun hI => rforget_c s hs6 hI) rfl rfl rfl rfl rfl ?_; rintro v w ⟨rfl, hmu⟩; refine ⟨_, hmu, fun hS hM => ?_⟩; clear hmu))
      | refine seqQ_n ?_
      | refine blkQ_n ?_)
    exact rndQ_n (i + 1, B) ⟨m2, L2, K + 0, _, KS2, bs, ls, D, fb2, fp, _, _, _, wz, Fz, Tp, ⟨by omega, hpi2⟩, hrt hri, hS.droplast2 (by repeat (first | exact Pulls.nil | (apply Pulls.cons; focus (repeat (first | exact Pull.here | apply Pull.there)))))⟩ (by show steps.length - (i + 1) < steps.length - i; omega) ⟨rfl, vint (by omega), trivial⟩ ⟨rfl, rfl, rfl, trivial⟩
  by_cases k4 : kind = 4
  · subst k4
    obtain ⟨D2, bs2, ls2, hpi2, hcm, rc, hr2, hn2, hk2⟩ := hpi.commit h60
    have hsm := hpi.sm.up (C := 549755813888) (by omega)
    have hsm2 := hpi2.sm.up (C := 1099511627776) (by omega)
    have hst2 := hpi2.st
    have hwf2 := hpi2.wf
    have hlr : (ls.map recordE).length ≤ 4194303 := by rw [List.length_map]; have := hpi.few; omega
    have hml2 : m.length ≤ 1048576 := by omega
    clear hpi
    repeat' (first
      | (show WL _ _ _ _ _ _ _; first
        | refine WL.pure rfl rfl rfl rfl ?_
        | refine WL.nil ?_
        | refine WL.load hS rfl rfl (LdOk.box (by repeat (first | exact List.Mem.head _ | apply List.Mem.tail)) rfl) rfl rfl rfl ?_
        | refine WL.add rfl rfl rfl (by omega) rfl rfl rfl ?_
        | (refine WL.load hS rfl rfl (LdOk.snap0 hF hr (by repeat (first | exact List.Mem.head _ | apply List.Mem.tail)) rfl) rfl rfl rfl ?_)
        | (refine WL.callL (D := [bchC B (some ⟨Tp, 0, none⟩) m fb, tabC Tp q ⟨sysP, rowsOf bs ls, ⟨sysL, ls.map recordE, false⟩⟩ fp, dkC q mb lb D]) hS (by repeat (first | exact Pulls.nil | (apply Pulls.cons; focus (repeat (first | exact Pull.here | apply Pull.there))))) rfl rfl (fun hI => bcommit_c hI hcm (show sysP.length ≤ 1099511000 by decide) (show sysL.length ≤ 1099511620 by decide) hsm rc hlr hml2 hr2 hn2 hk2) rfl rfl rfl ?_; rintro v w ⟨rfl, fb2, fp2, hmu⟩ hS; replace hS := hS _ hmu; clear hmu)
        | (refine WL.callL (D := [dkC q mb lb D2]) hS (by repeat (first | exact Pulls.nil | (apply Pulls.cons; focus (repeat (first | exact Pull.here | apply Pull.there))))) rfl rfl (fun hI => topenSt_c hI hst2 hwf2 hsm2) rfl rfl rfl ?_; rintro v w ⟨Tp2, fp4, rfl, hmu⟩ hS; replace hS := hS _ hmu; clear hmu)
        | (refine WL.callG rfl rfl (begin_c _) rfl rfl rfl ?_; rintro v w ⟨hu, B2, fb3, rfl, hn⟩; replace hS := hS.new hu hn; clear hu hn)
        | (refine WL.callL (D := [bchC B2 (some ⟨Tp2, 0, none⟩) [] fb3, tabC Tp2 q ⟨sysP, rowsOf bs2 ls2, ⟨sysL, ls2.map recordE, false⟩⟩ fp4, .box C 57 (cellsA tr th tu)]) hS (by repeat (first | exact Pulls.nil | (apply Pulls.cons; focus (repeat (first | exact Pull.here | apply Pull.there))))) rfl rfl (fun hI => aalike_c (T := ⟨sysP, rowsOf bs2 ls2, ⟨sysL, ls2.map recordE, false⟩⟩) hI (hp.pull hS (by repeat (first | exact Pulls.nil | (apply Pulls.cons; focus (repeat (first | exact Pull.here | apply Pull.there)))))) hpi2.is_ (by omega) (hri.mono fun h => St.slXD (z := ⟨wz, Fz⟩) (hS.pulls (by repeat (first | exact Pulls.nil | (apply Pulls.cons; focus (repeat (first | exact Pull.here | apply Pull.there)))))) (by repeat (first | exact List.Mem.head _ | apply List.Mem.tail)) h)) rfl rfl rfl ?_; rintro v w ⟨rfl, hmu⟩ hS; replace hS := hS _ hmu; clear hmu)
        | (refine WL.store hS rfl rfl rfl (by repeat (first | exact StB.here rfl | apply StB.there)) rfl rfl rfl ?_; intro w hS)
        | (refine WL.alloc hS rfl rfl rfl rfl rfl rfl ?_; intro w b hS)
        | refine WL.index rfl rfl rfl rfl (by first | with_reducible assumption | omega) rfl rfl rfl rfl ?_
        | ((fail_if_success (refine WL.wanted rfl ?_)); refine WL.guard rfl rfl rfl (fun h => ?_) (fun h => ?_) <;> (try simp only [Classical.not_not, Bool.not_eq_true', Bool.not_eq_false', Bool.not_eq_eq_eq_not, Bool.not_true, Bool.not_false, beq_iff_eq, beq_eq_false_iff_ne, ne_eq, decide_eq_decide, decide_eq_true_eq, decide_eq_false_iff_not, Bool.and_eq_true, Bool.or_eq_true, Bool.and_eq_false_iff, Bool.or_eq_false_iff] at h) <;> (try (exfalso; first | omega | contradiction))))
      | (show WC _ _ _ _ _ _; first
        | refine WC.seq ?_
        | refine WC.region ?_
        | refine WC.block ?_
        | refine WC.skip ?_
        | refine WC.condF rfl (by with_reducible rfl) ?_
        | refine WC.condT rfl (by decide) ?_
        | refine WC.condF rfl (by decide) ?_
        | refine WC.condT rfl (decide_eq_true (by first | with_reducible assumption | omega)) ?_)
      | refine seqQ_n ?_
      | refine blkQ_n ?_)
    exact rndQ_n (i + 1, B2) ⟨[], L, K, P, KS, bs2, ls2, D2, fb3, fp4, tr, th, tu, wz, Fz, Tp2, ⟨by omega, hpi2⟩, hri, hS.droplast2 (by repeat (first | exact Pulls.nil | (apply Pulls.cons; focus (repeat (first | exact Pull.here | apply Pull.there)))))⟩ (by show steps.length - (i + 1) < steps.length - i; omega) ⟨rfl, vint (by omega), trivial⟩ ⟨rfl, rfl, rfl, trivial⟩
  have hpi2 := hpi.up
  repeat' (first
    | (show WL _ _ _ _ _ _ _; first
      | refine WL.pure rfl rfl rfl rfl ?_
      | refine WL.nil ?_
      | refine WL.load hS rfl rfl (LdOk.box (by repeat (first | exact List.Mem.head _ | apply List.Mem.tail)) rfl) rfl rfl rfl ?_
      | refine WL.add rfl rfl rfl (by omega) rfl rfl rfl ?_
      | (refine WL.load hS rfl rfl (LdOk.snap0 hF hr (by repeat (first | exact List.Mem.head _ | apply List.Mem.tail)) rfl) rfl rfl rfl ?_)
      | (refine WL.callL (D := [bchC B (some ⟨Tp, 0, none⟩) m fb, tabC Tp q ⟨sysP, rowsOf bs ls, ⟨sysL, ls.map recordE, false⟩⟩ fp, .box C 57 (cellsA tr th tu)]) hS (by repeat (first | exact Pulls.nil | (apply Pulls.cons; focus (repeat (first | exact Pull.here | apply Pull.there))))) rfl rfl (fun hI => aalike_c (T := ⟨sysP, rowsOf bs ls, ⟨sysL, ls.map recordE, false⟩⟩) hI (hp.pull hS (by repeat (first | exact Pulls.nil | (apply Pulls.cons; focus (repeat (first | exact Pull.here | apply Pull.there)))))) hpi.is_ (by omega) (hri.mono fun h => St.slXD (z := ⟨wz, Fz⟩) (hS.pulls (by repeat (first | exact Pulls.nil | (apply Pulls.cons; focus (repeat (first | exact Pull.here | apply Pull.there)))))) (by repeat (first | exact List.Mem.head _ | apply List.Mem.tail)) h)) rfl rfl rfl ?_; rintro v w ⟨rfl, hmu⟩ hS; replace hS := hS _ hmu; clear hmu)
      | (refine WL.store hS rfl rfl rfl (by repeat (first | exact StB.here rfl | apply StB.there)) rfl rfl rfl ?_; intro w hS)
      | (refine WL.alloc hS rfl rfl rfl rfl rfl rfl ?_; intro w b hS)
      | refine WL.index rfl rfl rfl rfl (by first | with_reducible assumption | omega) rfl rfl rfl rfl ?_
      | ((fail_if_success (refine WL.wanted rfl ?_)); refine WL.guard rfl rfl rfl (fun h => ?_) (fun h => ?_) <;> (try simp only [Classical.not_not, Bool.not_eq_true', Bool.not_eq_false', Bool.not_eq_eq_eq_not, Bool.not_true, Bool.not_false, beq_iff_eq, beq_eq_false_iff_ne, ne_eq, decide_eq_decide, decide_eq_true_eq, decide_eq_false_iff_not, Bool.and_eq_true, Bool.or_eq_true, Bool.and_eq_false_iff, Bool.or_eq_false_iff] at h) <;> (try (exfalso; first | omega | contradiction))))
    | (show WC _ _ _ _ _ _; first
      | refine WC.seq ?_
      | refine WC.region ?_
      | refine WC.block ?_
      | refine WC.skip ?_
      | refine WC.condF rfl (by decide) ?_
      | refine WC.condT rfl (decide_eq_true (by first | with_reducible assumption | omega)) ?_
      | refine WC.condF rfl (decide_eq_false (by first | with_reducible assumption | omega)) ?_)
    | refine seqQ_n ?_
    | refine blkQ_n ?_)
  exact rndQ_n (i + 1, B) ⟨m, L, K, P, KS, bs, ls, D, fb, fp, tr, th, tu, wz, Fz, Tp, ⟨by omega, hpi2⟩, hri, hS.droplast2 (by repeat (first | exact Pulls.nil | (apply Pulls.cons; focus (repeat (first | exact Pull.here | apply Pull.there)))))⟩ (by show steps.length - (i + 1) < steps.length - i; omega) ⟨rfl, vint (by omega), trivial⟩ ⟨rfl, rfl, rfl, trivial⟩
end Go.Proofs.YtobfdeiimnnanaaGreatDoor

/- What is proved: how the laws' arguments read; the table that is laid. Conditions: none. -/
set_option linter.unusedSimpArgs false
set_option linter.unusedVariables false
namespace Go.Proofs.YtobfdeiimnnanaaGreatDoor
open Go Go.J Go.RowKit

def QEnt (e : Ent) (b : Nat) : Prop := e.path.length + e.data.length + 3 ≤ b
theorem list2S {α : Type} {l : List α} (h : l.length = 2) : ∃ a b, l = [a, b] := by match l, h with | [a, b], _ => exact ⟨a, b, rfl⟩
theorem list3S {α : Type} {l : List α} (h : l.length = 3) : ∃ a b c, l = [a, b, c] := by match l, h with | [a, b, c], _ => exact ⟨a, b, c, rfl⟩
/-- a node: kind and data -/
def NodeRd (cs : List Value) (b : Nat) : Prop := ∃ (k : Int) (d : List UInt8), cs = [.int .i64 k, str d] ∧ -9223372036854775808 ≤ k ∧ k ≤ 9223372036854775807 ∧ d.length + 2 ≤ b
set_option maxRecDepth 100000 in
theorem open_node {H : Type} (enc : TypeId × Value → H) (W : World) (fuel : Nat) (cs : List Value) (x : DataW H × List MemPlace) (h : DataW.trod enc Tryz.prog W 0 (fun _ => true) true fuel 26 cs = some x) : NodeRd cs (Rows.uptoBulk x.1) := by
  obtain ⟨xs, n, _, rfl, hlen, hxl, hf⟩ := DataW.trod_struct Tryz.underlying26 h
  obtain ⟨x0, x1, rfl⟩ := list2S hxl
  obtain ⟨c0, c1, rfl⟩ := list2S (hlen.trans (by kernel_rfl))
  obtain ⟨s0, e0, q0⟩ := Opens.int Tryz.underlying3 enc W n [c0] x0 (hf 0 _ rfl)
  obtain ⟨s1, e1, q1⟩ := Opens.str Tryz.underlying9 enc W n [c1] x1 (hf 1 _ rfl)
  have e0 : [c0] = [.int .i64 s0] := e0
  have e1 : [c1] = [str s1] := e1
  simp only [List.cons.injEq, and_true] at e0 e1
  subst e0 e1
  refine ⟨s0, s1, rfl, q0.1, q0.2.1, ?_⟩
  simp [Rows.uptoBulk, Rows.uptoBulkAll] at *
  omega
set_option maxRecDepth 100000 in
theorem open_ent : Opens Tryz.prog 115 cEnt QEnt := by
  intro H enc W fuel cs x h
  obtain ⟨xs, n, _, rfl, hlen, hxl, hf⟩ := DataW.trod_struct Tryz.underlying115 h
  obtain ⟨x0, x1, rfl⟩ := list2S hxl
  obtain ⟨c0, c1, c2, rfl⟩ := list3S (hlen.trans (by kernel_rfl))
  obtain ⟨s0, e0, q0⟩ := Opens.str Tryz.underlying9 enc W n [c0] x0 (hf 0 _ rfl)
  obtain ⟨k, d, e1, _, _, q1⟩ := open_node enc W n [c1, c2] x1 (hf 1 _ rfl)
  have e0 : [c0] = [str s0] := e0
  simp only [List.cons.injEq, and_true] at e0 e1
  obtain ⟨e1, e2⟩ := e1
  subst e0 e1 e2
  refine ⟨⟨s0, k, d⟩, rfl, ?_⟩
  unfold QEnt
  simp [Rows.uptoBulk, Rows.uptoBulkAll] at *
  omega
instance : Inhabited Ent := ⟨⟨[], 0, []⟩⟩
/-- each one is within the bulk, and so is their number -/
theorem ql_each {α : Type} {Q : α → Nat → Prop} {ys : List α} {b : Nat} (h : QL Q ys b) (h1 : ∀ y n, Q y n → 1 ≤ n) : (∀ y ∈ ys, ∃ n, n ≤ b ∧ Q y n) ∧ ys.length ≤ b := by
  obtain ⟨bs, hl, hq, hs⟩ := h
  have hsum : ∀ bs : List Nat, (∀ n ∈ bs, n ≤ bs.sum) := by
    intro bs
    induction bs with
    | nil => intro n hn; cases hn
    | cons a l ih =>
      intro n hn
      rw [List.sum_cons]
      rcases List.mem_cons.1 hn with rfl | hn
      · omega
      · have := ih n hn; omega
  have hcnt : ∀ bs : List Nat, (∀ n ∈ bs, 1 ≤ n) → bs.length ≤ bs.sum := by
    intro bs
    induction bs with
    | nil => intro _; exact Nat.zero_le _
    | cons a l ih =>
      intro hn
      rw [List.sum_cons, List.length_cons]
      have := ih fun n h => hn n (List.mem_cons_of_mem _ h)
      have := hn a (List.mem_cons_self ..)
      omega
  refine ⟨fun y hy => ?_, ?_⟩
  · obtain ⟨i, hi, rfl⟩ := List.getElem_of_mem hy
    have hi' : i < bs.length := by omega
    exact ⟨bs[i], by have := hsum bs _ (List.getElem_mem hi'); omega, hq i hi hi'⟩
  · have := hcnt bs fun n hn => by
      obtain ⟨i, hi, rfl⟩ := List.getElem_of_mem hn
      exact h1 _ _ (hq i (by omega) hi)
    omega
theorem ents_each {y : List Ent} {b : Nat} (q : QL QEnt y b) (hb : b ≤ 1048576) : (∀ e ∈ y, e.path.length ≤ 1048576) ∧ y.length ≤ 1048576 := by
  obtain ⟨e0, l0⟩ := ql_each q fun y n h => (by unfold QEnt at h; omega)
  exact ⟨fun e he => by obtain ⟨n, hn, h⟩ := e0 e he; unfold QEnt at h; omega, by omega⟩
end Go.Proofs.YtobfdeiimnnanaaGreatDoor

/- What is proved: the key of ArchivePlays: with the table laid, the law answers true. Conditions: the statement's own bound on the bulk. -/
set_option linter.unusedSimpArgs false
set_option linter.unusedVariables false
namespace Go.Proofs.YtobfdeiimnnanaaGreatDoor
open Go Go.J Go.RowKit

def QStp16 (s : Stp16) (b : Nat) : Prop := (-9223372036854775808 ≤ s.spoke ∧ s.spoke ≤ 9223372036854775807) ∧ ∃ c, c + 3 ≤ b ∧ QL QEnt s.t c
theorem list4S {α : Type} {l : List α} (h : l.length = 4) : ∃ a b c d, l = [a, b, c, d] := by match l, h with | [a, b, c, d], _ => exact ⟨a, b, c, d, rfl⟩
set_option maxRecDepth 100000 in
theorem open_stp16 : Opens Tryz.prog 59 cStp16 QStp16 := by
  intro H enc W fuel cs x h
  obtain ⟨xs, n, _, rfl, hlen, hxl, hf⟩ := DataW.trod_struct Tryz.underlying59 h
  obtain ⟨x0, x1, x2, x3, rfl⟩ := list4S hxl
  obtain ⟨c0, c1, c2, c3, rfl⟩ := list4S (hlen.trans (by kernel_rfl))
  obtain ⟨s0, e0, q0⟩ := Opens.int Tryz.underlying3 enc W n [c0] x0 (hf 0 _ rfl)
  obtain ⟨s1, e1, q1⟩ := Opens.int Tryz.underlying3 enc W n [c1] x1 (hf 1 _ rfl)
  obtain ⟨s2, e2, q2⟩ := Opens.int Tryz.underlying3 enc W n [c2] x2 (hf 2 _ rfl)
  obtain ⟨t, ⟨A, cap, e3, hcap, hA⟩, q3⟩ := (Opens.slice Tryz.underlying34 (by kernel_rfl) (by decide) open_ent) enc W n [c3] x3 (hf 3 _ rfl)
  have e0 : [c0] = [.int .i64 s0] := e0
  have e1 : [c1] = [.int .i64 s1] := e1
  have e2 : [c2] = [.int .i64 s2] := e2
  simp only [List.cons.injEq, and_true] at e0 e1 e2 e3
  subst e0 e1 e2 e3
  refine ⟨⟨s0, s1, s2, t⟩, ⟨A, cap, rfl, hcap, hA⟩, ⟨q1.1, q1.2.1⟩, _, ?_, q3⟩
  simp [Rows.uptoBulk, Rows.uptoBulkAll] at *
  omega
theorem arg_stps16 : Arg Tryz.prog 51 (ASl cStp16) (QL QStp16) := Arg.slice Tryz.underlying51 (Opens.slice Tryz.underlying51 (by kernel_rfl) (by decide) open_stp16)
set_option maxRecDepth 100000 in
theorem pow_archivePlays (W : World) (h : laidMet Tryz.prog Rows.archivePlaysUptoRow.laid W) : powT W := by
  obtain ⟨a, b, r, he⟩ : ∃ a b r, Rows.archivePlaysUptoRow.laid = a :: b :: ("internal/strconv.uint64pow10", Lib.tabData .u64 Lib.pow10Tab) :: r := ⟨_, _, _, rfl⟩
  rw [he] at h
  have h1 := laidMet.tail (laidMet.tail h)
  exact Lib.tabIs_of_head (g := 3) (t := 299) (e := 178) (n := 20) (by kernel_rfl) (by kernel_rfl) (by kernel_rfl) (by kernel_rfl) (by kernel_rfl) (by kernel_rfl) h1
theorem archivePlays.key_archivePlays (W : World) (hL : laidMet Tryz.prog Rows.archivePlaysUptoRow.laid W) (v0 : Value) (y0 : List Stp16) (b0 : Nat) (h0 : ASl cStp16 W v0 y0) (q0 : QL QStp16 y0 b0) (hb : b0 ≤ 1048576) :
    Cal Tryz.prog 6 [v0] W (fun v W' => Upd [] W W' ∧ v = .bool true) := by
  obtain ⟨A0, c0, rfl, _, h0⟩ := h0
  obtain ⟨e0, l0⟩ := ql_each q0 fun y n h => (by obtain ⟨_, c, hc, _⟩ := h; omega)
  refine archivePlays_c y0 h0 (fun s hs => ?_) (by omega) (pow_archivePlays W hL)
  obtain ⟨n, hn, hr, c, hc, hq⟩ := e0 s hs
  obtain ⟨z1, z2⟩ := ents_each hq (by omega)
  exact ⟨z2, z1, hr⟩
end Go.Proofs.YtobfdeiimnnanaaGreatDoor
