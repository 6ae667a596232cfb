/- What is proved: contracts and plain facts that the law leans on (texts put together). Conditions: as each names them. -/
import Derived.Test.YtobfdeiimnnanaaGreatDoorM5
import Derived.Lib.LaidTab
import Derived.Stop.LaidErr
/- What is proved: append that keeps the row before it; chunks by place; rows that are marked and grown. Conditions: as each names them. -/
set_option linter.unusedSimpArgs false
set_option linter.unusedVariables false
namespace Go.J
open Go Go.RowKit

section
variable {P : Program} {N : Nat} {f : Fr} {w w0 : World} {Q : Post} {ops l : List Oper} {o : Oper} {M : List Nat} {H H' : List Chunk} {Z : List Snap} {ρ : Operand → Value}
end
section
variable {P : Program} {N : Nat} {f : Fr} {w w0 : World} {Q : Post} {ops : List Oper} {M : List Nat} {H0 H H' : List Chunk} {Z0 Z : List Snap} {q : Qs} {l : List Nat} {i : Nat}
end
/-! ## chunks by their place -/
/-- what is there now stays as it is, for one who changes nothing any more -/
theorem St.freeze {w0 w : World} {M : List Nat} {H : List Chunk} {Z : List Snap} (hS : St w0 M w H Z) : St w0 M w [] (⟨w, fun b => b < w.heap.size⟩ :: Z) :=
  ⟨hS.upd, fun c hc => (by cases hc), fun c hc => (by cases hc), .nil, fun z hz b hb => by
    rcases List.mem_cons.1 hz with rfl | hz
    · exact ⟨hb, rfl, fun c hc => (by cases hc)⟩
    · obtain ⟨h1, h2, _⟩ := hS.snap z hz b hb
      exact ⟨h1, h2, fun c hc => (by cases hc)⟩⟩
/-! ## rows that are marked, then grown -/
structure Rw where
  A : Option Addr
  n : Nat
  cap : Nat
def Rw.val (r : Rw) : Value := .slice r.A r.n r.cap
def encRw (r : Rw) : List Value := [r.val]
def ownRw {α : Type} (enc : α → List Value) (e : TypeId) (sz : Nat) (r : Rw) (l : List α) : Chunk := .own (.slice r.A r.n r.cap) e sz r.n (l.flatMap enc)
def grw {α : Type} (mk nw : Nat → α) (j n k : Nat) : List α := List.replicate n (mk j) ++ List.replicate k (nw j)
/-- a row that has grown by k: in its place, or beside itself -/
def GrowP {α : Type} (enc : α → List Value) (e : TypeId) (sz : Nat) (mk nw : Nat → α) (j : Nat) (r : Rw) (k : Nat) (A : Option Addr) (cap : Nat) (D : List Chunk) : Prop :=
  (A = r.A ∧ cap = r.cap ∧ D = [.own (.slice r.A (r.n + k) r.cap) e sz (r.n + k) ((grw mk nw j r.n k).flatMap enc)]) ∨
  (∃ i, D = [.own (.slice A (r.n + k) cap) e sz (r.n + k) ((grw mk nw j r.n k).flatMap enc), .own (.slice r.A (r.n + i) r.cap) e sz (r.n + i) ((grw mk nw j r.n i).flatMap enc)])
section
variable {α : Type} {enc : α → List Value} {e : TypeId} {sz : Nat} {mk nw : Nat → α} {rs ls : List Rw} {cs : List Chunk} {i j : Nat}
/-- as far as rows are marked -/
structure MarkIs (enc : α → List Value) (e : TypeId) (sz : Nat) (mk : Nat → α) (rs : List Rw) (cs : List Chunk) (i : Nat) : Prop where
  len : cs.length = rs.length
  at_ : ∀ j (h : j < rs.length), ∃ l : List α, l.length = rs[j].n ∧ cs[j]? = some (ownRw enc e sz rs[j] l) ∧ (j < i → l = List.replicate rs[j].n (mk j))
/-- as far as rows are grown -/
structure GrowIs (enc : α → List Value) (e : TypeId) (sz : Nat) (mk nw : Nat → α) (rs ls : List Rw) (cs : List Chunk) (i : Nat) : Prop where
  len : cs.length = rs.length
  llen : ls.length = i
  at_ : ∀ j (h : j < rs.length), i ≤ j → cs[j]? = some (ownRw enc e sz rs[j] (List.replicate rs[j].n (mk j)))
  got : ∀ j (h : j < rs.length), j < i → ∃ l fp, ls[j]? = some l ∧ l.n = rs[j].n + 20 ∧ cs[j]? = some (objC (GrowP enc e sz mk nw j rs[j] 20 l.A l.cap) fp)
theorem MarkIs.next (h : MarkIs enc e sz mk rs cs i) (hi : i < rs.length) : MarkIs enc e sz mk rs (cs.set i (ownRw enc e sz rs[i] (List.replicate rs[i].n (mk i)))) (i + 1) := by
  refine ⟨by rw [List.length_set]; exact h.len, fun j hj => ?_⟩
  obtain ⟨l, h0, h1, h2⟩ := h.at_ j hj
  by_cases e : i = j
  · subst e
    exact ⟨_, List.length_replicate, by rw [List.getElem?_set_self (by rw [h.len]; exact hi)], fun _ => rfl⟩
  · exact ⟨l, h0, by rw [List.getElem?_set_ne e]; exact h1, fun hlt => h2 (by omega)⟩
theorem MarkIs.grow (h : MarkIs enc e sz mk rs cs i) (hi : i = rs.length) : GrowIs enc e sz mk nw rs [] cs 0 := by
  subst hi
  refine ⟨h.len, rfl, fun j hj _ => ?_, fun j _ hj => absurd hj (Nat.not_lt_zero _)⟩
  obtain ⟨l, _, h1, h2⟩ := h.at_ j hj
  rw [h1, h2 hj]
theorem GrowIs.next (h : GrowIs enc e sz mk nw rs ls cs i) (hi : i < rs.length) {A : Option Addr} {cap : Nat} {fp : List Nat} : GrowIs enc e sz mk nw rs (ls ++ [⟨A, rs[i].n + 20, cap⟩]) (cs.set i (objC (GrowP enc e sz mk nw i rs[i] 20 A cap) fp)) (i + 1) := by
  refine ⟨by rw [List.length_set]; exact h.len, by rw [List.length_append, h.llen]; rfl, fun j hj hij => ?_, fun j hj hij => ?_⟩
  · rw [List.getElem?_set_ne (by omega)]; exact h.at_ j hj (by omega)
  · by_cases e : i = j
    · subst e
      refine ⟨⟨A, rs[i].n + 20, cap⟩, fp, ?_, rfl, by rw [List.getElem?_set_self (by rw [h.len]; exact hi)]⟩
      rw [List.getElem?_append_right (by rw [h.llen]; exact Nat.le_refl _), h.llen, Nat.sub_self]; rfl
    · obtain ⟨l, fp', h1, h2, h3⟩ := h.got j hj (by omega)
      exact ⟨l, fp', by rw [List.getElem?_append_left (by rw [h.llen]; omega)]; exact h1, h2, by rw [List.getElem?_set_ne e]; exact h3⟩
theorem ownAll {hsz : ∀ x, (enc x).length = sz} (h0 : 0 < sz) {w : World} {A : Option Addr} {n cap n' : Nat} {l : List α} (h : RowAt w e sz (.slice A n cap) n' (l.flatMap enc)) (hin : ∀ b ∈ (Value.slice A n cap).ownBlock.toList, b < w.heap.size) : SlAt (Cod.flat enc sz hsz) (fun b => b < w.heap.size) w A l :=
  SlAt.ofOwn h0 h fun g hg => hin g (by rw [hg]; simp)
/-- how they read when all are grown -/
theorem GrowIs.reads (h : GrowIs enc e sz mk nw rs ls cs i) (hi : i = rs.length) {hsz : ∀ x, (enc x).length = sz} (h0 : 0 < sz) {w w0 : World} {M : List Nat} {H : List Chunk} {Z : List Snap} (hS : St w0 M w H Z) (hc : ∀ c ∈ cs, c ∈ H) (j : Nat) (hj : j < rs.length) :
    ∃ l, ls[j]? = some l ∧ l.n = rs[j].n + 20 ∧ SlAt (Cod.flat enc sz hsz) (fun b => b < w.heap.size) w rs[j].A (List.replicate rs[j].n (mk j)) ∧ SlAt (Cod.flat enc sz hsz) (fun b => b < w.heap.size) w l.A (grw mk nw j rs[j].n 20) := by
  subst hi
  obtain ⟨l, fp, h1, h2, h3⟩ := h.got j hj hj
  have hm := hc _ (List.mem_of_getElem? h3)
  obtain ⟨D, hD, hfp, _, hh⟩ := (hS.holds _ hm).1
  have hb : ∀ d ∈ D, ∀ b ∈ d.fp, b < w.heap.size := fun d hd b hb => (hS.inb _ hm b (by show b ∈ fp; rw [hfp]; exact List.mem_flatMap.2 ⟨d, hd, hb⟩)).1
  refine ⟨l, h1, h2, ?_⟩
  rcases hD with ⟨e1, e2, rfl⟩ | ⟨k, rfl⟩
  · have hd := hh _ (List.Mem.head _)
    have hf := ownAll (hsz := hsz) h0 (show RowAt w e sz _ _ _ from hd) (hb _ (List.Mem.head _))
    rw [e1]
    exact ⟨SlAt.pre hf, hf⟩
  · have hd := hh _ (List.Mem.head _)
    have hf := ownAll (hsz := hsz) h0 (show RowAt w e sz _ _ _ from hd) (hb _ (List.Mem.head _))
    have hd2 := hh _ (List.Mem.tail _ (List.Mem.head _))
    have hf2 := ownAll (hsz := hsz) h0 (show RowAt w e sz _ _ _ from hd2) (hb _ (List.Mem.tail _ (List.Mem.head _)))
    exact ⟨SlAt.pre hf2, hf⟩
end
end Go.J

/- What is proved: what the document's Place, Add, Drop and Enforce answer. Conditions: lists of bounded length. -/
set_option linter.unusedSimpArgs false
set_option linter.unusedVariables false
namespace Go.J
open Go Go.RowKit
section
variable {P : Program} {N : Nat} {f : Fr} {w w0 : World} {Q : Post} {ops : List Oper} {M : List Nat} {H0 H H' : List Chunk} {Z0 Z : List Snap} {q : Qs} {l : List Nat} {i : Nat}
theorem WDo.app {s x : Operand} {t e : TypeId} {size bytes n m cap c b off : Nat} {A : Option Addr} {xs news : List Value} (hS : St w0 M w H Z) (hp : Pull (.own (.slice A n cap) e size n xs) H H') (hM : More H0 Z0 H' Z) (ho : (ix ops i).op = .call ⟨.builtin .append, ⟨[s, x]⟩, ⟨[t, t]⟩⟩) (hi0 : appOf P t = some (e, size, bytes))
    (hs : ev f s = .slice A n cap) (hx : ev f x = .slice (some ⟨b, off, none⟩) m c) (hnews : RdOk H Z b off news) (hl : news.length = m * size) (h1 : one news = true) (hb : (n + m) * bytes ≤ 140737488355328)
    (hi : Nat.blt i ops.length = true) (hg : wants ops f (ix ops i) = true) {d : Nat} (hd : (ix ops i).dst = some d) (hn : Nat.blt d N = true)
    (h : ∀ A' cap' w', St w0 M w' (.own (.slice A' (n + m) cap') e size (n + m) (xs ++ news) :: H') Z → More H0 Z0 (.own (.slice A' (n + m) cap') e size (n + m) (xs ++ news) :: H') Z → WD P N (SS w0 M H0 Z0) ops q l (up f d (.slice A' (n + m) cap')) w' Q) : WDo P N (SS w0 M H0 Z0) ops q i l f w Q := by
  have hS' := hS.pull hp
  obtain ⟨A', cap', w', hrun, hown', hgr, hat⟩ := run_appOp (P := P) (w := w) ho hi0 hs hx (hS'.holds _ (List.Mem.head _)) (hnews.out w0 M w [] [] hS) hl h1 hb
  have hS2 := hS'.app (.here) hown' hgr hat
  exact .val hi hg hd hn hrun ((hM.chunk _).ss hS2) (h A' cap' w' hS2 (hM.chunk _))
/-- append of another row of the call's own -/
theorem WD.appS {s x : Operand} {t e : TypeId} {size bytes n m cap c : Nat} {A B : Option Addr} {xs news : List Value} (hS : St w0 M w H Z) (hp : Pull (.own (.slice A n cap) e size n xs) H H') (hM : More H0 Z0 H' Z) (ho : (ix ops i).op = .call ⟨.builtin .append, ⟨[s, x]⟩, ⟨[t, t]⟩⟩) (hi0 : appOf P t = some (e, size, bytes))
    (hs : ev f s = .slice A n cap) (hx : ev f x = .slice B m c) (hnews : RdSl H Z B m news) (hl : news.length = m * size) (h1 : one news = true) (hb : (n + m) * bytes ≤ 140737488355328)
    (hq : q.contains i = false) (hi : Nat.blt i ops.length = true) (hg : wants ops f (ix ops i) = true) {d : Nat} (hd : (ix ops i).dst = some d) (hn : Nat.blt d N = true)
    (h : ∀ A' cap' w', St w0 M w' (.own (.slice A' (n + m) cap') e size (n + m) (xs ++ news) :: H') Z → More H0 Z0 (.own (.slice A' (n + m) cap') e size (n + m) (xs ++ news) :: H') Z → WD P N (SS w0 M H0 Z0) ops q l (up f d (.slice A' (n + m) cap')) w' Q) : WD P N (SS w0 M H0 Z0) ops q (i :: l) f w Q := by
  rcases hnews with ⟨rfl, rfl, rfl⟩ | ⟨b, off, rfl, hnews⟩
  · have hS' := hS.pull hp
    have hcap := (hS'.own_len (List.Mem.head _)).2.2
    have hS2 := hS'.recast (c' := .own (.slice A (n + 0) cap) e size (n + 0) (xs ++ [])) .here (fun h => by simpa using h) (fun b hb => by simpa using hb)
    exact .val hq hi hg hd hn (run_app0 ho hi0 hs hx hcap) ((hM.chunk _).ss hS2) (h A cap w hS2 (hM.chunk _))
  · exact .app hS hp hM ho hi0 hs hx hnews hl h1 hb hq hi hg hd hn h
end
end Go.J
namespace Go.Proofs.YtobfdeiimnnanaaGreatDoor
open Go Go.J Go.RowKit

def placeE : List Hr → Int → Nat × Bool
  | [], _ => (0, false)
  | r :: l, id => if r.id = id then (0, true) else if id < r.id then (0, false) else ((placeE l id).1 + 1, (placeE l id).2)
/-- where l[:n] and l[n:] stand -/
def cutP (A : Option Addr) (cap j : Nat) : Option Addr := if cap = j then A else A.map (·.add (j * 4))
/-! ## records that may be -/
def okC (c : Hc) : Bool := (okN c.o0 && okN c.n0) && ((okN c.o1 && okN c.n1) && (okN c.o2 && okN c.n2))
def okR (l : List Hc) : Bool := l.all okC
end Go.Proofs.YtobfdeiimnnanaaGreatDoor

/- What is proved: which records may be; the record that the laws on records begin with, and that they are awake. Conditions: the library's table of powers laid. -/
set_option linter.unusedSimpArgs false
set_option linter.unusedVariables false
namespace Go.J
open Go Go.RowKit
theorem St.ownSlY {w0 w : World} {M : List Nat} {D H : List Chunk} {Z : List Snap} {α : Type} {enc : α → List Value} {sz : Nat} {hsz : ∀ x, (enc x).length = sz} {e : TypeId} {A : Option Addr} {n cap n' : Nat} {l : List α} (h0 : 0 < sz) (hS : St w0 M w (D ++ H) Z) (hm : Chunk.own (.slice A n cap) e sz n' (l.flatMap enc) ∈ H) :
    SlAt (Cod.flat enc sz hsz) (fun b => b < w.heap.size ∧ b ∉ fps D) w A l :=
  SlAt.ofOwn h0 (hS.holds _ (List.mem_append_right _ hm)) fun g hg => by
    refine ⟨(hS.inb _ (List.mem_append_right _ hm) g (by simp [Chunk.fp, hg])).1, fun hf => ?_⟩
    obtain ⟨c, hc, hb⟩ := mem_fps.1 hf
    exact (List.pairwise_append.1 hS.disj).2.2 c hc _ hm g hb (by simp [Chunk.fp, hg])
/-- what a snapshot tells, as a callee reads it that changes chunks of the call's own -/
theorem St.slY {w0 w wz : World} {M : List Nat} {D H : List Chunk} {Z : List Snap} {α : Type} {c : Cod α} {F : Nat → Prop} {A : Option Addr} {l : List α} (hS : St w0 M w (D ++ H) Z) (hz : Snap.mk wz F ∈ Z) (h : SlAt c F wz A l) : SlAt c (fun b => b < w.heap.size ∧ b ∉ fps D) w A l :=
  (h.loc fun b hb => (hS.snap _ hz b hb).2.1).mono fun b hb => by
    obtain ⟨h1, _, h3⟩ := hS.snap _ hz b hb
    refine ⟨h1, fun hf => ?_⟩
    obtain ⟨d, hd, hbd⟩ := mem_fps.1 hf
    exact h3 d (List.mem_append_left _ hd) hbd
end Go.J
namespace Go.Proofs.YtobfdeiimnnanaaGreatDoor
open Go Go.J Go.RowKit

def upOk (c : Hc) : Nat → Bool
  | 0 => true
  | 1 => okN c.o0 && okN c.n0
  | 2 => (okN c.o0 && okN c.n0) && (okN c.o1 && okN c.n1)
  | _ => okC c
theorem okC_iff (c : Hc) : okC c = true ↔ ∀ n ∈ c.nodes, NdOk n := by
  unfold okC Hc.nodes
  simp only [Bool.and_eq_true, okN_iff, List.mem_cons, List.not_mem_nil, or_false, forall_eq_or_imp, forall_eq]
  constructor
  · rintro ⟨⟨a, b⟩, ⟨c, d⟩, e, f⟩; exact ⟨a, b, c, d, e, f⟩
  · rintro ⟨a, b, c, d, e, f⟩; exact ⟨⟨a, b⟩, ⟨c, d⟩, e, f⟩
theorem okR_iff (l : List Hc) : okR l = true ↔ ∀ c ∈ l, ∀ n ∈ c.nodes, NdOk n := by
  unfold okR
  rw [List.all_eq_true]
  exact forall_congr' fun c => imp_congr_right fun _ => okC_iff c
theorem okR_no {l : List Hc} {c : Hc} (hc : c ∈ l) (h : okC c = false) : okR l = false := by
  cases h2 : okR l with
  | false => rfl
  | true =>
    unfold okR at h2
    rw [List.all_eq_true] at h2
    rw [h2 c hc] at h
    cases h
theorem okR_snoc {l : List Hc} {j : Nat} (hj : j < l.length) (h : okR (l.take j) = true) (hc : okC l[j] = true) : okR (l.take (j + 1)) = true := by
  unfold okR at *
  rw [List.take_succ_eq_append_getElem hj, List.all_append, h, List.all_cons, hc]
  rfl
theorem okN_size {n : Nd} (h : n.data.length ≤ 1048576) : n.data.length ≤ 1099511627776 := by omega
set_option maxHeartbeats 32000000 in
set_option maxRecDepth 100000 in
theorem rwhole_c (cs : List Hc) (id tick spoke : Int) {A : Option Addr} {cap : Nat} (w0 : World) (hA : SlAt cHc (Old w0) w0 A cs) (hl : cs.length ≤ 1048576) (hz : ∀ c ∈ cs, ∀ n ∈ c.nodes, n.data.length ≤ 1048576) :
    Cal Tryz.prog 32 [.agg ⟨[.int .i64 id, .int .i64 tick, .int .i64 spoke, .slice A cs.length cap]⟩] w0 (fun v w' => Upd [] w0 w' ∧ v = .bool (okR cs)) := by
  refine Cal.mk' (by kernel_rfl) Tryz.func32 rfl rfl fun hS => ?_
  repeat' (first
    | (show WL _ _ _ _ _ _ _; first
      | refine WL.pure rfl rfl rfl rfl ?_
      | refine WL.nil ?_
      | (refine WL.box hS rfl rfl rfl rfl rfl ?_; intro w rb hS))
    | (show WC _ _ _ _ _ _; first
      | refine WC.seq ?_
      | refine WC.region ?_
      | refine WC.block ?_)
    | refine seqQ_n ?_)
  refine WC.loop (σ := Nat) [1] (fun j => [(3, .int .i64 (j : Int))])
    (fun j w => (j ≤ cs.length ∧ okR (cs.take j) = true) ∧ St w0 [] w [.box rb 24 [.int .i64 id, .int .i64 tick, .int .i64 spoke, .slice A cs.length cap]] [⟨w0, Old w0⟩]) (fun j => cs.length - j) 0 ⟨⟨Nat.zero_le _, rfl⟩, hS.droplast2 (by repeat (first | exact Pulls.nil | (apply Pulls.cons; focus (repeat (first | exact Pull.here | apply Pull.there)))))⟩ ⟨rfl, trivial⟩ ?_
  repeat (clear hS)
  rintro j g w ⟨⟨hj, hok⟩, hS⟩
  show WC _ _ _ (lf _ [(3, .int .i64 (j : Int))] _ _) _ _
  by_cases hlt : j < cs.length
  · obtain ⟨gb, go, es, rfl, hF, hr, hes⟩ := hA.at_ hlt
    have hes : es = encHc cs[j] := hes
    subst hes
    replace hr : w0.rangeAt gb (go + j * 14) (encHc cs[j]) := hr
    have hcm := List.getElem_mem hlt
    have hzc := hz _ hcm
    have hno := fun (h : okC cs[j] = false) => okR_no hcm h
    have hyes := fun (h : okC cs[j] = true) => okR_snoc hlt hok h
    generalize cs[j] = c at *
    have z0 := okN_size (hzc c.o0 (by simp [Hc.nodes]))
    have z1 := okN_size (hzc c.o1 (by simp [Hc.nodes]))
    have z2 := okN_size (hzc c.o2 (by simp [Hc.nodes]))
    have y0 := okN_size (hzc c.n0 (by simp [Hc.nodes]))
    have y1 := okN_size (hzc c.n1 (by simp [Hc.nodes]))
    have y2 := okN_size (hzc c.n2 (by simp [Hc.nodes]))
    unfold encHc at hr
    clear hA hz hzc hok hcm
    repeat' (first
      | (show WL _ _ _ _ _ _ _; first
        | refine WL.pure rfl rfl rfl rfl ?_
        | refine WL.nil ?_
        | refine WL.load hS rfl rfl (LdOk.box (by repeat (first | exact List.Mem.head _ | apply List.Mem.tail)) rfl) rfl rfl rfl ?_)
      | (show WC _ _ _ _ _ _; first
        | refine WC.seq ?_
        | refine WC.region ?_
        | refine WC.block ?_
        | refine WC.skip ?_
        | refine WC.condT rfl (decide_eq_true (by first | with_reducible assumption | omega)) ?_)
      | refine seqQ_n ?_)
    refine WC.loop (σ := Nat) [1, 3] (fun k => [(4, .int .i64 (k : Int))])
      (fun k w => (k ≤ 3 ∧ upOk c k = true) ∧ St w0 [] w [.box rb 24 [.int .i64 id, .int .i64 tick, .int .i64 spoke, .slice (some ⟨gb, go, none⟩) cs.length cap]] [⟨w0, Old w0⟩]) (fun k => 3 - k) 0 ⟨⟨Nat.zero_le _, rfl⟩, hS⟩ ⟨rfl, trivial⟩ ?_
    repeat (clear hS)
    rintro k g2 w ⟨⟨hk, huk⟩, hS⟩
    show WC _ _ _ (lf _ [(4, .int .i64 (k : Int))] _ _) _ _
    by_cases hlt3 : k < 3
    · obtain ⟨k', hk'⟩ : ∃ k', k' = k + 1 := ⟨_, rfl⟩
      rcases (show k = 0 ∨ k = 1 ∨ k = 2 by omega) with rfl | rfl | rfl
      all_goals
        clear hlt3 hk
        obtain ⟨HN, rfl⟩ : ∃ h : (okC c = false → okR cs = false), h = hno := ⟨_, rfl⟩
        repeat' (first
          | (show WL _ _ _ _ _ _ _; first
            | refine WL.pure rfl rfl rfl rfl ?_
            | refine WL.nil ?_
            | refine WL.load hS rfl rfl (LdOk.box (by repeat (first | exact List.Mem.head _ | apply List.Mem.tail)) rfl) rfl rfl rfl ?_
            | refine WL.add rfl rfl rfl (by omega) rfl rfl rfl ?_
            | (refine WL.load hS rfl rfl (LdOk.snap (off := 2) hF hr (by repeat (first | exact List.Mem.head _ | apply List.Mem.tail)) rfl) rfl rfl rfl ?_)
            | (refine WL.load hS rfl rfl (LdOk.snap (off := 4) hF hr (by repeat (first | exact List.Mem.head _ | apply List.Mem.tail)) rfl) rfl rfl rfl ?_)
            | (refine WL.load hS rfl rfl (LdOk.snap (off := 6) hF hr (by repeat (first | exact List.Mem.head _ | apply List.Mem.tail)) rfl) rfl rfl rfl ?_)
            | (refine WL.load hS rfl rfl (LdOk.snap (off := 8) hF hr (by repeat (first | exact List.Mem.head _ | apply List.Mem.tail)) rfl) rfl rfl rfl ?_)
            | (refine WL.load hS rfl rfl (LdOk.snap (off := 10) hF hr (by repeat (first | exact List.Mem.head _ | apply List.Mem.tail)) rfl) rfl rfl rfl ?_)
            | (refine WL.load hS rfl rfl (LdOk.snap (off := 12) hF hr (by repeat (first | exact List.Mem.head _ | apply List.Mem.tail)) rfl) rfl rfl rfl ?_)
            | (refine WL.calls hS rfl rfl (rwhole1_c c.o0 _ z0) rfl rfl rfl ?_; rintro v w rfl hS)
            | (refine WL.calls hS rfl rfl (rwhole1_c c.n0 _ y0) rfl rfl rfl ?_; rintro v w rfl hS)
            | (refine WL.calls hS rfl rfl (rwhole1_c c.o1 _ z1) rfl rfl rfl ?_; rintro v w rfl hS)
            | (refine WL.calls hS rfl rfl (rwhole1_c c.n1 _ y1) rfl rfl rfl ?_; rintro v w rfl hS)
            | (refine WL.calls hS rfl rfl (rwhole1_c c.o2 _ z2) rfl rfl rfl ?_; rintro v w rfl hS)
            | (refine WL.calls hS rfl rfl (rwhole1_c c.n2 _ y2) rfl rfl rfl ?_; rintro v w rfl hS)
            | refine WL.index rfl rfl rfl rfl (by first | with_reducible assumption | omega) rfl rfl rfl rfl ?_
            | refine WL.indexArr rfl rfl rfl rfl (by decide) rfl rfl rfl ?_
            | refine WL.skip rfl rfl rfl ?_
            | ((fail_if_success (refine WL.wanted rfl ?_)); refine WL.guard rfl rfl rfl (fun h => ?_) (fun h => ?_) <;> (try simp only [Classical.not_not, Bool.not_eq_true', Bool.not_eq_false', Bool.not_eq_eq_eq_not, Bool.not_true, Bool.not_false, beq_iff_eq, beq_eq_false_iff_ne, ne_eq, decide_eq_decide, decide_eq_true_eq, decide_eq_false_iff_not, Bool.and_eq_true, Bool.or_eq_true, Bool.and_eq_false_iff, Bool.or_eq_false_iff] at h) <;> (try (exfalso; first | omega | contradiction))))
          | (show WC _ _ _ _ _ _; first
            | refine WC.seq ?_
            | refine WC.region ?_
            | refine WC.block ?_
            | refine WC.skip ?_
            | refine WC.ret ?_
            | refine WC.condT rfl (by with_reducible rfl) ?_
            | refine WC.condT rfl (by decide) ?_
            | (refine WC.cond rfl (fun h => ?_) (fun h => ?_) <;> (try simp only [Classical.not_not, Bool.not_eq_true', Bool.not_eq_false', Bool.not_eq_eq_eq_not, Bool.not_true, Bool.not_false, beq_iff_eq, beq_eq_false_iff_ne, ne_eq, decide_eq_decide, decide_eq_true_eq, decide_eq_false_iff_not, Bool.and_eq_true, Bool.or_eq_true, Bool.and_eq_false_iff, Bool.or_eq_false_iff] at h) <;> (try (exfalso; first | omega | contradiction))))
          | refine seqQ_n ?_
          | refine blkQ_n ?_
          | refine seqQ_r ?_
          | refine blkQ_r ?_
          | refine rndQ_r ?_)
        all_goals first
          | (refine rndQ_n k' ⟨⟨by omega, ?_⟩, hS⟩ (by show 3 - k' < 3 - _; omega) ⟨vint (by omega), trivial⟩ ⟨rfl, rfl, trivial⟩
             subst hk'
             simp_all [upOk, okC]
             done)
          | (refine fin1r rfl rfl ⟨hS.upd, vbool ?_⟩
             exact (HN (by simp_all [okC])).symm)
    · obtain rfl : k = 3 := by omega
      have hy := hyes huk
      clear hyes hno hlt3 hk
      repeat' (first
        | (show WL _ _ _ _ _ _ _; first
          | refine WL.pure rfl rfl rfl rfl ?_
          | refine WL.nil ?_
          | refine WL.add rfl rfl rfl (by omega) rfl rfl rfl ?_)
        | (show WC _ _ _ _ _ _; first
          | refine WC.seq ?_
          | refine WC.region ?_
          | refine WC.exit ?_
          | refine WC.condF rfl (by decide) ?_)
        | refine seqQ_n ?_
        | refine blkQ_n ?_
        | refine seqQ_x ?_
        | refine blkQ_hit rfl ?_
        | refine rndQ_x ?_)
      exact rndQ_n (j + 1) ⟨⟨by omega, hy⟩, hS⟩ (by show cs.length - (j + 1) < cs.length - j; omega) ⟨vint (by omega), trivial⟩ ⟨rfl, trivial⟩
  · have hje : j = cs.length := by omega
    subst hje
    rw [List.take_length] at hok
    rw [hok]
    clear hz
    repeat' (first
      | (show WL _ _ _ _ _ _ _; first
        | refine WL.pure rfl rfl rfl rfl ?_
        | refine WL.nil ?_
        | refine WL.load hS rfl rfl (LdOk.box (by repeat (first | exact List.Mem.head _ | apply List.Mem.tail)) rfl) rfl rfl rfl ?_)
      | (show WC _ _ _ _ _ _; first
        | refine WC.seq ?_
        | refine WC.region ?_
        | refine WC.exit ?_
        | refine WC.ret ?_
        | refine WC.condF rfl (decide_eq_false (by first | with_reducible assumption | omega)) ?_)
      | refine seqQ_n ?_
      | refine seqQ_x ?_
      | refine blkQ_hit rfl ?_
      | refine rndQ_x ?_)
    exact fin1r rfl rfl ⟨hS.upd, rfl⟩
theorem HisIs.nil : HisIs [] [] [] [] 0 := ⟨ChIs.nil, fun k h => (by cases h), fun k h _ => (by cases h), fun k h => (by cases h), .nil, fun k h => (by cases h), .nil, fun k h => (by cases h)⟩
set_option maxHeartbeats 4000000 in
set_option maxRecDepth 100000 in
theorem hmade_c (w0 : World) : Cal Tryz.prog 31 [] w0 (fun v w' => ∃ B Tp q fb fp, v = .pointer (some ⟨B, 0, none⟩) ∧ MutL w0 w' [] [bchC B (some ⟨Tp, 0, none⟩) [] fb, tabC Tp q ⟨sysP, [], ⟨sysL, [], false⟩⟩ fp]) := by
  refine Cal.mkL (D := []) ⟨by simp, by simp, .nil⟩ (by kernel_rfl) Tryz.func31 rfl rfl fun hS => ?_
  repeat' (first
    | (show WL _ _ _ _ _ _ _; first
      | refine WL.pure rfl rfl rfl rfl ?_
      | refine WL.nil ?_
      | (refine WL.callG rfl rfl (dnew_c _) rfl rfl rfl ?_; rintro v w ⟨hu, q, mb, lb, rfl, hn⟩; replace hS := hS.new hu hn; clear hu hn)
      | (refine WL.callL (D := [dkC q mb lb Dk0]) hS (by repeat (first | exact Pulls.nil | (apply Pulls.cons; focus (repeat (first | exact Pull.here | apply Pull.there))))) rfl rfl (fun hI => topenFirst_c hI) rfl rfl rfl ?_; rintro v w ⟨Tp, fp, rfl, hmu⟩ hS; replace hS := hS _ hmu; clear hmu)
      | (refine WL.callG rfl rfl (begin_c _) rfl rfl rfl ?_; rintro v w ⟨hu, B, fb, rfl, hn⟩; replace hS := hS.new hu hn; clear hu hn))
    | (show WC _ _ _ _ _ _; first
      | refine WC.seq ?_
      | refine WC.region ?_
      | refine WC.skip ?_
      | refine WC.ret ?_
      | refine WC.condF rfl (by decide) ?_)
    | refine seqQ_n ?_)
  exact fin1r rfl rfl ⟨_, _, _, _, _, rfl, hS.mutLp (by repeat (first | exact Pulls.nil | (apply Pulls.cons; focus (repeat (first | exact Pull.here | apply Pull.there)))))⟩
def newN : Nd := ⟨2, [110, 101, 119]⟩
def oldN : Nd := ⟨2, [111, 108, 100]⟩
def oneH : Hc := ⟨[97], 2, newN, oldN, ⟨0, []⟩, newN, newN, newN⟩
def oneR : Hr := ⟨3, 5, 2, [oneH]⟩
set_option maxHeartbeats 4000000 in
set_option maxRecDepth 100000 in
theorem hone_c (w0 : World) : Cal Tryz.prog 45 [] w0 (fun v w' => Upd [] w0 w' ∧ ∃ ob, v = .agg ⟨[.int .i64 3, .int .i64 5, .int .i64 2, .slice (some ⟨ob, 0, none⟩) 1 1]⟩ ∧ New w0 w' (.own (.slice (some ⟨ob, 0, none⟩) 1 1) 79 14 1 (hcs [oneH]))) := by
  refine Cal.mk' (by kernel_rfl) Tryz.func45 rfl rfl fun hS => ?_
  repeat' (first
    | (show WL _ _ _ _ _ _ _; first
      | refine WL.nil ?_
      | refine WL.load hS rfl rfl (LdOk.box (by repeat (first | exact List.Mem.head _ | apply List.Mem.tail)) rfl) rfl rfl rfl ?_
      | (refine WL.slit (t := 22) hS rfl rfl rfl rfl rfl ?_; intro w ob hS; have hS := hS.boxRow (n := 1) (size := 14) .here rfl (by decide))
      | (refine WL.store hS rfl rfl rfl (by repeat (first | exact StB.here rfl | apply StB.there)) rfl rfl rfl ?_; intro w hS)
      | (refine WL.alloc hS rfl rfl rfl rfl rfl rfl ?_; intro w b hS)
      | refine WL.build rfl rfl rfl rfl rfl ?_)
    | (show WC _ _ _ _ _ _; first
      | refine WC.seq ?_
      | refine WC.region ?_
      | refine WC.ret ?_)
    | refine seqQ_n ?_)
  exact finC1r hS rfl rfl (LdOk.box (by repeat (first | exact List.Mem.head _ | apply List.Mem.tail)) rfl) ⟨hS.upd, ob, rfl, (hS.droplast2 (D := [.own (.slice (some ⟨ob, 0, none⟩) 1 1) 79 14 1 (hcs [oneH])]) (by repeat (first | exact Pulls.nil | (apply Pulls.cons; focus (repeat (first | exact Pull.here | apply Pull.there)))))).newOf (List.Mem.head _)⟩
theorem oneR_ok : HrOk oneR := by
  refine ⟨by decide, by decide, by decide, by decide, fun c hc => ?_⟩
  have hc : c ∈ [oneH] := hc
  rw [List.mem_singleton] at hc
  subst hc
  refine ⟨by decide, by decide, fun n hn => ?_⟩
  have hn : n ∈ [newN, newN, oldN, newN, ⟨0, []⟩, newN] := hn
  have h1 : NdOk newN := ⟨by decide, by decide, by decide⟩
  have h2 : NdOk oldN := ⟨by decide, by decide, by decide⟩
  have h3 : NdOk ⟨0, []⟩ := ⟨by decide, by decide, by decide⟩
  simp only [List.mem_cons, List.not_mem_nil, or_false] at hn
  rcases hn with rfl | rfl | rfl | rfl | rfl | rfl
  · exact h1
  · exact h1
  · exact h2
  · exact h1
  · exact h3
  · exact h1
theorem bef_one : befE [oneH] 2 [97] = (oldN, 0) := by
  exact bef_1n (c := oneH) (l := []) (root := 2) (p := [97]) rfl (by decide) rfl (by decide)
theorem AddIs.bnd {rows : Rws} {m m1 : Bch} {vs vs1 : List Ver} {N N1 : Nat} {F : List (Nat × List UInt8)} {k : Kr} (h : AddIs rows m vs N (heldR k.cs) F m1 vs1 N1) (hk : KrIs k) : N1 ≤ N + 6 * k.r.chgs.length ∧ m1.length ≤ m.length + 12 * k.r.chgs.length := by
  have h1 := heldR_len hk.six
  have h2 := hk.len
  have h3 := h.num
  have h4 := h.few
  have h5 := h.len
  omega
set_option maxHeartbeats 16000000 in
set_option maxRecDepth 100000 in
theorem hawake_c (w0 : World) (ht : powT w0) : Cal Tryz.prog 12 [] w0 (fun v w' => Upd [] w0 w' ∧ v = .bool true) := by
  refine Cal.mk' (by kernel_rfl) Tryz.func12 rfl rfl fun hS => ?_
  have hp := PowI.of ht
  have hnl : (([] : Bch).length) ≤ 2097152 := by decide
  repeat' (first
    | (show WL _ _ _ _ _ _ _; first
      | refine WL.pure rfl rfl rfl rfl ?_
      | refine WL.nil ?_
      | refine WL.load hS rfl rfl (LdOk.box (by repeat (first | exact List.Mem.head _ | apply List.Mem.tail)) rfl) rfl rfl rfl ?_
      | (refine WL.callL (D := []) hS .nil rfl rfl (fun hI => hmade_c _) rfl rfl rfl ?_; rintro v w ⟨B, Tp, q, fb, fp, rfl, hmu⟩ hS; replace hS := hS _ hmu; clear hmu)
      | (refine WL.callG rfl rfl (hone_c _) rfl rfl rfl ?_; rintro v w ⟨hu, ob, rfl, hn⟩; replace hS := hS.new hu hn; clear hu hn)
      | (refine WL.callL (D := [bchC B (some ⟨Tp, 0, none⟩) [] fb, tabC Tp q ⟨sysP, [], ⟨sysL, [], false⟩⟩ fp]) hS (by repeat (first | exact Pulls.nil | (apply Pulls.cons; focus (repeat (first | exact Pull.here | apply Pull.there))))) rfl rfl (fun hI => hadd_c (L := []) (vs := []) (N := 0) oneR (A := some ⟨ob, 0, none⟩) (cap := 1) (St.ownSlY (enc := encHc) (hsz := fun _ => rfl) (l := [oneH]) (by decide) (hS.pulls (D := [bchC B (some ⟨Tp, 0, none⟩) [] fb, tabC Tp q ⟨sysP, [], ⟨sysL, [], false⟩⟩ fp]) (by repeat (first | exact Pulls.nil | (apply Pulls.cons; focus (repeat (first | exact Pull.here | apply Pull.there)))))) (by repeat (first | exact List.Mem.head _ | apply List.Mem.tail))) oneR_ok rfl hI (hp.pull hS (by repeat (first | exact Pulls.nil | (apply Pulls.cons; focus (repeat (first | exact Pull.here | apply Pull.there)))))) HisIs.nil (by decide) hnl) rfl rfl rfl ?_; rintro v w ⟨rfl, ⟨r, cs⟩, m1, vs1, N1, F, fb1, rfl, hki, ha, hh, hmu⟩ hS; replace hS := hS _ hmu; clear hmu; have hN1 : N1 ≤ 6 := (ha.bnd hki).1)
      | (refine WL.callL (D := [bchC B (some ⟨Tp, 0, none⟩) (noteE m1 ⟨hK 3, recE ⟨oneR, cs⟩, false⟩) fb1, tabC Tp q ⟨sysP, [], ⟨sysL, [], false⟩⟩ fp]) hS (by repeat (first | exact Pulls.nil | (apply Pulls.cons; focus (repeat (first | exact Pull.here | apply Pull.there))))) rfl rfl (fun hI => hget_c (L := [⟨oneR, cs⟩]) (vs := vs1) (N := N1) ⟨oneR, cs⟩ (List.mem_cons_self ..) hI (hp.pull hS (by repeat (first | exact Pulls.nil | (apply Pulls.cons; focus (repeat (first | exact Pull.here | apply Pull.there)))))) hh (by omega)) rfl rfl rfl ?_; rintro v w ⟨A, cap, rfl, hmu⟩ hS; replace hS := hS _ hmu; clear hmu)
      | (refine WL.calls hS rfl rfl (hbefore_c [oneH] 3 5 2 2 [97] _ (St.ownSl (enc := encHc) (hsz := fun _ => rfl) (l := [oneH]) (by decide) hS (by repeat (first | exact List.Mem.head _ | apply List.Mem.tail))) (by decide)) rfl rfl rfl ?_; rintro v w rfl hS; rw [bef_one])
      | (refine WL.store hS rfl rfl rfl (by repeat (first | exact StB.here rfl | apply StB.there)) rfl rfl rfl ?_; intro w hS)
      | (refine WL.alloc hS rfl rfl rfl rfl rfl rfl ?_; intro w b hS))
    | (show WC _ _ _ _ _ _; first
      | refine WC.seq ?_
      | refine WC.region ?_
      | refine WC.skip ?_
      | refine WC.ret ?_
      | (show WC _ _ (Code.region _ (List.toArray [_, _, _, _, _, _, _, _, _, _, _, _, _, _, _, _, _]) true) _ _ _; refine WC.drawS hS [0,1,2,3,6,7,8,9,10,11,12,13,14,15,16] [0,1,2,3,4,5,6,7,8,9,10,11,12,13,14,15,16] (by kernel_rfl) (by kernel_rfl) ?_; clear hS; intro w hS hM)
      | refine WC.condF rfl (by decide) ?_)
    | (show WD _ _ _ _ _ _ _ _ _; first
      | refine WD.pure rfl rfl rfl rfl rfl ?_
      | refine WD.nil ?_
      | refine WD.load rfl rfl (LdOk.box (by repeat (first | exact List.Mem.head _ | apply List.Mem.tail)) rfl) rfl rfl rfl rfl ?_
      | (refine WD.callG rfl rfl (hone_c _) rfl rfl rfl rfl rfl ?_; rintro v w ⟨hu, ob2, rfl, hn⟩; refine ⟨hM.ss (hS.upd0 hu), ?_⟩; have hS := hS.new hu hn; have hM := hM.chunk (.own (.slice (some ⟨ob2, 0, none⟩) 1 1) 79 14 1 (hcs [oneH])); clear hu hn)
      | (refine WD.calls hS hM rfl rfl (rsame1_c [oneH] 3 5 2 _ (St.ownSl (enc := encHc) (hsz := fun _ => rfl) (l := [oneH]) (by decide) hS (by repeat (first | exact List.Mem.head _ | apply List.Mem.tail))) (St.ownSl (enc := encHc) (hsz := fun _ => rfl) (l := [oneH]) (by decide) hS (by repeat (first | exact List.Mem.head _ | apply List.Mem.tail))) (by decide)) rfl rfl rfl rfl rfl ?_; clear hS; rintro v w rfl hS))
    | refine seqQ_n ?_)
  exact fin1r rfl rfl ⟨hS.upd, rfl⟩
end Go.Proofs.YtobfdeiimnnanaaGreatDoor

/- What is proved: records as arguments, and what the bulk bounds of them. Conditions: none. -/
set_option linter.unusedSimpArgs false
set_option linter.unusedVariables false
namespace Go.Proofs.YtobfdeiimnnanaaGreatDoor
open Go Go.J Go.RowKit Go.ChangeShapes Go.WideShapes Go.Deep

instance : Inhabited Hc := ⟨⟨[], 0, ⟨0, []⟩, ⟨0, []⟩, ⟨0, []⟩, ⟨0, []⟩, ⟨0, []⟩, ⟨0, []⟩⟩⟩
instance : Inhabited Hr := ⟨⟨0, 0, 0, []⟩⟩
def cNd : Cod Nd := .flat encNd 2 fun _ => rfl
def dNs (l : List Nd) : Nat := (l.map fun n => n.data.length).sum
def wC (c : Hc) : Nat := 23 + c.path.length + dNs c.nodes
def wL (l : List Hc) : Nat := (l.map wC).sum
def inI (n : Int) : Prop := -9223372036854775808 ≤ n ∧ n ≤ 9223372036854775807
def QHc (c : Hc) (b : Nat) : Prop := inI c.spoke ∧ wC c ≤ b
def QHr (r : Hr) (b : Nat) : Prop := (inI r.id ∧ inI r.tick ∧ inI r.spoke) ∧ (∀ c ∈ r.chgs, inI c.spoke) ∧ wL r.chgs + 5 ≤ b
theorem list2H {α : Type} {l : List α} (h : l.length = 2) : ∃ a b, l = [a, b] := by match l, h with | [a, b], _ => exact ⟨a, b, rfl⟩
theorem list3H {α : Type} {l : List α} (h : l.length = 3) : ∃ a b c, l = [a, b, c] := by match l, h with | [a, b, c], _ => exact ⟨a, b, c, rfl⟩
theorem list4H {α : Type} {l : List α} (h : l.length = 4) : ∃ a b c d, l = [a, b, c, d] := by match l, h with | [a, b, c, d], _ => exact ⟨a, b, c, d, rfl⟩
theorem list6H {α : Type} {l : List α} (h : l.length = 6) : ∃ a b c d e f, l = [a, b, c, d, e, f] := by match l, h with | [a, b, c, d, e, f], _ => exact ⟨a, b, c, d, e, f, rfl⟩
theorem list14H {α : Type} {l : List α} (h : l.length = 14) : ∃ a b c d e f g i j k m n o p, l = [a, b, c, d, e, f, g, i, j, k, m, n, o, p] := by
  match l, h with | [a, b, c, d, e, f, g, i, j, k, m, n, o, p], _ => exact ⟨a, b, c, d, e, f, g, i, j, k, m, n, o, p, rfl⟩
set_option maxRecDepth 100000 in
theorem open_nd : Opens Tryz.prog 26 cNd (fun nd b => nd.data.length + 3 ≤ b) := by
  intro H enc W fuel cs x h
  obtain ⟨xs, n, _, rfl, hlen, hxl, hf⟩ := DataW.trod_struct Tryz.underlying26 h
  obtain ⟨x0, x1, rfl⟩ := list2H hxl
  obtain ⟨c0, c1, rfl⟩ := list2H (hlen.trans (by kernel_rfl))
  have h0 := hf 0 _ rfl
  have h1 := hf 1 _ rfl
  change DataW.trod enc Tryz.prog W 0 _ true n 3 [c0] = some x0 at h0
  change DataW.trod enc Tryz.prog W 0 _ true n 9 [c1] = some x1 at h1
  obtain ⟨k, e0, rfl, _⟩ := DataW.trod_int Tryz.underlying3 h0
  obtain ⟨s, e1, rfl, _⟩ := DataW.trod_string Tryz.underlying9 h1
  simp only [List.cons.injEq, and_true] at e0 e1
  subst e0 e1
  refine ⟨⟨k, s.data.toList⟩, rfl, ?_⟩
  simp [Rows.uptoBulk, Rows.uptoBulkAll]; omega
set_option maxRecDepth 100000 in
/-- three nodes in a row -/
theorem open_nd3 {H : Type} (enc : TypeId × Value → H) (W : World) (fuel : Nat) (cs : List Value) (x : DataW H × List MemPlace) (h : DataW.trod enc Tryz.prog W 0 (fun _ => true) true fuel 77 cs = some x) :
    ∃ n0 n1 n2 : Nd, cs = [.int .i64 n0.kind, str n0.data, .int .i64 n1.kind, str n1.data, .int .i64 n2.kind, str n2.data] ∧ n0.data.length + n1.data.length + n2.data.length + 10 ≤ Rows.uptoBulk x.1 := by
  obtain ⟨xs, m, _, rfl, hlen, hxl, hf⟩ := DataW.trod_array Tryz.underlying77 h
  obtain ⟨x0, x1, x2, rfl⟩ := list3H hxl
  obtain ⟨c0, c1, c2, c3, c4, c5, rfl⟩ := list6H (hlen.trans (by kernel_rfl))
  have h0 := hf 0 (by decide)
  have h1 := hf 1 (by decide)
  have h2 := hf 2 (by decide)
  change DataW.trod enc Tryz.prog W 0 _ true m 26 [c0, c1] = some x0 at h0
  change DataW.trod enc Tryz.prog W 0 _ true m 26 [c2, c3] = some x1 at h1
  change DataW.trod enc Tryz.prog W 0 _ true m 26 [c4, c5] = some x2 at h2
  obtain ⟨n0, e0, q0⟩ := open_nd enc W m _ _ h0
  obtain ⟨n1, e1, q1⟩ := open_nd enc W m _ _ h1
  obtain ⟨n2, e2, q2⟩ := open_nd enc W m _ _ h2
  change [c0, c1] = [.int .i64 n0.kind, str n0.data] at e0
  change [c2, c3] = [.int .i64 n1.kind, str n1.data] at e1
  change [c4, c5] = [.int .i64 n2.kind, str n2.data] at e2
  simp only [List.cons.injEq, and_true] at e0 e1 e2
  obtain ⟨rfl, rfl⟩ := e0
  obtain ⟨rfl, rfl⟩ := e1
  obtain ⟨rfl, rfl⟩ := e2
  refine ⟨n0, n1, n2, rfl, ?_⟩
  simp [Rows.uptoBulk, Rows.uptoBulkAll]; omega
set_option maxRecDepth 100000 in
theorem open_hc : Opens Tryz.prog 79 cHc QHc := by
  intro H enc W fuel cs x h
  obtain ⟨xs, n, _, rfl, hlen, hxl, hf⟩ := DataW.trod_struct Tryz.underlying79 h
  obtain ⟨x0, x1, x2, x3, rfl⟩ := list4H hxl
  obtain ⟨c0, c1, c2, c3, c4, c5, c6, c7, c8, c9, c10, c11, c12, c13, rfl⟩ := list14H (hlen.trans (by kernel_rfl))
  have h0 := hf 0 _ rfl
  have h1 := hf 1 _ rfl
  have h2 := hf 2 _ rfl
  have h3 := hf 3 _ rfl
  change DataW.trod enc Tryz.prog W 0 _ true n 9 [c0] = some x0 at h0
  change DataW.trod enc Tryz.prog W 0 _ true n 3 [c1] = some x1 at h1
  change DataW.trod enc Tryz.prog W 0 _ true n 77 [c2, c3, c4, c5, c6, c7] = some x2 at h2
  change DataW.trod enc Tryz.prog W 0 _ true n 77 [c8, c9, c10, c11, c12, c13] = some x3 at h3
  obtain ⟨s, e0, rfl, _⟩ := DataW.trod_string Tryz.underlying9 h0
  obtain ⟨k, e1, rfl, hk⟩ := DataW.trod_int Tryz.underlying3 h1
  obtain ⟨o0, o1, o2, e2, q2⟩ := open_nd3 enc W n _ _ h2
  obtain ⟨n0, n1, n2, e3, q3⟩ := open_nd3 enc W n _ _ h3
  simp only [List.cons.injEq, and_true] at e0 e1 e2 e3
  obtain rfl := e0
  obtain rfl := e1
  obtain ⟨rfl, rfl, rfl, rfl, rfl, rfl⟩ := e2
  obtain ⟨rfl, rfl, rfl, rfl, rfl, rfl⟩ := e3
  refine ⟨⟨s.data.toList, k, o0, o1, o2, n0, n1, n2⟩, rfl, bounds_i64 hk, ?_⟩
  simp only [wC, dNs, Hc.nodes, Rows.uptoBulk, Rows.uptoBulkAll, List.map_cons, List.map_nil, List.sum_cons, List.sum_nil]
  omega
theorem ql_hcs : ∀ {cs : List Hc} {b : Nat}, QL QHc cs b → (∀ c ∈ cs, inI c.spoke) ∧ wL cs + 1 ≤ b
  | cs, b, ⟨bs, hl, hq, hs⟩ => by
    refine ⟨fun c hc => ?_, ?_⟩
    · obtain ⟨i, hi, rfl⟩ := List.getElem_of_mem hc
      exact (hq i hi (by omega)).1
    · have : wL cs ≤ bs.sum := by
        clear hs
        induction cs generalizing bs with
        | nil => exact Nat.zero_le _
        | cons c cs ih =>
          match bs, hl with
          | b0 :: bs, hl =>
            have h0 := (hq 0 (by simp) (by simp)).2
            simp only [List.getElem_cons_zero] at h0
            have := ih bs (by simpa using hl) fun i h h' => by have := hq (i + 1) (by simpa using h) (by simpa using h'); simpa using this
            unfold wL at *
            simp only [List.map_cons, List.sum_cons]
            omega
      omega
set_option maxRecDepth 100000 in
theorem open_hr : Opens Tryz.prog 24 cHr QHr := by
  intro H enc W fuel cs x h
  obtain ⟨xs, n, _, rfl, hlen, hxl, hf⟩ := DataW.trod_struct Tryz.underlying24 h
  obtain ⟨x0, x1, x2, x3, rfl⟩ := list4H hxl
  obtain ⟨c0, c1, c2, c3, rfl⟩ := list4H (hlen.trans (by kernel_rfl))
  have h0 := hf 0 _ rfl
  have h1 := hf 1 _ rfl
  have h2 := hf 2 _ rfl
  have h3 := hf 3 _ rfl
  change DataW.trod enc Tryz.prog W 0 _ true n 3 [c0] = some x0 at h0
  change DataW.trod enc Tryz.prog W 0 _ true n 3 [c1] = some x1 at h1
  change DataW.trod enc Tryz.prog W 0 _ true n 3 [c2] = some x2 at h2
  change DataW.trod enc Tryz.prog W 0 _ true n 22 [c3] = some x3 at h3
  obtain ⟨k0, e0, rfl, b0⟩ := DataW.trod_int Tryz.underlying3 h0
  obtain ⟨k1, e1, rfl, b1⟩ := DataW.trod_int Tryz.underlying3 h1
  obtain ⟨k2, e2, rfl, b2⟩ := DataW.trod_int Tryz.underlying3 h2
  obtain ⟨ys, ⟨A, cap, e3, hcap, hsl⟩, q3⟩ := Opens.slice Tryz.underlying22 (by kernel_rfl) (by decide) open_hc enc W n _ _ h3
  simp only [List.cons.injEq, and_true] at e0 e1 e2 e3
  subst e0 e1 e2 e3
  obtain ⟨z1, z2⟩ := ql_hcs q3
  refine ⟨⟨k0, k1, k2, ys⟩, ⟨A, cap, rfl, hcap, hsl⟩, ⟨bounds_i64 b0, bounds_i64 b1, bounds_i64 b2⟩, z1, ?_⟩
  simp only [Rows.uptoBulk, Rows.uptoBulkAll, List.map_cons, List.map_nil]
  omega
theorem arg_recs : Arg Tryz.prog 69 (ASl cHr) (QL QHr) := Arg.slice Tryz.underlying69 (Opens.slice Tryz.underlying69 (by kernel_rfl) (by decide) open_hr)
theorem arg_ints : Arg Tryz.prog 70 (ASl cInt) (QL QInt) := Arg.slice Tryz.underlying70 (Opens.slice Tryz.underlying70 (by kernel_rfl) (by decide) (Opens.int Tryz.underlying3))
theorem wC_ge (c : Hc) : 23 ≤ wC c := by unfold wC; omega
theorem wL_len : ∀ l : List Hc, 23 * l.length ≤ wL l
  | [] => Nat.le_refl _
  | c :: l => by
    have h1 := wL_len l
    have h2 := wC_ge c
    unfold wL at *
    rw [List.map_cons, List.sum_cons, List.length_cons]
    omega
theorem wL_mem {l : List Hc} {c : Hc} (h : c ∈ l) : wC c ≤ wL l := by
  induction l with
  | nil => cases h
  | cons a l ih =>
    unfold wL at *
    rw [List.map_cons, List.sum_cons]
    rcases List.mem_cons.1 h with rfl | h
    · omega
    · have := ih h; omega
theorem dNs_mem {l : List Nd} {n : Nd} (h : n ∈ l) : n.data.length ≤ dNs l := by
  induction l with
  | nil => cases h
  | cons a l ih =>
    unfold dNs at *
    rw [List.map_cons, List.sum_cons]
    rcases List.mem_cons.1 h with rfl | h
    · omega
    · have := ih h; omega
/-- a record of bounded bulk, of which all nodes may be -/
theorem hr_ok {r : Hr} {b : Nat} (hq : QHr r b) (hb : b ≤ 1048576) (hi : 1 ≤ r.id ∧ r.id ≤ 1099511627776) (ht : 0 ≤ r.tick ∧ r.tick ≤ 1099511627776) (hok : ∀ c ∈ r.chgs, ∀ n ∈ c.nodes, NdOk n) : HrOk r := by
  obtain ⟨⟨_, _, h3⟩, hs, hw⟩ := hq
  have hl := wL_len r.chgs
  refine ⟨hi, ht, h3, by omega, fun c hc => ⟨?_, hs c hc, hok c hc⟩⟩
  have := wL_mem hc
  unfold wC at this
  omega
theorem hr_small {r : Hr} {b : Nat} (hq : QHr r b) (hb : b ≤ 1048576) : r.chgs.length ≤ 45590 ∧ ∀ c ∈ r.chgs, ∀ n ∈ c.nodes, n.data.length ≤ 1048576 := by
  obtain ⟨_, _, hw⟩ := hq
  have hl := wL_len r.chgs
  refine ⟨by omega, fun c hc n hn => ?_⟩
  have h1 := wL_mem hc
  have h2 := dNs_mem hn
  unfold wC at h1
  omega
def cntR (l : List Hr) : Nat := (l.map fun r => r.chgs.length).sum
theorem le_sumN : ∀ {l : List Nat} {x : Nat}, x ∈ l → x ≤ l.sum
  | [], _, h => by cases h
  | a :: l, x, h => by
    rw [List.sum_cons]
    rcases List.mem_cons.1 h with rfl | h
    · omega
    · have := le_sumN h; omega
theorem ql_hrs : ∀ {rs : List Hr} {b : Nat}, QL QHr rs b → (∀ r ∈ rs, QHr r b) ∧ cntR rs * 23 ≤ b ∧ rs.length ≤ b
  | rs, b, ⟨bs, hl, hq, hs⟩ => by
    have hle : ∀ i (h : i < bs.length), bs[i] ≤ bs.sum := fun i h => le_sumN (List.getElem_mem h)
    refine ⟨fun r hr => ?_, ?_, ?_⟩
    · obtain ⟨i, hi, rfl⟩ := List.getElem_of_mem hr
      obtain ⟨h1, h2, h3⟩ := hq i hi (by omega)
      have := hle i (by omega)
      exact ⟨h1, h2, by omega⟩
    · have : cntR rs * 23 ≤ bs.sum := by
        clear hs hle
        induction rs generalizing bs with
        | nil => exact Nat.zero_le _
        | cons c cs ih =>
          match bs, hl with
          | b0 :: bs, hl =>
            have h0 := (hq 0 (by simp) (by simp)).2.2
            simp only [List.getElem_cons_zero] at h0
            have := ih bs (by simpa using hl) fun i h h' => by have := hq (i + 1) (by simpa using h) (by simpa using h'); simpa using this
            have h5 := wL_len c.chgs
            unfold cntR at *
            simp only [List.map_cons, List.sum_cons]
            omega
      omega
    · have : rs.length ≤ bs.sum := by
        clear hs hle
        induction rs generalizing bs with
        | nil => exact Nat.zero_le _
        | cons c cs ih =>
          match bs, hl with
          | b0 :: bs, hl =>
            have h0 := (hq 0 (by simp) (by simp)).2.2
            simp only [List.getElem_cons_zero] at h0
            have := ih bs (by simpa using hl) fun i h h' => by have := hq (i + 1) (by simpa using h) (by simpa using h'); simpa using this
            simp only [List.length_cons, List.sum_cons]
            omega
      omega
theorem cntR_take (l : List Hr) {j : Nat} (h : j < l.length) : cntR (l.take (j + 1)) = cntR (l.take j) + (l[j]).chgs.length := by
  unfold cntR
  rw [List.take_succ_eq_append_getElem h, List.map_append, List.sum_append]
  simp
theorem cntR_le (l : List Hr) (j : Nat) : cntR (l.take j) ≤ cntR l := by
  have h : cntR l = cntR (l.take j) + cntR (l.drop j) := by
    unfold cntR
    rw [← List.sum_append, ← List.map_append, List.take_append_drop]
  omega
structure Stp21 where
  kind : Int
  id : Int
  r : Hr
  clock : Int
  quota : Int
  age : Int
def cStp21 : Cod Stp21 where
  sz := 9
  rd F w cs s := ∃ A cap, cs = [.int .i64 s.kind, .int .i64 s.id, .int .i64 s.r.id, .int .i64 s.r.tick, .int .i64 s.r.spoke, .slice A s.r.chgs.length cap, .int .i64 s.clock, .int .i64 s.quota, .int .i64 s.age] ∧ s.r.chgs.length ≤ cap ∧ SlAt cHc F w A s.r.chgs
  len := fun ⟨_, _, e, _⟩ => by rw [e]; rfl
  loc := fun ⟨A, cap, e, hc, h⟩ hs => ⟨A, cap, e, hc, h.loc hs⟩
  mono := fun ⟨A, cap, e, hc, h⟩ hs => ⟨A, cap, e, hc, h.mono hs⟩
instance : Inhabited Stp21 := ⟨⟨0, 0, default, 0, 0, 0⟩⟩
def QStp21 (s : Stp21) (b : Nat) : Prop := (inI s.id ∧ inI s.clock ∧ inI s.quota ∧ inI s.age) ∧ QHr s.r b
set_option maxRecDepth 100000 in
theorem pow_historyBefore (W : World) (h : laidMet Tryz.prog Rows.historyBeforeUptoRow.laid W) : Lib.TabIs Tryz.prog W "internal/strconv.uint64pow10" .u64 Lib.pow10Tab := by
  obtain ⟨a, b, r, he⟩ : ∃ a b r, Rows.historyBeforeUptoRow.laid = a :: b :: ("internal/strconv.uint64pow10", Lib.tabData .u64 Lib.pow10Tab) :: r := ⟨_, _, _, rfl⟩
  rw [he] at h
  have h1 := laidMet.tail (laidMet.tail h)
  exact Lib.tabIs_of_head (g := 3) (t := 299) (e := 178) (n := 20) (by kernel_rfl) (by kernel_rfl) (by kernel_rfl) (by kernel_rfl) (by kernel_rfl) (by kernel_rfl) h1
set_option maxRecDepth 100000 in
theorem pow_historyHolds (W : World) (h : laidMet Tryz.prog Rows.historyHoldsUptoRow.laid W) : Lib.TabIs Tryz.prog W "internal/strconv.uint64pow10" .u64 Lib.pow10Tab := by
  obtain ⟨a, b, r, he⟩ : ∃ a b r, Rows.historyHoldsUptoRow.laid = a :: b :: ("internal/strconv.uint64pow10", Lib.tabData .u64 Lib.pow10Tab) :: r := ⟨_, _, _, rfl⟩
  rw [he] at h
  have h1 := laidMet.tail (laidMet.tail h)
  exact Lib.tabIs_of_head (g := 3) (t := 299) (e := 178) (n := 20) (by kernel_rfl) (by kernel_rfl) (by kernel_rfl) (by kernel_rfl) (by kernel_rfl) (by kernel_rfl) h1
set_option maxRecDepth 100000 in
theorem pow_historyRoom (W : World) (h : laidMet Tryz.prog Rows.historyRoomUptoRow.laid W) : Lib.TabIs Tryz.prog W "internal/strconv.uint64pow10" .u64 Lib.pow10Tab := by
  obtain ⟨a, b, r, he⟩ : ∃ a b r, Rows.historyRoomUptoRow.laid = a :: b :: ("internal/strconv.uint64pow10", Lib.tabData .u64 Lib.pow10Tab) :: r := ⟨_, _, _, rfl⟩
  rw [he] at h
  have h1 := laidMet.tail (laidMet.tail h)
  exact Lib.tabIs_of_head (g := 3) (t := 299) (e := 178) (n := 20) (by kernel_rfl) (by kernel_rfl) (by kernel_rfl) (by kernel_rfl) (by kernel_rfl) (by kernel_rfl) h1
end Go.Proofs.YtobfdeiimnnanaaGreatDoor

/- What is proved: the law HistoryBefore answers true. Conditions: the statement's own bound on the bulk; the library's table of powers laid. -/
set_option linter.unusedSimpArgs false
set_option linter.unusedVariables false
namespace Go.Proofs.YtobfdeiimnnanaaGreatDoor
open Go Go.J Go.RowKit
set_option maxHeartbeats 16000000 in
set_option maxRecDepth 100000 in
theorem historyBefore_c (cs : List Hc) (id tick spoke root : Int) (p : List UInt8) {A : Option Addr} {cap : Nat} (w0 : World) (hA : SlAt cHc (Old w0) w0 A cs) (hl : cs.length ≤ 1048576) (ht : powT w0) :
    Cal Tryz.prog 3 [.agg ⟨[.int .i64 id, .int .i64 tick, .int .i64 spoke, .slice A cs.length cap]⟩, .int .i64 root, str p] w0 (fun v w' => Upd [] w0 w' ∧ v = .bool true) := by
  refine Cal.mk' (by kernel_rfl) Tryz.func3 rfl rfl fun hS => ?_
  have hp := PowI.of ht
  have hb1 := fun w (h : SlAt cHc (Old w) w A cs) => hbefore_c (cap := cap) cs id tick spoke root p w h hl
  have hb2 := fun w (h : SlAt cHc (Old w) w A cs) => rbefore_c (cap := cap) cs id tick spoke root p w h hl
  generalize befE cs root p = r at *
  obtain ⟨⟨kd, dt⟩, e⟩ := r
  dsimp only at hb1 hb2
  repeat' (first
    | (show WL _ _ _ _ _ _ _; first
      | refine WL.pure rfl rfl rfl rfl ?_
      | refine WL.nil ?_
      | refine WL.load hS rfl rfl (LdOk.box (by repeat (first | exact List.Mem.head _ | apply List.Mem.tail)) rfl) rfl rfl rfl ?_
      | (refine WL.calls hS rfl rfl (hb1 _ (hS.slO (by repeat (first | exact List.Mem.head _ | apply List.Mem.tail)) hA)) rfl rfl rfl ?_; rintro v w rfl hS)
      | (refine WL.calls hS rfl rfl (hb2 _ (hS.slO (by repeat (first | exact List.Mem.head _ | apply List.Mem.tail)) hA)) rfl rfl rfl ?_; rintro v w rfl hS)
      | (refine WL.calls hS rfl rfl (hawake_c _ (hp.at hS)) rfl rfl rfl ?_; rintro v w rfl hS)
      | (refine WL.eqS rfl rfl rfl (show some (decide (kd = kd) && decide (dt = dt)) = some true by simp) (by kernel_rfl) rfl rfl rfl ?_)
      | (refine WL.store hS rfl rfl rfl (by repeat (first | exact StB.here rfl | apply StB.there)) rfl rfl rfl ?_; intro w hS)
      | (refine WL.box hS rfl rfl rfl rfl rfl ?_; intro w b hS)
      | (refine WL.alloc hS rfl rfl rfl rfl rfl rfl ?_; intro w b hS))
    | (show WC _ _ _ _ _ _; first
      | refine WC.seq ?_
      | refine WC.region ?_
      | refine WC.ret ?_)
    | refine seqQ_n ?_)
  exact fin1r rfl rfl ⟨hS.upd, vbool (by first | rfl | (simp; done))⟩
end Go.Proofs.YtobfdeiimnnanaaGreatDoor

/- What is proved: the law HistoryRoom answers true. Conditions: the statement's own bound on the bulk; the library's table of powers laid. -/
set_option linter.unusedSimpArgs false
set_option linter.unusedVariables false
namespace Go.Proofs.YtobfdeiimnnanaaGreatDoor
open Go Go.J Go.RowKit

/-- the records that the laws add: numbered, one tick behind the other -/
def numR (i : Nat) (r : Hr) : Hr := ⟨((i + 1 : Nat) : Int), (i : Int), r.spoke, r.chgs⟩
def numRs (l : List Hr) : List Hr := (List.range l.length).zipWith numR l
theorem numRs_len (l : List Hr) : (numRs l).length = l.length := by unfold numRs; rw [List.length_zipWith, List.length_range, Nat.min_self]
theorem numRs_at {l : List Hr} {i : Nat} (h : i < l.length) : (numRs l)[i]? = some (numR i l[i]) := by
  unfold numRs
  rw [List.getElem?_zipWith, List.getElem?_range h, List.getElem?_eq_getElem h]
theorem ins_last {k : Kr} : ∀ {L : List Kr}, (∀ a ∈ L, a.r.id < k.r.id) → insH k L = L ++ [k]
  | [], _ => rfl
  | a :: l, h => by
    unfold insH
    rw [if_pos (h a (List.mem_cons_self ..)), ins_last fun b hb => h b (List.mem_cons_of_mem _ hb)]
    rfl
/-- the first records were added -/
structure NumIs (l : List Hr) (j : Nat) (m : Bch) (L : List Kr) (vs : List Ver) (N : Nat) : Prop where
  his : HisIs [] m L vs N
  recs : L.map Kr.r = (numRs l).take j
  hN : N ≤ 6 * cntR (l.take j)
  hm : m.length ≤ 12 * cntR (l.take j) + j
theorem NumIs.ids {l : List Hr} {j : Nat} {m : Bch} {L : List Kr} {vs : List Ver} {N : Nat} (h : NumIs l j m L vs N) (hj : j ≤ l.length) : L.length = j ∧ ∀ k ∈ L, k.r.id < ((j + 1 : Nat) : Int) := by
  have h1 := congrArg List.length h.recs
  rw [List.length_map, List.length_take, numRs_len] at h1
  refine ⟨by omega, fun k hk => ?_⟩
  have h2 : k.r ∈ (numRs l).take j := by rw [← h.recs]; exact List.mem_map.2 ⟨k, hk, rfl⟩
  obtain ⟨i, hi, e⟩ := List.getElem_of_mem h2
  rw [List.length_take, numRs_len] at hi
  rw [List.getElem_take] at e
  have h3 := numRs_at (l := l) (i := i) (by omega)
  rw [List.getElem?_eq_getElem (by rw [numRs_len]; omega), e] at h3
  have h3 := Option.some.inj h3
  rw [h3]
  show ((i + 1 : Nat) : Int) < _
  omega
theorem NumIs.next {l : List Hr} {j : Nat} {m m1 : Bch} {L : List Kr} {vs vs1 : List Ver} {N N1 : Nat} (h : NumIs l j m L vs N) (hj : j < l.length) {k : Kr} {F : List (Nat × List UInt8)} (hk : k.r = numR j l[j]) (hki : KrIs k)
    (ha : AddIs [] m vs N (heldR k.cs) F m1 vs1 N1) (hh : HisIs [] (noteE m1 ⟨hK (numR j l[j]).id, recE k, false⟩) (insH k L) vs1 N1) : NumIs l (j + 1) (noteE m1 ⟨hK (numR j l[j]).id, recE k, false⟩) (L ++ [k]) vs1 N1 := by
  have h1 := ha.bnd hki
  have h2 := h.hN
  have h3 := h.hm
  have h4 := note_len m1 ⟨hK (numR j l[j]).id, recE k, false⟩
  have h0 := cntR_take l hj
  have h5 : k.r.chgs.length = (l[j]).chgs.length := by rw [hk]; rfl
  obtain ⟨h6, h7⟩ := h.ids (by omega)
  refine ⟨?_, ?_, by omega, by omega⟩
  · rw [ins_last fun a ha => by rw [hk]; exact h7 a ha] at hh
    exact hh
  · rw [List.map_append, h.recs]
    have h8 := numRs_at hj
    rw [List.take_add_one, h8, ← hk]
    rfl
theorem NumIs.zero (l : List Hr) : NumIs l 0 [] [] [] 0 := ⟨HisIs.nil, rfl, Nat.zero_le _, Nat.zero_le _⟩
theorem NumIs.none_ {l : List Hr} {j : Nat} {m : Bch} {L : List Kr} {vs : List Ver} {N : Nat} (h : NumIs l j m L vs N) (hj : j ≤ l.length) : findH L ((j + 1 : Nat) : Int) = none := by
  unfold findH
  rw [List.find?_eq_none]
  intro k hk
  have := (h.ids hj).2 k hk
  simp only [decide_eq_true_eq]
  omega
theorem recs_cut {F : Nat → Prop} {w : World} {A : Option Addr} {L : List Kr} (h : SlAt cHr F w A (L.map Kr.r)) (n : Nat) {cap : Nat} (hc : L.length ≤ cap) : SlAt cHr F w (cutP A cap n) ((L.drop n).map Kr.r) := by
  rw [List.map_drop]
  exact h.drop (by rw [List.length_map]; exact hc)
theorem drops_again (clock quota age : Int) : ∀ l : List Hr, dropsL clock quota age (l.drop (dropsL clock quota age l)) = 0
  | [] => rfl
  | r :: l => by
    by_cases hc : quota < (sumSz (r :: l) : Int) ∨ (0 < age ∧ age < clock - r.tick)
    · have e : dropsL clock quota age (r :: l) = dropsL clock quota age l + 1 := by rw [dropsL, if_pos hc]
      rw [e, List.drop_succ_cons]
      exact drops_again clock quota age l
    · have e : dropsL clock quota age (r :: l) = 0 := by rw [dropsL, if_neg hc]
      rw [e]
      exact e
set_option maxHeartbeats 64000000 in
set_option maxRecDepth 100000 in
theorem historyRoom_c (l : List Hr) (clock quota age : Int) {A : Option Addr} {cap : Nat} (w0 : World) (hA : SlAt cHr (Old w0) w0 A l) (hq : ∀ r ∈ l, QHr r 1048576) (hin : inI clock ∧ inI quota ∧ inI age) (hll : l.length ≤ 1048576) (hcn : cntR l ≤ 45590) (ht : powT w0) :
    Cal Tryz.prog 8 [.slice A l.length cap, .int .i64 clock, .int .i64 quota, .int .i64 age] w0 (fun v w' => Upd [] w0 w' ∧ v = .bool true) := by
  refine Cal.mk' (by kernel_rfl) Tryz.func8 rfl rfl fun hS => ?_
  have hp := PowI.of ht
  obtain ⟨⟨hi1, hi2⟩, ⟨hi3, hi4⟩, hi5, hi6⟩ := hin
  by_cases hok : l.length ≤ 10 ∧ (0 ≤ clock ∧ clock ≤ 1099511627776) ∧ (0 ≤ quota ∧ quota ≤ 1099511627776) ∧ (0 ≤ age ∧ age ≤ 1099511627776)
  rotate_left
  · have hcase : 10 < l.length ∨ (l.length ≤ 10 ∧ clock < 0) ∨ (l.length ≤ 10 ∧ 0 ≤ clock ∧ 1099511627776 < clock) ∨ (l.length ≤ 10 ∧ 0 ≤ clock ∧ clock ≤ 1099511627776 ∧ quota < 0) ∨ (l.length ≤ 10 ∧ 0 ≤ clock ∧ clock ≤ 1099511627776 ∧ 0 ≤ quota ∧ 1099511627776 < quota) ∨
        (l.length ≤ 10 ∧ 0 ≤ clock ∧ clock ≤ 1099511627776 ∧ 0 ≤ quota ∧ quota ≤ 1099511627776 ∧ age < 0) ∨ (l.length ≤ 10 ∧ 0 ≤ clock ∧ clock ≤ 1099511627776 ∧ 0 ≤ quota ∧ quota ≤ 1099511627776 ∧ 0 ≤ age ∧ 1099511627776 < age) := by omega
    clear hok hq hA
    rcases hcase with h1 | ⟨h1, h2⟩ | ⟨h1, h2, h3⟩ | ⟨h1, h2, h3, h4⟩ | ⟨h1, h2, h3, h4, h5⟩ | ⟨h1, h2, h3, h4, h5, h6⟩ | ⟨h1, h2, h3, h4, h5, h6, h7⟩
    all_goals
      repeat' (first
        | (show WL _ _ _ _ _ _ _; first
          | refine WL.pure rfl rfl rfl rfl ?_
          | refine WL.nil ?_
          | (refine WL.callL (D := []) hS .nil rfl rfl (fun hI => hmade_c _) rfl rfl rfl ?_; rintro v w ⟨B, Tp, q, fb, fp, rfl, hmu⟩ hS; replace hS := hS _ hmu; clear hmu)
          | (refine WL.calls hS rfl rfl (hawake_c _ (hp.at hS)) rfl rfl rfl ?_; rintro v w rfl hS)
          | refine WL.skip rfl rfl rfl ?_
          | ((fail_if_success (refine WL.wanted rfl ?_)); refine WL.guard rfl rfl rfl (fun h => ?_) (fun h => ?_) <;> (try simp only [Classical.not_not, Bool.not_eq_true', Bool.not_eq_false', Bool.not_eq_eq_eq_not, Bool.not_true, Bool.not_false, beq_iff_eq, beq_eq_false_iff_ne, ne_eq, decide_eq_decide, decide_eq_true_eq, decide_eq_false_iff_not, Bool.and_eq_true, Bool.or_eq_true, Bool.and_eq_false_iff, Bool.or_eq_false_iff] at h) <;> (try (exfalso; first | omega | contradiction))))
        | (show WC _ _ _ _ _ _; first
          | refine WC.seq ?_
          | refine WC.region ?_
          | refine WC.ret ?_
          | refine WC.condT rfl (by with_reducible rfl) ?_
          | refine WC.condT rfl (decide_eq_true (by first | with_reducible assumption | omega)) ?_)
        | refine seqQ_n ?_
        | refine seqQ_r ?_)
      exact fin1r rfl rfl ⟨hS.upd, rfl⟩
  obtain ⟨hl10, ⟨hc1, hc2⟩, ⟨hq1, hq2⟩, ha1, ha2⟩ := hok
  repeat' (first
    | (show WL _ _ _ _ _ _ _; first
      | refine WL.pure rfl rfl rfl rfl ?_
      | refine WL.nil ?_
      | (refine WL.callL (D := []) hS .nil rfl rfl (fun hI => hmade_c _) rfl rfl rfl ?_; rintro v w ⟨B, Tp, q, fb, fp, rfl, hmu⟩ hS; replace hS := hS _ hmu; clear hmu)
      | (refine WL.calls hS rfl rfl (hawake_c _ (hp.at hS)) rfl rfl rfl ?_; rintro v w rfl hS)
      | ((fail_if_success (refine WL.wanted rfl ?_)); refine WL.guard rfl rfl rfl (fun h => ?_) (fun h => ?_) <;> (try simp only [Classical.not_not, Bool.not_eq_true', Bool.not_eq_false', Bool.not_eq_eq_eq_not, Bool.not_true, Bool.not_false, beq_iff_eq, beq_eq_false_iff_ne, ne_eq, decide_eq_decide, decide_eq_true_eq, decide_eq_false_iff_not, Bool.and_eq_true, Bool.or_eq_true, Bool.and_eq_false_iff, Bool.or_eq_false_iff] at h) <;> (try (exfalso; first | omega | contradiction))))
    | (show WC _ _ _ _ _ _; first
      | refine WC.seq ?_
      | refine WC.region ?_
      | refine WC.block ?_
      | refine WC.skip ?_
      | refine WC.condF rfl (decide_eq_false (by first | with_reducible assumption | omega)) ?_)
    | refine seqQ_n ?_)
  refine WC.loop (σ := Nat × Bch × List Kr × List Ver × Nat × List Nat) [0, 1, 2, 3, 9] (fun (j, m, L, vs, N, fb) => [(10, .int .i64 (j : Int))])
    (fun (j, m, L, vs, N, fb) w => (j ≤ l.length ∧ NumIs l j m L vs N) ∧ St w0 [] w [bchC B (some ⟨Tp, 0, none⟩) m fb, tabC Tp q ⟨sysP, [], ⟨sysL, [], false⟩⟩ fp] [⟨w0, Old w0⟩]) (fun (j, _) => l.length - j) (0, [], [], [], 0, fb) ⟨⟨Nat.zero_le _, NumIs.zero l⟩, hS.droplast2 (by repeat (first | exact Pulls.nil | (apply Pulls.cons; focus (repeat (first | exact Pull.here | apply Pull.there)))))⟩ ⟨rfl, trivial⟩ ?_
  repeat (clear hS)
  rintro ⟨j, m, L, vs, N, fb⟩ g w ⟨⟨hj, hnu⟩, hS⟩
  show WC _ _ _ (lf _ [(10, .int .i64 (j : Int))] _ _) _ _
  have hN := hnu.hN
  have hml := hnu.hm
  have hcj := cntR_le l j
  by_cases hlt : j < l.length
  · obtain ⟨ga, go, es, rfl, hF, hr, A1, c1, rfl, _, hs1⟩ := hA.at_ hlt
    have hqr := hq _ (List.getElem_mem hlt)
    obtain ⟨hsm1, hsm2⟩ := hr_small hqr (Nat.le_refl _)
    have hnx := fun {k : Kr} {F : List (Nat × List UInt8)} {m1 : Bch} {vs1 : List Ver} {N1 : Nat} (a1 : k.r = numR j l[j]) (a2 : KrIs k) (a3 : AddIs [] m vs N (heldR k.cs) F m1 vs1 N1) (a4 : HisIs [] (noteE m1 ⟨hK (numR j l[j]).id, recE k, false⟩) (insH k L) vs1 N1) => hnu.next hlt a1 a2 a3 a4
    have hno := hnu.none_ hj
    have hok := fun (h : okR (l[j]).chgs = true) => (show HrOk (numR j l[j]) from by
      obtain ⟨⟨_, _, z1⟩, z2, z3⟩ := hqr
      refine hr_ok (r := numR j l[j]) (b := 1048576) ⟨⟨⟨?_, ?_⟩, ⟨?_, ?_⟩, z1⟩, z2, z3⟩ (Nat.le_refl _) ⟨?_, ?_⟩ ⟨?_, ?_⟩ ((okR_iff _).1 h) <;> (show _ ≤ _; simp only [numR]; omega))
    have hnum : numR j l[j] = ⟨((j + 1 : Nat) : Int), (j : Int), (l[j]).spoke, (l[j]).chgs⟩ := rfl
    rw [hnum] at hok hnx
    generalize l[j] = r at *
    obtain ⟨id, tick, spoke, cs⟩ := r
    dsimp only at hr hs1 hsm1 hsm2 hok hnx
    replace hr : w0.rangeAt ga (go + j * 4) [.int .i64 id, .int .i64 tick, .int .i64 spoke, .slice A1 cs.length c1] := hr
    have hh := hnu.his
    clear hA hq hqr hnu hnum
    cases hw : okR cs
    · repeat' (first
        | (show WL _ _ _ _ _ _ _; first
          | refine WL.pure rfl rfl rfl rfl ?_
          | refine WL.nil ?_
          | refine WL.load hS rfl rfl (LdOk.box (by repeat (first | exact List.Mem.head _ | apply List.Mem.tail)) rfl) rfl rfl rfl ?_
          | refine WL.add rfl rfl rfl (by omega) rfl rfl rfl ?_
          | (refine WL.load hS rfl rfl (LdOk.snap0 hF hr (by repeat (first | exact List.Mem.head _ | apply List.Mem.tail)) rfl) rfl rfl rfl ?_)
          | (refine WL.calls hS rfl rfl (rwhole_c cs _ _ _ _ (hS.slO (by repeat (first | exact List.Mem.head _ | apply List.Mem.tail)) hs1) (by omega) hsm2) rfl rfl rfl ?_; rintro v w rfl hS; rw [hw])
          | (refine WL.store hS rfl rfl rfl (by repeat (first | exact StB.here rfl | apply StB.there)) rfl rfl rfl ?_; intro w hS)
          | (refine WL.alloc hS rfl rfl rfl rfl rfl rfl ?_; intro w b hS)
          | refine WL.index rfl rfl rfl rfl (by first | with_reducible assumption | omega) rfl rfl rfl rfl ?_)
        | (show WC _ _ _ _ _ _; first
          | refine WC.seq ?_
          | refine WC.region ?_
          | refine WC.block ?_
          | refine WC.skip ?_
          | refine WC.ret ?_
          | refine WC.condT rfl (by decide) ?_
          | refine WC.condT rfl (decide_eq_true (by first | with_reducible assumption | omega)) ?_)
        | refine seqQ_n ?_
        | refine seqQ_r ?_
        | refine blkQ_r ?_
        | refine rndQ_r ?_)
      exact fin1r rfl rfl ⟨hS.upd, rfl⟩
    · have hok := hok hw
      have he : ((j : Int) + 1) = ((j + 1 : Nat) : Int) := by omega
      repeat' (first
        | (show WL _ _ _ _ _ _ _; first
          | refine WL.pure rfl rfl rfl rfl ?_
          | refine WL.nil ?_
          | refine WL.load hS rfl rfl (LdOk.box (by repeat (first | exact List.Mem.head _ | apply List.Mem.tail)) rfl) rfl rfl rfl ?_
          | refine WL.add rfl rfl rfl (by omega) rfl rfl rfl ?_
          | (refine WL.load hS rfl rfl (LdOk.snap0 hF hr (by repeat (first | exact List.Mem.head _ | apply List.Mem.tail)) rfl) rfl rfl rfl ?_)
          | (refine WL.calls hS rfl rfl (rwhole_c cs _ _ _ _ (hS.slO (by repeat (first | exact List.Mem.head _ | apply List.Mem.tail)) hs1) (by omega) hsm2) rfl rfl rfl ?_; rintro v w rfl hS; rw [hw])
          | (refine WL.callL (D := [bchC B (some ⟨Tp, 0, none⟩) m fb, tabC Tp q ⟨sysP, [], ⟨sysL, [], false⟩⟩ fp]) hS (by repeat (first | exact Pulls.nil | (apply Pulls.cons; focus (repeat (first | exact Pull.here | apply Pull.there))))) rfl rfl (fun hI => hadd_c (L := L) (vs := vs) (N := N) ⟨((j + 1 : Nat) : Int), (j : Int), spoke, cs⟩ (A := A1) (cap := c1) (St.slY (hS.pulls (D := [bchC B (some ⟨Tp, 0, none⟩) m fb, tabC Tp q ⟨sysP, [], ⟨sysL, [], false⟩⟩ fp]) (by repeat (first | exact Pulls.nil | (apply Pulls.cons; focus (repeat (first | exact Pull.here | apply Pull.there)))))) (by repeat (first | exact List.Mem.head _ | apply List.Mem.tail)) hs1) hok hno hI (hp.pull hS (by repeat (first | exact Pulls.nil | (apply Pulls.cons; focus (repeat (first | exact Pull.here | apply Pull.there)))))) hh (by dsimp only; omega) (by omega)) rfl rfl rfl ?_; rintro v w ⟨rfl, k, m1, vs1, N1, F, fb1, hkr, hki, ha, hh2, hmu⟩ hS; replace hS := hS _ hmu; clear hmu; have hnu2 := hnx hkr hki ha hh2)
          | (refine WL.store hS rfl rfl rfl (by repeat (first | exact StB.here rfl | apply StB.there)) rfl rfl rfl ?_; intro w hS)
          | (refine WL.alloc hS rfl rfl rfl rfl rfl rfl ?_; intro w b hS)
          | refine WL.index rfl rfl rfl rfl (by first | with_reducible assumption | omega) rfl rfl rfl rfl ?_)
        | (show WC _ _ _ _ _ _; first
          | refine WC.seq ?_
          | refine WC.region ?_
          | refine WC.block ?_
          | refine WC.skip ?_
          | refine WC.condF rfl (by decide) ?_
          | refine WC.condT rfl (decide_eq_true (by first | with_reducible assumption | omega)) ?_)
        | refine seqQ_n ?_
        | refine blkQ_n ?_)
      exact rndQ_n (j + 1, _, L ++ [k], vs1, N1, fb1) ⟨⟨by omega, hnu2⟩, hS.droplast2 (by repeat (first | exact Pulls.nil | (apply Pulls.cons; focus (repeat (first | exact Pull.here | apply Pull.there)))))⟩ (by show l.length - (j + 1) < l.length - j; omega) ⟨vint (by omega), trivial⟩ ⟨rfl, rfl, rfl, rfl, rfl, trivial⟩
  · have hje : j = l.length := by omega
    subst hje
    obtain ⟨hLl, _⟩ := hnu.ids (Nat.le_refl _)
    have hh := hnu.his
    have hcl := hh.ch.len
    have hmn := hh.ch.mnd
    have hdl := drops_le clock quota age (L.map Kr.r)
    rw [List.length_map] at hdl
    have hen := fun (w0 : World) (hi : InL w0 [bchC B (some ⟨Tp, 0, none⟩) m fb, tabC Tp q ⟨sysP, [], ⟨sysL, [], false⟩⟩ fp]) (hp : PowI w0 (fps [bchC B (some ⟨Tp, 0, none⟩) m fb, tabC Tp q ⟨sysP, [], ⟨sysL, [], false⟩⟩ fp])) => henf_c clock quota age ⟨hc1, hc2⟩ ⟨hq1, hq2⟩ ⟨ha1, ha2⟩ hi hp hh (by omega) (by omega) (by omega) (by show ([] : Rws).length ≤ _; decide)
    have hda := drops_again clock quota age (L.map Kr.r)
    generalize dropsL clock quota age (L.map Kr.r) = n at *
    have hld : (L.drop n).length = L.length - n := List.length_drop ..
    rw [← List.map_drop] at hda
    have hsame := fun {A B : Option Addr} {ca cb : Nat} (w : World) (h1 : SlAt cHr (Old w) w A ((L.drop n).map Kr.r)) (h2 : SlAt cHr (Old w) w B ((L.drop n).map Kr.r)) => rsame_c (ca := ca) (cb := cb) ((L.drop n).map Kr.r) w h1 h2 (by rw [List.length_map, hld]; omega) (fun r hr => by
      obtain ⟨k, hk, rfl⟩ := List.mem_map.1 hr
      have := (hh.ok k (List.mem_of_mem_drop hk)).1.few
      omega)
    rw [List.length_map, hld] at hsame
    clear hnu hq hA hlt hj
    have hr0 : ([] : Rws).length ≤ 549755813888 := by decide
    repeat' (first
      | (show WL _ _ _ _ _ _ _; first
        | refine WL.pure rfl rfl rfl rfl ?_
        | refine WL.nil ?_
        | (refine WL.callL (D := [bchC B (some ⟨Tp, 0, none⟩) m fb, tabC Tp q ⟨sysP, [], ⟨sysL, [], false⟩⟩ fp]) hS (by repeat (first | exact Pulls.nil | (apply Pulls.cons; focus (repeat (first | exact Pull.here | apply Pull.there))))) rfl rfl (fun hI => hall_c hI (hp.pull hS (by repeat (first | exact Pulls.nil | (apply Pulls.cons; focus (repeat (first | exact Pull.here | apply Pull.there)))))) hh (by omega) (by omega) (by omega) hr0) rfl rfl rfl ?_; rintro v w ⟨og, oo, oc, ps, fi, hps, rfl, hmu⟩ hS; replace hS := hS _ hmu; clear hmu; have hcap := (hS.own_len (A := some ⟨og, oo, none⟩) (n := L.length) (by repeat (first | exact List.Mem.head _ | apply List.Mem.tail))).2.2)
        | (refine WL.callL (D := [bchC B (some ⟨Tp, 0, none⟩) m fb, tabC Tp q ⟨sysP, [], ⟨sysL, [], false⟩⟩ fp]) hS (by repeat (first | exact Pulls.nil | (apply Pulls.cons; focus (repeat (first | exact Pull.here | apply Pull.there))))) rfl rfl (fun hI => hen _ hI (hp.pull hS (by repeat (first | exact Pulls.nil | (apply Pulls.cons; focus (repeat (first | exact Pull.here | apply Pull.there))))))) rfl rfl rfl ?_; rintro v w ⟨rfl, m1, vs1, fb1, hh1, hrw1, _, hmu⟩ hS; replace hS := hS _ hmu; clear hmu; have hml1 := hrw1.len hh1.ch.mnd; rw [List.length_map] at hml1; clear hrw1)
        | ((fail_if_success (refine WL.wanted rfl ?_)); refine WL.guard rfl rfl rfl (fun h => ?_) (fun h => ?_) <;> (try simp only [Classical.not_not, Bool.not_eq_true', Bool.not_eq_false', Bool.not_eq_eq_eq_not, Bool.not_true, Bool.not_false, beq_iff_eq, beq_eq_false_iff_ne, ne_eq, decide_eq_decide, decide_eq_true_eq, decide_eq_false_iff_not, Bool.and_eq_true, Bool.or_eq_true, Bool.and_eq_false_iff, Bool.or_eq_false_iff] at h) <;> (try (exfalso; first | omega | contradiction))))
      | (show WC _ _ _ _ _ _; first
        | refine WC.seq ?_
        | refine WC.region ?_
        | refine WC.skip ?_
        | refine WC.exit ?_
        | refine WC.ret ?_
        | (show WC _ _ (Code.region _ (List.toArray [_, _, _, _, _, _, _, _, _, _, _, _, _, _, _]) true) _ _ _; refine WC.drawL [bchC B (some ⟨Tp, 0, none⟩) m1 fb1, tabC Tp q ⟨sysP, [], ⟨sysL, [], false⟩⟩ fp] hS (by repeat (first | exact Pulls.nil | (apply Pulls.cons; focus (repeat (first | exact Pull.here | apply Pull.there))))) [0,2,3,4,6,7,8,9,10,12,13,14] [0,2,3,4,1,5,6,7,8,9,10,11,12,13,14] (by kernel_rfl) (by kernel_rfl) ?_; clear hS; intro w hS hM)
        | refine WC.condF rfl (decide_eq_false (by first | with_reducible assumption | omega)) ?_)
      | (show WD _ _ _ _ _ _ _ _ _; first
        | refine WD.pure rfl rfl rfl rfl rfl ?_
        | refine WD.nil ?_
        | (refine WD.lowV (j := n) (A' := cutP (some ⟨og, oo, none⟩) oc n) rfl rfl rfl rfl (by omega) rfl rfl rfl rfl rfl ?_)
        | (refine WD.callL (D := [bchC B (some ⟨Tp, 0, none⟩) m1 fb1, tabC Tp q ⟨sysP, [], ⟨sysL, [], false⟩⟩ fp]) hS (by repeat (first | exact Pulls.nil | (apply Pulls.cons; focus (repeat (first | exact Pull.here | apply Pull.there))))) (by first | exact .refl _ _ | exact .chunk (.chunk (.refl _ _) _) _) rfl rfl (fun hI => hall_c hI (hp.pull hS (by repeat (first | exact Pulls.nil | (apply Pulls.cons; focus (repeat (first | exact Pull.here | apply Pull.there)))))) hh1 (by omega) (by omega) (by omega) hr0) rfl rfl rfl rfl rfl ?_; rintro v w ⟨og2, oo2, oc2, ps2, fi2, hps2, rfl, hmu⟩; rw [hld] at hmu ⊢; refine ⟨_, hmu, fun hS hM => ?_⟩; clear hmu)
        | (refine WD.calls hS hM rfl rfl (hsame _ (hps2 ▸ hS.recsSl (ps := ps2) (fp := fi2) (by repeat (first | exact List.Mem.head _ | apply List.Mem.tail)) (by repeat (first | exact List.Mem.head _ | apply List.Mem.tail))) (recs_cut (hps ▸ hS.recsSl (ps := ps) (fp := fi) (by repeat (first | exact List.Mem.head _ | apply List.Mem.tail)) (by repeat (first | exact List.Mem.head _ | apply List.Mem.tail))) n hcap)) rfl rfl rfl rfl rfl ?_; clear hS; rintro v w rfl hS)
        | (refine WD.callL (D := [bchC B (some ⟨Tp, 0, none⟩) m1 fb1, tabC Tp q ⟨sysP, [], ⟨sysL, [], false⟩⟩ fp]) hS (by repeat (first | exact Pulls.nil | (apply Pulls.cons; focus (repeat (first | exact Pull.here | apply Pull.there))))) (by first | exact .refl _ _ | exact .chunk (.chunk (.refl _ _) _) _) rfl rfl (fun hI => henf_c clock quota age ⟨hc1, hc2⟩ ⟨hq1, hq2⟩ ⟨ha1, ha2⟩ hI (hp.pull hS (by repeat (first | exact Pulls.nil | (apply Pulls.cons; focus (repeat (first | exact Pull.here | apply Pull.there)))))) hh1 (by omega) (by omega) (by omega) hr0) rfl rfl rfl rfl rfl ?_; rintro v w ⟨rfl, m2, vs2, fb2, _, _, _, hmu⟩; rw [hda]; refine ⟨_, hmu, fun hS hM => ?_⟩; clear hmu))
      | refine seqQ_n ?_
      | refine seqQ_x ?_
      | refine blkQ_hit rfl ?_
      | refine rndQ_x ?_)
    exact fin1r rfl rfl ⟨hS.upd, vbool (by first | rfl | (simp; done))⟩
end Go.Proofs.YtobfdeiimnnanaaGreatDoor

/- What is proved: the keys of HistoryBefore and HistoryRoom: with the table laid, the laws answer true. Conditions: the statements' own bound on the bulk. -/
set_option linter.unusedSimpArgs false
set_option linter.unusedVariables false
namespace Go.Proofs.YtobfdeiimnnanaaGreatDoor
open Go Go.J Go.RowKit
theorem historyBefore.key_historyBefore (W : World) (hL : laidMet Tryz.prog Rows.historyBeforeUptoRow.laid W) (v0 v1 v2 : Value) (y0 : Hr) (y1 : Int) (y2 : List UInt8) (b0 b1 b2 : Nat) (h0 : AAgg cHr W v0 y0) (h1 : AInt W v1 y1) (h2 : AStr W v2 y2) (q0 : QHr y0 b0) (q1 : QInt y1 b1) (q2 : QStr y2 b2) (hb : b0 + b1 + b2 ≤ 1048576) :
    Cal Tryz.prog 3 [v0, v1, v2] W (fun v W' => Upd [] W W' ∧ v = .bool true) := by
  obtain ⟨cs, rfl, A, cap, rfl, _, hA⟩ := h0
  have h1 : v1 = .int .i64 y1 := h1
  have h2 : v2 = str y2 := h2
  subst h1 h2
  obtain ⟨hl, _⟩ := hr_small q0 (by omega)
  exact historyBefore_c y0.chgs y0.id y0.tick y0.spoke y1 y2 W hA (by omega) (pow_historyBefore W hL)
theorem historyRoom.key_historyRoom (W : World) (hL : laidMet Tryz.prog Rows.historyRoomUptoRow.laid W) (v0 v1 v2 v3 : Value) (y0 : List Hr) (y1 y2 y3 : Int) (b0 b1 b2 b3 : Nat) (h0 : ASl cHr W v0 y0) (h1 : AInt W v1 y1) (h2 : AInt W v2 y2) (h3 : AInt W v3 y3) (q0 : QL QHr y0 b0) (q1 : QInt y1 b1) (q2 : QInt y2 b2) (q3 : QInt y3 b3) (hb : b0 + b1 + b2 + b3 ≤ 1048576) :
    Cal Tryz.prog 8 [v0, v1, v2, v3] W (fun v W' => Upd [] W W' ∧ v = .bool true) := by
  obtain ⟨A0, c0, rfl, k0, h0⟩ := h0
  have h1 : v1 = .int .i64 y1 := h1
  have h2 : v2 = .int .i64 y2 := h2
  have h3 : v3 = .int .i64 y3 := h3
  subst h1 h2 h3
  obtain ⟨z1, z2, z3⟩ := ql_hrs q0
  refine historyRoom_c y0 y1 y2 y3 W h0 (fun r hr => ?_) ⟨⟨q1.1, q1.2.1⟩, ⟨q2.1, q2.2.1⟩, ⟨q3.1, q3.2.1⟩⟩ (by omega) (by omega) (pow_historyRoom W hL)
  obtain ⟨a, b, c⟩ := z1 r hr
  exact ⟨a, b, by omega⟩
end Go.Proofs.YtobfdeiimnnanaaGreatDoor

/- What is proved: the law HistoryHolds answers true. Conditions: the statement's own bound on the bulk; the library's table of powers laid. -/
set_option linter.unusedSimpArgs false
set_option linter.unusedVariables false
namespace Go.Proofs.YtobfdeiimnnanaaGreatDoor
open Go Go.J Go.RowKit

def bools (l : List Bool) : List Value := l.map Value.bool
theorem bools_at {l : List Bool} {k : Nat} {g : Bool} (h : l[k]? = some g) : (bools l)[k]? = some (.bool g) := by unfold bools; rw [List.getElem?_map, h]; rfl
theorem bools_set {l : List Bool} {k : Nat} (g : Bool) (h : k < l.length) : (bools l).take k ++ [.bool g] ++ (bools l).drop (k + 1) = bools (l.set k g) := by
  unfold bools
  rw [List.set_eq_take_append_cons_drop, if_pos h, List.map_append, List.map_cons, List.map_take, List.map_drop]
  simp
theorem bools_rep : ∀ n, repZ [.bool false] n = bools (List.replicate n false)
  | 0 => rfl
  | n + 1 => by
    rw [List.replicate_succ]
    show [.bool false] ++ repZ [.bool false] n = .bool false :: bools (List.replicate n false)
    rw [bools_rep n]
    rfl
/-- which records are there -/
structure GonIs (l : List Hr) (m : Bch) (L : List Kr) (vs : List Ver) (N : Nat) (m1 : Bch) (L1 : List Kr) (vs1 : List Ver) (gone : List Bool) : Prop where
  his : HisIs [] m1 L1 vs1 N
  rew : HRew (vs.map idData) L m m1
  sub : ∀ x ∈ vs1.map idData, x ∈ vs.map idData
  subL : ∀ k ∈ L1, k ∈ L
  len : gone.length = l.length + 1
  inn : ∀ k (h : k < l.length), gone[k + 1]? = some false → ∃ y ∈ L1, y.r = numR k l[k]
  out : ∀ k, gone[k + 1]? = some true → findH L1 ((k + 1 : Nat) : Int) = none
theorem GonIs.start {l : List Hr} {m : Bch} {L : List Kr} {vs : List Ver} {N : Nat} (h : NumIs l l.length m L vs N) : GonIs l m L vs N m L vs (List.replicate (l.length + 1) false) := by
  refine ⟨h.his, HRew.refl _ _ _, fun x hx => hx, fun k hk => hk, List.length_replicate .., fun k hk _ => ?_, fun k hg => ?_⟩
  · have h1 := h.recs
    rw [List.take_of_length_le (by rw [numRs_len]; exact Nat.le_refl _)] at h1
    have h2 : numR k l[k] ∈ L.map Kr.r := by rw [h1]; exact List.mem_of_getElem? (numRs_at hk)
    obtain ⟨y, hy, e⟩ := List.mem_map.1 h2
    exact ⟨y, hy, e⟩
  · rw [List.getElem?_replicate] at hg
    split at hg <;> cases hg
section
variable {l : List Hr} {m : Bch} {L : List Kr} {vs : List Ver} {N : Nat} {m1 m2 : Bch} {L1 : List Kr} {vs1 vs2 : List Ver} {gone : List Bool}
theorem GonIs.drop (h : GonIs l m L vs N m1 L1 vs1 gone) {y : Kr} (hy : y ∈ L1) {k : Nat} (hyi : y.r.id = ((k + 1 : Nat) : Int)) (hg : GoneIs [] m1 vs1 N ((heldR y.cs).map Prod.fst) m2 vs2)
    (hh : HisIs [] (noteE m2 ⟨hK y.r.id, [], true⟩) (delH L1 y.r.id) vs2 N) : GonIs l m L vs N (noteE m2 ⟨hK y.r.id, [], true⟩) (delH L1 y.r.id) vs2 (gone.set (k + 1) true) := by
  refine ⟨hh, h.rew.trans ((hg.hrew h.his hy).mono h.sub fun x hx => by rw [List.mem_singleton.1 hx]; exact h.subL y hy), fun x hx => ?_, fun a ha => h.subL a (mem_del.1 ha).1, by rw [List.length_set]; exact h.len, fun j hj hgj => ?_, fun j hgj => ?_⟩
  · rw [hg.dat] at hx
    exact h.sub x (List.mem_filter.1 hx).1
  · rw [List.getElem?_set] at hgj
    split at hgj
    · split at hgj <;> cases hgj
    · rename_i hne
      obtain ⟨a, ha, e⟩ := h.inn j hj hgj
      refine ⟨a, mem_del.2 ⟨ha, ?_⟩, e⟩
      rw [hyi, e]
      show ((j + 1 : Nat) : Int) ≠ _
      omega
  · unfold findH
    rw [List.find?_eq_none]
    intro a ha
    obtain ⟨h1, h2⟩ := mem_del.1 ha
    rw [decide_eq_true_eq]
    intro e
    rw [List.getElem?_set] at hgj
    split at hgj
    · rename_i hjk
      rw [hyi] at h2
      omega
    · exact findH_none (h.out j hgj) a h1 e
theorem GonIs.m1len (h : GonIs l m L vs N m1 L1 vs1 gone) : m1.length ≤ m.length + 1 + vs.length + L.length := by
  have := h.rew.len h.his.ch.mnd
  rw [List.length_map] at this
  exact this
end
theorem bef_err : ∀ (cs : List Hc) (p : List UInt8), (befE cs 0 p).2 = 0 ∨ (befE cs 0 p).2 = 11
  | [], p => .inr rfl
  | c :: l, p => by
    by_cases hp : c.path = p
    · cases he : ndEq c.o0 c.n0
      · rw [bef_0n hp rfl he]; exact .inl rfl
      · rw [bef_0e hp rfl he]; exact bef_err l p
    · rw [bef_p hp]; exact bef_err l p
theorem bef_there : ∀ {cs : List Hc} {c : Hc}, c ∈ cs → ndEq c.o0 c.n0 = false → (befE cs 0 c.path).2 = 0
  | [], c, h, _ => by cases h
  | a :: l, c, h, hn => by
    by_cases hp : a.path = c.path
    · cases he : ndEq a.o0 a.n0
      · rw [bef_0n hp rfl he]
      · rw [bef_0e hp rfl he]
        rcases List.mem_cons.1 h with rfl | h
        · rw [hn] at he; cases he
        · exact bef_there h hn
    · rw [bef_p hp]
      rcases List.mem_cons.1 h with rfl | h
      · exact absurd rfl hp
      · exact bef_there h hn
set_option maxHeartbeats 32000000 in
set_option maxRecDepth 100000 in
theorem stood_c (cs : List Hc) (id tick spoke : Int) {A : Option Addr} {cap : Nat} (p : List UInt8) (kd : Int) (dt : List UInt8) (w0 : World) (hA : SlAt cHc (Old w0) w0 A cs) (hb : befE cs 0 p = (⟨kd, dt⟩, 0)) (hl : cs.length ≤ 1048576) :
    Cal Tryz.prog 37 [.agg ⟨[.int .i64 id, .int .i64 tick, .int .i64 spoke, .slice A cs.length cap]⟩, str p, .int .i64 0, .agg ⟨[.int .i64 kd, str dt]⟩] w0 (fun v w' => Upd [] w0 w' ∧ v = .bool true) := by
  refine Cal.mk' (by kernel_rfl) Tryz.func37 rfl rfl fun hS => ?_
  repeat' (first
    | (show WL _ _ _ _ _ _ _; first
      | refine WL.pure rfl rfl rfl rfl ?_
      | refine WL.nil ?_
      | (refine WL.box (t := 24) hS rfl rfl rfl rfl rfl ?_; intro w rb hS)
      | (refine WL.box (t := 26) hS rfl rfl rfl rfl rfl ?_; intro w nb hS))
    | (show WC _ _ _ _ _ _; first
      | refine WC.seq ?_
      | refine WC.region ?_
      | refine WC.block ?_)
    | refine seqQ_n ?_)
  refine WC.loop (σ := Nat) [1, 2, 4, 7] (fun k => [(9, .int .i64 (k : Int))])
    (fun k w => (k ≤ cs.length ∧ befE (cs.drop k) 0 p = (⟨kd, dt⟩, 0)) ∧ St w0 [] w [.box rb 24 [.int .i64 id, .int .i64 tick, .int .i64 spoke, .slice A cs.length cap], .box nb 26 [.int .i64 kd, str dt]] [⟨w0, Old w0⟩]) (fun k => cs.length - k) 0 ⟨⟨Nat.zero_le _, hb⟩, hS.droplast2 (by repeat (first | exact Pulls.nil | (apply Pulls.cons; focus (repeat (first | exact Pull.here | apply Pull.there)))))⟩ ⟨rfl, trivial⟩ ?_
  repeat (clear hS)
  clear hb
  rintro k g w ⟨⟨hk, hd⟩, hS⟩
  show WC _ _ _ (lf _ [(9, .int .i64 (k : Int))] _ _) _ _
  by_cases hlt : k < cs.length
  · obtain ⟨gb, go, es, rfl, hF, hr, hes⟩ := hA.at_ hlt
    have hes : es = encHc cs[k] := hes
    subst hes
    replace hr : w0.rangeAt gb (go + k * 14) (encHc cs[k]) := hr
    rw [List.drop_eq_getElem_cons hlt] at hd
    generalize cs[k] = c at *
    clear hA
    unfold encHc at hr
    by_cases hp : c.path = p
    · cases he : ndEq c.o0 c.n0
      · rw [bef_0n hp rfl he] at hd
        have hq1 : (decide (c.o0.kind = kd) && decide (c.o0.data = dt)) = true := by
          have h1 := congrArg Prod.fst hd
          have h2 := congrArg Nd.kind h1
          have h3 := congrArg Nd.data h1
          have h2 : c.o0.kind = kd := h2
          have h3 : c.o0.data = dt := h3
          simp [h2, h3]
        clear hd
        unfold ndEq at he
        repeat' (first
          | (show WL _ _ _ _ _ _ _; first
            | refine WL.pure rfl rfl rfl rfl ?_
            | refine WL.nil ?_
            | refine WL.load hS rfl rfl (LdOk.box (by repeat (first | exact List.Mem.head _ | apply List.Mem.tail)) rfl) rfl rfl rfl ?_)
          | (show WC _ _ _ _ _ _; first
            | refine WC.seq ?_
            | refine WC.region ?_
            | refine WC.block ?_
            | refine WC.skip ?_
            | refine WC.ret ?_
            | (show WC _ _ (Code.region _ (List.toArray [_, _, _, _, _, _, _, _, _, _, _, _, _, _, _, _, _, _, _, _, _, _, _, _, _, _, _, _, _, _, _, _, _, _, _, _, _, _, _]) true) _ _ _; refine WC.drawS hS [0, 1, 2, 3, 4, 5, 6, 7, 8, 9, 10, 11, 12, 13, 14, 15, 16, 17, 18, 19, 20, 21, 22, 23, 24, 25, 26, 27, 28, 29, 30, 31, 32, 33, 34, 35, 36, 37, 38] [0, 1, 2, 3, 4, 5, 6, 7, 8, 9, 10, 11, 12, 13, 14, 15, 16, 17, 18, 19, 20, 21, 22, 23, 24, 25, 26, 27, 28, 29, 30, 31, 32, 33, 34, 35, 36, 37, 38] (by kernel_rfl) (by kernel_rfl) ?_; clear hS; intro w hS hM)
            | refine WC.condT rfl (by decide) ?_
            | refine WC.condT rfl (decide_eq_true (by first | with_reducible assumption | omega)) ?_)
          | (show WD _ _ _ _ _ _ _ _ _; first
            | refine WD.pure rfl rfl rfl rfl rfl ?_
            | refine WD.nil ?_
            | refine WD.load rfl rfl (LdOk.box (by repeat (first | exact List.Mem.head _ | apply List.Mem.tail)) rfl) rfl rfl rfl rfl ?_
            | (refine WD.load rfl rfl (LdOk.snap0 hF hr (by repeat (first | exact List.Mem.head _ | apply List.Mem.tail)) rfl) rfl rfl rfl rfl ?_)
            | (refine WD.load rfl rfl (LdOk.snap (off := 2) hF hr (by repeat (first | exact List.Mem.head _ | apply List.Mem.tail)) rfl) rfl rfl rfl rfl ?_)
            | (refine WD.load rfl rfl (LdOk.snap (off := 8) hF hr (by repeat (first | exact List.Mem.head _ | apply List.Mem.tail)) rfl) rfl rfl rfl rfl ?_)
            | (refine WD.eqS rfl rfl rfl (show some (decide (c.o0.kind = kd) && decide (c.o0.data = dt)) = some true from congrArg some hq1) (by kernel_rfl) rfl rfl rfl rfl ?_)
            | (refine WD.neS rfl rfl rfl (show some (decide (c.o0.kind = c.n0.kind) && decide (c.o0.data = c.n0.data)) = some false from congrArg some he) (by kernel_rfl) rfl rfl rfl rfl ?_)
            | refine WD.index rfl rfl rfl rfl (by first | with_reducible assumption | omega) rfl rfl rfl rfl rfl ?_
            | refine WD.indexArr rfl rfl rfl rfl (by decide) rfl rfl rfl rfl ?_
            | ((fail_if_success (refine WD.wanted rfl ?_)); refine WD.guard rfl rfl rfl (fun h => ?_) (fun h => ?_) <;> (try simp only [Classical.not_not, Bool.not_eq_true', Bool.not_eq_false', Bool.not_eq_eq_eq_not, Bool.not_true, Bool.not_false, beq_iff_eq, beq_eq_false_iff_ne, ne_eq, decide_eq_decide, decide_eq_true_eq, decide_eq_false_iff_not, Bool.and_eq_true, Bool.or_eq_true, Bool.and_eq_false_iff, Bool.or_eq_false_iff] at h) <;> (try (exfalso; first | omega | contradiction))))
          | refine seqQ_n ?_
          | refine seqQ_r ?_
          | refine blkQ_r ?_
          | refine rndQ_r ?_)
        exact fin1r rfl rfl ⟨hS.upd, rfl⟩
      · rw [bef_0e hp rfl he] at hd
        unfold ndEq at he
        cases hq1 : (decide (c.o0.kind = kd) && decide (c.o0.data = dt))
        · repeat' (first
            | (show WL _ _ _ _ _ _ _; first
              | refine WL.pure rfl rfl rfl rfl ?_
              | refine WL.nil ?_
              | refine WL.load hS rfl rfl (LdOk.box (by repeat (first | exact List.Mem.head _ | apply List.Mem.tail)) rfl) rfl rfl rfl ?_
              | refine WL.add rfl rfl rfl (by omega) rfl rfl rfl ?_)
            | (show WC _ _ _ _ _ _; first
              | refine WC.seq ?_
              | refine WC.region ?_
              | refine WC.block ?_
              | refine WC.skip ?_
              | (show WC _ _ (Code.region _ (List.toArray [_, _, _, _, _, _, _, _, _, _, _, _, _, _, _, _, _, _, _, _, _, _, _, _, _, _, _, _, _, _, _, _, _, _, _, _, _, _, _]) true) _ _ _; refine WC.drawS hS [0, 1, 2, 3, 4, 5, 6, 7, 8, 9, 10, 11, 12, 13, 14, 15, 16, 17, 18, 19, 20, 21, 22, 23, 24, 25, 26, 27, 28, 29, 30, 31, 32, 33, 34, 35, 36, 37, 38] [0, 1, 2, 3, 4, 5, 6, 7, 8, 9, 10, 11, 12, 13, 14, 15, 16, 17, 18, 19, 20, 21, 22, 23, 24, 25, 26, 27, 28, 29, 30, 31, 32, 33, 34, 35, 36, 37, 38] (by kernel_rfl) (by kernel_rfl) ?_; clear hS; intro w hS hM)
              | refine WC.condF rfl (by with_reducible rfl) ?_
              | refine WC.condT rfl (decide_eq_true (by first | with_reducible assumption | omega)) ?_)
            | (show WD _ _ _ _ _ _ _ _ _; first
              | refine WD.pure rfl rfl rfl rfl rfl ?_
              | refine WD.nil ?_
              | refine WD.load rfl rfl (LdOk.box (by repeat (first | exact List.Mem.head _ | apply List.Mem.tail)) rfl) rfl rfl rfl rfl ?_
              | (refine WD.load rfl rfl (LdOk.snap0 hF hr (by repeat (first | exact List.Mem.head _ | apply List.Mem.tail)) rfl) rfl rfl rfl rfl ?_)
              | (refine WD.load rfl rfl (LdOk.snap (off := 2) hF hr (by repeat (first | exact List.Mem.head _ | apply List.Mem.tail)) rfl) rfl rfl rfl rfl ?_)
              | (refine WD.eqS rfl rfl rfl (show some (decide (c.o0.kind = kd) && decide (c.o0.data = dt)) = some false from congrArg some hq1) (by kernel_rfl) rfl rfl rfl rfl ?_)
              | refine WD.index rfl rfl rfl rfl (by first | with_reducible assumption | omega) rfl rfl rfl rfl rfl ?_
              | refine WD.indexArr rfl rfl rfl rfl (by decide) rfl rfl rfl rfl ?_
              | refine WD.pass rfl rfl rfl rfl ?_
              | ((fail_if_success (refine WD.wanted rfl ?_)); refine WD.guard rfl rfl rfl (fun h => ?_) (fun h => ?_) <;> (try simp only [Classical.not_not, Bool.not_eq_true', Bool.not_eq_false', Bool.not_eq_eq_eq_not, Bool.not_true, Bool.not_false, beq_iff_eq, beq_eq_false_iff_ne, ne_eq, decide_eq_decide, decide_eq_true_eq, decide_eq_false_iff_not, Bool.and_eq_true, Bool.or_eq_true, Bool.and_eq_false_iff, Bool.or_eq_false_iff] at h) <;> (try (exfalso; first | omega | contradiction))))
            | refine seqQ_n ?_
            | refine blkQ_n ?_)
          exact rndQ_n (k + 1) ⟨⟨by omega, hd⟩, hS⟩ (by show cs.length - (k + 1) < cs.length - k; omega) ⟨vint (by omega), trivial⟩ ⟨rfl, rfl, rfl, rfl, trivial⟩
        · repeat' (first
            | (show WL _ _ _ _ _ _ _; first
              | refine WL.pure rfl rfl rfl rfl ?_
              | refine WL.nil ?_
              | refine WL.load hS rfl rfl (LdOk.box (by repeat (first | exact List.Mem.head _ | apply List.Mem.tail)) rfl) rfl rfl rfl ?_
              | refine WL.add rfl rfl rfl (by omega) rfl rfl rfl ?_)
            | (show WC _ _ _ _ _ _; first
              | refine WC.seq ?_
              | refine WC.region ?_
              | refine WC.block ?_
              | refine WC.skip ?_
              | (show WC _ _ (Code.region _ (List.toArray [_, _, _, _, _, _, _, _, _, _, _, _, _, _, _, _, _, _, _, _, _, _, _, _, _, _, _, _, _, _, _, _, _, _, _, _, _, _, _]) true) _ _ _; refine WC.drawS hS [0, 1, 2, 3, 4, 5, 6, 7, 8, 9, 10, 11, 12, 13, 14, 15, 16, 17, 18, 19, 20, 21, 22, 23, 24, 25, 26, 27, 28, 29, 30, 31, 32, 33, 34, 35, 36, 37, 38] [0, 1, 2, 3, 4, 5, 6, 7, 8, 9, 10, 11, 12, 13, 14, 15, 16, 17, 18, 19, 20, 21, 22, 23, 24, 25, 26, 27, 28, 29, 30, 31, 32, 33, 34, 35, 36, 37, 38] (by kernel_rfl) (by kernel_rfl) ?_; clear hS; intro w hS hM)
              | refine WC.condF rfl (by decide) ?_
              | refine WC.condT rfl (decide_eq_true (by first | with_reducible assumption | omega)) ?_)
            | (show WD _ _ _ _ _ _ _ _ _; first
              | refine WD.pure rfl rfl rfl rfl rfl ?_
              | refine WD.nil ?_
              | refine WD.load rfl rfl (LdOk.box (by repeat (first | exact List.Mem.head _ | apply List.Mem.tail)) rfl) rfl rfl rfl rfl ?_
              | (refine WD.load rfl rfl (LdOk.snap0 hF hr (by repeat (first | exact List.Mem.head _ | apply List.Mem.tail)) rfl) rfl rfl rfl rfl ?_)
              | (refine WD.load rfl rfl (LdOk.snap (off := 2) hF hr (by repeat (first | exact List.Mem.head _ | apply List.Mem.tail)) rfl) rfl rfl rfl rfl ?_)
              | (refine WD.load rfl rfl (LdOk.snap (off := 8) hF hr (by repeat (first | exact List.Mem.head _ | apply List.Mem.tail)) rfl) rfl rfl rfl rfl ?_)
              | (refine WD.eqS rfl rfl rfl (show some (decide (c.o0.kind = kd) && decide (c.o0.data = dt)) = some true from congrArg some hq1) (by kernel_rfl) rfl rfl rfl rfl ?_)
              | (refine WD.neS rfl rfl rfl (show some (decide (c.o0.kind = c.n0.kind) && decide (c.o0.data = c.n0.data)) = some true from congrArg some he) (by kernel_rfl) rfl rfl rfl rfl ?_)
              | refine WD.index rfl rfl rfl rfl (by first | with_reducible assumption | omega) rfl rfl rfl rfl rfl ?_
              | refine WD.indexArr rfl rfl rfl rfl (by decide) rfl rfl rfl rfl ?_
              | ((fail_if_success (refine WD.wanted rfl ?_)); refine WD.guard rfl rfl rfl (fun h => ?_) (fun h => ?_) <;> (try simp only [Classical.not_not, Bool.not_eq_true', Bool.not_eq_false', Bool.not_eq_eq_eq_not, Bool.not_true, Bool.not_false, beq_iff_eq, beq_eq_false_iff_ne, ne_eq, decide_eq_decide, decide_eq_true_eq, decide_eq_false_iff_not, Bool.and_eq_true, Bool.or_eq_true, Bool.and_eq_false_iff, Bool.or_eq_false_iff] at h) <;> (try (exfalso; first | omega | contradiction))))
            | refine seqQ_n ?_
            | refine blkQ_n ?_)
          exact rndQ_n (k + 1) ⟨⟨by omega, hd⟩, hS⟩ (by show cs.length - (k + 1) < cs.length - k; omega) ⟨vint (by omega), trivial⟩ ⟨rfl, rfl, rfl, rfl, trivial⟩
    · rw [bef_p hp] at hd
      repeat' (first
        | (show WL _ _ _ _ _ _ _; first
          | refine WL.pure rfl rfl rfl rfl ?_
          | refine WL.nil ?_
          | refine WL.load hS rfl rfl (LdOk.box (by repeat (first | exact List.Mem.head _ | apply List.Mem.tail)) rfl) rfl rfl rfl ?_
          | refine WL.add rfl rfl rfl (by omega) rfl rfl rfl ?_)
        | (show WC _ _ _ _ _ _; first
          | refine WC.seq ?_
          | refine WC.region ?_
          | refine WC.block ?_
          | refine WC.skip ?_
          | (show WC _ _ (Code.region _ (List.toArray [_, _, _, _, _, _, _, _, _, _, _, _, _, _, _, _, _, _, _, _, _, _, _, _, _, _, _, _, _, _, _, _, _, _, _, _, _, _, _]) true) _ _ _; refine WC.drawS hS [0, 1, 2, 3, 4, 5, 6, 7, 8, 9, 10, 11, 12, 13, 14, 15, 16, 17, 18, 19, 20, 21, 22, 23, 24, 25, 26, 27, 28, 29, 30, 31, 32, 33, 34, 35, 36, 37, 38] [0, 1, 2, 3, 4, 5, 6, 7, 8, 9, 10, 11, 12, 13, 14, 15, 16, 17, 18, 19, 20, 21, 22, 23, 24, 25, 26, 27, 28, 29, 30, 31, 32, 33, 34, 35, 36, 37, 38] (by kernel_rfl) (by kernel_rfl) ?_; clear hS; intro w hS hM)
          | refine WC.condF rfl (by with_reducible rfl) ?_
          | refine WC.condT rfl (decide_eq_true (by first | with_reducible assumption | omega)) ?_)
        | (show WD _ _ _ _ _ _ _ _ _; first
          | refine WD.pure rfl rfl rfl rfl rfl ?_
          | refine WD.nil ?_
          | refine WD.load rfl rfl (LdOk.box (by repeat (first | exact List.Mem.head _ | apply List.Mem.tail)) rfl) rfl rfl rfl rfl ?_
          | (refine WD.load rfl rfl (LdOk.snap0 hF hr (by repeat (first | exact List.Mem.head _ | apply List.Mem.tail)) rfl) rfl rfl rfl rfl ?_)
          | refine WD.index rfl rfl rfl rfl (by first | with_reducible assumption | omega) rfl rfl rfl rfl rfl ?_
          | refine WD.pass rfl rfl rfl rfl ?_
          | ((fail_if_success (refine WD.wanted rfl ?_)); refine WD.guard rfl rfl rfl (fun h => ?_) (fun h => ?_) <;> (try simp only [Classical.not_not, Bool.not_eq_true', Bool.not_eq_false', Bool.not_eq_eq_eq_not, Bool.not_true, Bool.not_false, beq_iff_eq, beq_eq_false_iff_ne, ne_eq, decide_eq_decide, decide_eq_true_eq, decide_eq_false_iff_not, Bool.and_eq_true, Bool.or_eq_true, Bool.and_eq_false_iff, Bool.or_eq_false_iff] at h) <;> (try (exfalso; first | omega | contradiction))))
        | refine seqQ_n ?_
        | refine blkQ_n ?_)
      exact rndQ_n (k + 1) ⟨⟨by omega, hd⟩, hS⟩ (by show cs.length - (k + 1) < cs.length - k; omega) ⟨vint (by omega), trivial⟩ ⟨rfl, rfl, rfl, rfl, trivial⟩
  · exfalso
    rw [List.drop_of_length_le (by omega)] at hd
    have := congrArg Prod.snd hd
    exact absurd (show (11 : Int) = 0 from this) (by decide)
set_option maxHeartbeats 128000000 in
set_option maxRecDepth 100000 in
theorem historyHolds_c (l : List Hr) (drops : List Int) {A A2 : Option Addr} {cap cap2 : Nat} (w0 : World) (hA : SlAt cHr (Old w0) w0 A l) (hD : SlAt cInt (Old w0) w0 A2 drops) (hq : ∀ r ∈ l, QHr r 1048576) (hdb : ∀ d ∈ drops, -9223372036854775808 ≤ d ∧ d ≤ 9223372036854775807) (hll : l.length ≤ 1048576) (hdl : drops.length ≤ 1048576) (hcn : cntR l ≤ 45590) (ht : powT w0) :
    Cal Tryz.prog 7 [.slice A l.length cap, .slice A2 drops.length cap2] w0 (fun v w' => Upd [] w0 w' ∧ v = .bool true) := by
  refine Cal.mk' (by kernel_rfl) Tryz.func7 rfl rfl fun hS => ?_
  have hp := PowI.of ht
  by_cases hok : l.length ≤ 12
  rotate_left
  · clear hq hA hD hdb
    repeat' (first
      | (show WL _ _ _ _ _ _ _; first
        | refine WL.pure rfl rfl rfl rfl ?_
        | refine WL.nil ?_
        | (refine WL.callL (D := []) hS .nil rfl rfl (fun hI => hmade_c _) rfl rfl rfl ?_; rintro v w ⟨B, Tp, q, fb, fp, rfl, hmu⟩ hS; replace hS := hS _ hmu; clear hmu)
        | (refine WL.calls hS rfl rfl (hawake_c _ (hp.at hS)) rfl rfl rfl ?_; rintro v w rfl hS))
      | (show WC _ _ _ _ _ _; first
        | refine WC.seq ?_
        | refine WC.region ?_
        | refine WC.ret ?_
        | refine WC.condT rfl (decide_eq_true (by first | with_reducible assumption | omega)) ?_)
      | refine seqQ_n ?_
      | refine seqQ_r ?_)
    exact fin1r rfl rfl ⟨hS.upd, rfl⟩
  repeat' (first
    | (show WL _ _ _ _ _ _ _; first
      | refine WL.pure rfl rfl rfl rfl ?_
      | refine WL.nil ?_
      | (refine WL.callL (D := []) hS .nil rfl rfl (fun hI => hmade_c _) rfl rfl rfl ?_; rintro v w ⟨B, Tp, q, fb, fp, rfl, hmu⟩ hS; replace hS := hS _ hmu; clear hmu)
      | (refine WL.calls hS rfl rfl (hawake_c _ (hp.at hS)) rfl rfl rfl ?_; rintro v w rfl hS))
    | (show WC _ _ _ _ _ _; first
      | refine WC.seq ?_
      | refine WC.region ?_
      | refine WC.block ?_
      | refine WC.skip ?_
      | refine WC.condF rfl (decide_eq_false (by first | with_reducible assumption | omega)) ?_)
    | refine seqQ_n ?_)
  refine WC.loop (σ := Nat × Bch × List Kr × List Ver × Nat × List Nat) [0, 1, 5] (fun (j, m, L, vs, N, fb) => [(6, .int .i64 (j : Int))])
    (fun (j, m, L, vs, N, fb) w => (j ≤ l.length ∧ NumIs l j m L vs N) ∧ St w0 [] w [bchC B (some ⟨Tp, 0, none⟩) m fb, tabC Tp q ⟨sysP, [], ⟨sysL, [], false⟩⟩ fp] [⟨w0, Old w0⟩]) (fun (j, _) => l.length - j) (0, [], [], [], 0, fb) ⟨⟨Nat.zero_le _, NumIs.zero l⟩, hS.droplast2 (by repeat (first | exact Pulls.nil | (apply Pulls.cons; focus (repeat (first | exact Pull.here | apply Pull.there)))))⟩ ⟨rfl, trivial⟩ ?_
  repeat (clear hS)
  rintro ⟨j, m, L, vs, N, fb⟩ g w ⟨⟨hj, hnu⟩, hS⟩
  show WC _ _ _ (lf _ [(6, .int .i64 (j : Int))] _ _) _ _
  have hN := hnu.hN
  have hml := hnu.hm
  have hcj := cntR_le l j
  by_cases hlt : j < l.length
  · obtain ⟨ga, go, es, rfl, hF, hr, A1, c1, rfl, _, hs1⟩ := hA.at_ hlt
    have hqr := hq _ (List.getElem_mem hlt)
    obtain ⟨hsm1, hsm2⟩ := hr_small hqr (Nat.le_refl _)
    have hnx := fun {k : Kr} {F : List (Nat × List UInt8)} {m1 : Bch} {vs1 : List Ver} {N1 : Nat} (a1 : k.r = numR j l[j]) (a2 : KrIs k) (a3 : AddIs [] m vs N (heldR k.cs) F m1 vs1 N1) (a4 : HisIs [] (noteE m1 ⟨hK (numR j l[j]).id, recE k, false⟩) (insH k L) vs1 N1) => hnu.next hlt a1 a2 a3 a4
    have hno := hnu.none_ hj
    have hok := fun (h : okR (l[j]).chgs = true) => (show HrOk (numR j l[j]) from by
      obtain ⟨⟨_, _, z1⟩, z2, z3⟩ := hqr
      refine hr_ok (r := numR j l[j]) (b := 1048576) ⟨⟨⟨?_, ?_⟩, ⟨?_, ?_⟩, z1⟩, z2, z3⟩ (Nat.le_refl _) ⟨?_, ?_⟩ ⟨?_, ?_⟩ ((okR_iff _).1 h) <;> (show _ ≤ _; simp only [numR]; omega))
    have hnum : numR j l[j] = ⟨((j + 1 : Nat) : Int), (j : Int), (l[j]).spoke, (l[j]).chgs⟩ := rfl
    rw [hnum] at hok hnx
    generalize l[j] = r at *
    obtain ⟨id, tick, spoke, cs⟩ := r
    dsimp only at hr hs1 hsm1 hsm2 hok hnx
    replace hr : w0.rangeAt ga (go + j * 4) [.int .i64 id, .int .i64 tick, .int .i64 spoke, .slice A1 cs.length c1] := hr
    have hh := hnu.his
    clear hA hq hqr hnu hnum hD hdb
    cases hw : okR cs
    · repeat' (first
        | (show WL _ _ _ _ _ _ _; first
          | refine WL.pure rfl rfl rfl rfl ?_
          | refine WL.nil ?_
          | refine WL.load hS rfl rfl (LdOk.box (by repeat (first | exact List.Mem.head _ | apply List.Mem.tail)) rfl) rfl rfl rfl ?_
          | refine WL.add rfl rfl rfl (by omega) rfl rfl rfl ?_
          | (refine WL.load hS rfl rfl (LdOk.snap0 hF hr (by repeat (first | exact List.Mem.head _ | apply List.Mem.tail)) rfl) rfl rfl rfl ?_)
          | (refine WL.calls hS rfl rfl (rwhole_c cs _ _ _ _ (hS.slO (by repeat (first | exact List.Mem.head _ | apply List.Mem.tail)) hs1) (by omega) hsm2) rfl rfl rfl ?_; rintro v w rfl hS; rw [hw])
          | (refine WL.store hS rfl rfl rfl (by repeat (first | exact StB.here rfl | apply StB.there)) rfl rfl rfl ?_; intro w hS)
          | (refine WL.alloc hS rfl rfl rfl rfl rfl rfl ?_; intro w b hS)
          | refine WL.index rfl rfl rfl rfl (by first | with_reducible assumption | omega) rfl rfl rfl rfl ?_)
        | (show WC _ _ _ _ _ _; first
          | refine WC.seq ?_
          | refine WC.region ?_
          | refine WC.block ?_
          | refine WC.skip ?_
          | refine WC.ret ?_
          | refine WC.condT rfl (by decide) ?_
          | refine WC.condT rfl (decide_eq_true (by first | with_reducible assumption | omega)) ?_)
        | refine seqQ_n ?_
        | refine seqQ_r ?_
        | refine blkQ_r ?_
        | refine rndQ_r ?_)
      exact fin1r rfl rfl ⟨hS.upd, rfl⟩
    · have hok := hok hw
      have he : ((j : Int) + 1) = ((j + 1 : Nat) : Int) := by omega
      repeat' (first
        | (show WL _ _ _ _ _ _ _; first
          | refine WL.pure rfl rfl rfl rfl ?_
          | refine WL.nil ?_
          | refine WL.load hS rfl rfl (LdOk.box (by repeat (first | exact List.Mem.head _ | apply List.Mem.tail)) rfl) rfl rfl rfl ?_
          | refine WL.add rfl rfl rfl (by omega) rfl rfl rfl ?_
          | (refine WL.load hS rfl rfl (LdOk.snap0 hF hr (by repeat (first | exact List.Mem.head _ | apply List.Mem.tail)) rfl) rfl rfl rfl ?_)
          | (refine WL.calls hS rfl rfl (rwhole_c cs _ _ _ _ (hS.slO (by repeat (first | exact List.Mem.head _ | apply List.Mem.tail)) hs1) (by omega) hsm2) rfl rfl rfl ?_; rintro v w rfl hS; rw [hw])
          | (refine WL.callL (D := [bchC B (some ⟨Tp, 0, none⟩) m fb, tabC Tp q ⟨sysP, [], ⟨sysL, [], false⟩⟩ fp]) hS (by repeat (first | exact Pulls.nil | (apply Pulls.cons; focus (repeat (first | exact Pull.here | apply Pull.there))))) rfl rfl (fun hI => hadd_c (L := L) (vs := vs) (N := N) ⟨((j + 1 : Nat) : Int), (j : Int), spoke, cs⟩ (A := A1) (cap := c1) (St.slY (hS.pulls (D := [bchC B (some ⟨Tp, 0, none⟩) m fb, tabC Tp q ⟨sysP, [], ⟨sysL, [], false⟩⟩ fp]) (by repeat (first | exact Pulls.nil | (apply Pulls.cons; focus (repeat (first | exact Pull.here | apply Pull.there)))))) (by repeat (first | exact List.Mem.head _ | apply List.Mem.tail)) hs1) hok hno hI (hp.pull hS (by repeat (first | exact Pulls.nil | (apply Pulls.cons; focus (repeat (first | exact Pull.here | apply Pull.there)))))) hh (by dsimp only; omega) (by omega)) rfl rfl rfl ?_; rintro v w ⟨rfl, k, m1, vs1, N1, F, fb1, hkr, hki, ha, hh2, hmu⟩ hS; replace hS := hS _ hmu; clear hmu; have hnu2 := hnx hkr hki ha hh2)
          | (refine WL.store hS rfl rfl rfl (by repeat (first | exact StB.here rfl | apply StB.there)) rfl rfl rfl ?_; intro w hS)
          | (refine WL.alloc hS rfl rfl rfl rfl rfl rfl ?_; intro w b hS)
          | refine WL.index rfl rfl rfl rfl (by first | with_reducible assumption | omega) rfl rfl rfl rfl ?_)
        | (show WC _ _ _ _ _ _; first
          | refine WC.seq ?_
          | refine WC.region ?_
          | refine WC.block ?_
          | refine WC.skip ?_
          | refine WC.condF rfl (by decide) ?_
          | refine WC.condT rfl (decide_eq_true (by first | with_reducible assumption | omega)) ?_)
        | refine seqQ_n ?_
        | refine blkQ_n ?_)
      exact rndQ_n (j + 1, _, L ++ [k], vs1, N1, fb1) ⟨⟨by omega, hnu2⟩, hS.droplast2 (by repeat (first | exact Pulls.nil | (apply Pulls.cons; focus (repeat (first | exact Pull.here | apply Pull.there)))))⟩ (by show l.length - (j + 1) < l.length - j; omega) ⟨vint (by omega), trivial⟩ ⟨rfl, rfl, rfl, trivial⟩
  have hje : j = l.length := by omega
  subst hje
  have hG := GonIs.start hnu
  obtain ⟨hLl, _⟩ := hnu.ids (Nat.le_refl _)
  have hvl := hnu.his.ch.len
  clear hlt hj hnu
  repeat' (first
    | (show WL _ _ _ _ _ _ _; first
      | refine WL.pure rfl rfl rfl rfl ?_
      | refine WL.nil ?_
      | refine WL.add rfl rfl rfl (by omega) rfl rfl rfl ?_
      | (refine WL.mkS (n := l.length + 1) (zs := [.bool false]) hS rfl rfl ⟨_, rfl, rfl⟩ rfl rfl (by omega) rfl rfl rfl ?_; intro w gb hS; rw [bools_rep] at hS))
    | (show WC _ _ _ _ _ _; first
      | refine WC.seq ?_
      | refine WC.region ?_
      | refine WC.block ?_
      | refine WC.exit ?_
      | refine WC.condF rfl (decide_eq_false (by first | with_reducible assumption | omega)) ?_)
    | refine seqQ_n ?_
    | refine seqQ_x ?_
    | refine blkQ_hit rfl ?_
    | refine rndQ_x ?_)
  refine WC.loop (σ := Nat × Bch × List Kr × List Ver × List Nat × List Bool) [0, 1, 5, 8] (fun (i, _) => [(9, .int .i64 (i : Int))])
    (fun (i, m1, L1, vs1, fb1, gone) w => (i ≤ drops.length ∧ GonIs l m L vs N m1 L1 vs1 gone) ∧ St w0 [] w [.own (.slice (some ⟨gb, 0, none⟩) (l.length + 1) (l.length + 1)) 4 1 (l.length + 1) (bools gone), bchC B (some ⟨Tp, 0, none⟩) m1 fb1, tabC Tp q ⟨sysP, [], ⟨sysL, [], false⟩⟩ fp] [⟨w0, Old w0⟩])
    (fun (i, _) => drops.length - i) (0, m, L, vs, fb, _) ⟨⟨Nat.zero_le _, hG⟩, hS.droplast2 (by repeat (first | exact Pulls.nil | (apply Pulls.cons; focus (repeat (first | exact Pull.here | apply Pull.there)))))⟩ ⟨rfl, trivial⟩ ?_
  repeat (clear hS)
  clear hG
  rintro ⟨i, m1, L1, vs1, fb1, gone⟩ g2 w ⟨⟨hi, hG⟩, hS⟩
  show WC _ _ _ (lf _ [(9, .int .i64 (i : Int))] _ _) _ _
  have hh := hG.his
  have hml1 := hG.m1len
  have hgl := hG.len
  by_cases hlt : i < drops.length ∧ i < 12
  · obtain ⟨hlt, hi12⟩ := hlt
    obtain ⟨rb, ro, es, rfl, hF, hr, hes⟩ := hD.at_ hlt
    have hes : es = [.int .i64 drops[i]] := hes
    subst hes
    have hr : w0.rangeAt rb (ro + i * 1) [.int .i64 drops[i]] := hr
    have hd12 := hdb drops[i] (List.getElem_mem hlt)
    generalize drops[i] = d at *
    have hcase : (∃ k, k < l.length ∧ d = ((k + 1 : Nat) : Int) ∧ gone[k + 1]? = some false) ∨ (∃ k, k < l.length ∧ d = ((k + 1 : Nat) : Int) ∧ gone[k + 1]? = some true) ∨ d < 1 ∨ (1 ≤ d ∧ (l.length : Int) < d) := by
      by_cases ho : d < 1
      · exact .inr (.inr (.inl ho))
      · by_cases ho2 : (l.length : Int) < d
        · exact .inr (.inr (.inr ⟨by omega, ho2⟩))
        · obtain ⟨k, hk⟩ : ∃ k : Nat, d = ((k + 1 : Nat) : Int) := ⟨(d - 1).toNat, by omega⟩
          have hkl : k + 1 < gone.length := by omega
          cases hg : gone[k + 1] with
          | false => exact .inl ⟨k, by omega, hk, by rw [List.getElem?_eq_getElem hkl, hg]⟩
          | true => exact .inr (.inl ⟨k, by omega, hk, by rw [List.getElem?_eq_getElem hkl, hg]⟩)
    clear hA hD hdb hq
    rcases hcase with ⟨k, hk, rfl, hg⟩ | ⟨k, hk, rfl, hg⟩ | ho | ⟨ho1, ho2⟩
    · obtain ⟨y, hy, hyr⟩ := hG.inn k hk hg
      have hyi : y.r.id = ((k + 1 : Nat) : Int) := by rw [hyr]; rfl
      have hgx : (bools gone)[(k + 1) * 1]? = some (.bool false) := by rw [Nat.mul_one]; exact bools_at hg
      have hset : (bools gone).take ((k + 1) * 1) ++ [.bool true] ++ (bools gone).drop ((k + 1) * 1 + 1) = bools (gone.set (k + 1) true) := by rw [Nat.mul_one]; exact bools_set (l := gone) true (by omega)
      have hbl : (bools gone).length = l.length + 1 := by unfold bools; rw [List.length_map]; exact hgl
      have hdrop := fun {m2 : Bch} {vs2 : List Ver} (a : GoneIs [] m1 vs1 N ((heldR y.cs).map Prod.fst) m2 vs2) (b : HisIs [] (noteE m2 ⟨hK y.r.id, [], true⟩) (delH L1 y.r.id) vs2 N) => hG.drop hy hyi a b
      have hr0 : ([] : Rws).length ≤ 549755813888 := by decide
      clear hG hyr
      repeat' (first
        | (show WL _ _ _ _ _ _ _; first
          | refine WL.pure rfl rfl rfl rfl ?_
          | refine WL.nil ?_
          | refine WL.add rfl rfl rfl (by omega) rfl rfl rfl ?_
          | (refine WL.load hS rfl rfl (LdOk.snap0 hF hr (by repeat (first | exact List.Mem.head _ | apply List.Mem.tail)) rfl) rfl rfl rfl ?_)
          | (refine WL.load hS rfl rfl (LdOk.ownAt (by repeat (first | exact List.Mem.head _ | apply List.Mem.tail)) rfl ⟨_, rfl⟩ hgx rfl) rfl rfl rfl ?_)
          | (refine WL.storeOwn (off := (k + 1) * 1) (vs := [.bool true]) hS rfl rfl rfl (by repeat (first | exact Repl.here | apply Repl.there)) (by show (k + 1) * 1 + 1 ≤ _; omega) rfl rfl rfl rfl ?_; intro w hS)
          | (refine WL.callL (D := [bchC B (some ⟨Tp, 0, none⟩) m1 fb1, tabC Tp q ⟨sysP, [], ⟨sysL, [], false⟩⟩ fp]) hS (by repeat (first | exact Pulls.nil | (apply Pulls.cons; focus (repeat (first | exact Pull.here | apply Pull.there))))) rfl (congrArg (fun n : Int => [Value.pointer (some ⟨B, 0, none⟩), Value.int IntKind.i64 n]) hyi.symm) (fun hI => hdrop_c y hy hI (hp.pull hS (by repeat (first | exact Pulls.nil | (apply Pulls.cons; focus (repeat (first | exact Pull.here | apply Pull.there)))))) hh (by omega) (by omega) hr0) rfl rfl rfl ?_; rintro v w ⟨rfl, m2, vs2, fb2, hgo, hh2, hmu⟩ hS; replace hS := hS _ hmu; clear hmu; have hG2 := hdrop hgo hh2)
          | refine WL.index rfl rfl rfl rfl (by first | with_reducible assumption | omega) rfl rfl rfl rfl ?_
          | ((fail_if_success (refine WL.wanted rfl ?_)); refine WL.guard rfl rfl rfl (fun h => ?_) (fun h => ?_) <;> (try simp only [Classical.not_not, Bool.not_eq_true', Bool.not_eq_false', Bool.not_eq_eq_eq_not, Bool.not_true, Bool.not_false, beq_iff_eq, beq_eq_false_iff_ne, ne_eq, decide_eq_decide, decide_eq_true_eq, decide_eq_false_iff_not, Bool.and_eq_true, Bool.or_eq_true, Bool.and_eq_false_iff, Bool.or_eq_false_iff] at h) <;> (try (exfalso; first | omega | contradiction))))
        | (show WC _ _ _ _ _ _; first
          | refine WC.seq ?_
          | refine WC.region ?_
          | refine WC.block ?_
          | refine WC.skip ?_
          | refine WC.condT rfl (by decide) ?_
          | refine WC.condF rfl (by decide) ?_
          | refine WC.condT rfl (decide_eq_true (by first | with_reducible assumption | omega)) ?_)
        | refine seqQ_n ?_
        | refine blkQ_n ?_)
      rw [show ([Value.bool true] : List Value).length = 1 from rfl, hset] at hS
      exact rndQ_n (i + 1, _, _, vs2, fb2, _) ⟨⟨by omega, hG2⟩, hS.droplast2 (by repeat (first | exact Pulls.nil | (apply Pulls.cons; focus (repeat (first | exact Pull.here | apply Pull.there)))))⟩ (by show drops.length - (i + 1) < drops.length - i; omega) ⟨vint (by omega), trivial⟩ ⟨rfl, rfl, rfl, rfl, trivial⟩
    · have hgx : (bools gone)[(k + 1) * 1]? = some (.bool true) := by rw [Nat.mul_one]; exact bools_at hg
      repeat' (first
        | (show WL _ _ _ _ _ _ _; first
          | refine WL.pure rfl rfl rfl rfl ?_
          | refine WL.nil ?_
          | refine WL.add rfl rfl rfl (by omega) rfl rfl rfl ?_
          | (refine WL.load hS rfl rfl (LdOk.snap0 hF hr (by repeat (first | exact List.Mem.head _ | apply List.Mem.tail)) rfl) rfl rfl rfl ?_)
          | (refine WL.load hS rfl rfl (LdOk.ownAt (by repeat (first | exact List.Mem.head _ | apply List.Mem.tail)) rfl ⟨_, rfl⟩ hgx rfl) rfl rfl rfl ?_)
          | refine WL.index rfl rfl rfl rfl (by first | with_reducible assumption | omega) rfl rfl rfl rfl ?_
          | ((fail_if_success (refine WL.wanted rfl ?_)); refine WL.guard rfl rfl rfl (fun h => ?_) (fun h => ?_) <;> (try simp only [Classical.not_not, Bool.not_eq_true', Bool.not_eq_false', Bool.not_eq_eq_eq_not, Bool.not_true, Bool.not_false, beq_iff_eq, beq_eq_false_iff_ne, ne_eq, decide_eq_decide, decide_eq_true_eq, decide_eq_false_iff_not, Bool.and_eq_true, Bool.or_eq_true, Bool.and_eq_false_iff, Bool.or_eq_false_iff] at h) <;> (try (exfalso; first | omega | contradiction))))
        | (show WC _ _ _ _ _ _; first
          | refine WC.seq ?_
          | refine WC.region ?_
          | refine WC.block ?_
          | refine WC.skip ?_
          | refine WC.condF rfl (by decide) ?_
          | refine WC.condT rfl (decide_eq_true (by first | with_reducible assumption | omega)) ?_)
        | refine seqQ_n ?_
        | refine blkQ_n ?_)
      exact rndQ_n (i + 1, m1, L1, vs1, fb1, gone) ⟨⟨by omega, hG⟩, hS⟩ (by show drops.length - (i + 1) < drops.length - i; omega) ⟨vint (by omega), trivial⟩ ⟨rfl, rfl, rfl, rfl, trivial⟩
    · repeat' (first
        | (show WL _ _ _ _ _ _ _; first
          | refine WL.pure rfl rfl rfl rfl ?_
          | refine WL.nil ?_
          | refine WL.add rfl rfl rfl (by omega) rfl rfl rfl ?_
          | (refine WL.load hS rfl rfl (LdOk.snap0 hF hr (by repeat (first | exact List.Mem.head _ | apply List.Mem.tail)) rfl) rfl rfl rfl ?_)
          | refine WL.index rfl rfl rfl rfl (by first | with_reducible assumption | omega) rfl rfl rfl rfl ?_
          | refine WL.skip rfl rfl rfl ?_
          | ((fail_if_success (refine WL.wanted rfl ?_)); refine WL.guard rfl rfl rfl (fun h => ?_) (fun h => ?_) <;> (try simp only [Classical.not_not, Bool.not_eq_true', Bool.not_eq_false', Bool.not_eq_eq_eq_not, Bool.not_true, Bool.not_false, beq_iff_eq, beq_eq_false_iff_ne, ne_eq, decide_eq_decide, decide_eq_true_eq, decide_eq_false_iff_not, Bool.and_eq_true, Bool.or_eq_true, Bool.and_eq_false_iff, Bool.or_eq_false_iff] at h) <;> (try (exfalso; first | omega | contradiction))))
        | (show WC _ _ _ _ _ _; first
          | refine WC.seq ?_
          | refine WC.region ?_
          | refine WC.block ?_
          | refine WC.skip ?_
          | refine WC.condF rfl (by with_reducible rfl) ?_
          | refine WC.condT rfl (decide_eq_true (by first | with_reducible assumption | omega)) ?_)
        | refine seqQ_n ?_
        | refine blkQ_n ?_)
      exact rndQ_n (i + 1, m1, L1, vs1, fb1, gone) ⟨⟨by omega, hG⟩, hS⟩ (by show drops.length - (i + 1) < drops.length - i; omega) ⟨vint (by omega), trivial⟩ ⟨rfl, rfl, rfl, rfl, trivial⟩
    · repeat' (first
        | (show WL _ _ _ _ _ _ _; first
          | refine WL.pure rfl rfl rfl rfl ?_
          | refine WL.nil ?_
          | refine WL.add rfl rfl rfl (by omega) rfl rfl rfl ?_
          | (refine WL.load hS rfl rfl (LdOk.snap0 hF hr (by repeat (first | exact List.Mem.head _ | apply List.Mem.tail)) rfl) rfl rfl rfl ?_)
          | refine WL.index rfl rfl rfl rfl (by first | with_reducible assumption | omega) rfl rfl rfl rfl ?_
          | refine WL.skip rfl rfl rfl ?_
          | ((fail_if_success (refine WL.wanted rfl ?_)); refine WL.guard rfl rfl rfl (fun h => ?_) (fun h => ?_) <;> (try simp only [Classical.not_not, Bool.not_eq_true', Bool.not_eq_false', Bool.not_eq_eq_eq_not, Bool.not_true, Bool.not_false, beq_iff_eq, beq_eq_false_iff_ne, ne_eq, decide_eq_decide, decide_eq_true_eq, decide_eq_false_iff_not, Bool.and_eq_true, Bool.or_eq_true, Bool.and_eq_false_iff, Bool.or_eq_false_iff] at h) <;> (try (exfalso; first | omega | contradiction))))
        | (show WC _ _ _ _ _ _; first
          | refine WC.seq ?_
          | refine WC.region ?_
          | refine WC.block ?_
          | refine WC.skip ?_
          | refine WC.condF rfl (by with_reducible rfl) ?_
          | refine WC.condT rfl (decide_eq_true (by first | with_reducible assumption | omega)) ?_)
        | refine seqQ_n ?_
        | refine blkQ_n ?_)
      exact rndQ_n (i + 1, m1, L1, vs1, fb1, gone) ⟨⟨by omega, hG⟩, hS⟩ (by show drops.length - (i + 1) < drops.length - i; omega) ⟨vint (by omega), trivial⟩ ⟨rfl, rfl, rfl, rfl, trivial⟩
  have hlt2 : drops.length ≤ i ∨ (i < drops.length ∧ 12 ≤ i) := by omega
  clear hlt hD hdb hml hml1
  rcases hlt2 with hlt2 | hlt2
  all_goals
    repeat' (first
      | (show WL _ _ _ _ _ _ _; first
        | refine WL.pure rfl rfl rfl rfl ?_
        | refine WL.nil ?_
        | refine WL.skip rfl rfl rfl ?_
        | ((fail_if_success (refine WL.wanted rfl ?_)); refine WL.guard rfl rfl rfl (fun h => ?_) (fun h => ?_) <;> (try simp only [Classical.not_not, Bool.not_eq_true', Bool.not_eq_false', Bool.not_eq_eq_eq_not, Bool.not_true, Bool.not_false, beq_iff_eq, beq_eq_false_iff_ne, ne_eq, decide_eq_decide, decide_eq_true_eq, decide_eq_false_iff_not, Bool.and_eq_true, Bool.or_eq_true, Bool.and_eq_false_iff, Bool.or_eq_false_iff] at h) <;> (try (exfalso; first | omega | contradiction))))
      | (show WC _ _ _ _ _ _; first
        | refine WC.seq ?_
        | refine WC.region ?_
        | refine WC.block ?_
        | refine WC.exit ?_
        | refine WC.condF rfl (by with_reducible rfl) ?_
        | refine WC.condF rfl (decide_eq_false (by first | with_reducible assumption | omega)) ?_)
      | refine seqQ_n ?_
      | refine seqQ_x ?_
      | refine blkQ_hit rfl ?_
      | refine rndQ_x ?_)
    refine WC.loop (σ := Nat) [0, 5, 8] (fun j => [(10, .int .i64 (j : Int))]) (fun j w => j ≤ l.length ∧ St w0 [] w [.own (.slice (some ⟨gb, 0, none⟩) (l.length + 1) (l.length + 1)) 4 1 (l.length + 1) (bools gone), bchC B (some ⟨Tp, 0, none⟩) m1 fb1, tabC Tp q ⟨sysP, [], ⟨sysL, [], false⟩⟩ fp] [⟨w0, Old w0⟩])
      (fun j => l.length - j) 0 ⟨Nat.zero_le _, hS⟩ ⟨rfl, trivial⟩ ?_
    repeat (clear hS)
    rintro j g3 w ⟨hj, hS⟩
    show WC _ _ _ (lf _ [(10, .int .i64 (j : Int))] _ _) _ _
    by_cases hjl : j < l.length
    rotate_left
    · repeat' (first
        | (show WL _ _ _ _ _ _ _; first
          | refine WL.pure rfl rfl rfl rfl ?_
          | refine WL.nil ?_)
        | (show WC _ _ _ _ _ _; first
          | refine WC.seq ?_
          | refine WC.region ?_
          | refine WC.exit ?_
          | refine WC.ret ?_
          | refine WC.condF rfl (decide_eq_false (by first | with_reducible assumption | omega)) ?_)
        | refine seqQ_n ?_
        | refine seqQ_x ?_
        | refine blkQ_hit rfl ?_
        | refine rndQ_x ?_)
      exact fin1r rfl rfl ⟨hS.upd, rfl⟩
    have he0 : ((j : Int) + 1) = ((j + 1 : Nat) : Int) := by omega
    have hjg : j + 1 < gone.length := by omega
    obtain ⟨ga, go, es, rfl, hF, hr, A1, c1, rfl, _, hs1⟩ := hA.at_ hjl
    have hqr := hq _ (List.getElem_mem hjl)
    obtain ⟨hsm1, hsm2⟩ := hr_small hqr (Nat.le_refl _)
    cases hgj : gone[j + 1] with
    | true =>
      have hgj2 : gone[j + 1]? = some true := by rw [List.getElem?_eq_getElem hjg, hgj]
      have hgx : (bools gone)[(j + 1) * 1]? = some (.bool true) := by rw [Nat.mul_one]; exact bools_at hgj2
      have hno := hG.out j hgj2
      clear hgj hgj2 hjg hG hq hqr hA hr hs1 hsm2
      repeat' (first
        | (show WL _ _ _ _ _ _ _; first
          | refine WL.pure rfl rfl rfl rfl ?_
          | refine WL.nil ?_
          | refine WL.load hS rfl rfl (LdOk.box (by repeat (first | exact List.Mem.head _ | apply List.Mem.tail)) rfl) rfl rfl rfl ?_
          | refine WL.add rfl rfl rfl (by omega) rfl rfl rfl ?_
          | (refine WL.callL (D := [bchC B (some ⟨Tp, 0, none⟩) m1 fb1, tabC Tp q ⟨sysP, [], ⟨sysL, [], false⟩⟩ fp]) hS (by repeat (first | exact Pulls.nil | (apply Pulls.cons; focus (repeat (first | exact Pull.here | apply Pull.there))))) rfl rfl (fun hI => hgetNo_c ((j + 1 : Nat) : Int) (by omega) (by omega) hI (hp.pull hS (by repeat (first | exact Pulls.nil | (apply Pulls.cons; focus (repeat (first | exact Pull.here | apply Pull.there)))))) hh hno) rfl rfl rfl ?_; rintro v w ⟨rfl, hmu⟩ hS; replace hS := hS _ hmu; clear hmu)
          | (refine WL.index (j := j + 1) (n := l.length + 1) rfl rfl rfl rfl (by omega) rfl rfl rfl rfl ?_)
          | (refine WL.load hS rfl rfl (LdOk.ownAt (by repeat (first | exact List.Mem.head _ | apply List.Mem.tail)) rfl ⟨_, rfl⟩ hgx rfl) rfl rfl rfl ?_)
          | (refine WL.store hS rfl rfl rfl (by repeat (first | exact StB.here rfl | apply StB.there)) rfl rfl rfl ?_; intro w hS)
          | (refine WL.alloc hS rfl rfl rfl rfl rfl rfl ?_; intro w b hS))
        | (show WC _ _ _ _ _ _; first
          | refine WC.seq ?_
          | refine WC.region ?_
          | refine WC.block ?_
          | refine WC.skip ?_
          | refine WC.exit ?_
          | refine WC.condT rfl (by with_reducible rfl) ?_
          | refine WC.condF rfl (by decide) ?_
          | refine WC.condT rfl (decide_eq_true (by first | with_reducible assumption | omega)) ?_)
        | refine seqQ_n ?_
        | refine seqQ_x ?_
        | refine blkQ_hit rfl ?_)
      exact rndQ_n (j + 1) ⟨by omega, hS.droplast2 (by repeat (first | exact Pulls.nil | (apply Pulls.cons; focus (repeat (first | exact Pull.here | apply Pull.there)))))⟩ (by show l.length - (j + 1) < l.length - j; omega) ⟨vint (by omega), trivial⟩ ⟨rfl, rfl, rfl, trivial⟩
    | false =>
      have hgj2 : gone[j + 1]? = some false := by rw [List.getElem?_eq_getElem hjg, hgj]
      have hgx : (bools gone)[(j + 1) * 1]? = some (.bool false) := by rw [Nat.mul_one]; exact bools_at hgj2
      obtain ⟨⟨r', csk⟩, hy, hyr⟩ := hG.inn j hjl hgj2
      have hyr : r' = ⟨((j + 1 : Nat) : Int), (j : Int), (l[j]).spoke, (l[j]).chgs⟩ := hyr
      generalize l[j] = r at *
      obtain ⟨id, tick, spoke, cs⟩ := r
      dsimp only at hr hs1 hsm1 hsm2 hyr
      replace hr : w0.rangeAt ga (go + j * 4) [.int .i64 id, .int .i64 tick, .int .i64 spoke, .slice A1 cs.length c1] := hr
      subst hyr
      clear hgj hgj2 hjg hG hq hqr hA hsm2
      repeat' (first
        | (show WL _ _ _ _ _ _ _; first
          | refine WL.pure rfl rfl rfl rfl ?_
          | refine WL.nil ?_
          | refine WL.add rfl rfl rfl (by omega) rfl rfl rfl ?_
          | (refine WL.callL (D := [bchC B (some ⟨Tp, 0, none⟩) m1 fb1, tabC Tp q ⟨sysP, [], ⟨sysL, [], false⟩⟩ fp]) hS (by repeat (first | exact Pulls.nil | (apply Pulls.cons; focus (repeat (first | exact Pull.here | apply Pull.there))))) rfl rfl (fun hI => hget_c (L := L1) (vs := vs1) (N := N) ⟨⟨((j + 1 : Nat) : Int), (j : Int), spoke, cs⟩, csk⟩ hy hI (hp.pull hS (by repeat (first | exact Pulls.nil | (apply Pulls.cons; focus (repeat (first | exact Pull.here | apply Pull.there)))))) hh (by omega)) rfl rfl rfl ?_; rintro v w ⟨A, cap, rfl, hmu⟩ hS; replace hS := hS _ hmu; clear hmu)
          | (refine WL.index (j := j + 1) (n := l.length + 1) rfl rfl rfl rfl (by omega) rfl rfl rfl rfl ?_)
          | (refine WL.load hS rfl rfl (LdOk.ownAt (by repeat (first | exact List.Mem.head _ | apply List.Mem.tail)) rfl ⟨_, rfl⟩ hgx rfl) rfl rfl rfl ?_)
          | (refine WL.store hS rfl rfl rfl (by repeat (first | exact StB.here rfl | apply StB.there)) rfl rfl rfl ?_; intro w hS)
          | (refine WL.alloc hS rfl rfl rfl rfl rfl rfl ?_; intro w b hS))
        | (show WC _ _ _ _ _ _; first
          | refine WC.seq ?_
          | refine WC.region ?_
          | refine WC.block ?_
          | refine WC.skip ?_
          | (show WC _ _ (Code.region _ (List.toArray [_, _, _, _, _, _, _, _, _, _, _, _, _, _, _, _, _, _, _, _, _, _, _, _, _, _, _, _, _, _, _, _, _, _, _, _]) true) _ _ _; refine WC.drawS hS [0,1,2,3,4,5,6,7,8,9,10,11,12,13,14,15,16,17,18,19,20,21,22,23,24,25,26,27,28,29,30,31,32,34,35] [0,1,2,3,4,5,6,7,8,9,10,11,12,13,14,15,16,17,18,19,20,21,22,23,24,25,26,27,28,29,30,31,32,33,34,35] (by kernel_rfl) (by kernel_rfl) ?_; clear hS; intro w hS hM)
          | refine WC.condF rfl (by with_reducible rfl) ?_
          | refine WC.condF rfl (by decide) ?_
          | refine WC.condT rfl (decide_eq_true (by first | with_reducible assumption | omega)) ?_)
        | (show WD _ _ _ _ _ _ _ _ _; first
          | refine WD.pure rfl rfl rfl rfl rfl ?_
          | refine WD.nil ?_
          | refine WD.load rfl rfl (LdOk.box (by repeat (first | exact List.Mem.head _ | apply List.Mem.tail)) rfl) rfl rfl rfl rfl ?_
          | refine WD.add rfl rfl rfl (by omega) rfl rfl rfl rfl ?_
          | (refine WD.load rfl rfl (LdOk.snap (off := 2) hF hr (by repeat (first | exact List.Mem.head _ | apply List.Mem.tail)) rfl) rfl rfl rfl rfl ?_)
          | (refine WD.load rfl rfl (LdOk.snap (off := 3) hF hr (by repeat (first | exact List.Mem.head _ | apply List.Mem.tail)) rfl) rfl rfl rfl rfl ?_)
          | (refine WD.calls hS hM rfl rfl (rsamec_c cs _ (St.ownSl (enc := encHc) (hsz := fun _ => rfl) (l := cs) (by decide) hS (by repeat (first | exact List.Mem.head _ | apply List.Mem.tail))) (hS.slO (by repeat (first | exact List.Mem.head _ | apply List.Mem.tail)) hs1) (by omega)) rfl rfl rfl rfl rfl ?_; clear hS; rintro v w rfl hS)
          | refine WD.index rfl rfl rfl rfl (by first | with_reducible assumption | omega) rfl rfl rfl rfl rfl ?_
          | ((fail_if_success (refine WD.wanted rfl ?_)); refine WD.guard rfl rfl rfl (fun h => ?_) (fun h => ?_) <;> (try simp only [Classical.not_not, Bool.not_eq_true', Bool.not_eq_false', Bool.not_eq_eq_eq_not, Bool.not_true, Bool.not_false, beq_iff_eq, beq_eq_false_iff_ne, ne_eq, decide_eq_decide, decide_eq_true_eq, decide_eq_false_iff_not, Bool.and_eq_true, Bool.or_eq_true, Bool.and_eq_false_iff, Bool.or_eq_false_iff] at h) <;> (try (exfalso; first | omega | contradiction))))
        | refine seqQ_n ?_)
      obtain ⟨xb, hxb⟩ : ∃ x, x = b := ⟨_, rfl⟩
      subst hxb
      refine WC.loop (σ := Nat) [0, 5, 8, 10, 11] (fun k => [(13, .int .i64 (k : Int))]) (fun k w => k ≤ cs.length ∧ St w0 [] w [.own (.slice A cs.length cap) 79 14 cs.length (hcs cs), .box xb 24 [.int .i64 ((j + 1 : Nat) : Int), .int .i64 (j : Int), .int .i64 spoke, .slice A cs.length cap], .own (.slice (some ⟨gb, 0, none⟩) (l.length + 1) (l.length + 1)) 4 1 (l.length + 1) (bools gone), bchC B (some ⟨Tp, 0, none⟩) m1 fb1, tabC Tp q ⟨sysP, [], ⟨sysL, [], false⟩⟩ fp] [⟨w0, Old w0⟩])
        (fun k => cs.length - k) 0 ⟨Nat.zero_le _, hS.droplast2 (by repeat (first | exact Pulls.nil | (apply Pulls.cons; focus (repeat (first | exact Pull.here | apply Pull.there)))))⟩ ⟨rfl, trivial⟩ ?_
      repeat (clear hS)
      rintro k g4 w ⟨hk, hS⟩
      show WC _ _ _ (lf _ [(13, .int .i64 (k : Int))] _ _) _ _
      by_cases hkl : k < cs.length
      rotate_left
      · repeat' (first
          | (show WL _ _ _ _ _ _ _; first
            | refine WL.pure rfl rfl rfl rfl ?_
            | refine WL.nil ?_
            | refine WL.add rfl rfl rfl (by omega) rfl rfl rfl ?_
            | (refine WL.load hS rfl rfl (LdOk.snap (off := 3) hF hr (by repeat (first | exact List.Mem.head _ | apply List.Mem.tail)) rfl) rfl rfl rfl ?_)
            | refine WL.index rfl rfl rfl rfl (by first | with_reducible assumption | omega) rfl rfl rfl rfl ?_)
          | (show WC _ _ _ _ _ _; first
            | refine WC.seq ?_
            | refine WC.region ?_
            | refine WC.exit ?_
            | refine WC.condF rfl (decide_eq_false (by first | with_reducible assumption | omega)) ?_)
          | refine seqQ_n ?_
          | refine blkQ_n ?_
          | refine seqQ_x ?_
          | refine blkQ_hit rfl ?_
          | refine rndQ_x ?_)
        exact rndQ_n (j + 1) ⟨by omega, hS.droplast2 (by repeat (first | exact Pulls.nil | (apply Pulls.cons; focus (repeat (first | exact Pull.here | apply Pull.there)))))⟩ (by show l.length - (j + 1) < l.length - j; omega) ⟨vint (by omega), trivial⟩ ⟨rfl, rfl, rfl, trivial⟩
      obtain ⟨gc, gd, es, rfl, hF2, hr2, hes2⟩ := hs1.at_ hkl
      have hes2 : es = encHc cs[k] := hes2
      subst hes2
      replace hr2 : w0.rangeAt gc (gd + k * 14) (encHc cs[k]) := hr2
      have hth := bef_there (List.getElem_mem hkl)
      have herr := bef_err cs (cs[k]).path
      have hbf := fun {A : Option Addr} {cap : Nat} (w : World) (h : SlAt cHc (Old w) w A cs) => hbefore_c (cap := cap) cs ((j + 1 : Nat) : Int) (j : Int) spoke 0 (cs[k]).path w h (by omega)
      have hst := fun (kd : Int) (dt : List UInt8) (h0 : befE cs 0 (cs[k]).path = (⟨kd, dt⟩, 0)) (w : World) (h : SlAt cHc (Old w) w (some ⟨gc, gd, none⟩) cs) => stood_c (cap := c1) cs id tick spoke (cs[k]).path kd dt w h h0 (by omega)
      generalize cs[k] = c at *
      generalize befE cs 0 c.path = be at *
      obtain ⟨⟨kd, dt⟩, e⟩ := be
      dsimp only at hth herr hbf
      have hst := fun (h : e = 0) => hst kd dt (by rw [h])
      have hcase : (e = 0 ∧ ndEq c.o0 c.n0 = false) ∨ (e = 0 ∧ ndEq c.o0 c.n0 = true) ∨ (e = 11 ∧ ndEq c.o0 c.n0 = true) := by
        cases he : ndEq c.o0 c.n0
        · exact .inl ⟨hth he, rfl⟩
        · rcases herr with h0 | h0
          · exact .inr (.inl ⟨h0, rfl⟩)
          · exact .inr (.inr ⟨h0, rfl⟩)
      unfold encHc at hr2
      unfold ndEq at hcase
      clear hth herr hy hyr
      rcases hcase with ⟨rfl, he⟩ | ⟨rfl, he⟩ | ⟨rfl, he⟩
      · have hst := hst rfl
        repeat' (first
          | (show WL _ _ _ _ _ _ _; first
            | refine WL.pure rfl rfl rfl rfl ?_
            | refine WL.nil ?_
            | refine WL.load hS rfl rfl (LdOk.box (by repeat (first | exact List.Mem.head _ | apply List.Mem.tail)) rfl) rfl rfl rfl ?_
            | refine WL.add rfl rfl rfl (by omega) rfl rfl rfl ?_
            | (refine WL.load hS rfl rfl (LdOk.snap (off := 3) hF hr (by repeat (first | exact List.Mem.head _ | apply List.Mem.tail)) rfl) rfl rfl rfl ?_)
            | (refine WL.load hS rfl rfl (LdOk.snap0 hF2 hr2 (by repeat (first | exact List.Mem.head _ | apply List.Mem.tail)) rfl) rfl rfl rfl ?_)
            | (refine WL.calls hS rfl rfl (hbf _ (St.ownSl (enc := encHc) (hsz := fun _ => rfl) (l := cs) (by decide) hS (by repeat (first | exact List.Mem.head _ | apply List.Mem.tail)))) rfl rfl rfl ?_; rintro v w rfl hS)
            | (refine WL.store hS rfl rfl rfl (by repeat (first | exact StB.here rfl | apply StB.there)) rfl rfl rfl ?_; intro w hS)
            | (refine WL.alloc hS rfl rfl rfl rfl rfl rfl ?_; intro w b hS)
            | refine WL.index rfl rfl rfl rfl (by first | with_reducible assumption | omega) rfl rfl rfl rfl ?_)
          | (show WC _ _ _ _ _ _; first
            | refine WC.seq ?_
            | refine WC.region ?_
            | refine WC.block ?_
            | refine WC.skip ?_
            | (show WC _ _ (Code.region _ (List.toArray [_, _, _, _, _, _, _, _, _, _, _, _, _, _, _, _, _, _, _, _, _, _, _, _, _, _]) true) _ _ _; refine WC.drawS hS [0,1,2,3,4,5,6,7,8,9,10,11,12,13,14,15,16,17,18,19,20,21,23,24,25] [0,1,2,3,4,5,6,7,8,9,10,11,12,13,14,15,16,17,18,19,20,21,22,23,24,25] (by kernel_rfl) (by kernel_rfl) ?_; clear hS; intro w hS hM)
            | refine WC.condF rfl (by decide) ?_
            | refine WC.condT rfl (decide_eq_true (by first | with_reducible assumption | omega)) ?_)
          | (show WD _ _ _ _ _ _ _ _ _; first
            | refine WD.pure rfl rfl rfl rfl rfl ?_
            | refine WD.nil ?_
            | refine WD.load rfl rfl (LdOk.box (by repeat (first | exact List.Mem.head _ | apply List.Mem.tail)) rfl) rfl rfl rfl rfl ?_
            | (refine WD.neS rfl rfl rfl (show some (decide (c.o0.kind = c.n0.kind) && decide (c.o0.data = c.n0.data)) = some false from congrArg some he) (by kernel_rfl) rfl rfl rfl rfl ?_)
            | (refine WD.load rfl rfl (LdOk.snap0 hF hr (by repeat (first | exact List.Mem.head _ | apply List.Mem.tail)) rfl) rfl rfl rfl rfl ?_)
            | (refine WD.calls hS hM rfl rfl (hst _ (hS.slO (by repeat (first | exact List.Mem.head _ | apply List.Mem.tail)) hs1)) rfl rfl rfl rfl rfl ?_; clear hS; rintro v w rfl hS)
            | refine WD.index rfl rfl rfl rfl (by first | with_reducible assumption | omega) rfl rfl rfl rfl rfl ?_
            | refine WD.indexArr rfl rfl rfl rfl (by decide) rfl rfl rfl rfl ?_)
          | refine seqQ_n ?_
          | refine blkQ_n ?_)
        exact rndQ_n (k + 1) ⟨by omega, hS.droplast2 (by repeat (first | exact Pulls.nil | (apply Pulls.cons; focus (repeat (first | exact Pull.here | apply Pull.there)))))⟩ (by show cs.length - (k + 1) < cs.length - k; omega) ⟨vint (by omega), trivial⟩ ⟨rfl, rfl, rfl, rfl, rfl, trivial⟩
      · have hst := hst rfl
        repeat' (first
          | (show WL _ _ _ _ _ _ _; first
            | refine WL.pure rfl rfl rfl rfl ?_
            | refine WL.nil ?_
            | refine WL.load hS rfl rfl (LdOk.box (by repeat (first | exact List.Mem.head _ | apply List.Mem.tail)) rfl) rfl rfl rfl ?_
            | refine WL.add rfl rfl rfl (by omega) rfl rfl rfl ?_
            | (refine WL.load hS rfl rfl (LdOk.snap (off := 3) hF hr (by repeat (first | exact List.Mem.head _ | apply List.Mem.tail)) rfl) rfl rfl rfl ?_)
            | (refine WL.load hS rfl rfl (LdOk.snap0 hF2 hr2 (by repeat (first | exact List.Mem.head _ | apply List.Mem.tail)) rfl) rfl rfl rfl ?_)
            | (refine WL.calls hS rfl rfl (hbf _ (St.ownSl (enc := encHc) (hsz := fun _ => rfl) (l := cs) (by decide) hS (by repeat (first | exact List.Mem.head _ | apply List.Mem.tail)))) rfl rfl rfl ?_; rintro v w rfl hS)
            | (refine WL.store hS rfl rfl rfl (by repeat (first | exact StB.here rfl | apply StB.there)) rfl rfl rfl ?_; intro w hS)
            | (refine WL.alloc hS rfl rfl rfl rfl rfl rfl ?_; intro w b hS)
            | refine WL.index rfl rfl rfl rfl (by first | with_reducible assumption | omega) rfl rfl rfl rfl ?_)
          | (show WC _ _ _ _ _ _; first
            | refine WC.seq ?_
            | refine WC.region ?_
            | refine WC.block ?_
            | refine WC.skip ?_
            | (show WC _ _ (Code.region _ (List.toArray [_, _, _, _, _, _, _, _, _, _, _, _, _, _, _, _, _, _, _, _, _, _, _, _, _, _]) true) _ _ _; refine WC.drawS hS [0,1,2,3,4,5,6,7,8,9,10,11,12,13,14,15,16,17,18,19,20,21,23,24,25] [0,1,2,3,4,5,6,7,8,9,10,11,12,13,14,15,16,17,18,19,20,21,22,23,24,25] (by kernel_rfl) (by kernel_rfl) ?_; clear hS; intro w hS hM)
            | refine WC.condF rfl (by decide) ?_
            | refine WC.condT rfl (decide_eq_true (by first | with_reducible assumption | omega)) ?_)
          | (show WD _ _ _ _ _ _ _ _ _; first
            | refine WD.pure rfl rfl rfl rfl rfl ?_
            | refine WD.nil ?_
            | refine WD.load rfl rfl (LdOk.box (by repeat (first | exact List.Mem.head _ | apply List.Mem.tail)) rfl) rfl rfl rfl rfl ?_
            | (refine WD.neS rfl rfl rfl (show some (decide (c.o0.kind = c.n0.kind) && decide (c.o0.data = c.n0.data)) = some true from congrArg some he) (by kernel_rfl) rfl rfl rfl rfl ?_)
            | (refine WD.load rfl rfl (LdOk.snap0 hF hr (by repeat (first | exact List.Mem.head _ | apply List.Mem.tail)) rfl) rfl rfl rfl rfl ?_)
            | (refine WD.calls hS hM rfl rfl (hst _ (hS.slO (by repeat (first | exact List.Mem.head _ | apply List.Mem.tail)) hs1)) rfl rfl rfl rfl rfl ?_; clear hS; rintro v w rfl hS)
            | refine WD.index rfl rfl rfl rfl (by first | with_reducible assumption | omega) rfl rfl rfl rfl rfl ?_
            | refine WD.indexArr rfl rfl rfl rfl (by decide) rfl rfl rfl rfl ?_
            | refine WD.pass rfl rfl rfl rfl ?_)
          | refine seqQ_n ?_
          | refine blkQ_n ?_)
        exact rndQ_n (k + 1) ⟨by omega, hS.droplast2 (by repeat (first | exact Pulls.nil | (apply Pulls.cons; focus (repeat (first | exact Pull.here | apply Pull.there)))))⟩ (by show cs.length - (k + 1) < cs.length - k; omega) ⟨vint (by omega), trivial⟩ ⟨rfl, rfl, rfl, rfl, rfl, trivial⟩
      · clear hst
        repeat' (first
          | (show WL _ _ _ _ _ _ _; first
            | refine WL.pure rfl rfl rfl rfl ?_
            | refine WL.nil ?_
            | refine WL.load hS rfl rfl (LdOk.box (by repeat (first | exact List.Mem.head _ | apply List.Mem.tail)) rfl) rfl rfl rfl ?_
            | refine WL.add rfl rfl rfl (by omega) rfl rfl rfl ?_
            | (refine WL.load hS rfl rfl (LdOk.snap (off := 3) hF hr (by repeat (first | exact List.Mem.head _ | apply List.Mem.tail)) rfl) rfl rfl rfl ?_)
            | (refine WL.load hS rfl rfl (LdOk.snap0 hF2 hr2 (by repeat (first | exact List.Mem.head _ | apply List.Mem.tail)) rfl) rfl rfl rfl ?_)
            | (refine WL.calls hS rfl rfl (hbf _ (St.ownSl (enc := encHc) (hsz := fun _ => rfl) (l := cs) (by decide) hS (by repeat (first | exact List.Mem.head _ | apply List.Mem.tail)))) rfl rfl rfl ?_; rintro v w rfl hS)
            | (refine WL.store hS rfl rfl rfl (by repeat (first | exact StB.here rfl | apply StB.there)) rfl rfl rfl ?_; intro w hS)
            | (refine WL.alloc hS rfl rfl rfl rfl rfl rfl ?_; intro w b hS)
            | refine WL.index rfl rfl rfl rfl (by first | with_reducible assumption | omega) rfl rfl rfl rfl ?_)
          | (show WC _ _ _ _ _ _; first
            | refine WC.seq ?_
            | refine WC.region ?_
            | refine WC.block ?_
            | refine WC.skip ?_
            | (show WC _ _ (Code.region _ (List.toArray [_, _, _, _, _, _, _, _, _, _, _, _, _, _, _, _, _, _, _, _, _, _, _, _, _, _]) true) _ _ _; refine WC.drawS hS [0,1,2,3,4,5,6,7,8,9,10,11,12,13,14,15,16,17,18,19,20,21,23,24,25] [0,1,2,3,4,5,6,7,8,9,10,11,12,13,14,15,16,17,18,19,20,21,22,23,24,25] (by kernel_rfl) (by kernel_rfl) ?_; clear hS; intro w hS hM)
            | refine WC.condF rfl (by with_reducible rfl) ?_
            | refine WC.condT rfl (decide_eq_true (by first | with_reducible assumption | omega)) ?_)
          | (show WD _ _ _ _ _ _ _ _ _; first
            | refine WD.pure rfl rfl rfl rfl rfl ?_
            | refine WD.nil ?_
            | refine WD.load rfl rfl (LdOk.box (by repeat (first | exact List.Mem.head _ | apply List.Mem.tail)) rfl) rfl rfl rfl rfl ?_
            | (refine WD.neS rfl rfl rfl (show some (decide (c.o0.kind = c.n0.kind) && decide (c.o0.data = c.n0.data)) = some true from congrArg some he) (by kernel_rfl) rfl rfl rfl rfl ?_)
            | refine WD.indexArr rfl rfl rfl rfl (by decide) rfl rfl rfl rfl ?_
            | refine WD.pass rfl rfl rfl rfl ?_
            | refine WD.skip rfl rfl rfl rfl rfl (hM.ss hS) ?_)
          | refine seqQ_n ?_
          | refine blkQ_n ?_)
        exact rndQ_n (k + 1) ⟨by omega, hS.droplast2 (by repeat (first | exact Pulls.nil | (apply Pulls.cons; focus (repeat (first | exact Pull.here | apply Pull.there)))))⟩ (by show cs.length - (k + 1) < cs.length - k; omega) ⟨vint (by omega), trivial⟩ ⟨rfl, rfl, rfl, rfl, rfl, trivial⟩
end Go.Proofs.YtobfdeiimnnanaaGreatDoor

/- What is proved: the key of HistoryHolds: with the table laid, the law answers true. Conditions: the statement's own bound on the bulk. -/
set_option linter.unusedSimpArgs false
set_option linter.unusedVariables false
namespace Go.Proofs.YtobfdeiimnnanaaGreatDoor
open Go Go.J Go.RowKit
theorem ql_ints : ∀ {l : List Int} {b : Nat}, QL QInt l b → (∀ d ∈ l, -9223372036854775808 ≤ d ∧ d ≤ 9223372036854775807) ∧ l.length ≤ b
  | l, b, ⟨bs, hl, hq, hs⟩ => by
    refine ⟨fun d hd => ?_, ?_⟩
    · obtain ⟨i, hi, rfl⟩ := List.getElem_of_mem hd
      have := hq i hi (by omega)
      exact ⟨this.1, this.2.1⟩
    · have : l.length ≤ bs.sum := by
        clear hs
        induction l generalizing bs with
        | nil => exact Nat.zero_le _
        | cons c cs ih =>
          match bs, hl with
          | b0 :: bs, hl =>
            have h0 := (hq 0 (by simp) (by simp)).2.2
            simp only [List.getElem_cons_zero] at h0
            have := ih bs (by simpa using hl) fun i h h' => by have := hq (i + 1) (by simpa using h) (by simpa using h'); simpa using this
            simp only [List.length_cons, List.sum_cons]
            omega
      omega
theorem historyHolds.key_historyHolds (W : World) (hL : laidMet Tryz.prog Rows.historyHoldsUptoRow.laid W) (v0 v1 : Value) (y0 : List Hr) (y1 : List Int) (b0 b1 : Nat) (h0 : ASl cHr W v0 y0) (h1 : ASl cInt W v1 y1) (q0 : QL QHr y0 b0) (q1 : QL QInt y1 b1) (hb : b0 + b1 ≤ 1048576) :
    Cal Tryz.prog 7 [v0, v1] W (fun v W' => Upd [] W W' ∧ v = .bool true) := by
  obtain ⟨A0, c0, rfl, k0, h0⟩ := h0
  obtain ⟨A1, c1, rfl, k1, h1⟩ := h1
  obtain ⟨z1, z2, z3⟩ := ql_hrs q0
  obtain ⟨x1, x2⟩ := ql_ints q1
  refine historyHolds_c y0 y1 W h0 h1 (fun r hr => ?_) x1 (by omega) (by omega) (by omega) (pow_historyHolds W hL)
  obtain ⟨a, b, c⟩ := z1 r hr
  exact ⟨a, b, by omega⟩
end Go.Proofs.YtobfdeiimnnanaaGreatDoor
