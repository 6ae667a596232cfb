/- What is proved: contracts and plain facts that the law leans on (texts put together). Conditions: as each names them. -/
import Derived.Test.YtobfdeiimnnanaaGreatDoorM5
import Derived.Lib.LaidTab
import Derived.Stop.LaidErr
set_option linter.unusedSimpArgs false
set_option linter.unusedVariables false
/- What is proved: what the document's Place, Add, Drop and Enforce answer. Conditions: lists of bounded length. -/
namespace Go.J
open Go Go.RowKit
section
variable {P : Program} {N : Nat} {f : Fr} {w w0 : World} {Q : Post} {ops : List Oper} {M : List Nat} {H0 H H' : List Chunk} {Z0 Z : List Snap} {q : Qs} {l : List Nat} {i : Nat}
theorem WD.slit0 {t e : TypeId} {n size : Nat} {ps : List (Nat × Operand)} (hS : St w0 M w H Z) (hM : More H0 Z0 H Z) (ho : (ix ops i).op = .buildSlice t 0 ⟨ps⟩) (hv : buildSliceV P t 0 (evP (ev f) ps) = some (e, n, []))
    (hq : q.contains i = false) (hi : Nat.blt i ops.length = true) (hg : wants ops f (ix ops i) = true) {d : Nat} (hd : (ix ops i).dst = some d) (hn : Nat.blt d N = true)
    (h : ∀ w' b, St w0 M w' (.own (.slice (some ⟨b, 0, none⟩) 0 0) e size 0 [] :: H) Z → More H0 Z0 (.own (.slice (some ⟨b, 0, none⟩) 0 0) e size 0 [] :: H) Z → WD P N (SS w0 M H0 Z0) ops q l (up f d (.slice (some ⟨b, 0, none⟩) 0 0)) w' Q) : WD P N (SS w0 M H0 Z0) ops q (i :: l) f w Q := by
  refine .slit hS hM ho hv hq hi hg hd hn fun w' b hS' _ => ?_
  exact h w' b (hS'.boxRow (n := 0) (size := size) .here (by simp) (Nat.zero_le _)) (hM.chunk _)
theorem WDo.slit0 {t e : TypeId} {n size : Nat} {ps : List (Nat × Operand)} (hS : St w0 M w H Z) (hM : More H0 Z0 H Z) (ho : (ix ops i).op = .buildSlice t 0 ⟨ps⟩) (hv : buildSliceV P t 0 (evP (ev f) ps) = some (e, n, []))
    (hi : Nat.blt i ops.length = true) (hg : wants ops f (ix ops i) = true) {d : Nat} (hd : (ix ops i).dst = some d) (hn : Nat.blt d N = true)
    (h : ∀ w' b, St w0 M w' (.own (.slice (some ⟨b, 0, none⟩) 0 0) e size 0 [] :: H) Z → More H0 Z0 (.own (.slice (some ⟨b, 0, none⟩) 0 0) e size 0 [] :: H) Z → WD P N (SS w0 M H0 Z0) ops q l (up f d (.slice (some ⟨b, 0, none⟩) 0 0)) w' Q) : WDo P N (SS w0 M H0 Z0) ops q i l f w Q := by
  refine .slit hS hM ho hv hi hg hd hn fun w' b hS' _ => ?_
  exact h w' b (hS'.boxRow (n := 0) (size := size) .here (by simp) (Nat.zero_le _)) (hM.chunk _)
theorem WDo.app {s x : Operand} {t e : TypeId} {size bytes n m cap c b off : Nat} {A : Option Addr} {xs news : List Value} (hS : St w0 M w H Z) (hp : Pull (.own (.slice A n cap) e size n xs) H H') (hM : More H0 Z0 H' Z) (ho : (ix ops i).op = .call ⟨.builtin .append, ⟨[s, x]⟩, ⟨[t, t]⟩⟩) (hi0 : appOf P t = some (e, size, bytes))
    (hs : ev f s = .slice A n cap) (hx : ev f x = .slice (some ⟨b, off, none⟩) m c) (hnews : RdOk H Z b off news) (hl : news.length = m * size) (h1 : one news = true) (hb : (n + m) * bytes ≤ 140737488355328)
    (hi : Nat.blt i ops.length = true) (hg : wants ops f (ix ops i) = true) {d : Nat} (hd : (ix ops i).dst = some d) (hn : Nat.blt d N = true)
    (h : ∀ A' cap' w', St w0 M w' (.own (.slice A' (n + m) cap') e size (n + m) (xs ++ news) :: H') Z → More H0 Z0 (.own (.slice A' (n + m) cap') e size (n + m) (xs ++ news) :: H') Z → WD P N (SS w0 M H0 Z0) ops q l (up f d (.slice A' (n + m) cap')) w' Q) : WDo P N (SS w0 M H0 Z0) ops q i l f w Q := by
  have hS' := hS.pull hp
  obtain ⟨A', cap', w', hrun, hown', hgr, hat⟩ := run_appOp (P := P) (w := w) ho hi0 hs hx (hS'.holds _ (List.Mem.head _)) (hnews.out w0 M w [] [] hS) hl h1 hb
  have hS2 := hS'.app (.here) hown' hgr hat
  exact .val hi hg hd hn hrun ((hM.chunk _).ss hS2) (h A' cap' w' hS2 (hM.chunk _))
theorem WDo.appSl {α : Type} {enc : α → List Value} {sz : Nat} {hsz : ∀ x, (enc x).length = sz} {F : Nat → Prop} {wz : World} {ys : List α} {s x : Operand} {t e : TypeId} {bytes n cap c : Nat} {A B : Option Addr} {xs : List Value} (hS : St w0 M w H Z) (hp : Pull (.own (.slice A n cap) e sz n xs) H H') (hM : More H0 Z0 H' Z) (ho : (ix ops i).op = .call ⟨.builtin .append, ⟨[s, x]⟩, ⟨[t, t]⟩⟩) (hi0 : appOf P t = some (e, sz, bytes))
    (hs : ev f s = .slice A n cap) (hx : ev f x = .slice B ys.length c) (h : SlAt (Cod.flat enc sz hsz) F wz B ys) (hz : Snap.mk wz F ∈ Z) (h0 : 0 < sz) (h1 : one (ys.flatMap enc) = true) (hb : (n + ys.length) * bytes ≤ 140737488355328)
    (hi : Nat.blt i ops.length = true) (hg : wants ops f (ix ops i) = true) {d : Nat} (hd : (ix ops i).dst = some d) (hn : Nat.blt d N = true)
    (hk : ∀ A' cap' w', St w0 M w' (.own (.slice A' (n + ys.length) cap') e sz (n + ys.length) (xs ++ ys.flatMap enc) :: H') Z → More H0 Z0 (.own (.slice A' (n + ys.length) cap') e sz (n + ys.length) (xs ++ ys.flatMap enc) :: H') Z → WD P N (SS w0 M H0 Z0) ops q l (up f d (.slice A' (n + ys.length) cap')) w' Q) : WDo P N (SS w0 M H0 Z0) ops q i l f w Q := by
  rcases ys with _ | ⟨y, ys⟩
  · have hS' := hS.pull hp
    have hcap := (hS'.own_len (List.Mem.head _)).2.2
    have hS2 := hS'.recast (c' := .own (.slice A (n + 0) cap) e sz (n + 0) (xs ++ [])) .here (fun h => by simpa using h) (fun b hb => by simpa using hb)
    exact .val hi hg hd hn (run_app0B ho hi0 hs hx hcap) ((hM.chunk _).ss hS2) (hk A cap w hS2 (hM.chunk _))
  · obtain ⟨b, off, es, rfl, hF, _, _⟩ := h.at_ (k := 0) (by simp)
    exact WDo.app hS hp hM ho hi0 hs hx (RdOk.ofSl h hz h0) (flat_len hsz _) h1 hb hi hg hd hn hk
theorem WD.appS {s x : Operand} {t e : TypeId} {size bytes n m cap c : Nat} {A B : Option Addr} {xs news : List Value} (hS : St w0 M w H Z) (hp : Pull (.own (.slice A n cap) e size n xs) H H') (hM : More H0 Z0 H' Z) (ho : (ix ops i).op = .call ⟨.builtin .append, ⟨[s, x]⟩, ⟨[t, t]⟩⟩) (hi0 : appOf P t = some (e, size, bytes))
    (hs : ev f s = .slice A n cap) (hx : ev f x = .slice B m c) (hnews : RdSl H Z B m news) (hl : news.length = m * size) (h1 : one news = true) (hb : (n + m) * bytes ≤ 140737488355328)
    (hq : q.contains i = false) (hi : Nat.blt i ops.length = true) (hg : wants ops f (ix ops i) = true) {d : Nat} (hd : (ix ops i).dst = some d) (hn : Nat.blt d N = true)
    (h : ∀ A' cap' w', St w0 M w' (.own (.slice A' (n + m) cap') e size (n + m) (xs ++ news) :: H') Z → More H0 Z0 (.own (.slice A' (n + m) cap') e size (n + m) (xs ++ news) :: H') Z → WD P N (SS w0 M H0 Z0) ops q l (up f d (.slice A' (n + m) cap')) w' Q) : WD P N (SS w0 M H0 Z0) ops q (i :: l) f w Q := by
  rcases hnews with ⟨rfl, rfl, rfl⟩ | ⟨b, off, rfl, hnews⟩
  · have hS' := hS.pull hp
    have hcap := (hS'.own_len (List.Mem.head _)).2.2
    have hS2 := hS'.recast (c' := .own (.slice A (n + 0) cap) e size (n + 0) (xs ++ [])) .here (fun h => by simpa using h) (fun b hb => by simpa using hb)
    exact .val hq hi hg hd hn (run_app0 ho hi0 hs hx hcap) ((hM.chunk _).ss hS2) (h A cap w hS2 (hM.chunk _))
  · exact .app hS hp hM ho hi0 hs hx hnews hl h1 hb hq hi hg hd hn h
theorem run_sliceHighO {o : Oper} {ρ : Operand → Value} {t e : TypeId} {size n cap j : Nat} {A : Option Addr} {x y : Operand} {k : IntKind} (ho : o.op = .slice t x none (some y) none) (he : elemOf P t = some (e, size)) (hx : ρ x = .slice A n cap) (hy : ρ y = .int k (Int.ofNat j)) (hj : j ≤ cap) (hc : A = none → cap = 0) :
    (execOp ρ o).run P w = .ok (.value (.slice A j cap)) w := by
  cases A with
  | some a =>
    obtain ⟨b, off, pt⟩ := a
    unfold elemOf at he
    split at he
    · rename_i e' hu
      split at he
      · rename_i n' hn
        simp [execOp, ho, hx, hy, Instr.sliceAt, Instr.slice, Instr.sliceBounds, Instr.sliceBound, asIntOf, Sem.run_bind, run_underlying hu, run_sizeOf hn, hj]
        try (intro _; simp [Addr.add])
      · cases he
    · cases he
  | none =>
    have hc := hc rfl
    subst hc
    have : j = 0 := by omega
    subst this
    unfold elemOf at he
    split at he
    · rename_i e' hu
      split at he
      · rename_i n' hn
        simp [execOp, ho, hx, hy, Instr.sliceAt, Instr.slice, Instr.sliceBounds, Instr.sliceBound, asIntOf, Sem.run_bind, run_underlying hu, run_sizeOf hn]
      · cases he
    · cases he
theorem WD.highO {S : World → Prop} {t e : TypeId} {size n cap j : Nat} {A : Option Addr} {x y : Operand} {k : IntKind} (ho : (ix ops i).op = .slice t x none (some y) none) (he : elemOf P t = some (e, size)) (hx : ev f x = .slice A n cap) (hy : ev f y = .int k (Int.ofNat j)) (hj : j ≤ cap) (hc : A = none → cap = 0)
    (hq : q.contains i = true) (hg : wants ops f (ix ops i) = true) {d : Nat} (hd : (ix ops i).dst = some d) (hn : Nat.blt d N = true) (h : WD P N S ops q l (up f d (.slice A j cap)) w Q) : WD P N S ops q (i :: l) f w Q :=
  .take hq hd hn (.inl ⟨hg, fun _ _ => run_sliceHighO ho he hx hy hj hc⟩) h
end
end Go.J
namespace Go.Proofs.YtobfdeiimnnanaaGreatDoor
open Go Go.J Go.RowKit
def placeE : List Hr → Int → Nat × Bool
  | [], _ => (0, false)
  | r :: l, id => if r.id = id then (0, true) else if id < r.id then (0, false) else ((placeE l id).1 + 1, (placeE l id).2)
theorem place_cons (r : Hr) (l : List Hr) (id : Int) : placeE (r :: l) id = if r.id = id then (0, true) else if id < r.id then (0, false) else ((placeE l id).1 + 1, (placeE l id).2) := rfl
theorem place_le : ∀ (l : List Hr) (id : Int), (placeE l id).1 ≤ l.length
  | [], _ => Nat.le_refl _
  | r :: l, id => by
    rw [place_cons]
    have := place_le l id
    split
    · exact Nat.zero_le _
    · split
      · exact Nat.zero_le _
      · rw [List.length_cons]; dsimp only; omega
theorem place_lt : ∀ (l : List Hr) (id : Int), (placeE l id).2 = true → (placeE l id).1 < l.length
  | [], _, h => by cases h
  | r :: l, id, h => by
    rw [place_cons] at h ⊢
    split
    · simp
    · rename_i h1
      rw [if_neg h1] at h
      split
      · rename_i h2
        rw [if_pos h2] at h
        cases h
      · rename_i h2
        rw [if_neg h2] at h
        have := place_lt l id h
        rw [List.length_cons]; dsimp only; omega
theorem one_prs (ls : List Pr) : J.one (ls.flatMap encHr) = true := by
  unfold J.one
  rw [List.all_eq_true]
  intro v hv
  obtain ⟨p, _, h⟩ := List.mem_flatMap.1 hv
  simp only [encHr, List.mem_cons, List.not_mem_nil, or_false] at h
  rcases h with rfl | rfl | rfl | rfl <;> rfl
set_option maxHeartbeats 16000000 in
set_option maxRecDepth 100000 in
theorem rplace_c (ls : List Pr) (id : Int) {A : Option Addr} {cap : Nat} (w0 : World) (hA : SlAt cPr (Old w0) w0 A ls) (hl : ls.length ≤ 1048576) :
    Cal Tryz.prog 92 [.slice A ls.length cap, .int .i64 id] w0 (fun v w' => Upd [] w0 w' ∧ v = .tuple #[.int .i64 ((placeE (ls.map Prod.fst) id).1 : Int), .bool (placeE (ls.map Prod.fst) id).2]) := by
  refine Cal.mk' (by kernel_rfl) Tryz.func92 rfl rfl fun hS => ?_
  repeat' (first | (show WL _ _ _ _ _ _ _; first | refine WL.pure rfl rfl rfl rfl ?_ | refine WL.nil ?_) | (show WC _ _ _ _ _ _; first | refine WC.seq ?_ | refine WC.region ?_ | refine WC.block ?_) | refine seqQ_n ?_)
  refine WC.loop (σ := Nat) [0, 1] (fun k => [(6, .int .i64 (k : Int))])
    (fun k w => (k ≤ ls.length ∧ placeE (ls.map Prod.fst) id = (k + (placeE ((ls.drop k).map Prod.fst) id).1, (placeE ((ls.drop k).map Prod.fst) id).2)) ∧ St w0 [] w [] [⟨w0, Old w0⟩]) (fun k => ls.length - k) 0 ⟨⟨Nat.zero_le _, by simp⟩, hS⟩ ⟨rfl, trivial⟩ ?_
  repeat (clear hS)
  rintro k g w ⟨⟨hk, hp⟩, hS⟩
  show WC _ _ _ (lf _ [(6, .int .i64 (k : Int))] _ _) _ _
  by_cases hlt : k < ls.length
  · obtain ⟨ga, go, es, rfl, hF, hr, hes⟩ := hA.at_ hlt
    have hes : es = encHr ls[k] := hes
    subst hes
    replace hr : w0.rangeAt ga (go + k * 4) (encHr ls[k]) := hr
    rw [List.drop_eq_getElem_cons hlt, List.map_cons, place_cons] at hp
    generalize ls[k] = p at *
    obtain ⟨⟨pid, ptick, pspoke, pch⟩, pA, pc⟩ := p
    dsimp only at hp
    unfold encHr at hr
    dsimp only at hr
    clear hA
    by_cases h1 : pid = id
    · rw [if_pos h1] at hp
      rw [hp]
      clear hp
      repeat' (first | (show WL _ _ _ _ _ _ _; first | refine WL.pure rfl rfl rfl rfl ?_ | refine WL.nil ?_ | (refine WL.load hS rfl rfl (LdOk.snap (off := 0) hF hr Mm rfl) rfl rfl rfl ?_) | refine WL.index rfl rfl rfl rfl (by first | with_reducible assumption | omega) rfl rfl rfl rfl ?_) | (show WC _ _ _ _ _ _; first | refine WC.seq ?_ | refine WC.region ?_ | refine WC.block ?_ | refine WC.skip ?_ | refine WC.ret ?_ | refine WC.condT rfl (decide_eq_true (by first | with_reducible assumption | omega)) ?_) | refine seqQ_n ?_ | refine seqQ_r ?_ | refine blkQ_r ?_ | refine rndQ_r ?_)
      exact fin2r rfl rfl rfl ⟨hS.upd, rfl⟩
    · rw [if_neg h1] at hp
      by_cases h2 : id < pid
      · rw [if_pos h2] at hp
        rw [hp]
        clear hp
        repeat' (first | (show WL _ _ _ _ _ _ _; first | refine WL.pure rfl rfl rfl rfl ?_ | refine WL.nil ?_ | (refine WL.load hS rfl rfl (LdOk.snap (off := 0) hF hr Mm rfl) rfl rfl rfl ?_) | refine WL.index rfl rfl rfl rfl (by first | with_reducible assumption | omega) rfl rfl rfl rfl ?_) | (show WC _ _ _ _ _ _; first | refine WC.seq ?_ | refine WC.region ?_ | refine WC.block ?_ | refine WC.skip ?_ | refine WC.ret ?_ | refine WC.condT rfl (decide_eq_true (by first | with_reducible assumption | omega)) ?_ | refine WC.condF rfl (decide_eq_false (by first | with_reducible assumption | omega)) ?_) | refine seqQ_n ?_ | refine seqQ_r ?_ | refine blkQ_r ?_ | refine rndQ_r ?_)
        exact fin2r rfl rfl rfl ⟨hS.upd, rfl⟩
      · rw [if_neg h2] at hp
        repeat' (first | (show WL _ _ _ _ _ _ _; first | refine WL.pure rfl rfl rfl rfl ?_ | refine WL.nil ?_ | refine WL.add rfl rfl rfl (by omega) rfl rfl rfl ?_ | (refine WL.load hS rfl rfl (LdOk.snap (off := 0) hF hr Mm rfl) rfl rfl rfl ?_) | refine WL.index rfl rfl rfl rfl (by first | with_reducible assumption | omega) rfl rfl rfl rfl ?_) | (show WC _ _ _ _ _ _; first | refine WC.seq ?_ | refine WC.region ?_ | refine WC.block ?_ | refine WC.skip ?_ | refine WC.condT rfl (decide_eq_true (by first | with_reducible assumption | omega)) ?_ | refine WC.condF rfl (decide_eq_false (by first | with_reducible assumption | omega)) ?_) | refine seqQ_n ?_ | refine blkQ_n ?_)
        refine rndQ_n (k + 1) ⟨⟨by omega, ?_⟩, hS⟩ (by show ls.length - (k + 1) < ls.length - k; omega) ⟨vint (by omega), trivial⟩ ⟨rfl, rfl, trivial⟩
        rw [hp]
        refine Prod.ext ?_ rfl
        show k + (_ + 1) = k + 1 + _
        omega
  · have hke : k = ls.length := by omega
    subst hke
    rw [List.drop_length] at hp
    rw [hp]
    clear hp
    repeat' (first | (show WL _ _ _ _ _ _ _; first | refine WL.pure rfl rfl rfl rfl ?_ | refine WL.nil ?_) | (show WC _ _ _ _ _ _; first | refine WC.seq ?_ | refine WC.region ?_ | refine WC.exit ?_ | refine WC.ret ?_ | refine WC.condF rfl (decide_eq_false (by first | with_reducible assumption | omega)) ?_) | refine seqQ_n ?_ | refine seqQ_x ?_ | refine blkQ_hit rfl ?_ | refine rndQ_x ?_)
    exact fin2r rfl rfl rfl ⟨hS.upd, rfl⟩
def cutP (A : Option Addr) (cap j : Nat) : Option Addr := if cap = j then A else A.map (·.add (j * 4))
theorem cPr_take {F : Nat → Prop} {w : World} {A : Option Addr} {ls : List Pr} (h : SlAt cPr F w A ls) (n : Nat) : SlAt cPr F w A (ls.take n) := by
  have := h
  rw [← List.take_append_drop n ls] at this
  exact this.pre
theorem cPr_drop {F : Nat → Prop} {w : World} {A : Option Addr} {ls : List Pr} (h : SlAt cPr F w A ls) (n : Nat) {cap : Nat} (hc : ls.length ≤ cap) : SlAt cPr F w (cutP A cap n) (ls.drop n) := h.drop hc
set_option maxHeartbeats 32000000 in
set_option maxRecDepth 100000 in
theorem radd_c (ls : List Pr) (p : Pr) {A : Option Addr} {cap : Nat} (w0 : World) (hA : SlAt cPr (Old w0) w0 A ls) (hc : ls.length ≤ cap) (hcn : A = none → cap = 0) (hl : ls.length ≤ 100000) (h1 : 1 ≤ p.1.id ∧ p.1.id ≤ 1099511627776) (h2 : 0 ≤ p.1.tick ∧ p.1.tick ≤ 1099511627776) {at_ : Nat} (hp : placeE (ls.map Prod.fst) p.1.id = (at_, false)) :
    Cal Tryz.prog 41 [.slice A ls.length cap, .agg ⟨encHr p⟩] w0 (fun v w' => Upd [] w0 w' ∧ ∃ A' cap', v = .tuple #[.slice A' (ls.take at_ ++ p :: ls.drop at_).length cap', .int .i64 0] ∧
      New w0 w' (.own (.slice A' (ls.take at_ ++ p :: ls.drop at_).length cap') 24 4 (ls.take at_ ++ p :: ls.drop at_).length (prs (ls.take at_ ++ p :: ls.drop at_)))) := by
  refine Cal.mk' (by kernel_rfl) Tryz.func41 rfl rfl fun hS => ?_
  have hal : at_ ≤ ls.length := by have := place_le (ls.map Prod.fst) p.1.id; rw [hp, List.length_map] at this; exact this
  have hpc := fun w (h : SlAt cPr (Old w) w A ls) => rplace_c (cap := cap) ls p.1.id w h (by omega)
  rw [hp] at hpc
  have ht1 : at_ = (ls.take at_).length := by rw [List.length_take]; omega
  have ht2 : ls.length - at_ = (ls.drop at_).length := by rw [List.length_drop]
  have hS1 := cPr_take hA at_
  have hS2 := cPr_drop hA at_ hc
  have hpr : prs (ls.take at_ ++ p :: ls.drop at_) = prs (ls.take at_) ++ encHr p ++ prs (ls.drop at_) := by unfold prs; rw [List.flatMap_append, List.flatMap_cons, List.append_assoc]
  have hle : (ls.take at_ ++ p :: ls.drop at_).length = 0 + (ls.take at_).length + 1 + (0 + (ls.drop at_).length) := by rw [List.length_append, List.length_cons]; omega
  have ho1 := one_prs (ls.take at_)
  have ho2 := one_prs (ls.drop at_)
  have hrl : (prs (ls.drop at_)).length = (0 + (ls.drop at_).length) * 4 := by rw [Nat.zero_add]; exact prs_len _
  obtain ⟨⟨id, tick, spoke, chgs⟩, pA, pc⟩ := p
  dsimp only at h1 h2 hpc
  obtain ⟨h11, h12⟩ := h1
  obtain ⟨h21, h22⟩ := h2
  rw [hpr, hle]
  clear hpr hle hp
  unfold encHr
  dsimp only
  repeat' (first | (show WL _ _ _ _ _ _ _; first | refine WL.pure rfl rfl rfl rfl ?_ | refine WL.nil ?_ | refine WL.load hS rfl rfl (LdOk.box Mm rfl) rfl rfl rfl ?_ | (refine WL.calls hS rfl rfl (hpc _ (hS.slO Mm hA)) rfl rfl rfl ?_; rintro v w rfl hS) | (refine WL.slit (t := 69) hS rfl rfl rfl rfl rfl ?_; intro w ob hS; have hS := hS.boxRow (n := 0) (size := 4) .here rfl (Nat.zero_le _)) | (refine WL.sliceLow rfl rfl rfl rfl (by omega) rfl rfl rfl ?_) | (refine WL.appSl (ys := ls.drop at_) hS rfl rfl rfl (congrArg (fun n => Value.slice (cutP A cap at_) n (cap - at_)) ht2) hS2 Mm (by decide) ho2 (fun A cap => Rp) (by omega) rfl rfl rfl ?_; intro A2 cap2 w hS) | (refine WL.box hS rfl rfl rfl rfl rfl ?_; intro w b hS) | ((fail_if_success (refine WL.wanted rfl ?_)); refine WL.guard rfl rfl rfl (fun h => ?_) (fun h => ?_) <;> (try simp only [ZZ0, ZZ1, ZZ2, ZZ3, ZZ4, ZZ5, ZZ6, ZZ7, ZZ8, ZZ9, ZZ10, ZZ11, ZZ12, ZZ13, ZZ14, ZZ15] at h) <;> (try (exfalso; first | omega | contradiction)))) | (show WC _ _ _ _ _ _; first | refine WC.seq ?_ | refine WC.region ?_ | refine WC.skip ?_ | refine WC.condF rfl (by with_reducible rfl) ?_) | refine seqQ_n ?_)
  replace hS : St w0 [] w (.own (.slice A2 (0 + (ls.drop at_).length) cap2) 24 4 (0 + (ls.drop at_).length) (prs (ls.drop at_)) :: _) _ := hS
  refine WC.drawP hS [1,2,3,5,8,10,11] [1,2,3,5,8] (.two 0 [] (.two 4 [6,7,9,10,11] .nil 6 [4,7,9,10,11] .nil) 6 [0,4,7,9,10,11] .nil) (by kernel_rfl) (by kernel_rfl) ?_
  clear hS
  intro w hS hM
  repeat' (first | (show WC _ _ _ _ _ _; first | refine WC.ret ?_) | (show WD _ _ _ _ _ _ _ _ _; first | refine WD.pure rfl rfl rfl rfl rfl ?_ | refine WD.nil ?_ | refine WD.load rfl rfl (LdOk.box Mm rfl) rfl rfl rfl rfl ?_ | (refine WD.highO rfl rfl rfl rfl (by omega) hcn rfl rfl rfl rfl ?_) | (refine WD.fork ?_ ?_) | (refine WD.slit0 (size := 4) hS hM rfl rfl rfl rfl rfl rfl rfl ?_; clear hS hM; intro w ob hS hM) | (refine WD.slit hS hM rfl rfl rfl rfl rfl rfl rfl ?_; clear hS hM; intro w rb hS hM) | (refine WD.appSl (ys := ls.take at_) hS Pl1 (by first | exact .refl _ _ | exact .chunk (.refl _ _) _) rfl rfl rfl (congrArg (fun n => Value.slice A n cap) ht1) hS1 Mm (by decide) ho1 (by omega) rfl rfl rfl rfl rfl ?_; clear hS hM; intro A3 cap3 w hS hM) | (refine WD.app hS Pl1 (by first | exact .refl _ _ | exact .chunk (.refl _ _) _) rfl rfl rfl rfl (RdOk.box Mm) rfl rfl (by omega) rfl rfl rfl rfl rfl ?_; clear hS hM; intro A4 cap4 w hS hM) | (refine WD.appS hS Pl1 (by first | exact .refl _ _ | exact .chunk (.refl _ _) _) rfl rfl rfl rfl (RdSl.own hS Mm) hrl ho2 (by omega) rfl rfl rfl rfl rfl ?_; clear hS hM; intro A5 cap5 w hS hM)) | (refine WDo.slit0 (size := 4) hS hM rfl rfl rfl rfl rfl rfl ?_; clear hS hM; intro w ob hS hM) | (refine WDo.slit (t := 69) hS hM rfl rfl rfl rfl rfl rfl ?_; clear hS hM; intro w rb hS hM) | (refine WDo.appSl (ys := ls.take at_) hS Pl1 (by first | exact .refl _ _ | exact .chunk (.refl _ _) _) rfl rfl rfl (congrArg (fun n => Value.slice A n cap) ht1) hS1 Mm (by decide) ho1 (by omega) rfl rfl rfl rfl ?_; clear hS hM; intro A3 cap3 w hS hM) | refine seqQ_n ?_)
  all_goals
    replace hS := hS.droplast2 (D := [.own (.slice A5 (0 + (ls.take at_).length + 1 + (0 + (ls.drop at_).length)) cap5) 24 4 (0 + (ls.take at_).length + 1 + (0 + (ls.drop at_).length)) (prs (ls.take at_) ++ [.int .i64 id, .int .i64 tick, .int .i64 spoke, .slice pA chgs.length pc] ++ prs (ls.drop at_))]) Pu
    exact fin2r rfl rfl rfl ⟨hS.upd, A5, cap5, rfl, hS.newOf (List.Mem.head _)⟩
set_option maxHeartbeats 16000000 in
set_option maxRecDepth 100000 in
theorem raddNo_c (ls : List Pr) (p : Pr) {A : Option Addr} {cap : Nat} (w0 : World) (hA : SlAt cPr (Old w0) w0 A ls) (hl : ls.length ≤ 100000) (hno : p.1.id < 1 ∨ 1099511627776 < p.1.id ∨ p.1.tick < 0 ∨ 1099511627776 < p.1.tick ∨ (placeE (ls.map Prod.fst) p.1.id).2 = true) :
    Cal Tryz.prog 41 [.slice A ls.length cap, .agg ⟨encHr p⟩] w0 (fun v w' => Upd [] w0 w' ∧ v = .tuple #[.slice A ls.length cap, .int .i64 1]) := by
  refine Cal.mk' (by kernel_rfl) Tryz.func41 rfl rfl fun hS => ?_
  have hpc := fun w (h : SlAt cPr (Old w) w A ls) => rplace_c (cap := cap) ls p.1.id w h (by omega)
  obtain ⟨⟨id, tick, spoke, chgs⟩, pA, pc⟩ := p
  dsimp only at hno hpc
  rcases hpe : placeE (ls.map Prod.fst) id with ⟨i, b0⟩
  rw [hpe] at hpc hno
  dsimp only at hpc hno
  unfold encHr
  dsimp only
  clear hpe
  have hcase : id < 1 ∨ (¬ id < 1 ∧ 1099511627776 < id) ∨ (¬ id < 1 ∧ ¬ 1099511627776 < id ∧ tick < 0) ∨ (¬ id < 1 ∧ ¬ 1099511627776 < id ∧ ¬ tick < 0 ∧ 1099511627776 < tick) ∨ (¬ id < 1 ∧ ¬ 1099511627776 < id ∧ ¬ tick < 0 ∧ ¬ 1099511627776 < tick ∧ b0 = true) := by
    by_cases h1 : id < 1
    · exact .inl h1
    by_cases h2 : 1099511627776 < id
    · exact .inr (.inl ⟨h1, h2⟩)
    by_cases h3 : tick < 0
    · exact .inr (.inr (.inl ⟨h1, h2, h3⟩))
    by_cases h4 : 1099511627776 < tick
    · exact .inr (.inr (.inr (.inl ⟨h1, h2, h3, h4⟩)))
    · refine .inr (.inr (.inr (.inr ⟨h1, h2, h3, h4, ?_⟩)))
      rcases hno with h | h | h | h | h
      · exact absurd h h1
      · exact absurd h h2
      · exact absurd h h3
      · exact absurd h h4
      · exact h
  clear hno
  rcases hcase with h1 | ⟨h1, h2⟩ | ⟨h1, h2, h3⟩ | ⟨h1, h2, h3, h4⟩ | ⟨h1, h2, h3, h4, rfl⟩
  all_goals
    repeat' (first | (show WL _ _ _ _ _ _ _; first | refine WL.pure rfl rfl rfl rfl ?_ | refine WL.nil ?_ | refine WL.load hS rfl rfl (LdOk.box Mm rfl) rfl rfl rfl ?_ | (refine WL.calls hS rfl rfl (hpc _ (hS.slO Mm hA)) rfl rfl rfl ?_; rintro v w rfl hS) | (refine WL.box hS rfl rfl rfl rfl rfl ?_; intro w b hS) | refine WL.skip rfl rfl rfl ?_ | ((fail_if_success (refine WL.wanted rfl ?_)); refine WL.guard rfl rfl rfl (fun h => ?_) (fun h => ?_) <;> (try simp only [ZZ0, ZZ1, ZZ2, ZZ3, ZZ4, ZZ5, ZZ6, ZZ7, ZZ8, ZZ9, ZZ10, ZZ11, ZZ12, ZZ13, ZZ14, ZZ15] at h) <;> (try (exfalso; first | omega | contradiction)))) | (show WC _ _ _ _ _ _; first | refine WC.seq ?_ | refine WC.region ?_ | refine WC.ret ?_ | refine WC.condT rfl (by with_reducible rfl) ?_) | refine seqQ_n ?_ | refine seqQ_r ?_)
    exact fin2r rfl rfl rfl ⟨hS.upd, rfl⟩
set_option maxHeartbeats 16000000 in
set_option maxRecDepth 100000 in
theorem rdropNo_c (ls : List Pr) (id : Int) {A : Option Addr} {cap : Nat} (w0 : World) (hA : SlAt cPr (Old w0) w0 A ls) (hl : ls.length ≤ 100000) (hno : (placeE (ls.map Prod.fst) id).2 = false) :
    Cal Tryz.prog 42 [.slice A ls.length cap, .int .i64 id] w0 (fun v w' => Upd [] w0 w' ∧ v = .tuple #[.slice A ls.length cap, .int .i64 11]) := by
  refine Cal.mk' (by kernel_rfl) Tryz.func42 rfl rfl fun hS => ?_
  have hpc := fun w (h : SlAt cPr (Old w) w A ls) => rplace_c (cap := cap) ls id w h (by omega)
  rw [hno] at hpc
  repeat' (first | (show WL _ _ _ _ _ _ _; first | refine WL.pure rfl rfl rfl rfl ?_ | refine WL.nil ?_ | (refine WL.calls hS rfl rfl (hpc _ (hS.slO Mm hA)) rfl rfl rfl ?_; rintro v w rfl hS)) | (show WC _ _ _ _ _ _; first | refine WC.seq ?_ | refine WC.region ?_ | refine WC.ret ?_ | refine WC.condT rfl (by decide) ?_) | refine seqQ_n ?_ | refine seqQ_r ?_)
  exact fin2r rfl rfl rfl ⟨hS.upd, rfl⟩
set_option maxHeartbeats 16000000 in
set_option maxRecDepth 100000 in
theorem rdrop_c (ls : List Pr) (id : Int) {A : Option Addr} {cap : Nat} (w0 : World) (hA : SlAt cPr (Old w0) w0 A ls) (hc : ls.length ≤ cap) (hcn : A = none → cap = 0) (hl : ls.length ≤ 100000) {at_ : Nat} (hp : placeE (ls.map Prod.fst) id = (at_, true)) :
    Cal Tryz.prog 42 [.slice A ls.length cap, .int .i64 id] w0 (fun v w' => Upd [] w0 w' ∧ ∃ A' cap', v = .tuple #[.slice A' (ls.take at_ ++ ls.drop (at_ + 1)).length cap', .int .i64 0] ∧
      New w0 w' (.own (.slice A' (ls.take at_ ++ ls.drop (at_ + 1)).length cap') 24 4 (ls.take at_ ++ ls.drop (at_ + 1)).length (prs (ls.take at_ ++ ls.drop (at_ + 1))))) := by
  refine Cal.mk' (by kernel_rfl) Tryz.func42 rfl rfl fun hS => ?_
  have hal : at_ < ls.length := by
    have := place_lt (ls.map Prod.fst) id (by rw [hp])
    rw [hp, List.length_map] at this
    exact this
  have hpc := fun w (h : SlAt cPr (Old w) w A ls) => rplace_c (cap := cap) ls id w h (by omega)
  rw [hp] at hpc
  have ht1 : at_ = (ls.take at_).length := by rw [List.length_take]; omega
  have ht2 : ls.length - (at_ + 1) = (ls.drop (at_ + 1)).length := by rw [List.length_drop]
  have hS1 := cPr_take hA at_
  have hS2 := cPr_drop hA (at_ + 1) hc
  have hpr : prs (ls.take at_ ++ ls.drop (at_ + 1)) = prs (ls.take at_) ++ prs (ls.drop (at_ + 1)) := by unfold prs; rw [List.flatMap_append]
  have hle : (ls.take at_ ++ ls.drop (at_ + 1)).length = 0 + (ls.take at_).length + (ls.drop (at_ + 1)).length := by rw [List.length_append]; omega
  have ho1 := one_prs (ls.take at_)
  have ho2 := one_prs (ls.drop (at_ + 1))
  have hsum : (ls.take at_).length + (ls.drop (at_ + 1)).length ≤ 100000 := by rw [← ht1, ← ht2]; omega
  rw [hpr, hle]
  clear hpr hle hp
  repeat' (first | (show WL _ _ _ _ _ _ _; first | refine WL.pure rfl rfl rfl rfl ?_ | refine WL.nil ?_ | (refine WL.calls hS rfl rfl (hpc _ (hS.slO Mm hA)) rfl rfl rfl ?_; rintro v w rfl hS)) | (show WC _ _ _ _ _ _; first | refine WC.seq ?_ | refine WC.region ?_ | refine WC.skip ?_ | refine WC.ret ?_ | (show WC _ _ (Code.region _ (List.toArray [_, _, _, _, _, _, _, _, _, _, _, _]) true) _ _ _; refine WC.drawS hS [1,2,3,5,6,7,8,10,11] [1,2,3,5,6,7,8,0,4,9,10,11] (by kernel_rfl) (by kernel_rfl) ?_; clear hS; intro w hS hM) | refine WC.condF rfl (by first | (simp; done) | (simp; omega)) ?_) | (show WD _ _ _ _ _ _ _ _ _; first | refine WD.pure rfl rfl rfl rfl rfl ?_ | refine WD.nil ?_ | refine WD.add rfl rfl rfl (by omega) rfl rfl rfl rfl ?_ | (refine WD.highO rfl rfl rfl rfl (by omega) hcn rfl rfl rfl rfl ?_) | (refine WD.lowV (j := at_ + 1) (A' := cutP A cap (at_ + 1)) rfl rfl rfl rfl (by omega) rfl rfl rfl rfl rfl ?_) | (refine WD.slit0 (size := 4) hS hM rfl rfl rfl rfl rfl rfl rfl ?_; clear hS hM; intro w ob hS hM) | (refine WD.appSl (ys := ls.take at_) hS Pl1 (by first | exact .refl _ _ | exact .chunk (.refl _ _) _) rfl rfl rfl (congrArg (fun n => Value.slice A n cap) ht1) hS1 Mm (by decide) ho1 (by omega) rfl rfl rfl rfl rfl ?_; clear hS hM; intro A3 cap3 w hS hM) | (refine WD.appSl (ys := ls.drop (at_ + 1)) hS Pl1 (by first | exact .refl _ _ | exact .chunk (.refl _ _) _) rfl rfl rfl (congrArg (fun n => Value.slice (cutP A cap (at_ + 1)) n (cap - (at_ + 1))) ht2) hS2 Mm (by decide) ho2 (by omega) rfl rfl rfl rfl rfl ?_; clear hS hM; intro A4 cap4 w hS hM)) | refine seqQ_n ?_)
  replace hS := hS.droplast2 (D := [.own (.slice A4 (0 + (ls.take at_).length + (ls.drop (at_ + 1)).length) cap4) 24 4 (0 + (ls.take at_).length + (ls.drop (at_ + 1)).length) (prs (ls.take at_) ++ prs (ls.drop (at_ + 1)))]) Pu
  exact fin2r rfl rfl rfl ⟨hS.upd, A4, cap4, rfl, hS.newOf (List.Mem.head _)⟩
set_option maxHeartbeats 16000000 in
set_option maxRecDepth 100000 in
theorem renf_c (ls : List Pr) (clock quota age : Int) {A : Option Addr} {cap : Nat} (w0 : World) (hA : SlAt cPr (Old w0) w0 A ls) (hR : SlAt cHr (Old w0) w0 A (ls.map Prod.fst)) (hc : ls.length ≤ cap) (hl : ls.length ≤ 100000) (hb : sumSz (ls.map Prod.fst) ≤ 4611686018427387904)
    (hck : 0 ≤ clock ∧ clock ≤ 1099511627776) (hag : 0 ≤ age ∧ age ≤ 1099511627776) :
    Cal Tryz.prog 43 [.slice A ls.length cap, .int .i64 clock, .int .i64 quota, .int .i64 age] w0 (fun v w' => Upd [] w0 w' ∧ ∃ A' cap', v = .tuple #[.slice A' (ls.drop (dropsL clock quota age (ls.map Prod.fst))).length cap', .int .i64 (dropsL clock quota age (ls.map Prod.fst) : Int)] ∧
      New w0 w' (.own (.slice A' (ls.drop (dropsL clock quota age (ls.map Prod.fst))).length cap') 24 4 (ls.drop (dropsL clock quota age (ls.map Prod.fst))).length (prs (ls.drop (dropsL clock quota age (ls.map Prod.fst)))))) := by
  refine Cal.mk' (by kernel_rfl) Tryz.func43 rfl rfl fun hS => ?_
  have hdl := drops_le clock quota age (ls.map Prod.fst)
  rw [List.length_map] at hdl
  have hdr := fun w (h : SlAt cHr (Old w) w A (ls.map Prod.fst)) => rdrops_c (ls.map Prod.fst) A cap clock quota age w h hb (by omega) (by omega)
  rw [List.length_map] at hdr
  generalize dropsL clock quota age (ls.map Prod.fst) = n at *
  have ht2 : ls.length - n = (ls.drop n).length := by rw [List.length_drop]
  have hS2 := cPr_drop hA n hc
  have ho2 := one_prs (ls.drop n)
  repeat' (first | (show WL _ _ _ _ _ _ _; first | refine WL.pure rfl rfl rfl rfl ?_ | refine WL.nil ?_ | (refine WL.calls hS rfl rfl (hdr _ (hS.slO Mm hR)) rfl rfl rfl ?_; rintro v w rfl hS) | (refine WL.slit (t := 69) hS rfl rfl rfl rfl rfl ?_; intro w ob hS; have hS := hS.boxRow (n := 0) (size := 4) .here rfl (Nat.zero_le _)) | (refine WL.sliceLow rfl rfl rfl rfl (by omega) rfl rfl rfl ?_) | (refine WL.appSl (ys := ls.drop n) hS rfl rfl rfl (congrArg (fun k => Value.slice (cutP A cap n) k (cap - n)) ht2) hS2 Mm (by decide) ho2 (fun A cap => Rp) (by omega) rfl rfl rfl ?_; intro A2 cap2 w hS)) | (show WC _ _ _ _ _ _; first | refine WC.seq ?_ | refine WC.region ?_ | refine WC.ret ?_) | refine seqQ_n ?_)
  have hz : 0 + (ls.drop n).length = (ls.drop n).length := Nat.zero_add _
  replace hS := hS.droplast2 (D := [.own (.slice A2 (0 + (ls.drop n).length) cap2) 24 4 (0 + (ls.drop n).length) (prs (ls.drop n))]) Pu
  rw [hz] at hS
  exact fin2r rfl rfl rfl ⟨hS.upd, A2, cap2, by rw [hz], hS.newOf (List.Mem.head _)⟩
def okC (c : Hc) : Bool := (okN c.o0 && okN c.n0) && ((okN c.o1 && okN c.n1) && (okN c.o2 && okN c.n2))
def okR (l : List Hc) : Bool := l.all okC
end Go.Proofs.YtobfdeiimnnanaaGreatDoor

/- What is proved: which records may be; the record that the laws on records begin with, and that they are awake. Conditions: the library's table of powers laid. -/
namespace Go.J
open Go Go.RowKit
theorem St.ownSlY {w0 w : World} {M : List Nat} {D H : List Chunk} {Z : List Snap} {α : Type} {enc : α → List Value} {sz : Nat} {hsz : ∀ x, (enc x).length = sz} {e : TypeId} {A : Option Addr} {n cap n' : Nat} {l : List α} (h0 : 0 < sz) (hS : St w0 M w (D ++ H) Z) (hm : Chunk.own (.slice A n cap) e sz n' (l.flatMap enc) ∈ H) :
    SlAt (Cod.flat enc sz hsz) (fun b => b < w.heap.size ∧ b ∉ fps D) w A l :=
  SlAt.ofOwn h0 (hS.holds _ (List.mem_append_right _ hm)) fun g hg => by
    refine ⟨(hS.inb _ (List.mem_append_right _ hm) g (by simp [Chunk.fp, hg])).1, fun hf => ?_⟩
    obtain ⟨c, hc, hb⟩ := mem_fps.1 hf
    exact (List.pairwise_append.1 hS.disj).2.2 c hc _ hm g hb (by simp [Chunk.fp, hg])
theorem St.slY {w0 w wz : World} {M : List Nat} {D H : List Chunk} {Z : List Snap} {α : Type} {c : Cod α} {F : Nat → Prop} {A : Option Addr} {l : List α} (hS : St w0 M w (D ++ H) Z) (hz : Snap.mk wz F ∈ Z) (h : SlAt c F wz A l) : SlAt c (fun b => b < w.heap.size ∧ b ∉ fps D) w A l :=
  (h.loc fun b hb => (hS.snap _ hz b hb).2.1).mono fun b hb => by
    obtain ⟨h1, _, h3⟩ := hS.snap _ hz b hb
    refine ⟨h1, fun hf => ?_⟩
    obtain ⟨d, hd, hbd⟩ := mem_fps.1 hf
    exact h3 d (List.mem_append_left _ hd) hbd
end Go.J
namespace Go.Proofs.YtobfdeiimnnanaaGreatDoor
open Go Go.J Go.RowKit
def upOk (c : Hc) : Nat → Bool
  | 0 => true
  | 1 => okN c.o0 && okN c.n0
  | 2 => (okN c.o0 && okN c.n0) && (okN c.o1 && okN c.n1)
  | _ => okC c
theorem okC_iff (c : Hc) : okC c = true ↔ ∀ n ∈ c.nodes, NdOk n := by
  unfold okC Hc.nodes
  simp only [Bool.and_eq_true, okN_iff, List.mem_cons, List.not_mem_nil, or_false, forall_eq_or_imp, forall_eq]
  constructor
  · rintro ⟨⟨a, b⟩, ⟨c, d⟩, e, f⟩; exact ⟨a, b, c, d, e, f⟩
  · rintro ⟨a, b, c, d, e, f⟩; exact ⟨⟨a, b⟩, ⟨c, d⟩, e, f⟩
theorem okR_iff (l : List Hc) : okR l = true ↔ ∀ c ∈ l, ∀ n ∈ c.nodes, NdOk n := by
  unfold okR
  rw [List.all_eq_true]
  exact forall_congr' fun c => imp_congr_right fun _ => okC_iff c
theorem okR_no {l : List Hc} {c : Hc} (hc : c ∈ l) (h : okC c = false) : okR l = false := by
  cases h2 : okR l with
  | false => rfl
  | true =>
    unfold okR at h2
    rw [List.all_eq_true] at h2
    rw [h2 c hc] at h
    cases h
theorem okR_snoc {l : List Hc} {j : Nat} (hj : j < l.length) (h : okR (l.take j) = true) (hc : okC l[j] = true) : okR (l.take (j + 1)) = true := by
  unfold okR at *
  rw [List.take_succ_eq_append_getElem hj, List.all_append, h, List.all_cons, hc]
  rfl
theorem okN_size {n : Nd} (h : n.data.length ≤ 1048576) : n.data.length ≤ 1099511627776 := by omega
set_option maxHeartbeats 32000000 in
set_option maxRecDepth 100000 in
theorem rwhole_c (cs : List Hc) (id tick spoke : Int) {A : Option Addr} {cap : Nat} (w0 : World) (hA : SlAt cHc (Old w0) w0 A cs) (hl : cs.length ≤ 1048576) (hz : ∀ c ∈ cs, ∀ n ∈ c.nodes, n.data.length ≤ 1048576) :
    Cal Tryz.prog 32 [.agg ⟨[.int .i64 id, .int .i64 tick, .int .i64 spoke, .slice A cs.length cap]⟩] w0 (fun v w' => Upd [] w0 w' ∧ v = .bool (okR cs)) := by
  refine Cal.mk' (by kernel_rfl) Tryz.func32 rfl rfl fun hS => ?_
  repeat' (first | (show WL _ _ _ _ _ _ _; first | refine WL.pure rfl rfl rfl rfl ?_ | refine WL.nil ?_ | (refine WL.box hS rfl rfl rfl rfl rfl ?_; intro w rb hS)) | (show WC _ _ _ _ _ _; first | refine WC.seq ?_ | refine WC.region ?_ | refine WC.block ?_) | refine seqQ_n ?_)
  refine WC.loop (σ := Nat) [1] (fun j => [(3, .int .i64 (j : Int))])
    (fun j w => (j ≤ cs.length ∧ okR (cs.take j) = true) ∧ St w0 [] w [.box rb 24 [.int .i64 id, .int .i64 tick, .int .i64 spoke, .slice A cs.length cap]] [⟨w0, Old w0⟩]) (fun j => cs.length - j) 0 ⟨⟨Nat.zero_le _, rfl⟩, hS.droplast2 Pu⟩ ⟨rfl, trivial⟩ ?_
  repeat (clear hS)
  rintro j g w ⟨⟨hj, hok⟩, hS⟩
  show WC _ _ _ (lf _ [(3, .int .i64 (j : Int))] _ _) _ _
  by_cases hlt : j < cs.length
  · obtain ⟨gb, go, es, rfl, hF, hr, hes⟩ := hA.at_ hlt
    have hes : es = encHc cs[j] := hes
    subst hes
    replace hr : w0.rangeAt gb (go + j * 14) (encHc cs[j]) := hr
    have hcm := List.getElem_mem hlt
    have hzc := hz _ hcm
    have hno := fun (h : okC cs[j] = false) => okR_no hcm h
    have hyes := fun (h : okC cs[j] = true) => okR_snoc hlt hok h
    generalize cs[j] = c at *
    have z0 := okN_size (hzc c.o0 (by simp [Hc.nodes]))
    have z1 := okN_size (hzc c.o1 (by simp [Hc.nodes]))
    have z2 := okN_size (hzc c.o2 (by simp [Hc.nodes]))
    have y0 := okN_size (hzc c.n0 (by simp [Hc.nodes]))
    have y1 := okN_size (hzc c.n1 (by simp [Hc.nodes]))
    have y2 := okN_size (hzc c.n2 (by simp [Hc.nodes]))
    unfold encHc at hr
    clear hA hz hzc hok hcm
    repeat' (first | (show WL _ _ _ _ _ _ _; first | refine WL.pure rfl rfl rfl rfl ?_ | refine WL.nil ?_ | refine WL.load hS rfl rfl (LdOk.box Mm rfl) rfl rfl rfl ?_) | (show WC _ _ _ _ _ _; first | refine WC.seq ?_ | refine WC.region ?_ | refine WC.block ?_ | refine WC.skip ?_ | refine WC.condT rfl (decide_eq_true (by first | with_reducible assumption | omega)) ?_) | refine seqQ_n ?_)
    refine WC.loop (σ := Nat) [1, 3] (fun k => [(4, .int .i64 (k : Int))])
      (fun k w => (k ≤ 3 ∧ upOk c k = true) ∧ St w0 [] w [.box rb 24 [.int .i64 id, .int .i64 tick, .int .i64 spoke, .slice (some ⟨gb, go, none⟩) cs.length cap]] [⟨w0, Old w0⟩]) (fun k => 3 - k) 0 ⟨⟨Nat.zero_le _, rfl⟩, hS⟩ ⟨rfl, trivial⟩ ?_
    repeat (clear hS)
    rintro k g2 w ⟨⟨hk, huk⟩, hS⟩
    show WC _ _ _ (lf _ [(4, .int .i64 (k : Int))] _ _) _ _
    by_cases hlt3 : k < 3
    · obtain ⟨k', hk'⟩ : ∃ k', k' = k + 1 := ⟨_, rfl⟩
      rcases (show k = 0 ∨ k = 1 ∨ k = 2 by omega) with rfl | rfl | rfl
      all_goals
        clear hlt3 hk
        obtain ⟨HN, rfl⟩ : ∃ h : (okC c = false → okR cs = false), h = hno := ⟨_, rfl⟩
        repeat' (first | (show WL _ _ _ _ _ _ _; first | refine WL.pure rfl rfl rfl rfl ?_ | refine WL.nil ?_ | refine WL.load hS rfl rfl (LdOk.box Mm rfl) rfl rfl rfl ?_ | refine WL.add rfl rfl rfl (by omega) rfl rfl rfl ?_ | (refine WL.load hS rfl rfl (LdOk.snap (off := 2) hF hr Mm rfl) rfl rfl rfl ?_) | (refine WL.load hS rfl rfl (LdOk.snap (off := 4) hF hr Mm rfl) rfl rfl rfl ?_) | (refine WL.load hS rfl rfl (LdOk.snap (off := 6) hF hr Mm rfl) rfl rfl rfl ?_) | (refine WL.load hS rfl rfl (LdOk.snap (off := 8) hF hr Mm rfl) rfl rfl rfl ?_) | (refine WL.load hS rfl rfl (LdOk.snap (off := 10) hF hr Mm rfl) rfl rfl rfl ?_) | (refine WL.load hS rfl rfl (LdOk.snap (off := 12) hF hr Mm rfl) rfl rfl rfl ?_) | (refine WL.calls hS rfl rfl (rwhole1_c c.o0 _ z0) rfl rfl rfl ?_; rintro v w rfl hS) | (refine WL.calls hS rfl rfl (rwhole1_c c.n0 _ y0) rfl rfl rfl ?_; rintro v w rfl hS) | (refine WL.calls hS rfl rfl (rwhole1_c c.o1 _ z1) rfl rfl rfl ?_; rintro v w rfl hS) | (refine WL.calls hS rfl rfl (rwhole1_c c.n1 _ y1) rfl rfl rfl ?_; rintro v w rfl hS) | (refine WL.calls hS rfl rfl (rwhole1_c c.o2 _ z2) rfl rfl rfl ?_; rintro v w rfl hS) | (refine WL.calls hS rfl rfl (rwhole1_c c.n2 _ y2) rfl rfl rfl ?_; rintro v w rfl hS) | refine WL.index rfl rfl rfl rfl (by first | with_reducible assumption | omega) rfl rfl rfl rfl ?_ | refine WL.indexArr rfl rfl rfl rfl (by decide) rfl rfl rfl ?_ | refine WL.skip rfl rfl rfl ?_ | ((fail_if_success (refine WL.wanted rfl ?_)); refine WL.guard rfl rfl rfl (fun h => ?_) (fun h => ?_) <;> (try simp only [ZZ0, ZZ1, ZZ2, ZZ3, ZZ4, ZZ5, ZZ6, ZZ7, ZZ8, ZZ9, ZZ10, ZZ11, ZZ12, ZZ13, ZZ14, ZZ15] at h) <;> (try (exfalso; first | omega | contradiction)))) | (show WC _ _ _ _ _ _; first | refine WC.seq ?_ | refine WC.region ?_ | refine WC.block ?_ | refine WC.skip ?_ | refine WC.ret ?_ | refine WC.condT rfl (by with_reducible rfl) ?_ | refine WC.condT rfl (by decide) ?_ | (refine WC.cond rfl (fun h => ?_) (fun h => ?_) <;> (try simp only [ZZ0, ZZ1, ZZ2, ZZ3, ZZ4, ZZ5, ZZ6, ZZ7, ZZ8, ZZ9, ZZ10, ZZ11, ZZ12, ZZ13, ZZ14, ZZ15] at h) <;> (try (exfalso; first | omega | contradiction)))) | refine seqQ_n ?_ | refine blkQ_n ?_ | refine seqQ_r ?_ | refine blkQ_r ?_ | refine rndQ_r ?_)
        all_goals first
          | (refine rndQ_n k' ⟨⟨by omega, ?_⟩, hS⟩ (by show 3 - k' < 3 - _; omega) ⟨vint (by omega), trivial⟩ ⟨rfl, rfl, trivial⟩
             subst hk'
             simp_all [upOk, okC]
             done)
          | (refine fin1r rfl rfl ⟨hS.upd, vbool ?_⟩
             exact (HN (by simp_all [okC])).symm)
    · obtain rfl : k = 3 := by omega
      have hy := hyes huk
      clear hyes hno hlt3 hk
      repeat' (first | (show WL _ _ _ _ _ _ _; first | refine WL.pure rfl rfl rfl rfl ?_ | refine WL.nil ?_ | refine WL.add rfl rfl rfl (by omega) rfl rfl rfl ?_) | (show WC _ _ _ _ _ _; first | refine WC.seq ?_ | refine WC.region ?_ | refine WC.exit ?_ | refine WC.condF rfl (by decide) ?_) | refine seqQ_n ?_ | refine blkQ_n ?_ | refine seqQ_x ?_ | refine blkQ_hit rfl ?_ | refine rndQ_x ?_)
      exact rndQ_n (j + 1) ⟨⟨by omega, hy⟩, hS⟩ (by show cs.length - (j + 1) < cs.length - j; omega) ⟨vint (by omega), trivial⟩ ⟨rfl, trivial⟩
  · have hje : j = cs.length := by omega
    subst hje
    rw [List.take_length] at hok
    rw [hok]
    clear hz
    repeat' (first | (show WL _ _ _ _ _ _ _; first | refine WL.pure rfl rfl rfl rfl ?_ | refine WL.nil ?_ | refine WL.load hS rfl rfl (LdOk.box Mm rfl) rfl rfl rfl ?_) | (show WC _ _ _ _ _ _; first | refine WC.seq ?_ | refine WC.region ?_ | refine WC.exit ?_ | refine WC.ret ?_ | refine WC.condF rfl (decide_eq_false (by first | with_reducible assumption | omega)) ?_) | refine seqQ_n ?_ | refine seqQ_x ?_ | refine blkQ_hit rfl ?_ | refine rndQ_x ?_)
    exact fin1r rfl rfl ⟨hS.upd, rfl⟩
theorem HisIs.nil : HisIs [] [] [] [] 0 := ⟨ChIs.nil, fun k h => (by cases h), fun k h _ => (by cases h), fun k h => (by cases h), .nil, fun k h => (by cases h), .nil, fun k h => (by cases h)⟩
set_option maxHeartbeats 4000000 in
set_option maxRecDepth 100000 in
theorem hmade_c (w0 : World) : Cal Tryz.prog 31 [] w0 (fun v w' => ∃ B Tp q fb fp, v = .pointer (some ⟨B, 0, none⟩) ∧ MutL w0 w' [] [bchC B (some ⟨Tp, 0, none⟩) [] fb, tabC Tp q ⟨sysP, [], ⟨sysL, [], false⟩⟩ fp]) := by
  refine Cal.mkL (D := []) ⟨by simp, by simp, .nil⟩ (by kernel_rfl) Tryz.func31 rfl rfl fun hS => ?_
  repeat' (first | (show WL _ _ _ _ _ _ _; first | refine WL.pure rfl rfl rfl rfl ?_ | refine WL.nil ?_ | (refine WL.callG rfl rfl (dnew_c _) rfl rfl rfl ?_; rintro v w ⟨hu, q, mb, lb, rfl, hn⟩; replace hS := hS.new hu hn; clear hu hn) | (refine WL.callL (D := [dkC q mb lb Dk0]) hS Pu rfl rfl (fun hI => topenFirst_c hI) rfl rfl rfl ?_; rintro v w ⟨Tp, fp, rfl, hmu⟩ hS; replace hS := hS _ hmu; clear hmu) | (refine WL.callG rfl rfl (begin_c _) rfl rfl rfl ?_; rintro v w ⟨hu, B, fb, rfl, hn⟩; replace hS := hS.new hu hn; clear hu hn)) | (show WC _ _ _ _ _ _; first | refine WC.seq ?_ | refine WC.region ?_ | refine WC.skip ?_ | refine WC.ret ?_ | refine WC.condF rfl (by decide) ?_) | refine seqQ_n ?_)
  exact fin1r rfl rfl ⟨_, _, _, _, _, rfl, hS.mutLp Pu⟩
def newN : Nd := ⟨2, [110, 101, 119]⟩
def oldN : Nd := ⟨2, [111, 108, 100]⟩
def oneH : Hc := ⟨[97], 2, newN, oldN, ⟨0, []⟩, newN, newN, newN⟩
def oneR : Hr := ⟨3, 5, 2, [oneH]⟩
set_option maxHeartbeats 4000000 in
set_option maxRecDepth 100000 in
theorem hone_c (w0 : World) : Cal Tryz.prog 45 [] w0 (fun v w' => Upd [] w0 w' ∧ ∃ ob, v = .agg ⟨[.int .i64 3, .int .i64 5, .int .i64 2, .slice (some ⟨ob, 0, none⟩) 1 1]⟩ ∧ New w0 w' (.own (.slice (some ⟨ob, 0, none⟩) 1 1) 79 14 1 (hcs [oneH]))) := by
  refine Cal.mk' (by kernel_rfl) Tryz.func45 rfl rfl fun hS => ?_
  repeat' (first | (show WL _ _ _ _ _ _ _; first | refine WL.nil ?_ | refine WL.load hS rfl rfl (LdOk.box Mm rfl) rfl rfl rfl ?_ | (refine WL.slit (t := 22) hS rfl rfl rfl rfl rfl ?_; intro w ob hS; have hS := hS.boxRow (n := 1) (size := 14) .here rfl (by decide)) | (refine WL.store hS rfl rfl rfl Sb rfl rfl rfl ?_; intro w hS) | (refine WL.alloc hS rfl rfl rfl rfl rfl rfl ?_; intro w b hS) | refine WL.build rfl rfl rfl rfl rfl ?_) | (show WC _ _ _ _ _ _; first | refine WC.seq ?_ | refine WC.region ?_ | refine WC.ret ?_) | refine seqQ_n ?_)
  exact finC1r hS rfl rfl (LdOk.box Mm rfl) ⟨hS.upd, ob, rfl, (hS.droplast2 (D := [.own (.slice (some ⟨ob, 0, none⟩) 1 1) 79 14 1 (hcs [oneH])]) Pu).newOf (List.Mem.head _)⟩
theorem oneR_ok : HrOk oneR := by
  refine ⟨by decide, by decide, by decide, by decide, fun c hc => ?_⟩
  have hc : c ∈ [oneH] := hc
  rw [List.mem_singleton] at hc
  subst hc
  refine ⟨by decide, by decide, fun n hn => ?_⟩
  have hn : n ∈ [newN, newN, oldN, newN, ⟨0, []⟩, newN] := hn
  have h1 : NdOk newN := ⟨by decide, by decide, by decide⟩
  have h2 : NdOk oldN := ⟨by decide, by decide, by decide⟩
  have h3 : NdOk ⟨0, []⟩ := ⟨by decide, by decide, by decide⟩
  simp only [List.mem_cons, List.not_mem_nil, or_false] at hn
  rcases hn with rfl | rfl | rfl | rfl | rfl | rfl
  · exact h1
  · exact h1
  · exact h2
  · exact h1
  · exact h3
  · exact h1
theorem bef_one : befE [oneH] 2 [97] = (oldN, 0) := by
  exact bef_1n (c := oneH) (l := []) (root := 2) (p := [97]) rfl (by decide) rfl (by decide)
theorem AddIs.bnd {rows : Rws} {m m1 : Bch} {vs vs1 : List Ver} {N N1 : Nat} {F : List (Nat × List UInt8)} {k : Kr} (h : AddIs rows m vs N (heldR k.cs) F m1 vs1 N1) (hk : KrIs k) : N1 ≤ N + 6 * k.r.chgs.length ∧ m1.length ≤ m.length + 12 * k.r.chgs.length := by
  have h1 := heldR_len hk.six
  have h2 := hk.len
  have h3 := h.num
  have h4 := h.few
  have h5 := h.len
  omega
set_option maxHeartbeats 16000000 in
set_option maxRecDepth 100000 in
theorem hawake_c (w0 : World) (ht : powT w0) : Cal Tryz.prog 12 [] w0 (fun v w' => Upd [] w0 w' ∧ v = .bool true) := by
  refine Cal.mk' (by kernel_rfl) Tryz.func12 rfl rfl fun hS => ?_
  have hp := PowI.of ht
  have hnl : (([] : Bch).length) ≤ 2097152 := by decide
  repeat' (first | (show WL _ _ _ _ _ _ _; first | refine WL.pure rfl rfl rfl rfl ?_ | refine WL.nil ?_ | refine WL.load hS rfl rfl (LdOk.box Mm rfl) rfl rfl rfl ?_ | (refine WL.callL (D := []) hS .nil rfl rfl (fun hI => hmade_c _) rfl rfl rfl ?_; rintro v w ⟨B, Tp, q, fb, fp, rfl, hmu⟩ hS; replace hS := hS _ hmu; clear hmu) | (refine WL.callG rfl rfl (hone_c _) rfl rfl rfl ?_; rintro v w ⟨hu, ob, rfl, hn⟩; replace hS := hS.new hu hn; clear hu hn) | (refine WL.callL (D := [bchC B (some ⟨Tp, 0, none⟩) [] fb, tabC Tp q ⟨sysP, [], ⟨sysL, [], false⟩⟩ fp]) hS Pu rfl rfl (fun hI => hadd_c (L := []) (vs := []) (N := 0) oneR (A := some ⟨ob, 0, none⟩) (cap := 1) (St.ownSlY (enc := encHc) (hsz := fun _ => rfl) (l := [oneH]) (by decide) (hS.pulls (D := [bchC B (some ⟨Tp, 0, none⟩) [] fb, tabC Tp q ⟨sysP, [], ⟨sysL, [], false⟩⟩ fp]) Pu) Mm) oneR_ok rfl hI (hp.pull hS Pu) HisIs.nil (by decide) hnl) rfl rfl rfl ?_; rintro v w ⟨rfl, ⟨r, cs⟩, m1, vs1, N1, F, fb1, rfl, hki, ha, hh, hmu⟩ hS; replace hS := hS _ hmu; clear hmu; have hN1 : N1 ≤ 6 := (ha.bnd hki).1) | (refine WL.callL (D := [bchC B (some ⟨Tp, 0, none⟩) (noteE m1 ⟨hK 3, recE ⟨oneR, cs⟩, false⟩) fb1, tabC Tp q ⟨sysP, [], ⟨sysL, [], false⟩⟩ fp]) hS Pu rfl rfl (fun hI => hget_c (L := [⟨oneR, cs⟩]) (vs := vs1) (N := N1) ⟨oneR, cs⟩ (List.mem_cons_self ..) hI (hp.pull hS Pu) hh (by omega)) rfl rfl rfl ?_; rintro v w ⟨A, cap, rfl, hmu⟩ hS; replace hS := hS _ hmu; clear hmu) | (refine WL.calls hS rfl rfl (hbefore_c [oneH] 3 5 2 2 [97] _ (St.ownSl (enc := encHc) (hsz := fun _ => rfl) (l := [oneH]) (by decide) hS Mm) (by decide)) rfl rfl rfl ?_; rintro v w rfl hS; rw [bef_one]) | (refine WL.store hS rfl rfl rfl Sb rfl rfl rfl ?_; intro w hS) | (refine WL.alloc hS rfl rfl rfl rfl rfl rfl ?_; intro w b hS)) | (show WC _ _ _ _ _ _; first | refine WC.seq ?_ | refine WC.region ?_ | refine WC.skip ?_ | refine WC.ret ?_ | (show WC _ _ (Code.region _ (List.toArray [_, _, _, _, _, _, _, _, _, _, _, _, _, _, _, _, _]) true) _ _ _; refine WC.drawS hS [0,1,2,3,6,7,8,9,10,11,12,13,14,15,16] [0,1,2,3,4,5,6,7,8,9,10,11,12,13,14,15,16] (by kernel_rfl) (by kernel_rfl) ?_; clear hS; intro w hS hM) | refine WC.condF rfl (by decide) ?_) | (show WD _ _ _ _ _ _ _ _ _; first | refine WD.pure rfl rfl rfl rfl rfl ?_ | refine WD.nil ?_ | refine WD.load rfl rfl (LdOk.box Mm rfl) rfl rfl rfl rfl ?_ | (refine WD.callG rfl rfl (hone_c _) rfl rfl rfl rfl rfl ?_; rintro v w ⟨hu, ob2, rfl, hn⟩; refine ⟨hM.ss (hS.upd0 hu), ?_⟩; have hS := hS.new hu hn; have hM := hM.chunk (.own (.slice (some ⟨ob2, 0, none⟩) 1 1) 79 14 1 (hcs [oneH])); clear hu hn) | (refine WD.calls hS hM rfl rfl (rsame1_c [oneH] 3 5 2 _ (St.ownSl (enc := encHc) (hsz := fun _ => rfl) (l := [oneH]) (by decide) hS Mm) (St.ownSl (enc := encHc) (hsz := fun _ => rfl) (l := [oneH]) (by decide) hS Mm) (by decide)) rfl rfl rfl rfl rfl ?_; clear hS; rintro v w rfl hS)) | refine seqQ_n ?_)
  exact fin1r rfl rfl ⟨hS.upd, rfl⟩
end Go.Proofs.YtobfdeiimnnanaaGreatDoor

/- What is proved: records as arguments, and what the bulk bounds of them. Conditions: none. -/
namespace Go.Proofs.YtobfdeiimnnanaaGreatDoor
open Go Go.J Go.RowKit Go.ChangeShapes Go.WideShapes Go.Deep
instance : Inhabited Hc := ⟨⟨[], 0, ⟨0, []⟩, ⟨0, []⟩, ⟨0, []⟩, ⟨0, []⟩, ⟨0, []⟩, ⟨0, []⟩⟩⟩
instance : Inhabited Hr := ⟨⟨0, 0, 0, []⟩⟩
def cNd : Cod Nd := .flat encNd 2 fun _ => rfl
def dNs (l : List Nd) : Nat := (l.map fun n => n.data.length).sum
def wC (c : Hc) : Nat := 23 + c.path.length + dNs c.nodes
def wL (l : List Hc) : Nat := (l.map wC).sum
def inI (n : Int) : Prop := -9223372036854775808 ≤ n ∧ n ≤ 9223372036854775807
def QHc (c : Hc) (b : Nat) : Prop := inI c.spoke ∧ wC c ≤ b
def QHr (r : Hr) (b : Nat) : Prop := (inI r.id ∧ inI r.tick ∧ inI r.spoke) ∧ (∀ c ∈ r.chgs, inI c.spoke) ∧ wL r.chgs + 5 ≤ b
theorem list2H {α : Type} {l : List α} (h : l.length = 2) : ∃ a b, l = [a, b] := by match l, h with | [a, b], _ => exact ⟨a, b, rfl⟩
theorem list3H {α : Type} {l : List α} (h : l.length = 3) : ∃ a b c, l = [a, b, c] := by match l, h with | [a, b, c], _ => exact ⟨a, b, c, rfl⟩
theorem list4H {α : Type} {l : List α} (h : l.length = 4) : ∃ a b c d, l = [a, b, c, d] := by match l, h with | [a, b, c, d], _ => exact ⟨a, b, c, d, rfl⟩
theorem list6H {α : Type} {l : List α} (h : l.length = 6) : ∃ a b c d e f, l = [a, b, c, d, e, f] := by match l, h with | [a, b, c, d, e, f], _ => exact ⟨a, b, c, d, e, f, rfl⟩
theorem list14H {α : Type} {l : List α} (h : l.length = 14) : ∃ a b c d e f g i j k m n o p, l = [a, b, c, d, e, f, g, i, j, k, m, n, o, p] := by
  match l, h with | [a, b, c, d, e, f, g, i, j, k, m, n, o, p], _ => exact ⟨a, b, c, d, e, f, g, i, j, k, m, n, o, p, rfl⟩
set_option maxRecDepth 100000 in
theorem open_nd : Opens Tryz.prog 26 cNd (fun nd b => nd.data.length + 3 ≤ b) := by
  intro H enc W fuel cs x h
  obtain ⟨xs, n, _, rfl, hlen, hxl, hf⟩ := DataW.trod_struct Tryz.underlying26 h
  obtain ⟨x0, x1, rfl⟩ := list2H hxl
  obtain ⟨c0, c1, rfl⟩ := list2H (hlen.trans (by kernel_rfl))
  have h0 := hf 0 _ rfl
  have h1 := hf 1 _ rfl
  change DataW.trod enc Tryz.prog W 0 _ true n 3 [c0] = some x0 at h0
  change DataW.trod enc Tryz.prog W 0 _ true n 9 [c1] = some x1 at h1
  obtain ⟨k, e0, rfl, _⟩ := DataW.trod_int Tryz.underlying3 h0
  obtain ⟨s, e1, rfl, _⟩ := DataW.trod_string Tryz.underlying9 h1
  simp only [List.cons.injEq, and_true] at e0 e1
  subst e0 e1
  refine ⟨⟨k, s.data.toList⟩, rfl, ?_⟩
  simp [Rows.uptoBulk, Rows.uptoBulkAll]; omega
set_option maxRecDepth 100000 in
theorem open_nd3 {H : Type} (enc : TypeId × Value → H) (W : World) (fuel : Nat) (cs : List Value) (x : DataW H × List MemPlace) (h : DataW.trod enc Tryz.prog W 0 (fun _ => true) true fuel 77 cs = some x) :
    ∃ n0 n1 n2 : Nd, cs = [.int .i64 n0.kind, str n0.data, .int .i64 n1.kind, str n1.data, .int .i64 n2.kind, str n2.data] ∧ n0.data.length + n1.data.length + n2.data.length + 10 ≤ Rows.uptoBulk x.1 := by
  obtain ⟨xs, m, _, rfl, hlen, hxl, hf⟩ := DataW.trod_array Tryz.underlying77 h
  obtain ⟨x0, x1, x2, rfl⟩ := list3H hxl
  obtain ⟨c0, c1, c2, c3, c4, c5, rfl⟩ := list6H (hlen.trans (by kernel_rfl))
  have h0 := hf 0 (by decide)
  have h1 := hf 1 (by decide)
  have h2 := hf 2 (by decide)
  change DataW.trod enc Tryz.prog W 0 _ true m 26 [c0, c1] = some x0 at h0
  change DataW.trod enc Tryz.prog W 0 _ true m 26 [c2, c3] = some x1 at h1
  change DataW.trod enc Tryz.prog W 0 _ true m 26 [c4, c5] = some x2 at h2
  obtain ⟨n0, e0, q0⟩ := open_nd enc W m _ _ h0
  obtain ⟨n1, e1, q1⟩ := open_nd enc W m _ _ h1
  obtain ⟨n2, e2, q2⟩ := open_nd enc W m _ _ h2
  change [c0, c1] = [.int .i64 n0.kind, str n0.data] at e0
  change [c2, c3] = [.int .i64 n1.kind, str n1.data] at e1
  change [c4, c5] = [.int .i64 n2.kind, str n2.data] at e2
  simp only [List.cons.injEq, and_true] at e0 e1 e2
  obtain ⟨rfl, rfl⟩ := e0
  obtain ⟨rfl, rfl⟩ := e1
  obtain ⟨rfl, rfl⟩ := e2
  refine ⟨n0, n1, n2, rfl, ?_⟩
  simp [Rows.uptoBulk, Rows.uptoBulkAll]; omega
set_option maxRecDepth 100000 in
theorem open_hc : Opens Tryz.prog 79 cHc QHc := by
  intro H enc W fuel cs x h
  obtain ⟨xs, n, _, rfl, hlen, hxl, hf⟩ := DataW.trod_struct Tryz.underlying79 h
  obtain ⟨x0, x1, x2, x3, rfl⟩ := list4H hxl
  obtain ⟨c0, c1, c2, c3, c4, c5, c6, c7, c8, c9, c10, c11, c12, c13, rfl⟩ := list14H (hlen.trans (by kernel_rfl))
  have h0 := hf 0 _ rfl
  have h1 := hf 1 _ rfl
  have h2 := hf 2 _ rfl
  have h3 := hf 3 _ rfl
  change DataW.trod enc Tryz.prog W 0 _ true n 9 [c0] = some x0 at h0
  change DataW.trod enc Tryz.prog W 0 _ true n 3 [c1] = some x1 at h1
  change DataW.trod enc Tryz.prog W 0 _ true n 77 [c2, c3, c4, c5, c6, c7] = some x2 at h2
  change DataW.trod enc Tryz.prog W 0 _ true n 77 [c8, c9, c10, c11, c12, c13] = some x3 at h3
  obtain ⟨s, e0, rfl, _⟩ := DataW.trod_string Tryz.underlying9 h0
  obtain ⟨k, e1, rfl, hk⟩ := DataW.trod_int Tryz.underlying3 h1
  obtain ⟨o0, o1, o2, e2, q2⟩ := open_nd3 enc W n _ _ h2
  obtain ⟨n0, n1, n2, e3, q3⟩ := open_nd3 enc W n _ _ h3
  simp only [List.cons.injEq, and_true] at e0 e1 e2 e3
  obtain rfl := e0
  obtain rfl := e1
  obtain ⟨rfl, rfl, rfl, rfl, rfl, rfl⟩ := e2
  obtain ⟨rfl, rfl, rfl, rfl, rfl, rfl⟩ := e3
  refine ⟨⟨s.data.toList, k, o0, o1, o2, n0, n1, n2⟩, rfl, bounds_i64 hk, ?_⟩
  simp only [wC, dNs, Hc.nodes, Rows.uptoBulk, Rows.uptoBulkAll, List.map_cons, List.map_nil, List.sum_cons, List.sum_nil]
  omega
theorem ql_hcs : ∀ {cs : List Hc} {b : Nat}, QL QHc cs b → (∀ c ∈ cs, inI c.spoke) ∧ wL cs + 1 ≤ b
  | cs, b, ⟨bs, hl, hq, hs⟩ => by
    refine ⟨fun c hc => ?_, ?_⟩
    · obtain ⟨i, hi, rfl⟩ := List.getElem_of_mem hc
      exact (hq i hi (by omega)).1
    · have : wL cs ≤ bs.sum := by
        clear hs
        induction cs generalizing bs with
        | nil => exact Nat.zero_le _
        | cons c cs ih =>
          match bs, hl with
          | b0 :: bs, hl =>
            have h0 := (hq 0 (by simp) (by simp)).2
            simp only [List.getElem_cons_zero] at h0
            have := ih bs (by simpa using hl) fun i h h' => by have := hq (i + 1) (by simpa using h) (by simpa using h'); simpa using this
            unfold wL at *
            simp only [List.map_cons, List.sum_cons]
            omega
      omega
set_option maxRecDepth 100000 in
theorem open_hr : Opens Tryz.prog 24 cHr QHr := by
  intro H enc W fuel cs x h
  obtain ⟨xs, n, _, rfl, hlen, hxl, hf⟩ := DataW.trod_struct Tryz.underlying24 h
  obtain ⟨x0, x1, x2, x3, rfl⟩ := list4H hxl
  obtain ⟨c0, c1, c2, c3, rfl⟩ := list4H (hlen.trans (by kernel_rfl))
  have h0 := hf 0 _ rfl
  have h1 := hf 1 _ rfl
  have h2 := hf 2 _ rfl
  have h3 := hf 3 _ rfl
  change DataW.trod enc Tryz.prog W 0 _ true n 3 [c0] = some x0 at h0
  change DataW.trod enc Tryz.prog W 0 _ true n 3 [c1] = some x1 at h1
  change DataW.trod enc Tryz.prog W 0 _ true n 3 [c2] = some x2 at h2
  change DataW.trod enc Tryz.prog W 0 _ true n 22 [c3] = some x3 at h3
  obtain ⟨k0, e0, rfl, b0⟩ := DataW.trod_int Tryz.underlying3 h0
  obtain ⟨k1, e1, rfl, b1⟩ := DataW.trod_int Tryz.underlying3 h1
  obtain ⟨k2, e2, rfl, b2⟩ := DataW.trod_int Tryz.underlying3 h2
  obtain ⟨ys, ⟨A, cap, e3, hcap, hsl⟩, q3⟩ := Opens.slice Tryz.underlying22 (by kernel_rfl) (by decide) open_hc enc W n _ _ h3
  simp only [List.cons.injEq, and_true] at e0 e1 e2 e3
  subst e0 e1 e2 e3
  obtain ⟨z1, z2⟩ := ql_hcs q3
  refine ⟨⟨k0, k1, k2, ys⟩, ⟨A, cap, rfl, hcap, hsl⟩, ⟨bounds_i64 b0, bounds_i64 b1, bounds_i64 b2⟩, z1, ?_⟩
  simp only [Rows.uptoBulk, Rows.uptoBulkAll, List.map_cons, List.map_nil]
  omega
theorem wC_ge (c : Hc) : 23 ≤ wC c := by unfold wC; omega
theorem wL_len : ∀ l : List Hc, 23 * l.length ≤ wL l
  | [] => Nat.le_refl _
  | c :: l => by
    have h1 := wL_len l
    have h2 := wC_ge c
    unfold wL at *
    rw [List.map_cons, List.sum_cons, List.length_cons]
    omega
theorem wL_mem {l : List Hc} {c : Hc} (h : c ∈ l) : wC c ≤ wL l := by
  induction l with
  | nil => cases h
  | cons a l ih =>
    unfold wL at *
    rw [List.map_cons, List.sum_cons]
    rcases List.mem_cons.1 h with rfl | h
    · omega
    · have := ih h; omega
theorem dNs_mem {l : List Nd} {n : Nd} (h : n ∈ l) : n.data.length ≤ dNs l := by
  induction l with
  | nil => cases h
  | cons a l ih =>
    unfold dNs at *
    rw [List.map_cons, List.sum_cons]
    rcases List.mem_cons.1 h with rfl | h
    · omega
    · have := ih h; omega
theorem hr_ok {r : Hr} {b : Nat} (hq : QHr r b) (hb : b ≤ 1048576) (hi : 1 ≤ r.id ∧ r.id ≤ 1099511627776) (ht : 0 ≤ r.tick ∧ r.tick ≤ 1099511627776) (hok : ∀ c ∈ r.chgs, ∀ n ∈ c.nodes, NdOk n) : HrOk r := by
  obtain ⟨⟨_, _, h3⟩, hs, hw⟩ := hq
  have hl := wL_len r.chgs
  refine ⟨hi, ht, h3, by omega, fun c hc => ⟨?_, hs c hc, hok c hc⟩⟩
  have := wL_mem hc
  unfold wC at this
  omega
theorem hr_small {r : Hr} {b : Nat} (hq : QHr r b) (hb : b ≤ 1048576) : r.chgs.length ≤ 45590 ∧ ∀ c ∈ r.chgs, ∀ n ∈ c.nodes, n.data.length ≤ 1048576 := by
  obtain ⟨_, _, hw⟩ := hq
  have hl := wL_len r.chgs
  refine ⟨by omega, fun c hc n hn => ?_⟩
  have h1 := wL_mem hc
  have h2 := dNs_mem hn
  unfold wC at h1
  omega
def cntR (l : List Hr) : Nat := (l.map fun r => r.chgs.length).sum
theorem le_sumN : ∀ {l : List Nat} {x : Nat}, x ∈ l → x ≤ l.sum
  | [], _, h => by cases h
  | a :: l, x, h => by
    rw [List.sum_cons]
    rcases List.mem_cons.1 h with rfl | h
    · omega
    · have := le_sumN h; omega
structure Stp21 where
  kind : Int
  id : Int
  r : Hr
  clock : Int
  quota : Int
  age : Int
def cStp21 : Cod Stp21 where
  sz := 9
  rd F w cs s := ∃ A cap, cs = [.int .i64 s.kind, .int .i64 s.id, .int .i64 s.r.id, .int .i64 s.r.tick, .int .i64 s.r.spoke, .slice A s.r.chgs.length cap, .int .i64 s.clock, .int .i64 s.quota, .int .i64 s.age] ∧ s.r.chgs.length ≤ cap ∧ SlAt cHc F w A s.r.chgs
  len := fun ⟨_, _, e, _⟩ => by rw [e]; rfl
  loc := fun ⟨A, cap, e, hc, h⟩ hs => ⟨A, cap, e, hc, h.loc hs⟩
  mono := fun ⟨A, cap, e, hc, h⟩ hs => ⟨A, cap, e, hc, h.mono hs⟩
instance : Inhabited Stp21 := ⟨⟨0, 0, default, 0, 0, 0⟩⟩
def QStp21 (s : Stp21) (b : Nat) : Prop := (inI s.id ∧ inI s.clock ∧ inI s.quota ∧ inI s.age) ∧ QHr s.r b
theorem list9H {α : Type} {l : List α} (h : l.length = 9) : ∃ a b c d e f g i j, l = [a, b, c, d, e, f, g, i, j] := by match l, h with | [a, b, c, d, e, f, g, i, j], _ => exact ⟨a, b, c, d, e, f, g, i, j, rfl⟩
set_option maxRecDepth 100000 in
theorem open_stp21 : Opens Tryz.prog 88 cStp21 QStp21 := by
  intro H enc W fuel cs x h
  obtain ⟨xs, n, _, rfl, hlen, hxl, hf⟩ := DataW.trod_struct Tryz.underlying88 h
  obtain ⟨x0, x1, x2, x3, x4, x5, rfl⟩ := list6H hxl
  obtain ⟨c0, c1, c2, c3, c4, c5, c6, c7, c8, rfl⟩ := list9H (hlen.trans (by kernel_rfl))
  obtain ⟨s0, e0, q0⟩ := Opens.int Tryz.underlying3 enc W n [c0] x0 (hf 0 _ rfl)
  obtain ⟨s1, e1, q1⟩ := Opens.int Tryz.underlying3 enc W n [c1] x1 (hf 1 _ rfl)
  obtain ⟨⟨rid, rtick, rspoke, rch⟩, ⟨A, cap, e2, hcap, hA⟩, q2⟩ := open_hr enc W n [c2, c3, c4, c5] x2 (hf 2 _ rfl)
  obtain ⟨s3, e3, q3⟩ := Opens.int Tryz.underlying3 enc W n [c6] x3 (hf 3 _ rfl)
  obtain ⟨s4, e4, q4⟩ := Opens.int Tryz.underlying3 enc W n [c7] x4 (hf 4 _ rfl)
  obtain ⟨s5, e5, q5⟩ := Opens.int Tryz.underlying3 enc W n [c8] x5 (hf 5 _ rfl)
  have e0 : [c0] = [.int .i64 s0] := e0
  have e1 : [c1] = [.int .i64 s1] := e1
  have e3 : [c6] = [.int .i64 s3] := e3
  have e4 : [c7] = [.int .i64 s4] := e4
  have e5 : [c8] = [.int .i64 s5] := e5
  dsimp only at e2
  simp only [List.cons.injEq, and_true] at e0 e1 e2 e3 e4 e5
  obtain ⟨rfl, rfl, rfl, rfl⟩ := e2
  subst e0 e1 e3 e4 e5
  refine ⟨⟨s0, s1, ⟨rid, rtick, rspoke, rch⟩, s3, s4, s5⟩, ⟨A, cap, rfl, hcap, hA⟩, ⟨⟨q1.1, q1.2.1⟩, ⟨q3.1, q3.2.1⟩, ⟨q4.1, q4.2.1⟩, ⟨q5.1, q5.2.1⟩⟩, q2.1, q2.2.1, ?_⟩
  have := q2.2.2
  simp [Rows.uptoBulk, Rows.uptoBulkAll] at *
  omega
theorem arg_stps21 : Arg Tryz.prog 86 (ASl cStp21) (QL QStp21) := Arg.slice Tryz.underlying86 (Opens.slice Tryz.underlying86 (by kernel_rfl) (by decide) open_stp21)
set_option maxRecDepth 100000 in
theorem pow_historyPlays (W : World) (h : laidMet Tryz.prog Rows.historyPlaysUptoRow.laid W) : Lib.TabIs Tryz.prog W "internal/strconv.uint64pow10" .u64 Lib.pow10Tab := by
  obtain ⟨a, b, r, he⟩ : ∃ a b r, Rows.historyPlaysUptoRow.laid = a :: b :: ("internal/strconv.uint64pow10", Lib.tabData .u64 Lib.pow10Tab) :: r := ⟨_, _, _, rfl⟩
  rw [he] at h
  have h1 := laidMet.tail (laidMet.tail h)
  exact Lib.tabIs_of_head (g := 3) (t := 299) (e := 178) (n := 20) (by kernel_rfl) (by kernel_rfl) (by kernel_rfl) (by kernel_rfl) (by kernel_rfl) (by kernel_rfl) h1
end Go.Proofs.YtobfdeiimnnanaaGreatDoor

/- What is proved: that the law's alike answers true where all records are as the document says. Conditions: lists of bounded length; the library's table of powers laid. -/
namespace Go.Proofs.YtobfdeiimnnanaaGreatDoor
open Go Go.J Go.RowKit
section
variable {w0 w : World} {M : List Nat} {H : List Chunk} {Z : List Snap} {ps : List Pr} {p p' : Pr} {fp fr : List Nat} {i : Nat}
theorem _root_.Go.J.St.innAt (hS : St w0 M w (innC ps fp :: H) Z) (h : ps[i]? = some p) : ∃ fr, St w0 M w (inC p :: objC (fun D => D = (ps.map inC).eraseIdx i) fr :: H) Z := by
  obtain ⟨D, hD, _, hS⟩ := hS.objOpen
  subst hD
  have hq : (ps.map inC)[i]? = some (inC p) := by rw [List.getElem?_map, h]; rfl
  have h2 : (ps.map inC ++ H).Perm ((ps.map inC).eraseIdx i ++ (inC p :: H)) :=
    ((pfront hq).append_right H).trans (List.perm_middle.symm)
  have hS := hS.perm h2
  have hS := hS.objClose (φ := fun D => D = (ps.map inC).eraseIdx i) rfl
  exact ⟨_, hS.perm (.swap _ _ _)⟩
theorem _root_.Go.J.St.innPut (hS : St w0 M w (inC p' :: objC (fun D => D = (ps.map inC).eraseIdx i) fr :: H) Z) (h : i < ps.length) : ∃ fp', St w0 M w (innC (ps.set i p') fp' :: H) Z := by
  have hS := hS.perm (.swap _ _ _)
  obtain ⟨D, hD, _, hS⟩ := hS.objOpen
  subst hD
  have h2 : ((ps.map inC).eraseIdx i ++ (inC p' :: H)).Perm ((ps.set i p').map inC ++ H) := by
    rw [List.map_set]
    exact List.perm_middle.trans ((pback (by rw [List.length_map]; exact h) (inC p')).append_right H)
  have hS := hS.perm h2
  exact ⟨_, hS.objClose (φ := fun D => D = (ps.set i p').map inC) rfl⟩
end
theorem prs_at {ps : List Pr} {i : Nat} {p : Pr} (h : ps[i]? = some p) {k : Nat} (hk : k < 4) : (prs ps)[i * 4 + k]? = (encHr p)[k]? := by
  obtain ⟨hi, rfl⟩ := List.getElem?_eq_some_iff.1 h
  exact flat_get (enc := encHr) (fun _ => rfl) ps hi hk
theorem prs_id : ∀ {ps : List Pr} {i : Nat} {p : Pr} (h : ps[i]? = some p) (x : Int), (prs ps).take (i * 4 + 0) ++ [.int .i64 x] ++ (prs ps).drop (i * 4 + 0 + 1) = prs (ps.set i ({ p.1 with id := x }, p.2))
  | [], _, _, h, _ => by cases h
  | a :: l, 0, p, h, x => by
    obtain rfl : a = p := by simpa using h
    rfl
  | a :: l, i + 1, p, h, x => by
    have ih := prs_id (ps := l) (i := i) (p := p) (by simpa using h) x
    have e : prs (a :: l) = encHr a ++ prs l := rfl
    have e2 : prs ((a :: l).set (i + 1) ({ p.1 with id := x }, p.2)) = encHr a ++ prs (l.set i ({ p.1 with id := x }, p.2)) := rfl
    have e3 : (encHr a).length = 4 := rfl
    rw [e, e2, ← ih, show (i + 1) * 4 + 0 = (encHr a).length + (i * 4 + 0) by rw [e3]; omega, show (encHr a).length + (i * 4 + 0) + 1 = (encHr a).length + (i * 4 + 0 + 1) by omega,
      List.take_length_add_append, List.drop_length_add_append, List.append_assoc, List.append_assoc, List.append_assoc]
theorem prs_chg {ps : List Pr} {i : Nat} {p : Pr} (h : ps[i]? = some p) {cs : List Hc} (hc : cs.length = p.1.chgs.length) : prs (ps.set i ({ p.1 with chgs := cs }, p.2)) = prs ps := by
  induction ps generalizing i with
  | nil => cases h
  | cons a l ih =>
    cases i with
    | zero =>
      obtain rfl : a = p := by simpa using h
      show encHr ({ a.1 with chgs := cs }, a.2) ++ prs l = encHr a ++ prs l
      unfold encHr
      dsimp only
      rw [hc]
    | succ i =>
      have := ih (i := i) (by simpa using h)
      show encHr a ++ prs (l.set i _) = encHr a ++ prs l
      rw [this]
theorem place_find : ∀ {L : List Kr} (hs : (L.map fun k => k.r.id).Pairwise (· < ·)) (id : Int), (placeE (L.map Kr.r) id).2 = (findH L id).isSome
  | [], _, _ => rfl
  | k :: l, hs, id => by
    rw [List.map_cons, List.pairwise_cons] at hs
    rw [List.map_cons, place_cons]
    unfold findH
    by_cases h1 : k.r.id = id
    · rw [if_pos h1, List.find?_cons_of_pos (by simp [h1])]
      rfl
    · rw [if_neg h1, List.find?_cons_of_neg (by simp [h1])]
      by_cases h2 : id < k.r.id
      · rw [if_pos h2]
        have : l.find? (fun k => decide (k.r.id = id)) = none := by
          rw [List.find?_eq_none]
          intro x hx
          have := hs.1 _ (List.mem_map.2 ⟨x, hx, rfl⟩)
          simp only [decide_eq_true_eq]
          omega
        rw [this]
        rfl
      · rw [if_neg h2]
        exact place_find hs.2 id
def xHc : Hc := ⟨[120], 0, ⟨0, []⟩, ⟨0, []⟩, ⟨0, []⟩, ⟨0, []⟩, ⟨0, []⟩, ⟨0, []⟩⟩
section
variable {B Tp q : Nat} {T : Tb} {m : Bch} {fb fp : List Nat} {L : List Kr} {vs : List Ver} {N : Nat} {w0 : World}
set_option maxHeartbeats 64000000 in
set_option maxRecDepth 100000 in
theorem halike_c (ls : List Pr) (id : Int) (h0 : -9223372036854775808 ≤ id) (h1 : id ≤ 9223372036854775807) {A : Option Addr} {cap : Nat} (hP : SlAt cPr (fun b => b < w0.heap.size ∧ b ∉ fps [bchC B (some ⟨Tp, 0, none⟩) m fb, tabC Tp q T fp]) w0 A ls) (hA : SlAt cHr (fun b => b < w0.heap.size ∧ b ∉ fps [bchC B (some ⟨Tp, 0, none⟩) m fb, tabC Tp q T fp]) w0 A (L.map Kr.r))
    (hls : ls.map Prod.fst = L.map Kr.r) (hi : InL w0 [bchC B (some ⟨Tp, 0, none⟩) m fb, tabC Tp q T fp]) (hp : PowI w0 (fps [bchC B (some ⟨Tp, 0, none⟩) m fb, tabC Tp q T fp])) (h : HisIs T.rows m L vs N) (hN : N ≤ 1048576) (hL : L.length ≤ 100000) (hm : m.length ≤ 549755813888) (hr0 : T.rows.length ≤ 549755813888) :
    Cal Tryz.prog 44 [.pointer (some ⟨B, 0, none⟩), .slice A ls.length cap, .int .i64 id] w0 (fun v w' => v = .bool true ∧ MutL w0 w' [bchC B (some ⟨Tp, 0, none⟩) m fb, tabC Tp q T fp] [bchC B (some ⟨Tp, 0, none⟩) m fb, tabC Tp q T fp]) := by
  refine Cal.mkL hi (by kernel_rfl) Tryz.func44 rfl rfl fun hS => ?_
  have hll : ls.length = L.length := by have := congrArg List.length hls; rwa [List.length_map, List.length_map] at this
  have hpl := fun w (h : SlAt cPr (Old w) w A ls) => rplace_c (cap := cap) ls id w h (by omega)
  rw [hls, place_find h.srt, hll] at hpl
  rw [hll]
  have hfew : ∀ r ∈ L.map Kr.r, r.chgs.length ≤ 1048576 := fun r hr => by
    obtain ⟨k, hk, rfl⟩ := List.mem_map.1 hr
    have := (h.ok k hk).1.few
    omega
  have hsame := fun {A B : Option Addr} {ca cb : Nat} (w : World) (h1 : SlAt cHr (Old w) w A (L.map Kr.r)) (h2 : SlAt cHr (Old w) w B (L.map Kr.r)) => rsame_c (ca := ca) (cb := cb) (L.map Kr.r) w h1 h2 (by rw [List.length_map]; omega) hfew
  rw [List.length_map] at hsame
  clear hfew
  repeat' (first | (show WL _ _ _ _ _ _ _; first | refine WL.pure rfl rfl rfl rfl ?_ | refine WL.nil ?_ | refine WL.load hS rfl rfl (LdOk.box Mm rfl) rfl rfl rfl ?_ | refine WL.add rfl rfl rfl (by omega) rfl rfl rfl ?_ | refine WL.sub rfl rfl rfl (by omega) rfl rfl rfl ?_ | (refine WL.callL (D := [bchC B (some ⟨Tp, 0, none⟩) m fb, tabC Tp q T fp]) hS Pu rfl rfl (fun hI => hall_c hI (hp.pull hS Pu) h hN (by omega) hm hr0) rfl rfl rfl ?_; rintro v w ⟨og, oo, oc, ps, fi, hps, rfl, hmu⟩ hS; replace hS := hS _ hmu; clear hmu) | (refine WL.callL (D := [bchC B (some ⟨Tp, 0, none⟩) m fb, tabC Tp q T fp]) hS Pu rfl rfl (fun hI => hids_c hI h (by omega) hm hr0) rfl rfl rfl ?_; rintro v w ⟨AI, ci, rfl, hmu⟩ hS; replace hS := hS _ hmu; clear hmu) | (refine WL.calls hS rfl rfl (hsame _ (hps ▸ hS.recsSl (ps := ps) (fp := fi) Mm Mm) (hS.slO Mm hA)) rfl rfl rfl ?_; rintro v w rfl hS) | refine WL.conv64 rfl rfl rfl (by omega) rfl rfl rfl ?_ | refine WL.cat rfl rfl rfl (by omega) rfl rfl rfl ?_ | refine WL.idxS rfl rfl rfl rfl (by with_reducible assumption) rfl rfl rfl ?_ | refine WL.lowS rfl rfl rfl rfl (by omega) rfl rfl rfl ?_ | refine WL.highS rfl rfl rfl rfl (by omega) rfl rfl rfl ?_ | refine WL.midS rfl rfl rfl rfl rfl (by omega) (by omega) rfl rfl rfl ?_ | refine WL.maxI rfl rfl rfl rfl rfl rfl ?_ | refine WL.minI rfl rfl rfl rfl rfl rfl ?_ | (refine WL.store hS rfl rfl rfl Sb rfl rfl rfl ?_; intro w hS) | (refine WL.box hS rfl rfl rfl rfl rfl ?_; intro w b hS) | (refine WL.alloc hS rfl rfl rfl rfl rfl rfl ?_; intro w b hS) | refine WL.index rfl rfl rfl rfl (by first | with_reducible assumption | omega) rfl rfl rfl rfl ?_ | refine WL.index (j := 0) rfl rfl rfl rfl (by omega) rfl rfl rfl rfl ?_ | refine WL.indexArr rfl rfl rfl rfl (by decide) rfl rfl rfl ?_ | refine WL.skip rfl rfl rfl ?_ | refine WL.build rfl rfl rfl rfl rfl ?_ | (refine WL.slit hS rfl rfl rfl rfl rfl ?_; intro w b hS) | refine WL.eqS rfl rfl rfl rfl (by kernel_rfl) rfl rfl rfl ?_ | refine WL.neS rfl rfl rfl rfl (by kernel_rfl) rfl rfl rfl ?_ | ((fail_if_success (refine WL.wanted rfl ?_)); refine WL.guard rfl rfl rfl (fun h => ?_) (fun h => ?_) <;> (try simp only [ZZ0, ZZ1, ZZ2, ZZ3, ZZ4, ZZ5, ZZ6, ZZ7, ZZ8, ZZ9, ZZ10, ZZ11, ZZ12, ZZ13, ZZ14, ZZ15] at h) <;> (try (exfalso; first | omega | contradiction)))) | (show WC _ _ _ _ _ _; first | refine WC.seq ?_ | refine WC.region ?_ | refine WC.block ?_ | refine WC.skip ?_ | refine WC.exit ?_ | refine WC.ret ?_ | refine WC.condT rfl (by with_reducible rfl) ?_ | refine WC.condF rfl (by with_reducible rfl) ?_ | refine WC.condT rfl (by decide) ?_ | refine WC.condF rfl (by decide) ?_ | refine WC.condT rfl (decide_eq_true (by first | with_reducible assumption | omega)) ?_ | refine WC.condF rfl (decide_eq_false (by first | with_reducible assumption | omega)) ?_ | refine WC.condT rfl (by first | (simp; done) | (simp; omega)) ?_ | refine WC.condF rfl (by first | (simp; done) | (simp; omega)) ?_ | (refine WC.cond rfl (fun h => ?_) (fun h => ?_) <;> (try simp only [ZZ0, ZZ1, ZZ2, ZZ3, ZZ4, ZZ5, ZZ6, ZZ7, ZZ8, ZZ9, ZZ10, ZZ11, ZZ12, ZZ13, ZZ14, ZZ15] at h) <;> (try (exfalso; first | omega | contradiction)))) | (show WD _ _ _ _ _ _ _ _ _; first | refine WD.pure rfl rfl rfl rfl rfl ?_ | refine WD.nil ?_ | refine WD.load rfl rfl (LdOk.box Mm rfl) rfl rfl rfl rfl ?_ | refine WD.add rfl rfl rfl (by omega) rfl rfl rfl rfl ?_ | refine WD.sub rfl rfl rfl (by omega) rfl rfl rfl rfl ?_ | refine WD.conv64 rfl rfl rfl (by omega) rfl rfl rfl rfl ?_ | refine WD.index rfl rfl rfl rfl (by first | with_reducible assumption | omega) rfl rfl rfl rfl rfl ?_ | refine WD.index (j := 0) rfl rfl rfl rfl (by omega) rfl rfl rfl rfl rfl ?_ | refine WD.indexArr rfl rfl rfl rfl (by decide) rfl rfl rfl rfl ?_ | refine WD.pass rfl rfl rfl rfl ?_ | refine WD.skip rfl rfl rfl rfl rfl (hM.ss hS) ?_ | refine WD.build rfl rfl rfl rfl rfl rfl ?_ | (refine WD.slit hS hM rfl rfl rfl rfl rfl rfl rfl ?_; intro w b hS hM) | refine WD.eqS rfl rfl rfl rfl (by kernel_rfl) rfl rfl rfl rfl ?_ | refine WD.neS rfl rfl rfl rfl (by kernel_rfl) rfl rfl rfl rfl ?_ | (refine WD.box hS hM rfl rfl rfl rfl rfl rfl rfl ?_; intro w b hS hM) | ((fail_if_success (refine WD.wanted rfl ?_)); refine WD.guard rfl rfl rfl (fun h => ?_) (fun h => ?_) <;> (try simp only [ZZ0, ZZ1, ZZ2, ZZ3, ZZ4, ZZ5, ZZ6, ZZ7, ZZ8, ZZ9, ZZ10, ZZ11, ZZ12, ZZ13, ZZ14, ZZ15] at h) <;> (try (exfalso; first | omega | contradiction)))) | refine seqQ_n ?_ | refine blkQ_n ?_ | refine seqQ_x ?_ | refine seqQ_r ?_ | refine blkQ_r ?_ | refine blkQ_hit rfl ?_ | refine blkQ_miss rfl ?_ | refine rndQ_x ?_ | refine rndQ_r ?_ | refine rdQ_n ?_ | refine rdQ_x ?_ | refine rdQ_r ?_ | refine cutQ_n ?_ | refine cutQ_r ?_ | refine cutQ_miss rfl ?_ | refine endQ_x ?_ | refine endQ_r ?_)
  refine WC.loop (σ := Nat) [0, 1, 2, 7, 8] (fun j => [(9, .int .i64 (j : Int))])
    (fun j w => j ≤ L.length ∧ St w0 (fps [bchC B (some ⟨Tp, 0, none⟩) m fb, tabC Tp q T fp]) w [.own (.slice (some ⟨og, oo, none⟩) L.length oc) 24 4 L.length (prs ps), innC ps fi, .own (.slice AI L.length ci) 3 1 L.length (ints (idsH L)), bchC B (some ⟨Tp, 0, none⟩) m fb, tabC Tp q T fp] (ZL w0 [bchC B (some ⟨Tp, 0, none⟩) m fb, tabC Tp q T fp])) (fun j => L.length - j) 0 ⟨Nat.zero_le _, hS.droplast2 Pu⟩ ⟨rfl, trivial⟩ ?_
  repeat (clear hS)
  rintro j g w ⟨hj, hS⟩
  show WC _ _ _ (lf _ [(9, .int .i64 (j : Int))] _ _) _ _
  by_cases hlt : j < L.length
  · obtain ⟨kg, ko, rfl⟩ := hS.own_addr (A := AI) (n := L.length) Mm (by omega)
    have hkm := List.getElem_mem hlt
    have hkx : (ints (idsH L))[j * 1]? = some (.int .i64 (L[j]).r.id) := by
      rw [Nat.mul_one, ints_at (by rw [idsH_len]; exact hlt)]
      unfold idsH
      rw [List.getElem_map]
    obtain ⟨ga, go, es, rfl, hF, hr, hrd⟩ := hA.at_ (k := j) (by rw [List.length_map]; exact hlt)
    rw [List.getElem_map] at hrd
    generalize L[j] = k at *
    obtain ⟨⟨kid, ktick, kspoke, cs⟩, ck⟩ := k
    obtain ⟨A1, c1, rfl, _, hs1⟩ := hrd
    dsimp only at hr hs1 hkx
    replace hr : w0.rangeAt ga (go + j * 4) [.int .i64 kid, .int .i64 ktick, .int .i64 kspoke, .slice A1 cs.length c1] := hr
    have hfw : cs.length ≤ 65536 := (h.ok _ hkm).1.few
    clear hA hP hpl hsame hls
    repeat' (first | (show WL _ _ _ _ _ _ _; first | refine WL.pure rfl rfl rfl rfl ?_ | refine WL.nil ?_ | refine WL.load hS rfl rfl (LdOk.box Mm rfl) rfl rfl rfl ?_ | refine WL.add rfl rfl rfl (by omega) rfl rfl rfl ?_ | refine WL.sub rfl rfl rfl (by omega) rfl rfl rfl ?_ | (refine WL.load hS rfl rfl (LdOk.snap (off := 0) hF hr Mm rfl) rfl rfl rfl ?_) | (refine WL.callL (D := [bchC B (some ⟨Tp, 0, none⟩) m fb, tabC Tp q T fp]) hS Pu rfl rfl (fun hI => hget_c (L := L) (vs := vs) (N := N) ⟨⟨kid, ktick, kspoke, cs⟩, ck⟩ hkm hI (hp.pull hS Pu) h hN) rfl rfl rfl ?_; rintro v w ⟨A5, cap5, rfl, hmu⟩ hS; replace hS := hS _ hmu; clear hmu) | refine WL.conv64 rfl rfl rfl (by omega) rfl rfl rfl ?_ | refine WL.cat rfl rfl rfl (by omega) rfl rfl rfl ?_ | refine WL.idxS rfl rfl rfl rfl (by with_reducible assumption) rfl rfl rfl ?_ | refine WL.lowS rfl rfl rfl rfl (by omega) rfl rfl rfl ?_ | refine WL.highS rfl rfl rfl rfl (by omega) rfl rfl rfl ?_ | refine WL.midS rfl rfl rfl rfl rfl (by omega) (by omega) rfl rfl rfl ?_ | refine WL.maxI rfl rfl rfl rfl rfl rfl ?_ | refine WL.minI rfl rfl rfl rfl rfl rfl ?_ | (refine WL.store hS rfl rfl rfl Sb rfl rfl rfl ?_; intro w hS) | (refine WL.box hS rfl rfl rfl rfl rfl ?_; intro w b hS) | (refine WL.alloc hS rfl rfl rfl rfl rfl rfl ?_; intro w b hS) | refine WL.index rfl rfl rfl rfl (by first | with_reducible assumption | omega) rfl rfl rfl rfl ?_ | refine WL.index (j := 0) rfl rfl rfl rfl (by omega) rfl rfl rfl rfl ?_ | refine WL.indexArr rfl rfl rfl rfl (by decide) rfl rfl rfl ?_ | refine WL.skip rfl rfl rfl ?_ | refine WL.build rfl rfl rfl rfl rfl ?_ | (refine WL.slit hS rfl rfl rfl rfl rfl ?_; intro w b hS) | refine WL.eqS rfl rfl rfl rfl (by kernel_rfl) rfl rfl rfl ?_ | refine WL.neS rfl rfl rfl rfl (by kernel_rfl) rfl rfl rfl ?_ | ((fail_if_success (refine WL.wanted rfl ?_)); refine WL.guard rfl rfl rfl (fun h => ?_) (fun h => ?_) <;> (try simp only [ZZ0, ZZ1, ZZ2, ZZ3, ZZ4, ZZ5, ZZ6, ZZ7, ZZ8, ZZ9, ZZ10, ZZ11, ZZ12, ZZ13, ZZ14, ZZ15] at h) <;> (try (exfalso; first | omega | contradiction)))) | (show WC _ _ _ _ _ _; first | refine WC.seq ?_ | refine WC.region ?_ | refine WC.block ?_ | refine WC.skip ?_ | refine WC.exit ?_ | refine WC.ret ?_ | (show WC _ _ (Code.region _ (List.toArray [_, _, _, _, _, _, _, _, _, _, _, _, _, _, _, _, _, _, _, _, _, _, _]) true) _ _ _; refine WC.drawS hS [0,1,2,3,4,5,6,7,8,9,10,11,12,13,14,15,16,17,18,19,21,22] [0,1,2,3,4,5,6,7,8,9,10,11,12,13,14,15,16,17,18,19,20,21,22] (by kernel_rfl) (by kernel_rfl) ?_; clear hS; intro w hS hM) | refine WC.condT rfl (by with_reducible rfl) ?_ | refine WC.condF rfl (by with_reducible rfl) ?_ | refine WC.condT rfl (by decide) ?_ | refine WC.condF rfl (by decide) ?_ | refine WC.condT rfl (decide_eq_true (by first | with_reducible assumption | omega)) ?_ | refine WC.condF rfl (decide_eq_false (by first | with_reducible assumption | omega)) ?_ | refine WC.condT rfl (by first | (simp; done) | (simp; omega)) ?_ | refine WC.condF rfl (by first | (simp; done) | (simp; omega)) ?_ | (refine WC.cond rfl (fun h => ?_) (fun h => ?_) <;> (try simp only [ZZ0, ZZ1, ZZ2, ZZ3, ZZ4, ZZ5, ZZ6, ZZ7, ZZ8, ZZ9, ZZ10, ZZ11, ZZ12, ZZ13, ZZ14, ZZ15] at h) <;> (try (exfalso; first | omega | contradiction)))) | (show WD _ _ _ _ _ _ _ _ _; first | refine WD.pure rfl rfl rfl rfl rfl ?_ | refine WD.nil ?_ | refine WD.load rfl rfl (LdOk.box Mm rfl) rfl rfl rfl rfl ?_ | refine WD.add rfl rfl rfl (by omega) rfl rfl rfl rfl ?_ | refine WD.sub rfl rfl rfl (by omega) rfl rfl rfl rfl ?_ | (refine WD.load rfl rfl (LdOk.ownAt Mm rfl ⟨_, rfl⟩ hkx rfl) rfl rfl rfl rfl ?_) | (refine WD.load rfl rfl (LdOk.snap (off := 0) hF hr Mm rfl) rfl rfl rfl rfl ?_) | (refine WD.load rfl rfl (LdOk.snap0 hF hr Mm rfl) rfl rfl rfl rfl ?_) | (refine WD.calls hS hM rfl rfl (rsame1_c cs kid ktick kspoke _ (St.ownSl (enc := encHc) (hsz := fun _ => rfl) (l := cs) (by decide) hS Mm) (hS.slO Mm hs1) (by omega)) rfl rfl rfl rfl rfl ?_; clear hS; rintro v w rfl hS) | refine WD.conv64 rfl rfl rfl (by omega) rfl rfl rfl rfl ?_ | refine WD.index rfl rfl rfl rfl (by first | with_reducible assumption | omega) rfl rfl rfl rfl rfl ?_ | refine WD.index (j := 0) rfl rfl rfl rfl (by omega) rfl rfl rfl rfl rfl ?_ | refine WD.indexArr rfl rfl rfl rfl (by decide) rfl rfl rfl rfl ?_ | refine WD.pass rfl rfl rfl rfl ?_ | refine WD.skip rfl rfl rfl rfl rfl (hM.ss hS) ?_ | refine WD.build rfl rfl rfl rfl rfl rfl ?_ | (refine WD.slit hS hM rfl rfl rfl rfl rfl rfl rfl ?_; intro w b hS hM) | refine WD.eqS rfl rfl rfl rfl (by kernel_rfl) rfl rfl rfl rfl ?_ | refine WD.neS rfl rfl rfl rfl (by kernel_rfl) rfl rfl rfl rfl ?_ | (refine WD.box hS hM rfl rfl rfl rfl rfl rfl rfl ?_; intro w b hS hM) | ((fail_if_success (refine WD.wanted rfl ?_)); refine WD.guard rfl rfl rfl (fun h => ?_) (fun h => ?_) <;> (try simp only [ZZ0, ZZ1, ZZ2, ZZ3, ZZ4, ZZ5, ZZ6, ZZ7, ZZ8, ZZ9, ZZ10, ZZ11, ZZ12, ZZ13, ZZ14, ZZ15] at h) <;> (try (exfalso; first | omega | contradiction)))) | refine seqQ_n ?_ | refine blkQ_n ?_ | refine seqQ_x ?_ | refine seqQ_r ?_ | refine blkQ_r ?_ | refine blkQ_hit rfl ?_ | refine blkQ_miss rfl ?_ | refine rndQ_x ?_ | refine rndQ_r ?_ | refine rdQ_n ?_ | refine rdQ_x ?_ | refine rdQ_r ?_ | refine cutQ_n ?_ | refine cutQ_r ?_ | refine cutQ_miss rfl ?_ | refine endQ_x ?_ | refine endQ_r ?_)
    exact rndQ_n (j + 1) ⟨by omega, hS.droplast2 Pu⟩ (by show L.length - (j + 1) < L.length - j; omega) ⟨vint (by omega), trivial⟩ ⟨rfl, rfl, rfl, rfl, rfl, trivial⟩
  have hje : j = L.length := by omega
  subst hje
  clear hlt hj
  have hpl0 := hps
  cases hf : findH L id
  case' none =>
    rw [hf] at hpl
    have hnil : ∀ w, SlAt cHc (Old w) w none ([] : List Hc) := fun w k hk => absurd hk (Nat.not_lt_zero _)
    repeat' (first | (show WL _ _ _ _ _ _ _; first | refine WL.pure rfl rfl rfl rfl ?_ | refine WL.nil ?_ | refine WL.load hS rfl rfl (LdOk.box Mm rfl) rfl rfl rfl ?_ | refine WL.add rfl rfl rfl (by omega) rfl rfl rfl ?_ | refine WL.sub rfl rfl rfl (by omega) rfl rfl rfl ?_ | (refine WL.callL (D := [bchC B (some ⟨Tp, 0, none⟩) m fb, tabC Tp q T fp]) hS Pu rfl rfl (fun hI => hgetNo_c id h0 h1 hI (hp.pull hS Pu) h hf) rfl rfl rfl ?_; rintro v w ⟨rfl, hmu⟩ hS; replace hS := hS _ hmu; clear hmu) | (refine WL.calls hS rfl rfl (hpl _ (hS.slO Mm hP)) rfl rfl rfl ?_; rintro v w rfl hS) | (refine WL.calls hS rfl rfl (rsame1_c [] 0 0 0 (A := none) (B := none) (ca := 0) (cb := 0) _ (hnil _) (hnil _) (by decide)) rfl rfl rfl ?_; rintro v w rfl hS) | refine WL.conv64 rfl rfl rfl (by omega) rfl rfl rfl ?_ | refine WL.cat rfl rfl rfl (by omega) rfl rfl rfl ?_ | refine WL.idxS rfl rfl rfl rfl (by with_reducible assumption) rfl rfl rfl ?_ | refine WL.lowS rfl rfl rfl rfl (by omega) rfl rfl rfl ?_ | refine WL.highS rfl rfl rfl rfl (by omega) rfl rfl rfl ?_ | refine WL.midS rfl rfl rfl rfl rfl (by omega) (by omega) rfl rfl rfl ?_ | refine WL.maxI rfl rfl rfl rfl rfl rfl ?_ | refine WL.minI rfl rfl rfl rfl rfl rfl ?_ | (refine WL.store hS rfl rfl rfl Sb rfl rfl rfl ?_; intro w hS) | (refine WL.box hS rfl rfl rfl rfl rfl ?_; intro w b hS) | (refine WL.alloc hS rfl rfl rfl rfl rfl rfl ?_; intro w b hS) | refine WL.index rfl rfl rfl rfl (by first | with_reducible assumption | omega) rfl rfl rfl rfl ?_ | refine WL.index (j := 0) rfl rfl rfl rfl (by omega) rfl rfl rfl rfl ?_ | refine WL.indexArr rfl rfl rfl rfl (by decide) rfl rfl rfl ?_ | refine WL.skip rfl rfl rfl ?_ | refine WL.build rfl rfl rfl rfl rfl ?_ | (refine WL.slit hS rfl rfl rfl rfl rfl ?_; intro w b hS) | refine WL.eqS rfl rfl rfl rfl (by kernel_rfl) rfl rfl rfl ?_ | refine WL.neS rfl rfl rfl rfl (by kernel_rfl) rfl rfl rfl ?_ | ((fail_if_success (refine WL.wanted rfl ?_)); refine WL.guard rfl rfl rfl (fun h => ?_) (fun h => ?_) <;> (try simp only [ZZ0, ZZ1, ZZ2, ZZ3, ZZ4, ZZ5, ZZ6, ZZ7, ZZ8, ZZ9, ZZ10, ZZ11, ZZ12, ZZ13, ZZ14, ZZ15] at h) <;> (try (exfalso; first | omega | contradiction)))) | (show WC _ _ _ _ _ _; first | refine WC.seq ?_ | refine WC.region ?_ | refine WC.block ?_ | refine WC.skip ?_ | refine WC.exit ?_ | refine WC.ret ?_ | refine WC.condT rfl (by with_reducible rfl) ?_ | refine WC.condF rfl (by with_reducible rfl) ?_ | refine WC.condT rfl (by decide) ?_ | refine WC.condF rfl (by decide) ?_ | refine WC.condT rfl (decide_eq_true (by first | with_reducible assumption | omega)) ?_ | refine WC.condF rfl (decide_eq_false (by first | with_reducible assumption | omega)) ?_ | refine WC.condT rfl (by first | (simp; done) | (simp; omega)) ?_ | refine WC.condF rfl (by first | (simp; done) | (simp; omega)) ?_ | (refine WC.cond rfl (fun h => ?_) (fun h => ?_) <;> (try simp only [ZZ0, ZZ1, ZZ2, ZZ3, ZZ4, ZZ5, ZZ6, ZZ7, ZZ8, ZZ9, ZZ10, ZZ11, ZZ12, ZZ13, ZZ14, ZZ15] at h) <;> (try (exfalso; first | omega | contradiction)))) | (show WD _ _ _ _ _ _ _ _ _; first | refine WD.pure rfl rfl rfl rfl rfl ?_ | refine WD.nil ?_ | refine WD.load rfl rfl (LdOk.box Mm rfl) rfl rfl rfl rfl ?_ | refine WD.add rfl rfl rfl (by omega) rfl rfl rfl rfl ?_ | refine WD.sub rfl rfl rfl (by omega) rfl rfl rfl rfl ?_ | refine WD.conv64 rfl rfl rfl (by omega) rfl rfl rfl rfl ?_ | refine WD.index rfl rfl rfl rfl (by first | with_reducible assumption | omega) rfl rfl rfl rfl rfl ?_ | refine WD.index (j := 0) rfl rfl rfl rfl (by omega) rfl rfl rfl rfl rfl ?_ | refine WD.indexArr rfl rfl rfl rfl (by decide) rfl rfl rfl rfl ?_ | refine WD.pass rfl rfl rfl rfl ?_ | refine WD.skip rfl rfl rfl rfl rfl (hM.ss hS) ?_ | refine WD.build rfl rfl rfl rfl rfl rfl ?_ | (refine WD.slit hS hM rfl rfl rfl rfl rfl rfl rfl ?_; intro w b hS hM) | refine WD.eqS rfl rfl rfl rfl (by kernel_rfl) rfl rfl rfl rfl ?_ | refine WD.neS rfl rfl rfl rfl (by kernel_rfl) rfl rfl rfl rfl ?_ | (refine WD.box hS hM rfl rfl rfl rfl rfl rfl rfl ?_; intro w b hS hM) | ((fail_if_success (refine WD.wanted rfl ?_)); refine WD.guard rfl rfl rfl (fun h => ?_) (fun h => ?_) <;> (try simp only [ZZ0, ZZ1, ZZ2, ZZ3, ZZ4, ZZ5, ZZ6, ZZ7, ZZ8, ZZ9, ZZ10, ZZ11, ZZ12, ZZ13, ZZ14, ZZ15] at h) <;> (try (exfalso; first | omega | contradiction)))) | refine seqQ_n ?_ | refine blkQ_n ?_ | refine seqQ_x ?_ | refine seqQ_r ?_ | refine blkQ_r ?_ | refine blkQ_hit rfl ?_ | refine blkQ_miss rfl ?_ | refine rndQ_x ?_ | refine rndQ_r ?_ | refine rdQ_n ?_ | refine rdQ_x ?_ | refine rdQ_r ?_ | refine cutQ_n ?_ | refine cutQ_r ?_ | refine cutQ_miss rfl ?_ | refine endQ_x ?_ | refine endQ_r ?_)
  case' some k =>
    obtain ⟨hk, rfl⟩ := findH_some hf
    rw [hf] at hpl
    repeat' (first | (show WL _ _ _ _ _ _ _; first | refine WL.pure rfl rfl rfl rfl ?_ | refine WL.nil ?_ | refine WL.load hS rfl rfl (LdOk.box Mm rfl) rfl rfl rfl ?_ | refine WL.add rfl rfl rfl (by omega) rfl rfl rfl ?_ | refine WL.sub rfl rfl rfl (by omega) rfl rfl rfl ?_ | (refine WL.callL (D := [bchC B (some ⟨Tp, 0, none⟩) m fb, tabC Tp q T fp]) hS Pu rfl rfl (fun hI => hget_c k hk hI (hp.pull hS Pu) h hN) rfl rfl rfl ?_; rintro v w ⟨A5, cap5, rfl, hmu⟩ hS; replace hS := hS _ hmu; clear hmu) | (refine WL.calls hS rfl rfl (hpl _ (hS.slO Mm hP)) rfl rfl rfl ?_; rintro v w rfl hS) | refine WL.conv64 rfl rfl rfl (by omega) rfl rfl rfl ?_ | refine WL.cat rfl rfl rfl (by omega) rfl rfl rfl ?_ | refine WL.idxS rfl rfl rfl rfl (by with_reducible assumption) rfl rfl rfl ?_ | refine WL.lowS rfl rfl rfl rfl (by omega) rfl rfl rfl ?_ | refine WL.highS rfl rfl rfl rfl (by omega) rfl rfl rfl ?_ | refine WL.midS rfl rfl rfl rfl rfl (by omega) (by omega) rfl rfl rfl ?_ | refine WL.maxI rfl rfl rfl rfl rfl rfl ?_ | refine WL.minI rfl rfl rfl rfl rfl rfl ?_ | (refine WL.store hS rfl rfl rfl Sb rfl rfl rfl ?_; intro w hS) | (refine WL.box hS rfl rfl rfl rfl rfl ?_; intro w b hS) | (refine WL.alloc hS rfl rfl rfl rfl rfl rfl ?_; intro w b hS) | refine WL.index rfl rfl rfl rfl (by first | with_reducible assumption | omega) rfl rfl rfl rfl ?_ | refine WL.index (j := 0) rfl rfl rfl rfl (by omega) rfl rfl rfl rfl ?_ | refine WL.indexArr rfl rfl rfl rfl (by decide) rfl rfl rfl ?_ | refine WL.skip rfl rfl rfl ?_ | refine WL.build rfl rfl rfl rfl rfl ?_ | (refine WL.slit hS rfl rfl rfl rfl rfl ?_; intro w b hS) | refine WL.eqS rfl rfl rfl rfl (by kernel_rfl) rfl rfl rfl ?_ | refine WL.neS rfl rfl rfl rfl (by kernel_rfl) rfl rfl rfl ?_ | ((fail_if_success (refine WL.wanted rfl ?_)); refine WL.guard rfl rfl rfl (fun h => ?_) (fun h => ?_) <;> (try simp only [ZZ0, ZZ1, ZZ2, ZZ3, ZZ4, ZZ5, ZZ6, ZZ7, ZZ8, ZZ9, ZZ10, ZZ11, ZZ12, ZZ13, ZZ14, ZZ15] at h) <;> (try (exfalso; first | omega | contradiction)))) | (show WC _ _ _ _ _ _; first | refine WC.seq ?_ | refine WC.region ?_ | refine WC.block ?_ | refine WC.skip ?_ | refine WC.exit ?_ | refine WC.ret ?_ | refine WC.condT rfl (by with_reducible rfl) ?_ | refine WC.condF rfl (by with_reducible rfl) ?_ | refine WC.condT rfl (by decide) ?_ | refine WC.condF rfl (by decide) ?_ | refine WC.condT rfl (decide_eq_true (by first | with_reducible assumption | omega)) ?_ | refine WC.condF rfl (decide_eq_false (by first | with_reducible assumption | omega)) ?_ | refine WC.condT rfl (by first | (simp; done) | (simp; omega)) ?_ | refine WC.condF rfl (by first | (simp; done) | (simp; omega)) ?_ | (refine WC.cond rfl (fun h => ?_) (fun h => ?_) <;> (try simp only [ZZ0, ZZ1, ZZ2, ZZ3, ZZ4, ZZ5, ZZ6, ZZ7, ZZ8, ZZ9, ZZ10, ZZ11, ZZ12, ZZ13, ZZ14, ZZ15] at h) <;> (try (exfalso; first | omega | contradiction)))) | (show WD _ _ _ _ _ _ _ _ _; first | refine WD.pure rfl rfl rfl rfl rfl ?_ | refine WD.nil ?_ | refine WD.load rfl rfl (LdOk.box Mm rfl) rfl rfl rfl rfl ?_ | refine WD.add rfl rfl rfl (by omega) rfl rfl rfl rfl ?_ | refine WD.sub rfl rfl rfl (by omega) rfl rfl rfl rfl ?_ | refine WD.conv64 rfl rfl rfl (by omega) rfl rfl rfl rfl ?_ | refine WD.index rfl rfl rfl rfl (by first | with_reducible assumption | omega) rfl rfl rfl rfl rfl ?_ | refine WD.index (j := 0) rfl rfl rfl rfl (by omega) rfl rfl rfl rfl rfl ?_ | refine WD.indexArr rfl rfl rfl rfl (by decide) rfl rfl rfl rfl ?_ | refine WD.pass rfl rfl rfl rfl ?_ | refine WD.skip rfl rfl rfl rfl rfl (hM.ss hS) ?_ | refine WD.build rfl rfl rfl rfl rfl rfl ?_ | (refine WD.slit hS hM rfl rfl rfl rfl rfl rfl rfl ?_; intro w b hS hM) | refine WD.eqS rfl rfl rfl rfl (by kernel_rfl) rfl rfl rfl rfl ?_ | refine WD.neS rfl rfl rfl rfl (by kernel_rfl) rfl rfl rfl rfl ?_ | (refine WD.box hS hM rfl rfl rfl rfl rfl rfl rfl ?_; intro w b hS hM) | ((fail_if_success (refine WD.wanted rfl ?_)); refine WD.guard rfl rfl rfl (fun h => ?_) (fun h => ?_) <;> (try simp only [ZZ0, ZZ1, ZZ2, ZZ3, ZZ4, ZZ5, ZZ6, ZZ7, ZZ8, ZZ9, ZZ10, ZZ11, ZZ12, ZZ13, ZZ14, ZZ15] at h) <;> (try (exfalso; first | omega | contradiction)))) | refine seqQ_n ?_ | refine blkQ_n ?_ | refine seqQ_x ?_ | refine seqQ_r ?_ | refine blkQ_r ?_ | refine blkQ_hit rfl ?_ | refine blkQ_miss rfl ?_ | refine rndQ_x ?_ | refine rndQ_r ?_ | refine rdQ_n ?_ | refine rdQ_x ?_ | refine rdQ_r ?_ | refine cutQ_n ?_ | refine cutQ_r ?_ | refine cutQ_miss rfl ?_ | refine endQ_x ?_ | refine endQ_r ?_)
  all_goals
    have hpsl : ps.length = L.length := by have := congrArg List.length hps; rwa [List.length_map, List.length_map] at this
    have hpf : ∀ q ∈ ps, q.1.chgs.length ≤ 65536 := fun q hq => by
      have h2 : q.1 ∈ L.map Kr.r := by rw [← hps]; exact List.mem_map.2 ⟨q, hq, rfl⟩
      obtain ⟨k, hk, e⟩ := List.mem_map.1 h2
      rw [← e]
      exact (h.ok k hk).1.few
    clear hpl hpl0 hls hP hps
    refine WC.loop (σ := Nat × List Pr × List Nat) [0, 1, 7, 8] (fun (i, _) => [(16, .int .i64 (i : Int))])
      (fun (i, qs, fi) w => (i ≤ L.length ∧ qs.length = L.length ∧ ∀ q ∈ qs, q.1.chgs.length ≤ 65536) ∧ St w0 (fps [bchC B (some ⟨Tp, 0, none⟩) m fb, tabC Tp q T fp]) w [.own (.slice (some ⟨og, oo, none⟩) L.length oc) 24 4 L.length (prs qs), innC qs fi, .own (.slice AI L.length ci) 3 1 L.length (ints (idsH L)), bchC B (some ⟨Tp, 0, none⟩) m fb, tabC Tp q T fp] (ZL w0 [bchC B (some ⟨Tp, 0, none⟩) m fb, tabC Tp q T fp])) (fun (i, _) => L.length - i) (0, ps, fi) ⟨⟨Nat.zero_le _, hpsl, hpf⟩, hS.droplast2 Pu⟩ ⟨rfl, trivial⟩ ?_
    repeat (clear hS)
    clear hpsl hpf
    rintro ⟨i, qs, fi⟩ g w ⟨⟨hi', hql, hqf⟩, hS⟩
    show WC _ _ _ (lf _ [(16, .int .i64 (i : Int))] _ _) _ _
    by_cases hlt : i < L.length
    · have hlq : i < qs.length := by omega
      have hqi : qs[i]? = some qs[i] := List.getElem?_eq_getElem hlq
      have hpl6 := hqf _ (List.getElem_mem hlq)
      generalize qs[i] = p at *
      obtain ⟨⟨pid, ptick, pspoke, pcs⟩, pA, pc⟩ := p
      dsimp only at hpl6
      have hx3 : (prs qs)[i * 4 + 3]? = some (.slice pA pcs.length pc) := by rw [prs_at hqi (by decide)]; rfl
      have hqlen := prs_len qs
      obtain ⟨fr, hS1⟩ := (hS.droplast2 (D := [innC qs fi, .own (.slice (some ⟨og, oo, none⟩) L.length oc) 24 4 L.length (prs qs), .own (.slice AI L.length ci) 3 1 L.length (ints (idsH L)), bchC B (some ⟨Tp, 0, none⟩) m fb, tabC Tp q T fp]) Pu).innAt hqi
      clear hS hA
      repeat' (first | (show WL _ _ _ _ _ _ _; first | refine WL.pure rfl rfl rfl rfl ?_ | refine WL.nil ?_ | refine WL.load hS rfl rfl (LdOk.box Mm rfl) rfl rfl rfl ?_ | refine WL.add rfl rfl rfl (by omega) rfl rfl rfl ?_ | refine WL.sub rfl rfl rfl (by omega) rfl rfl rfl ?_ | refine WL.conv64 rfl rfl rfl (by omega) rfl rfl rfl ?_ | refine WL.cat rfl rfl rfl (by omega) rfl rfl rfl ?_ | refine WL.idxS rfl rfl rfl rfl (by with_reducible assumption) rfl rfl rfl ?_ | refine WL.lowS rfl rfl rfl rfl (by omega) rfl rfl rfl ?_ | refine WL.highS rfl rfl rfl rfl (by omega) rfl rfl rfl ?_ | refine WL.midS rfl rfl rfl rfl rfl (by omega) (by omega) rfl rfl rfl ?_ | refine WL.maxI rfl rfl rfl rfl rfl rfl ?_ | refine WL.minI rfl rfl rfl rfl rfl rfl ?_ | (refine WL.store hS rfl rfl rfl Sb rfl rfl rfl ?_; intro w hS) | (refine WL.box hS rfl rfl rfl rfl rfl ?_; intro w b hS) | (refine WL.alloc hS rfl rfl rfl rfl rfl rfl ?_; intro w b hS) | refine WL.index rfl rfl rfl rfl (by first | with_reducible assumption | omega) rfl rfl rfl rfl ?_ | refine WL.index (j := 0) rfl rfl rfl rfl (by omega) rfl rfl rfl rfl ?_ | refine WL.indexArr rfl rfl rfl rfl (by decide) rfl rfl rfl ?_ | refine WL.skip rfl rfl rfl ?_ | refine WL.build rfl rfl rfl rfl rfl ?_ | (refine WL.slit hS rfl rfl rfl rfl rfl ?_; intro w b hS) | refine WL.eqS rfl rfl rfl rfl (by kernel_rfl) rfl rfl rfl ?_ | refine WL.neS rfl rfl rfl rfl (by kernel_rfl) rfl rfl rfl ?_ | ((fail_if_success (refine WL.wanted rfl ?_)); refine WL.guard rfl rfl rfl (fun h => ?_) (fun h => ?_) <;> (try simp only [ZZ0, ZZ1, ZZ2, ZZ3, ZZ4, ZZ5, ZZ6, ZZ7, ZZ8, ZZ9, ZZ10, ZZ11, ZZ12, ZZ13, ZZ14, ZZ15] at h) <;> (try (exfalso; first | omega | contradiction)))) | (show WC _ _ _ _ _ _; first | refine WC.seq ?_ | refine WC.region ?_ | refine WC.block ?_ | refine WC.skip ?_ | refine WC.exit ?_ | refine WC.ret ?_ | refine WC.condT rfl (by with_reducible rfl) ?_ | refine WC.condF rfl (by with_reducible rfl) ?_ | refine WC.condT rfl (by decide) ?_ | refine WC.condF rfl (by decide) ?_ | refine WC.condT rfl (decide_eq_true (by first | with_reducible assumption | omega)) ?_ | refine WC.condF rfl (decide_eq_false (by first | with_reducible assumption | omega)) ?_ | refine WC.condT rfl (by first | (simp; done) | (simp; omega)) ?_ | refine WC.condF rfl (by first | (simp; done) | (simp; omega)) ?_ | (refine WC.cond rfl (fun h => ?_) (fun h => ?_) <;> (try simp only [ZZ0, ZZ1, ZZ2, ZZ3, ZZ4, ZZ5, ZZ6, ZZ7, ZZ8, ZZ9, ZZ10, ZZ11, ZZ12, ZZ13, ZZ14, ZZ15] at h) <;> (try (exfalso; first | omega | contradiction)))) | (show WD _ _ _ _ _ _ _ _ _; first | refine WD.pure rfl rfl rfl rfl rfl ?_ | refine WD.nil ?_ | refine WD.load rfl rfl (LdOk.box Mm rfl) rfl rfl rfl rfl ?_ | refine WD.add rfl rfl rfl (by omega) rfl rfl rfl rfl ?_ | refine WD.sub rfl rfl rfl (by omega) rfl rfl rfl rfl ?_ | refine WD.conv64 rfl rfl rfl (by omega) rfl rfl rfl rfl ?_ | refine WD.index rfl rfl rfl rfl (by first | with_reducible assumption | omega) rfl rfl rfl rfl rfl ?_ | refine WD.index (j := 0) rfl rfl rfl rfl (by omega) rfl rfl rfl rfl rfl ?_ | refine WD.indexArr rfl rfl rfl rfl (by decide) rfl rfl rfl rfl ?_ | refine WD.pass rfl rfl rfl rfl ?_ | refine WD.skip rfl rfl rfl rfl rfl (hM.ss hS) ?_ | refine WD.build rfl rfl rfl rfl rfl rfl ?_ | (refine WD.slit hS hM rfl rfl rfl rfl rfl rfl rfl ?_; intro w b hS hM) | refine WD.eqS rfl rfl rfl rfl (by kernel_rfl) rfl rfl rfl rfl ?_ | refine WD.neS rfl rfl rfl rfl (by kernel_rfl) rfl rfl rfl rfl ?_ | (refine WD.box hS hM rfl rfl rfl rfl rfl rfl rfl ?_; intro w b hS hM) | ((fail_if_success (refine WD.wanted rfl ?_)); refine WD.guard rfl rfl rfl (fun h => ?_) (fun h => ?_) <;> (try simp only [ZZ0, ZZ1, ZZ2, ZZ3, ZZ4, ZZ5, ZZ6, ZZ7, ZZ8, ZZ9, ZZ10, ZZ11, ZZ12, ZZ13, ZZ14, ZZ15] at h) <;> (try (exfalso; first | omega | contradiction)))) | refine seqQ_n ?_ | refine blkQ_n ?_ | refine seqQ_x ?_ | refine seqQ_r ?_ | refine blkQ_r ?_ | refine blkQ_hit rfl ?_ | refine blkQ_miss rfl ?_ | refine rndQ_x ?_ | refine rndQ_r ?_ | refine rdQ_n ?_ | refine rdQ_x ?_ | refine rdQ_r ?_ | refine cutQ_n ?_ | refine cutQ_r ?_ | refine cutQ_miss rfl ?_ | refine endQ_x ?_ | refine endQ_r ?_)
      refine WC.loop (σ := Nat × List Hc) [0, 1, 7, 8, 16] (fun (k, _) => [(17, .int .i64 (k : Int))])
        (fun (k, cs) w => (k ≤ pcs.length ∧ cs.length = pcs.length) ∧ St w0 (fps [bchC B (some ⟨Tp, 0, none⟩) m fb, tabC Tp q T fp]) w [.own (.slice pA pcs.length pc) 79 14 pcs.length (hcs cs), objC (fun D => D = (qs.map inC).eraseIdx i) fr, .own (.slice (some ⟨og, oo, none⟩) L.length oc) 24 4 L.length (prs qs), .own (.slice AI L.length ci) 3 1 L.length (ints (idsH L)), bchC B (some ⟨Tp, 0, none⟩) m fb, tabC Tp q T fp] (ZL w0 [bchC B (some ⟨Tp, 0, none⟩) m fb, tabC Tp q T fp])) (fun (k, _) => pcs.length - k) (0, pcs) ⟨⟨Nat.zero_le _, rfl⟩, hS1.droplast2 Pu⟩ ⟨rfl, trivial⟩ ?_
      clear hS1
      rintro ⟨k, cs⟩ g2 w ⟨⟨hk', hcl⟩, hS⟩
      show WC _ _ _ (lf _ [(17, .int .i64 (k : Int))] _ _) _ _
      by_cases hkl : k < pcs.length
      · obtain ⟨kg, ko, rfl⟩ := hS.own_addr (A := pA) (n := pcs.length) Mm (by omega)
        have hfs := flat_set (enc := encHc) (sz := 14) (fun _ => rfl) xHc (l := cs) (k := k) (by omega)
        have hcl2 : (cs.set k xHc).length = pcs.length := by rw [List.length_set]; exact hcl
        have hchl := hcs_len cs
        repeat' (first | (show WL _ _ _ _ _ _ _; first | refine WL.pure rfl rfl rfl rfl ?_ | refine WL.nil ?_ | refine WL.load hS rfl rfl (LdOk.box Mm rfl) rfl rfl rfl ?_ | refine WL.add rfl rfl rfl (by omega) rfl rfl rfl ?_ | refine WL.sub rfl rfl rfl (by omega) rfl rfl rfl ?_ | (refine WL.load hS rfl rfl (LdOk.ownAt (off := i * 4 + 3) Mm rfl ⟨_, rfl⟩ hx3 rfl) rfl rfl rfl ?_) | (refine WL.storeOwn (off := k * 14) (vs := encHc xHc) hS rfl rfl rfl Rp (by show k * 14 + 14 ≤ _; omega) rfl rfl rfl rfl ?_; intro w hS) | refine WL.conv64 rfl rfl rfl (by omega) rfl rfl rfl ?_ | refine WL.cat rfl rfl rfl (by omega) rfl rfl rfl ?_ | refine WL.idxS rfl rfl rfl rfl (by with_reducible assumption) rfl rfl rfl ?_ | refine WL.lowS rfl rfl rfl rfl (by omega) rfl rfl rfl ?_ | refine WL.highS rfl rfl rfl rfl (by omega) rfl rfl rfl ?_ | refine WL.midS rfl rfl rfl rfl rfl (by omega) (by omega) rfl rfl rfl ?_ | refine WL.maxI rfl rfl rfl rfl rfl rfl ?_ | refine WL.minI rfl rfl rfl rfl rfl rfl ?_ | (refine WL.store hS rfl rfl rfl Sb rfl rfl rfl ?_; intro w hS) | (refine WL.box hS rfl rfl rfl rfl rfl ?_; intro w b hS) | (refine WL.alloc hS rfl rfl rfl rfl rfl rfl ?_; intro w b hS) | refine WL.index rfl rfl rfl rfl (by first | with_reducible assumption | omega) rfl rfl rfl rfl ?_ | refine WL.index (j := 0) rfl rfl rfl rfl (by omega) rfl rfl rfl rfl ?_ | refine WL.indexArr rfl rfl rfl rfl (by decide) rfl rfl rfl ?_ | refine WL.skip rfl rfl rfl ?_ | refine WL.build rfl rfl rfl rfl rfl ?_ | (refine WL.slit hS rfl rfl rfl rfl rfl ?_; intro w b hS) | refine WL.eqS rfl rfl rfl rfl (by kernel_rfl) rfl rfl rfl ?_ | refine WL.neS rfl rfl rfl rfl (by kernel_rfl) rfl rfl rfl ?_ | ((fail_if_success (refine WL.wanted rfl ?_)); refine WL.guard rfl rfl rfl (fun h => ?_) (fun h => ?_) <;> (try simp only [ZZ0, ZZ1, ZZ2, ZZ3, ZZ4, ZZ5, ZZ6, ZZ7, ZZ8, ZZ9, ZZ10, ZZ11, ZZ12, ZZ13, ZZ14, ZZ15] at h) <;> (try (exfalso; first | omega | contradiction)))) | (show WC _ _ _ _ _ _; first | refine WC.seq ?_ | refine WC.region ?_ | refine WC.block ?_ | refine WC.skip ?_ | refine WC.exit ?_ | refine WC.ret ?_ | refine WC.condT rfl (by with_reducible rfl) ?_ | refine WC.condF rfl (by with_reducible rfl) ?_ | refine WC.condT rfl (by decide) ?_ | refine WC.condF rfl (by decide) ?_ | refine WC.condT rfl (decide_eq_true (by first | with_reducible assumption | omega)) ?_ | refine WC.condF rfl (decide_eq_false (by first | with_reducible assumption | omega)) ?_ | refine WC.condT rfl (by first | (simp; done) | (simp; omega)) ?_ | refine WC.condF rfl (by first | (simp; done) | (simp; omega)) ?_ | (refine WC.cond rfl (fun h => ?_) (fun h => ?_) <;> (try simp only [ZZ0, ZZ1, ZZ2, ZZ3, ZZ4, ZZ5, ZZ6, ZZ7, ZZ8, ZZ9, ZZ10, ZZ11, ZZ12, ZZ13, ZZ14, ZZ15] at h) <;> (try (exfalso; first | omega | contradiction)))) | (show WD _ _ _ _ _ _ _ _ _; first | refine WD.pure rfl rfl rfl rfl rfl ?_ | refine WD.nil ?_ | refine WD.load rfl rfl (LdOk.box Mm rfl) rfl rfl rfl rfl ?_ | refine WD.add rfl rfl rfl (by omega) rfl rfl rfl rfl ?_ | refine WD.sub rfl rfl rfl (by omega) rfl rfl rfl rfl ?_ | refine WD.conv64 rfl rfl rfl (by omega) rfl rfl rfl rfl ?_ | refine WD.index rfl rfl rfl rfl (by first | with_reducible assumption | omega) rfl rfl rfl rfl rfl ?_ | refine WD.index (j := 0) rfl rfl rfl rfl (by omega) rfl rfl rfl rfl rfl ?_ | refine WD.indexArr rfl rfl rfl rfl (by decide) rfl rfl rfl rfl ?_ | refine WD.pass rfl rfl rfl rfl ?_ | refine WD.skip rfl rfl rfl rfl rfl (hM.ss hS) ?_ | refine WD.build rfl rfl rfl rfl rfl rfl ?_ | (refine WD.slit hS hM rfl rfl rfl rfl rfl rfl rfl ?_; intro w b hS hM) | refine WD.eqS rfl rfl rfl rfl (by kernel_rfl) rfl rfl rfl rfl ?_ | refine WD.neS rfl rfl rfl rfl (by kernel_rfl) rfl rfl rfl rfl ?_ | (refine WD.box hS hM rfl rfl rfl rfl rfl rfl rfl ?_; intro w b hS hM) | ((fail_if_success (refine WD.wanted rfl ?_)); refine WD.guard rfl rfl rfl (fun h => ?_) (fun h => ?_) <;> (try simp only [ZZ0, ZZ1, ZZ2, ZZ3, ZZ4, ZZ5, ZZ6, ZZ7, ZZ8, ZZ9, ZZ10, ZZ11, ZZ12, ZZ13, ZZ14, ZZ15] at h) <;> (try (exfalso; first | omega | contradiction)))) | refine seqQ_n ?_ | refine blkQ_n ?_ | refine seqQ_x ?_ | refine seqQ_r ?_ | refine blkQ_r ?_ | refine blkQ_hit rfl ?_ | refine blkQ_miss rfl ?_ | refine rndQ_x ?_ | refine rndQ_r ?_ | refine rdQ_n ?_ | refine rdQ_x ?_ | refine rdQ_r ?_ | refine cutQ_n ?_ | refine cutQ_r ?_ | refine cutQ_miss rfl ?_ | refine endQ_x ?_ | refine endQ_r ?_)
        rw [show hcs cs = cs.flatMap encHc from rfl, hfs] at hS
        exact rndQ_n (k + 1, cs.set k xHc) ⟨⟨by omega, hcl2⟩, hS.droplast2 Pu⟩ (by show pcs.length - (k + 1) < pcs.length - k; omega) ⟨vint (by omega), trivial⟩ ⟨rfl, rfl, rfl, rfl, rfl, trivial⟩
      · have hke : k = pcs.length := by omega
        subst hke
        have hpq := prs_chg hqi (cs := cs) hcl
        have hqs : (qs.set i (⟨pid, ptick, pspoke, cs⟩, pA, pc))[i]? = some (⟨pid, ptick, pspoke, cs⟩, pA, pc) := by rw [List.getElem?_set_self hlq]
        have hqf2 : ∀ q ∈ qs.set i (⟨-1, ptick, pspoke, cs⟩, pA, pc), q.1.chgs.length ≤ 65536 := fun q hq => by
          rcases List.mem_or_eq_of_mem_set hq with h2 | rfl
          · exact hqf q h2
          · show cs.length ≤ 65536
            omega
        have hpi := prs_id hqs (-1)
        dsimp only at hpi hpq
        rw [hpq, List.set_set] at hpi
        repeat' (first | (show WL _ _ _ _ _ _ _; first | refine WL.pure rfl rfl rfl rfl ?_ | refine WL.nil ?_ | refine WL.load hS rfl rfl (LdOk.box Mm rfl) rfl rfl rfl ?_ | refine WL.add rfl rfl rfl (by omega) rfl rfl rfl ?_ | refine WL.sub rfl rfl rfl (by omega) rfl rfl rfl ?_ | (refine WL.load hS rfl rfl (LdOk.ownAt (off := i * 4 + 3) Mm rfl ⟨_, rfl⟩ hx3 rfl) rfl rfl rfl ?_) | (refine WL.storeOwn (off := i * 4 + 0) (vs := [.int .i64 (-1)]) hS rfl rfl rfl Rp (by show i * 4 + 0 + 1 ≤ _; omega) rfl rfl rfl rfl ?_; intro w hS) | refine WL.conv64 rfl rfl rfl (by omega) rfl rfl rfl ?_ | refine WL.cat rfl rfl rfl (by omega) rfl rfl rfl ?_ | refine WL.idxS rfl rfl rfl rfl (by with_reducible assumption) rfl rfl rfl ?_ | refine WL.lowS rfl rfl rfl rfl (by omega) rfl rfl rfl ?_ | refine WL.highS rfl rfl rfl rfl (by omega) rfl rfl rfl ?_ | refine WL.midS rfl rfl rfl rfl rfl (by omega) (by omega) rfl rfl rfl ?_ | refine WL.maxI rfl rfl rfl rfl rfl rfl ?_ | refine WL.minI rfl rfl rfl rfl rfl rfl ?_ | (refine WL.store hS rfl rfl rfl Sb rfl rfl rfl ?_; intro w hS) | (refine WL.box hS rfl rfl rfl rfl rfl ?_; intro w b hS) | (refine WL.alloc hS rfl rfl rfl rfl rfl rfl ?_; intro w b hS) | refine WL.index rfl rfl rfl rfl (by first | with_reducible assumption | omega) rfl rfl rfl rfl ?_ | refine WL.index (j := 0) rfl rfl rfl rfl (by omega) rfl rfl rfl rfl ?_ | refine WL.indexArr rfl rfl rfl rfl (by decide) rfl rfl rfl ?_ | refine WL.skip rfl rfl rfl ?_ | refine WL.build rfl rfl rfl rfl rfl ?_ | (refine WL.slit hS rfl rfl rfl rfl rfl ?_; intro w b hS) | refine WL.eqS rfl rfl rfl rfl (by kernel_rfl) rfl rfl rfl ?_ | refine WL.neS rfl rfl rfl rfl (by kernel_rfl) rfl rfl rfl ?_ | ((fail_if_success (refine WL.wanted rfl ?_)); refine WL.guard rfl rfl rfl (fun h => ?_) (fun h => ?_) <;> (try simp only [ZZ0, ZZ1, ZZ2, ZZ3, ZZ4, ZZ5, ZZ6, ZZ7, ZZ8, ZZ9, ZZ10, ZZ11, ZZ12, ZZ13, ZZ14, ZZ15] at h) <;> (try (exfalso; first | omega | contradiction)))) | (show WC _ _ _ _ _ _; first | refine WC.seq ?_ | refine WC.region ?_ | refine WC.block ?_ | refine WC.skip ?_ | refine WC.exit ?_ | refine WC.ret ?_ | refine WC.condT rfl (by with_reducible rfl) ?_ | refine WC.condF rfl (by with_reducible rfl) ?_ | refine WC.condT rfl (by decide) ?_ | refine WC.condF rfl (by decide) ?_ | refine WC.condT rfl (decide_eq_true (by first | with_reducible assumption | omega)) ?_ | refine WC.condF rfl (decide_eq_false (by first | with_reducible assumption | omega)) ?_ | refine WC.condT rfl (by first | (simp; done) | (simp; omega)) ?_ | refine WC.condF rfl (by first | (simp; done) | (simp; omega)) ?_ | (refine WC.cond rfl (fun h => ?_) (fun h => ?_) <;> (try simp only [ZZ0, ZZ1, ZZ2, ZZ3, ZZ4, ZZ5, ZZ6, ZZ7, ZZ8, ZZ9, ZZ10, ZZ11, ZZ12, ZZ13, ZZ14, ZZ15] at h) <;> (try (exfalso; first | omega | contradiction)))) | (show WD _ _ _ _ _ _ _ _ _; first | refine WD.pure rfl rfl rfl rfl rfl ?_ | refine WD.nil ?_ | refine WD.load rfl rfl (LdOk.box Mm rfl) rfl rfl rfl rfl ?_ | refine WD.add rfl rfl rfl (by omega) rfl rfl rfl rfl ?_ | refine WD.sub rfl rfl rfl (by omega) rfl rfl rfl rfl ?_ | refine WD.conv64 rfl rfl rfl (by omega) rfl rfl rfl rfl ?_ | refine WD.index rfl rfl rfl rfl (by first | with_reducible assumption | omega) rfl rfl rfl rfl rfl ?_ | refine WD.index (j := 0) rfl rfl rfl rfl (by omega) rfl rfl rfl rfl rfl ?_ | refine WD.indexArr rfl rfl rfl rfl (by decide) rfl rfl rfl rfl ?_ | refine WD.pass rfl rfl rfl rfl ?_ | refine WD.skip rfl rfl rfl rfl rfl (hM.ss hS) ?_ | refine WD.build rfl rfl rfl rfl rfl rfl ?_ | (refine WD.slit hS hM rfl rfl rfl rfl rfl rfl rfl ?_; intro w b hS hM) | refine WD.eqS rfl rfl rfl rfl (by kernel_rfl) rfl rfl rfl rfl ?_ | refine WD.neS rfl rfl rfl rfl (by kernel_rfl) rfl rfl rfl rfl ?_ | (refine WD.box hS hM rfl rfl rfl rfl rfl rfl rfl ?_; intro w b hS hM) | ((fail_if_success (refine WD.wanted rfl ?_)); refine WD.guard rfl rfl rfl (fun h => ?_) (fun h => ?_) <;> (try simp only [ZZ0, ZZ1, ZZ2, ZZ3, ZZ4, ZZ5, ZZ6, ZZ7, ZZ8, ZZ9, ZZ10, ZZ11, ZZ12, ZZ13, ZZ14, ZZ15] at h) <;> (try (exfalso; first | omega | contradiction)))) | refine seqQ_n ?_ | refine blkQ_n ?_ | refine seqQ_x ?_ | refine seqQ_r ?_ | refine blkQ_r ?_ | refine blkQ_hit rfl ?_ | refine blkQ_miss rfl ?_ | refine rndQ_x ?_ | refine rndQ_r ?_ | refine rdQ_n ?_ | refine rdQ_x ?_ | refine rdQ_r ?_ | refine cutQ_n ?_ | refine cutQ_r ?_ | refine cutQ_miss rfl ?_ | refine endQ_x ?_ | refine endQ_r ?_)
        rw [show ([Value.int .i64 (-1)] : List Value).length = 1 from rfl, hpi] at hS
        replace hS := hS.droplast2 (D := [.own (.slice pA pcs.length pc) 79 14 pcs.length (hcs cs), objC (fun D => D = (qs.map inC).eraseIdx i) fr, .own (.slice (some ⟨og, oo, none⟩) L.length oc) 24 4 L.length (prs (qs.set i (⟨-1, ptick, pspoke, cs⟩, pA, pc))), .own (.slice AI L.length ci) 3 1 L.length (ints (idsH L)), bchC B (some ⟨Tp, 0, none⟩) m fb, tabC Tp q T fp]) Pu
        rw [← hcl] at hS
        obtain ⟨fi2, hS2⟩ := St.innPut (ps := qs) (i := i) (p' := (⟨-1, ptick, pspoke, cs⟩, pA, pc)) hS hlq
        exact rndQ_n (i + 1, qs.set i (⟨-1, ptick, pspoke, cs⟩, pA, pc), fi2) ⟨⟨by omega, by rw [List.length_set]; exact hql, hqf2⟩, hS2.droplast2 Pu⟩ (by show L.length - (i + 1) < L.length - i; omega) ⟨vint (by omega), trivial⟩ ⟨rfl, rfl, rfl, rfl, trivial⟩
    have hie : i = L.length := by omega
    subst hie
    repeat' (first | (show WL _ _ _ _ _ _ _; first | refine WL.pure rfl rfl rfl rfl ?_ | refine WL.nil ?_ | refine WL.load hS rfl rfl (LdOk.box Mm rfl) rfl rfl rfl ?_ | refine WL.add rfl rfl rfl (by omega) rfl rfl rfl ?_ | refine WL.sub rfl rfl rfl (by omega) rfl rfl rfl ?_ | refine WL.conv64 rfl rfl rfl (by omega) rfl rfl rfl ?_ | refine WL.cat rfl rfl rfl (by omega) rfl rfl rfl ?_ | refine WL.idxS rfl rfl rfl rfl (by with_reducible assumption) rfl rfl rfl ?_ | refine WL.lowS rfl rfl rfl rfl (by omega) rfl rfl rfl ?_ | refine WL.highS rfl rfl rfl rfl (by omega) rfl rfl rfl ?_ | refine WL.midS rfl rfl rfl rfl rfl (by omega) (by omega) rfl rfl rfl ?_ | refine WL.maxI rfl rfl rfl rfl rfl rfl ?_ | refine WL.minI rfl rfl rfl rfl rfl rfl ?_ | (refine WL.store hS rfl rfl rfl Sb rfl rfl rfl ?_; intro w hS) | (refine WL.box hS rfl rfl rfl rfl rfl ?_; intro w b hS) | (refine WL.alloc hS rfl rfl rfl rfl rfl rfl ?_; intro w b hS) | refine WL.index rfl rfl rfl rfl (by first | with_reducible assumption | omega) rfl rfl rfl rfl ?_ | refine WL.index (j := 0) rfl rfl rfl rfl (by omega) rfl rfl rfl rfl ?_ | refine WL.indexArr rfl rfl rfl rfl (by decide) rfl rfl rfl ?_ | refine WL.skip rfl rfl rfl ?_ | refine WL.build rfl rfl rfl rfl rfl ?_ | (refine WL.slit hS rfl rfl rfl rfl rfl ?_; intro w b hS) | refine WL.eqS rfl rfl rfl rfl (by kernel_rfl) rfl rfl rfl ?_ | refine WL.neS rfl rfl rfl rfl (by kernel_rfl) rfl rfl rfl ?_ | ((fail_if_success (refine WL.wanted rfl ?_)); refine WL.guard rfl rfl rfl (fun h => ?_) (fun h => ?_) <;> (try simp only [ZZ0, ZZ1, ZZ2, ZZ3, ZZ4, ZZ5, ZZ6, ZZ7, ZZ8, ZZ9, ZZ10, ZZ11, ZZ12, ZZ13, ZZ14, ZZ15] at h) <;> (try (exfalso; first | omega | contradiction)))) | (show WC _ _ _ _ _ _; first | refine WC.seq ?_ | refine WC.region ?_ | refine WC.block ?_ | refine WC.skip ?_ | refine WC.exit ?_ | refine WC.ret ?_ | refine WC.condT rfl (by with_reducible rfl) ?_ | refine WC.condF rfl (by with_reducible rfl) ?_ | refine WC.condT rfl (by decide) ?_ | refine WC.condF rfl (by decide) ?_ | refine WC.condT rfl (decide_eq_true (by first | with_reducible assumption | omega)) ?_ | refine WC.condF rfl (decide_eq_false (by first | with_reducible assumption | omega)) ?_ | refine WC.condT rfl (by first | (simp; done) | (simp; omega)) ?_ | refine WC.condF rfl (by first | (simp; done) | (simp; omega)) ?_ | (refine WC.cond rfl (fun h => ?_) (fun h => ?_) <;> (try simp only [ZZ0, ZZ1, ZZ2, ZZ3, ZZ4, ZZ5, ZZ6, ZZ7, ZZ8, ZZ9, ZZ10, ZZ11, ZZ12, ZZ13, ZZ14, ZZ15] at h) <;> (try (exfalso; first | omega | contradiction)))) | (show WD _ _ _ _ _ _ _ _ _; first | refine WD.pure rfl rfl rfl rfl rfl ?_ | refine WD.nil ?_ | refine WD.load rfl rfl (LdOk.box Mm rfl) rfl rfl rfl rfl ?_ | refine WD.add rfl rfl rfl (by omega) rfl rfl rfl rfl ?_ | refine WD.sub rfl rfl rfl (by omega) rfl rfl rfl rfl ?_ | refine WD.conv64 rfl rfl rfl (by omega) rfl rfl rfl rfl ?_ | refine WD.index rfl rfl rfl rfl (by first | with_reducible assumption | omega) rfl rfl rfl rfl rfl ?_ | refine WD.index (j := 0) rfl rfl rfl rfl (by omega) rfl rfl rfl rfl rfl ?_ | refine WD.indexArr rfl rfl rfl rfl (by decide) rfl rfl rfl rfl ?_ | refine WD.pass rfl rfl rfl rfl ?_ | refine WD.skip rfl rfl rfl rfl rfl (hM.ss hS) ?_ | refine WD.build rfl rfl rfl rfl rfl rfl ?_ | (refine WD.slit hS hM rfl rfl rfl rfl rfl rfl rfl ?_; intro w b hS hM) | refine WD.eqS rfl rfl rfl rfl (by kernel_rfl) rfl rfl rfl rfl ?_ | refine WD.neS rfl rfl rfl rfl (by kernel_rfl) rfl rfl rfl rfl ?_ | (refine WD.box hS hM rfl rfl rfl rfl rfl rfl rfl ?_; intro w b hS hM) | ((fail_if_success (refine WD.wanted rfl ?_)); refine WD.guard rfl rfl rfl (fun h => ?_) (fun h => ?_) <;> (try simp only [ZZ0, ZZ1, ZZ2, ZZ3, ZZ4, ZZ5, ZZ6, ZZ7, ZZ8, ZZ9, ZZ10, ZZ11, ZZ12, ZZ13, ZZ14, ZZ15] at h) <;> (try (exfalso; first | omega | contradiction)))) | refine seqQ_n ?_ | refine blkQ_n ?_ | refine seqQ_x ?_ | refine seqQ_r ?_ | refine blkQ_r ?_ | refine blkQ_hit rfl ?_ | refine blkQ_miss rfl ?_ | refine rndQ_x ?_ | refine rndQ_r ?_ | refine rdQ_n ?_ | refine rdQ_x ?_ | refine rdQ_r ?_ | refine cutQ_n ?_ | refine cutQ_r ?_ | refine cutQ_miss rfl ?_ | refine endQ_x ?_ | refine endQ_r ?_)
    refine WC.loop (σ := Nat × List Value) [0, 1, 8] (fun (j, _) => [(18, .int .i64 (j : Int))])
      (fun (j, ys) w => j ≤ L.length ∧ St w0 (fps [bchC B (some ⟨Tp, 0, none⟩) m fb, tabC Tp q T fp]) w [.own (.slice AI L.length ci) 3 1 L.length ys, bchC B (some ⟨Tp, 0, none⟩) m fb, tabC Tp q T fp] (ZL w0 [bchC B (some ⟨Tp, 0, none⟩) m fb, tabC Tp q T fp])) (fun (j, _) => L.length - j) (0, ints (idsH L)) ⟨Nat.zero_le _, hS.droplast2 Pu⟩ ⟨rfl, trivial⟩ ?_
    repeat (clear hS)
    rintro ⟨j, ys⟩ g2 w ⟨hj, hS⟩
    show WC _ _ _ (lf _ [(18, .int .i64 (j : Int))] _ _) _ _
    by_cases hlt2 : j < L.length
    · obtain ⟨kg, ko, rfl⟩ := hS.own_addr (A := AI) (n := L.length) Mm (by omega)
      have hyl := (hS.own_len (List.Mem.head _)).1
      repeat' (first | (show WL _ _ _ _ _ _ _; first | refine WL.pure rfl rfl rfl rfl ?_ | refine WL.nil ?_ | refine WL.load hS rfl rfl (LdOk.box Mm rfl) rfl rfl rfl ?_ | refine WL.add rfl rfl rfl (by omega) rfl rfl rfl ?_ | refine WL.sub rfl rfl rfl (by omega) rfl rfl rfl ?_ | (refine WL.storeOwn (off := j * 1) (vs := [.int .i64 (-1)]) hS rfl rfl rfl Rp (by show j * 1 + 1 ≤ _; omega) rfl rfl rfl rfl ?_; intro w hS) | refine WL.conv64 rfl rfl rfl (by omega) rfl rfl rfl ?_ | refine WL.cat rfl rfl rfl (by omega) rfl rfl rfl ?_ | refine WL.idxS rfl rfl rfl rfl (by with_reducible assumption) rfl rfl rfl ?_ | refine WL.lowS rfl rfl rfl rfl (by omega) rfl rfl rfl ?_ | refine WL.highS rfl rfl rfl rfl (by omega) rfl rfl rfl ?_ | refine WL.midS rfl rfl rfl rfl rfl (by omega) (by omega) rfl rfl rfl ?_ | refine WL.maxI rfl rfl rfl rfl rfl rfl ?_ | refine WL.minI rfl rfl rfl rfl rfl rfl ?_ | (refine WL.store hS rfl rfl rfl Sb rfl rfl rfl ?_; intro w hS) | (refine WL.box hS rfl rfl rfl rfl rfl ?_; intro w b hS) | (refine WL.alloc hS rfl rfl rfl rfl rfl rfl ?_; intro w b hS) | refine WL.index rfl rfl rfl rfl (by first | with_reducible assumption | omega) rfl rfl rfl rfl ?_ | refine WL.index (j := 0) rfl rfl rfl rfl (by omega) rfl rfl rfl rfl ?_ | refine WL.indexArr rfl rfl rfl rfl (by decide) rfl rfl rfl ?_ | refine WL.skip rfl rfl rfl ?_ | refine WL.build rfl rfl rfl rfl rfl ?_ | (refine WL.slit hS rfl rfl rfl rfl rfl ?_; intro w b hS) | refine WL.eqS rfl rfl rfl rfl (by kernel_rfl) rfl rfl rfl ?_ | refine WL.neS rfl rfl rfl rfl (by kernel_rfl) rfl rfl rfl ?_ | ((fail_if_success (refine WL.wanted rfl ?_)); refine WL.guard rfl rfl rfl (fun h => ?_) (fun h => ?_) <;> (try simp only [ZZ0, ZZ1, ZZ2, ZZ3, ZZ4, ZZ5, ZZ6, ZZ7, ZZ8, ZZ9, ZZ10, ZZ11, ZZ12, ZZ13, ZZ14, ZZ15] at h) <;> (try (exfalso; first | omega | contradiction)))) | (show WC _ _ _ _ _ _; first | refine WC.seq ?_ | refine WC.region ?_ | refine WC.block ?_ | refine WC.skip ?_ | refine WC.exit ?_ | refine WC.ret ?_ | refine WC.condT rfl (by with_reducible rfl) ?_ | refine WC.condF rfl (by with_reducible rfl) ?_ | refine WC.condT rfl (by decide) ?_ | refine WC.condF rfl (by decide) ?_ | refine WC.condT rfl (decide_eq_true (by first | with_reducible assumption | omega)) ?_ | refine WC.condF rfl (decide_eq_false (by first | with_reducible assumption | omega)) ?_ | refine WC.condT rfl (by first | (simp; done) | (simp; omega)) ?_ | refine WC.condF rfl (by first | (simp; done) | (simp; omega)) ?_ | (refine WC.cond rfl (fun h => ?_) (fun h => ?_) <;> (try simp only [ZZ0, ZZ1, ZZ2, ZZ3, ZZ4, ZZ5, ZZ6, ZZ7, ZZ8, ZZ9, ZZ10, ZZ11, ZZ12, ZZ13, ZZ14, ZZ15] at h) <;> (try (exfalso; first | omega | contradiction)))) | (show WD _ _ _ _ _ _ _ _ _; first | refine WD.pure rfl rfl rfl rfl rfl ?_ | refine WD.nil ?_ | refine WD.load rfl rfl (LdOk.box Mm rfl) rfl rfl rfl rfl ?_ | refine WD.add rfl rfl rfl (by omega) rfl rfl rfl rfl ?_ | refine WD.sub rfl rfl rfl (by omega) rfl rfl rfl rfl ?_ | refine WD.conv64 rfl rfl rfl (by omega) rfl rfl rfl rfl ?_ | refine WD.index rfl rfl rfl rfl (by first | with_reducible assumption | omega) rfl rfl rfl rfl rfl ?_ | refine WD.index (j := 0) rfl rfl rfl rfl (by omega) rfl rfl rfl rfl rfl ?_ | refine WD.indexArr rfl rfl rfl rfl (by decide) rfl rfl rfl rfl ?_ | refine WD.pass rfl rfl rfl rfl ?_ | refine WD.skip rfl rfl rfl rfl rfl (hM.ss hS) ?_ | refine WD.build rfl rfl rfl rfl rfl rfl ?_ | (refine WD.slit hS hM rfl rfl rfl rfl rfl rfl rfl ?_; intro w b hS hM) | refine WD.eqS rfl rfl rfl rfl (by kernel_rfl) rfl rfl rfl rfl ?_ | refine WD.neS rfl rfl rfl rfl (by kernel_rfl) rfl rfl rfl rfl ?_ | (refine WD.box hS hM rfl rfl rfl rfl rfl rfl rfl ?_; intro w b hS hM) | ((fail_if_success (refine WD.wanted rfl ?_)); refine WD.guard rfl rfl rfl (fun h => ?_) (fun h => ?_) <;> (try simp only [ZZ0, ZZ1, ZZ2, ZZ3, ZZ4, ZZ5, ZZ6, ZZ7, ZZ8, ZZ9, ZZ10, ZZ11, ZZ12, ZZ13, ZZ14, ZZ15] at h) <;> (try (exfalso; first | omega | contradiction)))) | refine seqQ_n ?_ | refine blkQ_n ?_ | refine seqQ_x ?_ | refine seqQ_r ?_ | refine blkQ_r ?_ | refine blkQ_hit rfl ?_ | refine blkQ_miss rfl ?_ | refine rndQ_x ?_ | refine rndQ_r ?_ | refine rdQ_n ?_ | refine rdQ_x ?_ | refine rdQ_r ?_ | refine cutQ_n ?_ | refine cutQ_r ?_ | refine cutQ_miss rfl ?_ | refine endQ_x ?_ | refine endQ_r ?_)
      exact rndQ_n (j + 1, _) ⟨by omega, hS⟩ (by show L.length - (j + 1) < L.length - j; omega) ⟨vint (by omega), trivial⟩ ⟨rfl, rfl, rfl, trivial⟩
    repeat' (first | (show WL _ _ _ _ _ _ _; first | refine WL.pure rfl rfl rfl rfl ?_ | refine WL.nil ?_ | refine WL.load hS rfl rfl (LdOk.box Mm rfl) rfl rfl rfl ?_ | refine WL.add rfl rfl rfl (by omega) rfl rfl rfl ?_ | refine WL.sub rfl rfl rfl (by omega) rfl rfl rfl ?_ | (refine WL.callL (D := [bchC B (some ⟨Tp, 0, none⟩) m fb, tabC Tp q T fp]) hS Pu rfl rfl (fun hI => hall_c hI (hp.pull hS Pu) h hN (by omega) hm hr0) rfl rfl rfl ?_; rintro v w ⟨og2, oo2, oc2, ps2, fi2, hps2, rfl, hmu⟩ hS; replace hS := hS _ hmu; clear hmu) | (refine WL.calls hS rfl rfl (hsame _ (hps2 ▸ hS.recsSl (ps := ps2) (fp := fi2) Mm Mm) (hS.slO Mm hA)) rfl rfl rfl ?_; rintro v w rfl hS) | refine WL.conv64 rfl rfl rfl (by omega) rfl rfl rfl ?_ | refine WL.cat rfl rfl rfl (by omega) rfl rfl rfl ?_ | refine WL.idxS rfl rfl rfl rfl (by with_reducible assumption) rfl rfl rfl ?_ | refine WL.lowS rfl rfl rfl rfl (by omega) rfl rfl rfl ?_ | refine WL.highS rfl rfl rfl rfl (by omega) rfl rfl rfl ?_ | refine WL.midS rfl rfl rfl rfl rfl (by omega) (by omega) rfl rfl rfl ?_ | refine WL.maxI rfl rfl rfl rfl rfl rfl ?_ | refine WL.minI rfl rfl rfl rfl rfl rfl ?_ | (refine WL.store hS rfl rfl rfl Sb rfl rfl rfl ?_; intro w hS) | (refine WL.box hS rfl rfl rfl rfl rfl ?_; intro w b hS) | (refine WL.alloc hS rfl rfl rfl rfl rfl rfl ?_; intro w b hS) | refine WL.index rfl rfl rfl rfl (by first | with_reducible assumption | omega) rfl rfl rfl rfl ?_ | refine WL.index (j := 0) rfl rfl rfl rfl (by omega) rfl rfl rfl rfl ?_ | refine WL.indexArr rfl rfl rfl rfl (by decide) rfl rfl rfl ?_ | refine WL.skip rfl rfl rfl ?_ | refine WL.build rfl rfl rfl rfl rfl ?_ | (refine WL.slit hS rfl rfl rfl rfl rfl ?_; intro w b hS) | refine WL.eqS rfl rfl rfl rfl (by kernel_rfl) rfl rfl rfl ?_ | refine WL.neS rfl rfl rfl rfl (by kernel_rfl) rfl rfl rfl ?_ | ((fail_if_success (refine WL.wanted rfl ?_)); refine WL.guard rfl rfl rfl (fun h => ?_) (fun h => ?_) <;> (try simp only [ZZ0, ZZ1, ZZ2, ZZ3, ZZ4, ZZ5, ZZ6, ZZ7, ZZ8, ZZ9, ZZ10, ZZ11, ZZ12, ZZ13, ZZ14, ZZ15] at h) <;> (try (exfalso; first | omega | contradiction)))) | (show WC _ _ _ _ _ _; first | refine WC.seq ?_ | refine WC.region ?_ | refine WC.block ?_ | refine WC.skip ?_ | refine WC.exit ?_ | refine WC.ret ?_ | refine WC.condT rfl (by with_reducible rfl) ?_ | refine WC.condF rfl (by with_reducible rfl) ?_ | refine WC.condT rfl (by decide) ?_ | refine WC.condF rfl (by decide) ?_ | refine WC.condT rfl (decide_eq_true (by first | with_reducible assumption | omega)) ?_ | refine WC.condF rfl (decide_eq_false (by first | with_reducible assumption | omega)) ?_ | refine WC.condT rfl (by first | (simp; done) | (simp; omega)) ?_ | refine WC.condF rfl (by first | (simp; done) | (simp; omega)) ?_ | (refine WC.cond rfl (fun h => ?_) (fun h => ?_) <;> (try simp only [ZZ0, ZZ1, ZZ2, ZZ3, ZZ4, ZZ5, ZZ6, ZZ7, ZZ8, ZZ9, ZZ10, ZZ11, ZZ12, ZZ13, ZZ14, ZZ15] at h) <;> (try (exfalso; first | omega | contradiction)))) | (show WD _ _ _ _ _ _ _ _ _; first | refine WD.pure rfl rfl rfl rfl rfl ?_ | refine WD.nil ?_ | refine WD.load rfl rfl (LdOk.box Mm rfl) rfl rfl rfl rfl ?_ | refine WD.add rfl rfl rfl (by omega) rfl rfl rfl rfl ?_ | refine WD.sub rfl rfl rfl (by omega) rfl rfl rfl rfl ?_ | refine WD.conv64 rfl rfl rfl (by omega) rfl rfl rfl rfl ?_ | refine WD.index rfl rfl rfl rfl (by first | with_reducible assumption | omega) rfl rfl rfl rfl rfl ?_ | refine WD.index (j := 0) rfl rfl rfl rfl (by omega) rfl rfl rfl rfl rfl ?_ | refine WD.indexArr rfl rfl rfl rfl (by decide) rfl rfl rfl rfl ?_ | refine WD.pass rfl rfl rfl rfl ?_ | refine WD.skip rfl rfl rfl rfl rfl (hM.ss hS) ?_ | refine WD.build rfl rfl rfl rfl rfl rfl ?_ | (refine WD.slit hS hM rfl rfl rfl rfl rfl rfl rfl ?_; intro w b hS hM) | refine WD.eqS rfl rfl rfl rfl (by kernel_rfl) rfl rfl rfl rfl ?_ | refine WD.neS rfl rfl rfl rfl (by kernel_rfl) rfl rfl rfl rfl ?_ | (refine WD.box hS hM rfl rfl rfl rfl rfl rfl rfl ?_; intro w b hS hM) | ((fail_if_success (refine WD.wanted rfl ?_)); refine WD.guard rfl rfl rfl (fun h => ?_) (fun h => ?_) <;> (try simp only [ZZ0, ZZ1, ZZ2, ZZ3, ZZ4, ZZ5, ZZ6, ZZ7, ZZ8, ZZ9, ZZ10, ZZ11, ZZ12, ZZ13, ZZ14, ZZ15] at h) <;> (try (exfalso; first | omega | contradiction)))) | refine seqQ_n ?_ | refine blkQ_n ?_ | refine seqQ_x ?_ | refine seqQ_r ?_ | refine blkQ_r ?_ | refine blkQ_hit rfl ?_ | refine blkQ_miss rfl ?_ | refine rndQ_x ?_ | refine rndQ_r ?_ | refine rdQ_n ?_ | refine rdQ_x ?_ | refine rdQ_r ?_ | refine cutQ_n ?_ | refine cutQ_r ?_ | refine cutQ_miss rfl ?_ | refine endQ_x ?_ | refine endQ_r ?_)
    exact fin1r rfl rfl ⟨rfl, hS.mutLp Pu⟩
end
end Go.Proofs.YtobfdeiimnnanaaGreatDoor

/- What is proved: what the law HistoryPlays keeps of a batch and its table: keys and sizes are bounded, whatever is added, dropped and committed. Conditions: weights of bounded sum. -/
namespace Go.Proofs.YtobfdeiimnnanaaGreatDoor
open Go Go.J Go.RowKit
theorem cover_sum {κ α : Type} (key : α → κ) (f : α → Nat) : ∀ (m : List α) (KS : List (κ × Nat)), (m.map key).Nodup → (∀ p ∈ m, ∃ x ∈ KS, key p = x.1 ∧ f p ≤ x.2) → (m.map f).sum ≤ (KS.map Prod.snd).sum
  | [], _, _, _ => Nat.zero_le _
  | p :: m, KS, hn, hc => by
    obtain ⟨x, hx, e1, e2⟩ := hc p (List.mem_cons_self ..)
    obtain ⟨s, t, rfl⟩ := List.append_of_mem hx
    rw [List.map_cons, List.nodup_cons] at hn
    have h := cover_sum key f m (s ++ t) hn.2 fun q hq => by
      obtain ⟨y, hy, h1, h2⟩ := hc q (List.mem_cons_of_mem _ hq)
      refine ⟨y, ?_, h1, h2⟩
      rcases List.mem_append.1 hy with hy | hy
      · exact List.mem_append_left _ hy
      · rcases List.mem_cons.1 hy with rfl | hy
        · exact absurd (List.mem_map.2 ⟨q, hq, by rw [h1, e1]⟩) hn.1
        · exact List.mem_append_right _ hy
    rw [List.map_append, List.sum_append] at h
    rw [List.map_append, List.sum_append, List.map_cons, List.map_cons, List.sum_cons, List.sum_cons]
    omega
theorem szL_eq (m : Bch) : szL (m.map Prod.snd) = (m.map fun p => szO p.2).sum := by unfold szL; rw [List.map_map]; rfl
theorem dsum_sub {rows rows1 : Rws} {m m1 : Bch} {vs vs1 : List Ver} {N N1 : Nat} (h1 : ChIs rows1 m1 vs1 N1) (hs : ∀ x ∈ vs1.map idData, x ∈ vs.map idData) : dsum (vs1.map idData) ≤ dsum (vs.map idData) := by
  have hn : ((vs1.map idData).map Prod.fst).Nodup := by
    have := h1.nd
    rw [List.map_map]
    exact this
  have := cover_sum (Prod.fst (α := Nat) (β := List UInt8)) (fun x => x.2.length + 100) (vs1.map idData) ((vs.map idData).map fun x => (x.1, x.2.length + 100)) hn fun p hp => ⟨(p.1, p.2.length + 100), List.mem_map.2 ⟨p, hs p hp, rfl⟩, rfl, Nat.le_refl _⟩
  have e : ((vs.map idData).map fun x => (x.1, x.2.length + 100)).map Prod.snd = (vs.map idData).map fun x => x.2.length + 100 := by rw [List.map_map]; rfl
  rw [e] at this
  exact this
theorem HRew.sz {dat : List (Nat × List UInt8)} {L : List Kr} {m m1 : Bch} (h : HRew dat L m m1) (hn : (m1.map Prod.fst).Nodup) : szL (m1.map Prod.snd) ≤ szL (m.map Prod.snd) + 100 + dsum dat + L.length * 100 := by
  have := cover_sum (Prod.fst (α := List UInt8) (β := Chg)) (fun p => szO p.2) m1 ((m.map fun p => (p.1, szO p.2)) ++ ((nextK, 100) :: ((dat.map fun x => (verK (x.1 : Int), x.2.length + 100)) ++ L.map fun k => (hK k.r.id, 100)))) hn fun p hp => by
    rcases h.ents p hp with h1 | ⟨h1, h2⟩ | ⟨x, hx, h1, h2⟩ | ⟨k, hk, h1, h2⟩
    · exact ⟨(p.1, szO p.2), List.mem_append_left _ (List.mem_map.2 ⟨p, h1, rfl⟩), rfl, Nat.le_refl _⟩
    · exact ⟨_, List.mem_append_right _ (List.mem_cons_self ..), h1, h2⟩
    · exact ⟨_, List.mem_append_right _ (List.mem_cons_of_mem _ (List.mem_append_left _ (List.mem_map.2 ⟨x, hx, rfl⟩))), h1, h2⟩
    · exact ⟨_, List.mem_append_right _ (List.mem_cons_of_mem _ (List.mem_append_right _ (List.mem_map.2 ⟨k, hk, rfl⟩))), h1, h2⟩
  have hL : ((L.map fun k => (hK k.r.id, 100)).map Prod.snd).sum = L.length * 100 := by
    clear this h hn
    induction L with
    | nil => rfl
    | cons k l ih => rw [List.map_cons, List.map_cons, List.sum_cons, ih, List.length_cons]; dsimp only; omega
  rw [List.map_append, List.sum_append, List.map_cons, List.sum_cons, List.map_append, List.sum_append, hL, List.map_map, List.map_map] at this
  rw [szL_eq, szL_eq]
  have e1 : ((Prod.snd ∘ fun (x : Nat × List UInt8) => (verK (x.1 : Int), x.2.length + 100)) : Nat × List UInt8 → Nat) = fun x => x.2.length + 100 := rfl
  have e2 : ((Prod.snd ∘ fun (p : List UInt8 × Chg) => (p.1, szO p.2)) : List UInt8 × Chg → Nat) = fun p => szO p.2 := rfl
  rw [e1, e2] at this
  unfold dsum
  dsimp only at this
  omega
theorem Rew.hrew {dat : List (Nat × List UInt8)} {m m1 : Bch} (h : Rew dat m m1) (hb : BchOk m → BchOk m1) : HRew dat [] m m1 := ⟨fun p hp => by
  rcases h.ents p hp with h1 | h1 | h1
  · exact .inl h1
  · exact .inr (.inl h1)
  · exact .inr (.inr (.inl h1)), hb⟩
def KeyIn (N : Nat) (ids : List Int) (k : List UInt8) : Prop := k = nextK ∨ (∃ n : Nat, 1 ≤ n ∧ n ≤ N ∧ k = verK (n : Int)) ∨ ∃ id ∈ ids, k = hK id
theorem KeyIn.mono {N N' : Nat} {ids ids' : List Int} {k : List UInt8} (h : KeyIn N ids k) (hN : N ≤ N') (hs : ∀ x ∈ ids, x ∈ ids') : KeyIn N' ids' k := by
  rcases h with h | ⟨n, h1, h2, h3⟩ | ⟨id, h1, h2⟩
  · exact .inl h
  · exact .inr (.inl ⟨n, h1, by omega, h3⟩)
  · exact .inr (.inr ⟨id, hs _ h1, h2⟩)
theorem KeyIn.len {N : Nat} {ids : List Int} {ks : List (List UInt8)} (hn : ks.Nodup) (h : ∀ k ∈ ks, KeyIn N ids k) : ks.length ≤ 1 + N + ids.length := by
  have := hn.length_le_of_subset (l₂ := nextK :: (((List.range' 1 N).map fun (n : Nat) => verK (n : Int)) ++ ids.map hK)) fun k hk => by
    rcases h k hk with h1 | ⟨n, h1, h2, h3⟩ | ⟨id, h1, h2⟩
    · rw [h1]; exact List.mem_cons_self ..
    · rw [h3]; exact List.mem_cons_of_mem _ (List.mem_append_left _ (List.mem_map.2 ⟨n, List.mem_range'_1.2 ⟨h1, by omega⟩, rfl⟩))
    · rw [h2]; exact List.mem_cons_of_mem _ (List.mem_append_right _ (List.mem_map.2 ⟨id, h1, rfl⟩))
  rw [List.length_cons, List.length_append, List.length_map, List.length_map, List.length_range'] at this
  omega
theorem mdel_mem {β : Type} : ∀ {m : List (List UInt8 × β)} {x : List UInt8} {p : List UInt8 × β}, p ∈ mdel m x → p ∈ m
  | [], _, _, h => h
  | (k, u) :: r, x, p, h => by
    unfold mdel at h
    split at h
    · exact List.mem_cons_of_mem _ h
    · rcases List.mem_cons.1 h with rfl | h
      · exact List.mem_cons_self ..
      · exact List.mem_cons_of_mem _ (mdel_mem h)
theorem applyE_mem : ∀ {l : List Chg} {rows : Rws} {p : List UInt8 × List UInt8}, p ∈ applyE rows l → p ∈ rows ∨ ∃ o ∈ l, p.1 = o.key
  | [], _, _, h => .inl h
  | o :: l, rows, p, h => by
    rw [applyE_cons] at h
    rcases applyE_mem h with h | ⟨x, hx, e⟩
    · split at h
      · exact .inl (mdel_mem h)
      · rcases mset_mem h with h | rfl
        · exact .inl h
        · exact .inr ⟨o, List.mem_cons_self .., rfl⟩
    · exact .inr ⟨x, List.mem_cons_of_mem _ hx, e⟩
theorem wN_split (l : List Nd) : wNs l = dNs l + l.length * 100 := by
  induction l with
  | nil => rfl
  | cons n l ih =>
    unfold wNs dNs at *
    rw [List.map_cons, List.sum_cons, List.map_cons, List.sum_cons, List.length_cons]
    omega
theorem wH_le : ∀ l : List Hc, (l.map wHc).sum ≤ 27 * wL l
  | [] => Nat.le_refl _
  | c :: l => by
    have h := wH_le l
    have h2 := wN_split c.nodes
    have h3 : c.nodes.length = 6 := rfl
    have h4 : wHc c ≤ 27 * wC c := by unfold wHc wC; omega
    unfold wL at *
    rw [List.map_cons, List.sum_cons, List.map_cons, List.sum_cons]
    omega
theorem chgE_w {N : Nat} (hN : N ≤ 1048576) : ∀ {cs : List Kc} {l : List Hc}, cs.map Kc.sig = l.map Hc.sig → (∀ c ∈ l, HcOk c) → (∀ x ∈ heldR cs, x.1 ≤ N) → (cs.flatMap chgE).length ≤ 7 * wL l
  | [], [], _, _, _ => Nat.le_refl _
  | [], _ :: _, h, _, _ => by cases h
  | _ :: _, [], h, _, _ => by cases h
  | k :: cs, c :: l, h, hok, hh => by
    rw [List.map_cons, List.map_cons, List.cons.injEq] at h
    have h1 := chgE_w hN (cs := cs) (l := l) h.2 (fun x hx => hok x (List.mem_cons_of_mem _ hx)) fun x hx => hh x (by unfold heldR; rw [List.flatMap_cons]; exact List.mem_append_right _ hx)
    have hc := hok c (List.mem_cons_self ..)
    have e1 : k.path = c.path := congrArg (fun x => x.1) h.1
    have e2 : k.spoke = c.spoke := congrArg (fun x => x.2.1) h.1
    have e3 : k.ns.map Prod.fst = c.nodes := congrArg (fun x => x.2.2) h.1
    have e6 : k.ns.length = 6 := by have := congrArg List.length e3; rw [List.length_map] at this; exact this
    have h2 := nodesE_len hN (ns := k.ns) (fun n hn => hc.nodes n.1 (by rw [← e3]; exact List.mem_map.2 ⟨n, hn, rfl⟩)) fun x hx => hh x (by unfold heldR; rw [List.flatMap_cons]; exact List.mem_append_left _ hx)
    have h3 := putN_len10 (n := zigN k.spoke) (zig_lt (by rw [e2]; exact hc.spoke))
    have h4 := putN_len10 (n := k.path.length) (by have := hc.path; rw [e1]; omega)
    have h5 := textE_len k.path
    have h6 : (chgE k).length = (textE k.path).length + (putN (zigN k.spoke)).length + (k.ns.flatMap nodeE).length := by
      unfold chgE headE
      rw [List.length_append, List.length_append]
    have h7 : 23 + c.path.length ≤ wC c := by unfold wC; omega
    rw [List.flatMap_cons, List.length_append]
    unfold wL at *
    rw [List.map_cons, List.sum_cons]
    rw [e1] at h4 h5
    rw [e1] at h6
    omega
theorem insH_len (k : Kr) : ∀ L : List Kr, (insH k L).length = L.length + 1
  | [] => rfl
  | a :: l => by
    unfold insH
    split
    · rw [List.length_cons, insH_len k l, List.length_cons]
    · rfl
structure HPl (i W : Nat) (m : Bch) (L : List Kr) (vs : List Ver) (N : Nat) (bs : Option (List Chg)) (ls : List (List Chg)) (D : Dk) : Prop where
  his : HisIs (rowsOf bs ls) m L vs N
  hN : 23 * N ≤ 6 * W
  dat : dsum (vs.map idData) ≤ 27 * W
  few : L.length ≤ i
  bok : BchOk m
  sz : szL (m.map Prod.snd) + szR (rowsOf bs ls) ≤ 40 * W + i * 29000000
  keys : ∃ ids : List Int, ids.length ≤ i ∧ (∀ k ∈ L, k.r.id ∈ ids) ∧ (∀ p ∈ m, KeyIn N ids p.1) ∧ ∀ p ∈ rowsOf bs ls, KeyIn N ids p.1
  st : TabSt D bs ls
  wf : TabWf bs ls
  lfew : ls.length ≤ 15
  sm : D.Sm (i * 1073742000)
section
variable {i W N N1 : Nat} {m m1 : Bch} {L L1 : List Kr} {vs vs1 : List Ver} {D : Dk} {bs : Option (List Chg)} {ls : List (List Chg)}
theorem HPl.nil : HPl 0 0 [] [] [] 0 none [] Dt0 := ⟨HisIs.nil, Nat.le_refl _, Nat.le_refl _, Nat.le_refl _, BchOk.nil, Nat.le_refl _, ⟨[], Nat.le_refl _, fun k hk => (by cases hk), fun k hk => (by cases hk), fun k hk => (by cases hk)⟩, Dt0_st,
  ⟨by decide, fun l h => (by cases h), fun l h => (by cases h), fun o h => (by cases h), Nat.zero_le _⟩, Nat.zero_le _, Dt0_sm⟩
theorem HPl.up (h : HPl i W m L vs N bs ls D) (w : Nat) : HPl (i + 1) (W + w) m L vs N bs ls D := by
  obtain ⟨ids, a, b, c, d⟩ := h.keys
  have h1 := h.hN
  have h2 := h.dat
  have h3 := h.few
  have h4 := h.sz
  exact ⟨h.his, by omega, by omega, by omega, h.bok, by omega, ⟨ids, by omega, b, c, d⟩, h.st, h.wf, h.lfew, h.sm.up (Nat.mul_le_mul_right _ (Nat.le_succ _))⟩
theorem HPl.mlen (h : HPl i W m L vs N bs ls D) : m.length ≤ 1 + N + i ∧ (rowsOf bs ls).length ≤ 1 + N + i := by
  obtain ⟨ids, a, b, c, d⟩ := h.keys
  have h1 := KeyIn.len (N := N) (ids := ids) h.his.ch.mnd fun k hk => by
    obtain ⟨p, hp, rfl⟩ := List.mem_map.1 hk
    exact c p hp
  have h2 := KeyIn.len (N := N) (ids := ids) h.his.ch.rnd fun k hk => by
    obtain ⟨p, hp, rfl⟩ := List.mem_map.1 hk
    exact d p hp
  rw [List.length_map] at h1 h2
  omega
theorem HPl.add (h : HPl i W m L vs N bs ls D) {k : Kr} {F : List (Nat × List UInt8)} (hW : W + wL k.r.chgs ≤ 1048576) (hki : KrIs k) (hok : HrOk k.r) (ha : AddIs (rowsOf bs ls) m vs N (heldR k.cs) F m1 vs1 N1)
    (hh : HisIs (rowsOf bs ls) (noteE m1 ⟨hK k.r.id, recE k, false⟩) (insH k L) vs1 N1) : HPl (i + 1) (W + wL k.r.chgs) (noteE m1 ⟨hK k.r.id, recE k, false⟩) (insH k L) vs1 N1 bs ls D := by
  obtain ⟨ids, a, b, c, d⟩ := h.keys
  have h1 := h.hN
  have h2 := h.dat
  have h3 := h.few
  have h4 := h.sz
  have hb := ha.bnd hki
  have hwl := wL_len k.r.chgs
  have hds := dsum_rec hki
  have hwh := wH_le k.r.chgs
  have hdf := ha.sz
  have hil := insH_len k L
  have hN1 : N1 ≤ 1048576 := by omega
  have hre := chgE_w (N := N1) hN1 hki hok.whole fun x hx => by
    have hx2 := hh.held k (mem_ins.2 (.inl rfl)) x hx
    obtain ⟨v, hv, e⟩ := List.mem_map.1 hx2
    rw [← e]
    exact (hh.ch.ids v hv).2
  have htop := topE_len hok
  have hrl : (recE k).length = (topE k.r).length + (k.cs.flatMap chgE).length := by unfold recE; rw [List.length_append]
  obtain ⟨idn, hidn⟩ : ∃ n : Nat, k.r.id = (n : Int) := ⟨k.r.id.toNat, by have := hok.id; omega⟩
  have hkl : (hK k.r.id).length ≤ 17 := by rw [hidn]; have := hK_len (n := idn) (by have := hok.id; omega); omega
  have hs1 := (ha.rew.hrew ha.ok).sz ha.ch.mnd
  have hs2 := (szB_note m1 ⟨hK k.r.id, recE k, false⟩).1
  have hs3 : szO ⟨hK k.r.id, recE k, false⟩ = (hK k.r.id).length + (recE k).length + 32 := rfl
  have hNle : N ≤ N1 := by have := ha.num; omega
  refine ⟨hh, by omega, ?_, by omega, (ha.ok h.bok).note ⟨hK k.r.id, recE k, false⟩, ?_, ⟨k.r.id :: ids, by rw [List.length_cons]; omega, fun x hx => ?_, fun p hp => ?_, fun p hp => (d p hp).mono hNle fun x hx => List.mem_cons_of_mem _ hx⟩, h.st, h.wf, h.lfew, h.sm.up (Nat.mul_le_mul_right _ (Nat.le_succ _))⟩
  · rw [ha.dat, dsum_app]
    omega
  · have : ([] : List Kr).length = 0 := rfl
    omega
  · rcases mem_ins.1 hx with rfl | hx
    · exact List.mem_cons_self ..
    · exact List.mem_cons_of_mem _ (b x hx)
  · rcases mset_mem hp with hp | rfl
    · rcases ha.rew.ents p hp with h1 | ⟨h1, _⟩ | ⟨x, hx, h1, _⟩
      · exact (c p h1).mono hNle fun x hx => List.mem_cons_of_mem _ hx
      · exact .inl h1
      · have hx2 : x ∈ vs1.map idData := by rw [ha.dat]; exact List.mem_append_right _ hx
        obtain ⟨v, hv, e⟩ := List.mem_map.1 hx2
        have := hh.ch.ids v hv
        rw [← e] at h1
        exact .inr (.inl ⟨v.id, this.1, this.2, h1⟩)
    · exact .inr (.inr ⟨k.r.id, List.mem_cons_self .., rfl⟩)
theorem HPl.less (h : HPl i W m L vs N bs ls D) (hW : W ≤ 1048576) (hi : i ≤ 30) (hrw : HRew (vs.map idData) L m m1) (hh : HisIs (rowsOf bs ls) m1 L1 vs1 N) (hL : ∀ k ∈ L1, k ∈ L) (hl : L1.length ≤ L.length) (hv : ∀ x ∈ vs1.map idData, x ∈ vs.map idData) : HPl (i + 1) W m1 L1 vs1 N bs ls D := by
  obtain ⟨ids, a, b, c, d⟩ := h.keys
  have h1 := h.hN
  have h2 := h.dat
  have h3 := h.few
  have h4 := h.sz
  have hs := hrw.sz hh.ch.mnd
  have hd := dsum_sub (m := m) (N := N) (rows := rowsOf bs ls) hh.ch hv
  refine ⟨hh, h1, by omega, by omega, hrw.ok h.bok, by omega, ⟨ids, by omega, fun k hk => b k (hL k hk), fun p hp => ?_, d⟩, h.st, h.wf, h.lfew, h.sm.up (Nat.mul_le_mul_right _ (Nat.le_succ _))⟩
  rcases hrw.ents p hp with h1 | ⟨h1, _⟩ | ⟨x, hx, h1, _⟩ | ⟨k, hk, h1, _⟩
  · exact c p h1
  · exact .inl h1
  · obtain ⟨v, hv, e⟩ := List.mem_map.1 hx
    have := h.his.ch.ids v hv
    rw [← e] at h1
    exact .inr (.inl ⟨v.id, this.1, this.2, h1⟩)
  · exact .inr (.inr ⟨k.r.id, b k hk, h1⟩)
theorem TabSt.anew (h : TabSt D bs ls) (hw : TabWf bs ls) (hf : ls.length ≤ 15) (hok : BchOk m) (hsz : szL (m.map Prod.snd) + szR (rowsOf bs ls) ≤ 1073000000) :
    ∃ D' bs' ls', tabCommit ⟨sysP, rowsOf bs ls, ⟨sysL, ls.map recordE, false⟩⟩ D (m.map Prod.snd) = (0, ⟨sysP, applyE (rowsOf bs ls) (m.map Prod.snd), ⟨sysL, ls'.map recordE, false⟩⟩, D') ∧ TabSt D' bs' ls' ∧ TabWf bs' ls' ∧ ls'.length ≤ 15 ∧
      (∀ k, getE (rowsOf bs' ls') k = bgetE (rowsOf bs ls) m k) ∧ szR (rowsOf bs' ls') ≤ szR (rowsOf bs ls) + szL (m.map Prod.snd) ∧ ∀ p ∈ rowsOf bs' ls', ∃ q ∈ applyE (rowsOf bs ls) (m.map Prod.snd), p.1 = q.1 := by
  have hge := getE_commit (rowsOf_are bs ls) hok
  have hra := (rowsOf_are bs ls).apply (l := m.map Prod.snd)
  have hap := szR_apply (m.map Prod.snd) (rowsOf bs ls)
  by_cases hl : ls.length < 15
  · obtain ⟨D', ls', h1, h2, h3, h4, h5⟩ := h.commitAny hw (rowsOf bs ls) (m.map Prod.snd) hok.clean (by omega) hl
    refine ⟨D', bs, ls', h1, h2, h3, by omega, ?_, ?_, ?_⟩
    · rw [h5]; exact hge
    · rw [h5]; exact hap
    · rw [h5]; exact fun p hp => ⟨p, hp, rfl⟩
  · by_cases hne : m.map Prod.snd = []
    · rw [hne] at hge hap ⊢
      exact ⟨D, bs, ls, rfl, h, hw, hf, hge, Nat.le_add_right _ _, fun p hp => ⟨p, hp, rfl⟩⟩
    · obtain ⟨D', h1, h2⟩ := h.commit16 (rowsOf bs ls) (m.map Prod.snd) hne (by omega)
      have hpk := szL_pack hra.1
      refine ⟨D', _, [], h1, h2, ⟨by decide, fun l hl => (by cases hl), fun l hl => (by cases hl), packL_clean _, ?_⟩, Nat.zero_le _, fun k => ?_, ?_, ?_⟩
      · show szL (packL _) ≤ _
        rw [hpk]
        omega
      · have hp := packL_rows hra
        have ha : RowsAre (rowsOf (some (packL (applyE (rowsOf bs ls) (m.map Prod.snd)))) []) _ := rowsOf_are _ _
        rw [getE_of ha, ← hge k, getE_of hra]
        show ((applyF (fun _ => none) (packL _) k).getD [], (applyF (fun _ => none) (packL _) k).isSome) = _
        rw [hp]
      · show szR (applyE [] (packL _)) ≤ _
        have := szR_apply (packL (applyE (rowsOf bs ls) (m.map Prod.snd))) []
        have h0 : szR [] = 0 := rfl
        omega
      · intro p hp
        rcases applyE_mem (show p ∈ applyE [] (packL _) from hp) with hp | ⟨o, ho, e⟩
        · cases hp
        · obtain ⟨k, hk, rfl⟩ := List.mem_map.1 ho
          have hk := (keysE_perm _).mem_iff.1 hk
          obtain ⟨r, hr, rfl⟩ := List.mem_map.1 hk
          exact ⟨r, hr, e⟩
theorem HPl.commit (h : HPl i W m L vs N bs ls D) (hW : W ≤ 1048576) (hi : i ≤ 30) : ∃ D' bs' ls', HPl (i + 1) W [] L vs N bs' ls' D' ∧
    tabCommit ⟨sysP, rowsOf bs ls, ⟨sysL, ls.map recordE, false⟩⟩ D (m.map Prod.snd) = (0, ⟨sysP, applyE (rowsOf bs ls) (m.map Prod.snd), ⟨sysL, ls'.map recordE, false⟩⟩, D') ∧
    (recordE (m.map Prod.snd)).length ≤ 1073741824 ∧ (recordE (packL (applyE (rowsOf bs ls) (m.map Prod.snd)))).length ≤ 549755813888 ∧ (applyE (rowsOf bs ls) (m.map Prod.snd)).length ≤ 1048576 ∧ ∀ p ∈ applyE (rowsOf bs ls) (m.map Prod.snd), p.1.length ≤ 1099511627776 := by
  have hs := h.sz
  have hN := h.hN
  obtain ⟨hml, hrl⟩ := h.mlen
  obtain ⟨D', bs', ls', hcm, hst, hwf, hfw, hge, hsz, hkq⟩ := h.st.anew h.wf h.lfew h.bok (by omega)
  have hra := (rowsOf_are bs ls).apply (l := m.map Prod.snd)
  have hap := szR_apply (m.map Prod.snd) (rowsOf bs ls)
  have hln := applyE_len (m.map Prod.snd) (rowsOf bs ls)
  rw [List.length_map] at hln
  obtain ⟨p1, p2⟩ := pack_small hra.1 (B := 1073000000) (by omega) (by decide)
  have rc := rec_small (l := m.map Prod.snd) (by omega)
  have hsm := tabCommit_sm (T := ⟨sysP, rowsOf bs ls, ⟨sysL, ls.map recordE, false⟩⟩) (D := D) (ops := m.map Prod.snd) (B := i * 1073742000) h.sm rc (by dsimp only; omega)
  rw [hcm] at hsm
  obtain ⟨ids, a, b, c, d⟩ := h.keys
  have hd := h.dat
  have hfe := h.few
  refine ⟨D', bs', ls', ⟨h.his.commit (rowsOf_are _ _).1 hge, hN, hd, by omega, BchOk.nil, ?_, ⟨ids, by omega, b, fun p hp => (by cases hp), fun p hp => ?_⟩, hst, hwf, hfw, hsm.up (by rw [Nat.succ_mul]; exact Nat.le_refl _)⟩, hcm, rc, by omega, by omega, fun p hp => by have := szR_mem hp; omega⟩
  · have : szL (([] : Bch).map Prod.snd) = 0 := rfl
    omega
  · obtain ⟨r, hr, e⟩ := hkq p hp
    rw [e]
    rcases applyE_mem hr with hr | ⟨o, ho, e2⟩
    · exact d r hr
    · obtain ⟨x, hx, rfl⟩ := List.mem_map.1 ho
      rw [e2, ← h.bok.key x hx]
      exact c x hx
end
end Go.Proofs.YtobfdeiimnnanaaGreatDoor

/- What is proved: the law HistoryPlays answers true. Conditions: the statement's own bound on the bulk; the library's table of powers laid. -/
namespace Go.J
open Go Go.RowKit
theorem St.own_cap {w0 w : World} {M : List Nat} {H : List Chunk} {Z : List Snap} {A : Option Addr} {n cap n' : Nat} {e : TypeId} {size : Nat} {xs : List Value} (hS : St w0 M w H Z) (hm : Chunk.own (.slice A n cap) e size n' xs ∈ H) : A = none → cap = 0 := fun hA => by
  have h : RowAt w e size _ n' xs := hS.holds _ hm
  rcases h.2 with ⟨h1, _⟩ | ⟨g, off, cap', cur, h1, _⟩
  · simp only [Value.slice.injEq] at h1
    exact h1.2.2
  · simp only [Value.slice.injEq] at h1
    rw [hA] at h1
    cases h1.1
end Go.J
namespace Go.Proofs.YtobfdeiimnnanaaGreatDoor
open Go Go.J Go.RowKit
section
variable {w0 w : World} {M : List Nat} {D H : List Chunk} {Z : List Snap} {pl : List Pr} {e : TypeId} {A : Option Addr} {n cap n' : Nat}
theorem _root_.Go.J.St.plSl (hS : St w0 M w H Z) (h1 : Chunk.own (.slice A n cap) e 4 n' (prs pl) ∈ H) (hz : Snap.mk w0 (Old w0) ∈ Z) (hin : ∀ p ∈ pl, p.1.chgs.length ≤ p.2.2 ∧ SlAt cHc (Old w0) w0 p.2.1 p.1.chgs) : SlAt cHr (Old w) w A (pl.map Prod.fst) := by
  have hrow : RowAt w e 4 (.slice A n cap) n' (prs pl) := hS.holds _ h1
  exact prs_sl hrow (fun g hg => (hS.inb _ h1 g (by simp [Chunk.fp, hg])).1) fun p hp => ⟨(hin p hp).1, hS.slO hz (hin p hp).2⟩
theorem _root_.Go.J.St.plSlY (hS : St w0 M w (D ++ H) Z) (h1 : Chunk.own (.slice A n cap) e 4 n' (prs pl) ∈ H) (hz : Snap.mk w0 (Old w0) ∈ Z) (hin : ∀ p ∈ pl, p.1.chgs.length ≤ p.2.2 ∧ SlAt cHc (Old w0) w0 p.2.1 p.1.chgs) : SlAt cHr (fun b => b < w.heap.size ∧ b ∉ fps D) w A (pl.map Prod.fst) := by
  have hrow : RowAt w e 4 (.slice A n cap) n' (prs pl) := hS.holds _ (List.mem_append_right _ h1)
  refine prs_sl hrow (fun g hg => ⟨(hS.inb _ (List.mem_append_right _ h1) g (by simp [Chunk.fp, hg])).1, fun hf => ?_⟩) fun p hp => ⟨(hin p hp).1, hS.slY hz (hin p hp).2⟩
  obtain ⟨c, hc, hb⟩ := mem_fps.1 hf
  exact (List.pairwise_append.1 hS.disj).2.2 c hc _ h1 g hb (by simp [Chunk.fp, hg])
end
theorem one_hcs (ls : List Hc) : J.one (ls.flatMap encHc) = true := by
  unfold J.one
  rw [List.all_eq_true]
  intro v hv
  obtain ⟨p, _, h⟩ := List.mem_flatMap.1 hv
  simp only [encHc, List.mem_cons, List.not_mem_nil, or_false] at h
  rcases h with rfl | rfl | rfl | rfl | rfl | rfl | rfl | rfl | rfl | rfl | rfl | rfl | rfl | rfl <;> rfl
def wS (l : List Stp21) : Nat := (l.map fun s => wL s.r.chgs).sum
theorem wS_take (l : List Stp21) {j : Nat} (h : j < l.length) : wS (l.take (j + 1)) = wS (l.take j) + wL (l[j]).r.chgs := by
  unfold wS
  rw [List.take_succ_eq_append_getElem h, List.map_append, List.sum_append]
  simp
theorem wS_le (l : List Stp21) (j : Nat) : wS (l.take j) ≤ wS l := by
  have h : wS l = wS (l.take j) + wS (l.drop j) := by
    unfold wS
    rw [← List.sum_append, ← List.map_append, List.take_append_drop]
  omega
theorem ins_place (k : Kr) : ∀ (L : List Kr), findH L k.r.id = none → (insH k L).map Kr.r = (L.map Kr.r).take (placeE (L.map Kr.r) k.r.id).1 ++ k.r :: (L.map Kr.r).drop (placeE (L.map Kr.r) k.r.id).1
  | [], _ => rfl
  | a :: l, hf => by
    have hne : a.r.id ≠ k.r.id := findH_none hf a (List.mem_cons_self ..)
    have hf2 : findH l k.r.id = none := by
      unfold findH at *
      rw [List.find?_cons_of_neg (by simp [hne])] at hf
      exact hf
    rw [List.map_cons, place_cons, if_neg hne]
    unfold insH
    by_cases h : a.r.id < k.r.id
    · rw [if_pos h, if_neg (by omega)]
      dsimp only
      rw [List.take_succ_cons, List.drop_succ_cons, List.cons_append, List.map_cons, ins_place k l hf2]
    · rw [if_neg h, if_pos (by omega)]
      rfl
theorem del_place : ∀ {L : List Kr} (hs : (L.map fun k => k.r.id).Pairwise (· < ·)) {k : Kr}, k ∈ L → (delH L k.r.id).map Kr.r = (L.map Kr.r).take (placeE (L.map Kr.r) k.r.id).1 ++ (L.map Kr.r).drop ((placeE (L.map Kr.r) k.r.id).1 + 1)
  | [], _, _, h => by cases h
  | a :: l, hs, k, h => by
    rw [List.map_cons, List.pairwise_cons] at hs
    rw [List.map_cons, place_cons]
    by_cases h1 : a.r.id = k.r.id
    · rw [if_pos h1]
      have : delH (a :: l) k.r.id = l := by
        unfold delH
        rw [List.filter_cons, if_neg (by simp [h1])]
        refine List.filter_eq_self.2 fun x hx => decide_eq_true ?_
        have := hs.1 _ (List.mem_map.2 ⟨x, hx, rfl⟩)
        omega
      rw [this]
      rfl
    · have hk : k ∈ l := by
        rcases List.mem_cons.1 h with rfl | h
        · exact absurd rfl h1
        · exact h
      have hlt := hs.1 _ (List.mem_map.2 ⟨k, hk, rfl⟩)
      rw [if_neg h1, if_neg (by omega)]
      have : delH (a :: l) k.r.id = a :: delH l k.r.id := by
        unfold delH
        rw [List.filter_cons, if_pos (by simp [h1])]
      rw [this, List.map_cons, del_place hs.2 hk]
      rfl
theorem HPl.wt {i W N : Nat} {m : Bch} {L : List Kr} {vs : List Ver} {D : Dk} {bs : Option (List Chg)} {ls : List (List Chg)} (h : HPl i W m L vs N bs ls D) (w : Nat) : HPl i (W + w) m L vs N bs ls D := by
  have h1 := h.hN
  have h2 := h.dat
  have h4 := h.sz
  exact ⟨h.his, by omega, by omega, h.few, h.bok, by omega, h.keys, h.st, h.wf, h.lfew, h.sm⟩
theorem bkeys0_c {B Tp q : Nat} {T : Tb} {m : Bch} {fb fp : List Nat} (p : List UInt8) {w0 : World} (hi : InL w0 [bchC B (some ⟨Tp, 0, none⟩) m fb, tabC Tp q T fp]) (hn : T.rows.length ≤ 549755813888) (hm : m.length ≤ 549755813888) (h0 : bkeysP T.rows m p = []) :
    Cal Tryz.prog 19 [.pointer (some ⟨B, 0, none⟩), str p] w0 (fun v w' => ∃ A cap, v = .slice A 0 cap ∧ MutL w0 w' [bchC B (some ⟨Tp, 0, none⟩) m fb, tabC Tp q T fp] [bchC B (some ⟨Tp, 0, none⟩) m fb, tabC Tp q T fp, .own (.slice A 0 cap) 9 1 0 []]) := by
  have h := bkeys_c p hi hn hm
  rw [h0] at h
  exact h
theorem HisIs.empty {rows : Rws} {m : Bch} {vs : List Ver} {N : Nat} (h : HisIs rows m [] vs N) : bkeysP rows m [104, 47] = [] ∧ bkeysP rows m [118, 47] = [] := by
  have hv : vs = [] := by
    cases vs with
    | nil => rfl
    | cons v l =>
      obtain ⟨k, hk, _⟩ := h.all (idData v) (by rw [List.map_cons]; exact List.mem_cons_self ..)
      cases hk
  subst hv
  refine ⟨h.keys, ?_⟩
  obtain ⟨ns, h1, h2⟩ := h.ch.keys
  have h2 : ns.Perm [] := h2
  rw [h1, h2.eq_nil]
  rfl
def spareH : Hc := ⟨[115, 112, 97, 114, 101], 0, ⟨0, []⟩, ⟨0, []⟩, ⟨0, []⟩, ⟨0, []⟩, ⟨0, []⟩, ⟨0, []⟩⟩
set_option maxHeartbeats 128000000 in
set_option maxRecDepth 100000 in
theorem historyPlays_c (steps : List Stp21) {A : Option Addr} {cap : Nat} (w0 : World) (hA : SlAt cStp21 (Old w0) w0 A steps) (hq : ∀ s ∈ steps, QStp21 s 1048576) (hW : wS steps ≤ 1048576) (hsl : steps.length ≤ 1048576) (ht : powT w0) :
    Cal Tryz.prog 9 [.slice A steps.length cap] w0 (fun v w' => Upd [] w0 w' ∧ v = .bool true) := by
  refine Cal.mk' (by kernel_rfl) Tryz.func9 rfl rfl fun hS => ?_
  have hp := PowI.of ht
  repeat' (first | (show WL _ _ _ _ _ _ _; first | refine WL.pure rfl rfl rfl rfl ?_ | refine WL.nil ?_ | (refine WL.callG rfl rfl (dnew_c _) rfl rfl rfl ?_; rintro v w ⟨hu, q, mb, lb, rfl, hn⟩; replace hS := hS.new hu hn; clear hu hn) | (refine WL.callL (D := [dkC q mb lb Dk0]) hS Pu rfl rfl (fun hI => topenFirst_c hI) rfl rfl rfl ?_; rintro v w ⟨Tp, fp, rfl, hmu⟩ hS; replace hS := hS _ hmu; clear hmu) | (refine WL.calls hS rfl rfl (hawake_c _ (hp.at hS)) rfl rfl rfl ?_; rintro v w rfl hS) | (refine WL.callG rfl rfl (begin_c _) rfl rfl rfl ?_; rintro v w ⟨hu, B, fb, rfl, hn⟩; replace hS := hS.new hu hn; clear hu hn)) | (show WC _ _ _ _ _ _; first | refine WC.seq ?_ | refine WC.region ?_ | refine WC.block ?_ | refine WC.skip ?_ | refine WC.condF rfl (by decide) ?_) | refine seqQ_n ?_)
  replace hS := hS.nilRow 24 4
  refine WC.loop (σ := Nat × Nat × Option Addr × Nat × List Pr) [0, 3] (fun (i, B, AL, cl, pl) => [(6, .pointer (some ⟨B, 0, none⟩)), (7, .slice AL pl.length cl), (8, .int .i64 (i : Int))])
    (fun (i, B, AL, cl, pl) w => ∃ (m : Bch) (L : List Kr) (vs : List Ver) (N : Nat) (bs : Option (List Chg)) (ls : List (List Chg)) (D : Dk) (fb fp : List Nat) (Tp : Nat), ((i ≤ 30 ∧ i ≤ steps.length) ∧ HPl i (wS (steps.take i)) m L vs N bs ls D ∧ pl.map Prod.fst = L.map Kr.r ∧ ∀ p ∈ pl, p.1.chgs.length ≤ p.2.2 ∧ SlAt cHc (Old w0) w0 p.2.1 p.1.chgs) ∧ St w0 [] w [bchC B (some ⟨Tp, 0, none⟩) m fb, tabC Tp q ⟨sysP, rowsOf bs ls, ⟨sysL, ls.map recordE, false⟩⟩ fp, dkC q mb lb D, .own (.slice AL pl.length cl) 24 4 pl.length (prs pl)] [⟨w0, Old w0⟩]) (fun (i, _) => steps.length - i) (0, B, none, 0, []) ⟨[], [], [], 0, none, [], Dt0, fb, fp, Tp, ⟨⟨Nat.zero_le _, Nat.zero_le _⟩, HPl.nil, rfl, fun p hp => (by cases hp)⟩, hS.droplast2 Pu⟩ ⟨rfl, rfl, rfl, trivial⟩ ?_
  repeat (clear hS)
  rintro ⟨i, B, AL, cl, pl⟩ g w ⟨m, L, vs, N, bs, ls, D, fb, fp, Tp, ⟨⟨hi30, his_⟩, hpi, hls, hin⟩, hS⟩
  show WC _ _ _ (lf _ [(6, .pointer (some ⟨B, 0, none⟩)), (7, .slice AL pl.length cl), (8, .int .i64 (i : Int))] _ _) _ _
  have hll : pl.length = L.length := by have := congrArg List.length hls; rwa [List.length_map, List.length_map] at this
  have his := hpi.his
  have hN := hpi.hN
  have hWi := wS_le steps i
  have hfw := hpi.few
  obtain ⟨hml, hrl⟩ := hpi.mlen
  have hcl := (hS.own_len (A := AL) (n := pl.length) Mm).2.2
  have hcn := hS.own_cap (A := AL) (n := pl.length) Mm
  by_cases hlt : i < steps.length ∧ i < 30
  rotate_left
  · have hend : steps.length ≤ i ∨ (i < steps.length ∧ 30 ≤ i) := by omega
    have hnd := his.nd
    have hvl := his.ch.len
    have hrew0 := HRew.refl (vs.map idData) L m
    have hrl2 : (rowsOf bs ls).length ≤ 549755813888 := by omega
    have hm0 := hpi.mlen.1
    clear hlt hpi hq hA
    rcases hend with hend | hend
    all_goals
      repeat' (first | (show WL _ _ _ _ _ _ _; first | refine WL.pure rfl rfl rfl rfl ?_ | refine WL.nil ?_ | refine WL.skip rfl rfl rfl ?_ | ((fail_if_success (refine WL.wanted rfl ?_)); refine WL.guard rfl rfl rfl (fun h => ?_) (fun h => ?_) <;> (try simp only [ZZ0, ZZ1, ZZ2, ZZ3, ZZ4, ZZ5, ZZ6, ZZ7, ZZ8, ZZ9, ZZ10, ZZ11, ZZ12, ZZ13, ZZ14, ZZ15] at h) <;> (try (exfalso; first | omega | contradiction)))) | (show WC _ _ _ _ _ _; first | refine WC.seq ?_ | refine WC.region ?_ | refine WC.block ?_ | refine WC.exit ?_ | refine WC.condF rfl (by with_reducible rfl) ?_ | refine WC.condF rfl (decide_eq_false (by first | with_reducible assumption | omega)) ?_) | refine seqQ_n ?_ | refine seqQ_x ?_ | refine blkQ_hit rfl ?_ | refine rndQ_x ?_)
      refine WC.loop (σ := Nat × Bch × List Ver × List Nat) [6, 7] (fun (j, _) => [(21, .int .i64 (j : Int))])
        (fun (j, m2, vs2, fb2) w => (j ≤ L.length ∧ HisIs (rowsOf bs ls) m2 (L.drop j) vs2 N ∧ HRew (vs.map idData) L m m2 ∧ ∀ x ∈ vs2.map idData, x ∈ vs.map idData) ∧ St w0 [] w [bchC B (some ⟨Tp, 0, none⟩) m2 fb2, tabC Tp q ⟨sysP, rowsOf bs ls, ⟨sysL, ls.map recordE, false⟩⟩ fp, .own (.slice AL pl.length cl) 24 4 pl.length (prs pl)] [⟨w0, Old w0⟩])
        (fun (j, _) => L.length - j) (0, m, vs, fb) ⟨⟨Nat.zero_le _, his, hrew0, fun x hx => hx⟩, hS.droplast2 Pu⟩ ⟨rfl, trivial⟩ ?_
      repeat (clear hS)
      rintro ⟨j, m2, vs2, fb2⟩ g2 w ⟨⟨hj, hh, hrw, hsub⟩, hS⟩
      show WC _ _ _ (lf _ [(21, .int .i64 (j : Int))] _ _) _ _
      have hl1 := hrw.len hh.ch.mnd
      rw [List.length_map] at hl1
      by_cases hlt2 : j < L.length
      · obtain ⟨kg, ko, rfl⟩ := hS.own_addr (A := AL) (n := pl.length) Mm (by omega)
        have hlk : pl[j]? = some (pl[j]'(by omega)) := List.getElem?_eq_getElem (by omega)
        have hpe : (pl[j]'(by omega)).1 = (L[j]).r := by
          have := congrArg (fun l => l[j]?) hls
          rw [List.getElem?_map, List.getElem?_map, List.getElem?_eq_getElem hlt2, hlk] at this
          exact Option.some.inj this
        have hkm : L[j] ∈ L.drop j := by rw [List.drop_eq_getElem_cons hlt2]; exact List.mem_cons_self ..
        have hkL : L[j] ∈ L := List.getElem_mem hlt2
        have hde := del_head hnd hlt2
        have hnx := fun {m3 : Bch} {vs3 : List Ver} (h1 : GoneIs (rowsOf bs ls) m2 vs2 N ((heldR (L[j]).cs).map Prod.fst) m3 vs3) (h2 : HisIs (rowsOf bs ls) (noteE m3 ⟨hK (L[j]).r.id, [], true⟩) (delH (L.drop j) (L[j]).r.id) vs3 N) => (show HisIs (rowsOf bs ls) (noteE m3 ⟨hK (L[j]).r.id, [], true⟩) (L.drop (j + 1)) vs3 N ∧ HRew (vs.map idData) L m (noteE m3 ⟨hK (L[j]).r.id, [], true⟩) ∧ ∀ x ∈ vs3.map idData, x ∈ vs.map idData from
          ⟨by rw [← hde]; exact h2, hrw.trans ((h1.hrew hh hkm).mono hsub fun k hk => by rw [List.mem_singleton.1 hk]; exact hkL), fun x hx => by
            rw [h1.dat] at hx
            exact hsub x (List.mem_filter.1 hx).1⟩)
        generalize pl[j]'(by omega) = p at *
        generalize L[j] = k at *
        obtain ⟨pr, pA, pc⟩ := p
        have hpe : pr = k.r := hpe
        subst hpe
        have hid0 : (prs pl)[j * 4 + 0]? = some (.int .i64 k.r.id) := by rw [prs_at hlk (by decide)]; rfl
        clear hrw hsub
        repeat' (first | (show WL _ _ _ _ _ _ _; first | refine WL.pure rfl rfl rfl rfl ?_ | refine WL.nil ?_ | refine WL.add rfl rfl rfl (by omega) rfl rfl rfl ?_ | (refine WL.load hS rfl rfl (LdOk.ownAt (off := j * 4 + 0) Mm rfl ⟨_, rfl⟩ hid0 rfl) rfl rfl rfl ?_) | (refine WL.callL (D := [bchC B (some ⟨Tp, 0, none⟩) m2 fb2, tabC Tp q ⟨sysP, rowsOf bs ls, ⟨sysL, ls.map recordE, false⟩⟩ fp]) hS Pu rfl rfl (fun hI => hdrop_c (T := ⟨sysP, rowsOf bs ls, ⟨sysL, ls.map recordE, false⟩⟩) k hkm hI (hp.pull hS Pu) hh (by omega) (by omega) hrl2) rfl rfl rfl ?_; rintro v w ⟨rfl, m3, vs3, fb3, hg3, hh3, hmu⟩ hS; replace hS := hS _ hmu; clear hmu; have hn2 := hnx hg3 hh3; clear hg3 hh3) | refine WL.index rfl rfl rfl rfl (by first | with_reducible assumption | omega) rfl rfl rfl rfl ?_) | (show WC _ _ _ _ _ _; first | refine WC.seq ?_ | refine WC.region ?_ | refine WC.block ?_ | refine WC.skip ?_ | refine WC.condF rfl (by decide) ?_ | refine WC.condT rfl (decide_eq_true (by first | with_reducible assumption | omega)) ?_) | refine seqQ_n ?_ | refine blkQ_n ?_)
        exact rndQ_n (j + 1, _, vs3, fb3) ⟨⟨by omega, hn2.1, hn2.2.1, hn2.2.2⟩, hS.droplast2 Pu⟩ (by show L.length - (j + 1) < L.length - j; omega) ⟨vint (by omega), trivial⟩ ⟨rfl, rfl, trivial⟩
      · rw [List.drop_of_length_le (by omega)] at hh
        obtain ⟨hk1, hk2⟩ := hh.empty
        clear hnd hrew0 hrw hsub
        repeat' (first | (show WL _ _ _ _ _ _ _; first | refine WL.pure rfl rfl rfl rfl ?_ | refine WL.nil ?_ | (refine WL.callL (D := [bchC B (some ⟨Tp, 0, none⟩) m2 fb2, tabC Tp q ⟨sysP, rowsOf bs ls, ⟨sysL, ls.map recordE, false⟩⟩ fp]) hS Pu rfl rfl (fun hI => bkeys0_c (T := ⟨sysP, rowsOf bs ls, ⟨sysL, ls.map recordE, false⟩⟩) [104, 47] hI hrl2 (by omega) hk1) rfl rfl rfl ?_; rintro v w ⟨AK, capK, rfl, hmu⟩ hS; replace hS := hS _ hmu; clear hmu) | (refine WL.callL (D := [bchC B (some ⟨Tp, 0, none⟩) m2 fb2, tabC Tp q ⟨sysP, rowsOf bs ls, ⟨sysL, ls.map recordE, false⟩⟩ fp]) hS Pu rfl rfl (fun hI => bkeys0_c (T := ⟨sysP, rowsOf bs ls, ⟨sysL, ls.map recordE, false⟩⟩) [118, 47] hI hrl2 (by omega) hk2) rfl rfl rfl ?_; rintro v w ⟨AK2, capK2, rfl, hmu⟩ hS; replace hS := hS _ hmu; clear hmu)) | (show WC _ _ _ _ _ _; first | refine WC.seq ?_ | refine WC.region ?_ | refine WC.exit ?_ | refine WC.ret ?_ | refine WC.condF rfl (decide_eq_false (by first | with_reducible assumption | omega)) ?_) | refine seqQ_n ?_ | refine seqQ_x ?_ | refine blkQ_hit rfl ?_ | refine rndQ_x ?_)
        exact fin1r rfl rfl ⟨hS.upd, rfl⟩
  obtain ⟨hlt, h30⟩ := hlt
  obtain ⟨rb, ro, es, rfl, hF, hr, A1, c1, rfl, hc1, hs1⟩ := hA.at_ hlt
  have hqs := hq _ (List.getElem_mem hlt)
  have hwt := wS_take steps hlt
  have hW1 := wS_le steps (i + 1)
  rw [hwt] at hW1
  have hinv := fun {m2 : Bch} {L2 : List Kr} {vs2 : List Ver} {N2 : Nat} {bs2 : Option (List Chg)} {ls2 : List (List Chg)} {D2 : Dk} (h : HPl (i + 1) (wS (steps.take i) + wL (steps[i]).r.chgs) m2 L2 vs2 N2 bs2 ls2 D2) => (show HPl (i + 1) (wS (steps.take (i + 1))) m2 L2 vs2 N2 bs2 ls2 D2 from hwt ▸ h)
  generalize steps[i] = sp at *
  obtain ⟨kind, id, ⟨rid, rtick, rspoke, cs⟩, clock, quota, age⟩ := sp
  obtain ⟨⟨hid, hck, hqt, hag⟩, hqr⟩ := hqs
  dsimp only at hr hs1 hc1 hid hck hqt hag hqr hW1 hinv
  unfold inI at hid hck hqt hag
  replace hr : w0.rangeAt rb (ro + i * 9) [.int .i64 kind, .int .i64 id, .int .i64 rid, .int .i64 rtick, .int .i64 rspoke, .slice A1 cs.length c1, .int .i64 clock, .int .i64 quota, .int .i64 age] := hr
  obtain ⟨hsm1, hsm2⟩ := hr_small hqr (Nat.le_refl _)
  dsimp only at hsm1 hsm2
  clear hq hwt hA
  by_cases k1 : kind = 1
  · subst k1
    cases hw : okR cs
    · have hpi2 := hinv (hpi.up (wL cs))
      clear hinv hpi
      repeat' (first | (show WL _ _ _ _ _ _ _; first | refine WL.pure rfl rfl rfl rfl ?_ | refine WL.nil ?_ | refine WL.load hS rfl rfl (LdOk.box Mm rfl) rfl rfl rfl ?_ | refine WL.add rfl rfl rfl (by omega) rfl rfl rfl ?_ | (refine WL.load hS rfl rfl (LdOk.snap0 hF hr Mm rfl) rfl rfl rfl ?_) | (refine WL.calls hS rfl rfl (rwhole_c cs _ _ _ _ (hS.slO Mm hs1) (by omega) hsm2) rfl rfl rfl ?_; rintro v w rfl hS; rw [hw]) | (refine WL.store hS rfl rfl rfl Sb rfl rfl rfl ?_; intro w hS) | (refine WL.alloc hS rfl rfl rfl rfl rfl rfl ?_; intro w b hS) | refine WL.index rfl rfl rfl rfl (by first | with_reducible assumption | omega) rfl rfl rfl rfl ?_ | ((fail_if_success (refine WL.wanted rfl ?_)); refine WL.guard rfl rfl rfl (fun h => ?_) (fun h => ?_) <;> (try simp only [ZZ0, ZZ1, ZZ2, ZZ3, ZZ4, ZZ5, ZZ6, ZZ7, ZZ8, ZZ9, ZZ10, ZZ11, ZZ12, ZZ13, ZZ14, ZZ15] at h) <;> (try (exfalso; first | omega | contradiction)))) | (show WC _ _ _ _ _ _; first | refine WC.seq ?_ | refine WC.region ?_ | refine WC.block ?_ | refine WC.skip ?_ | refine WC.exit ?_ | refine WC.condT rfl (by decide) ?_ | refine WC.condT rfl (decide_eq_true (by first | with_reducible assumption | omega)) ?_) | refine seqQ_n ?_ | refine seqQ_x ?_ | refine blkQ_hit rfl ?_ | refine blkQ_miss rfl ?_)
      exact rndQ_n (i + 1, B, AL, cl, pl) ⟨m, L, vs, N, bs, ls, D, fb, fp, Tp, ⟨⟨by omega, by omega⟩, hpi2, hls, hin⟩, hS.droplast2 Pu⟩ (by show steps.length - (i + 1) < steps.length - i; omega) ⟨rfl, rfl, vint (by omega), trivial⟩ ⟨rfl, rfl, trivial⟩
    have hrl2 : (rowsOf bs ls).length ≤ 549755813888 := by omega
    have hone := one_hcs cs
    have hflc : hcs cs ++ [str [115, 112, 97, 114, 101], .int .i64 0, .int .i64 0, str [], .int .i64 0, str [], .int .i64 0, str [], .int .i64 0, str [], .int .i64 0, str [], .int .i64 0, str []] = hcs (cs ++ [spareH]) := by unfold hcs; rw [List.flatMap_append]; rfl
    have hspare : (hcs (cs ++ [spareH]))[cs.length * 14 + 0]? = some (str [115, 112, 97, 114, 101]) := by
      have h1 := flat_get (sz := 14) (enc := encHc) (fun _ => rfl) (cs ++ [spareH]) (k := cs.length) (i := 0) (by rw [List.length_append]; exact Nat.lt_succ_self _) (by decide)
      rw [List.getElem_append_right (Nat.le_refl _)] at h1
      simp only [Nat.sub_self, List.getElem_cons_zero] at h1
      exact h1
    have hwl := wL_len cs
    by_cases hadd : (1 ≤ rid ∧ rid ≤ 1099511627776) ∧ (0 ≤ rtick ∧ rtick ≤ 1099511627776) ∧ findH L rid = none
    rotate_left
    · have hno1 : rid < 1 ∨ 1099511627776 < rid ∨ rtick < 0 ∨ 1099511627776 < rtick ∨ ∃ k, findH L rid = some k := by
        cases hf : findH L rid with
        | none => rw [hf] at hadd; simp only [and_true] at hadd; omega
        | some k => exact .inr (.inr (.inr (.inr ⟨k, rfl⟩)))
      have hno2 : rid < 1 ∨ 1099511627776 < rid ∨ rtick < 0 ∨ 1099511627776 < rtick ∨ (placeE (pl.map Prod.fst) rid).2 = true := by
        rcases hno1 with h1 | h1 | h1 | h1 | ⟨k, h1⟩
        · exact .inl h1
        · exact .inr (.inl h1)
        · exact .inr (.inr (.inl h1))
        · exact .inr (.inr (.inr (.inl h1)))
        · refine .inr (.inr (.inr (.inr ?_)))
          rw [hls, place_find his.srt, h1]
          rfl
      have hA1 := fun {A : Option Addr} {cap : Nat} (w0 : World) (hi : InL w0 [bchC B (some ⟨Tp, 0, none⟩) m fb, tabC Tp q ⟨sysP, rowsOf bs ls, ⟨sysL, ls.map recordE, false⟩⟩ fp]) (hp : PowI w0 (fps [bchC B (some ⟨Tp, 0, none⟩) m fb, tabC Tp q ⟨sysP, rowsOf bs ls, ⟨sysL, ls.map recordE, false⟩⟩ fp])) => haddNo_c (T := ⟨sysP, rowsOf bs ls, ⟨sysL, ls.map recordE, false⟩⟩) (A := A) (cap := cap) ⟨rid, rtick, rspoke, cs⟩ hqr.1.1 hi hp his hno1
      have hA2 := fun (w : World) (h1 : SlAt cPr (Old w) w AL pl) => raddNo_c (cap := cl) pl (⟨rid, rtick, rspoke, cs⟩, A1, c1) w h1 (by omega) hno2
      have hpi2 := hinv (hpi.up (wL cs))
      dsimp only at hA1
      clear hinv hpi hadd hno1 hno2
      repeat' (first | (show WL _ _ _ _ _ _ _; first | refine WL.pure rfl rfl rfl rfl ?_ | refine WL.nil ?_ | refine WL.load hS rfl rfl (LdOk.box Mm rfl) rfl rfl rfl ?_ | (refine WL.load hS rfl rfl (LdOk.snap0 hF hr Mm rfl) rfl rfl rfl ?_) | (refine WL.calls hS rfl rfl (rwhole_c cs _ _ _ _ (hS.slO Mm hs1) (by omega) hsm2) rfl rfl rfl ?_; rintro v w rfl hS; rw [hw]) | (refine WL.store hS rfl rfl rfl Sb rfl rfl rfl ?_; intro w hS) | (refine WL.alloc hS rfl rfl rfl rfl rfl rfl ?_; intro w b hS) | refine WL.index rfl rfl rfl rfl (by first | with_reducible assumption | omega) rfl rfl rfl rfl ?_ | ((fail_if_success (refine WL.wanted rfl ?_)); refine WL.guard rfl rfl rfl (fun h => ?_) (fun h => ?_) <;> (try simp only [ZZ0, ZZ1, ZZ2, ZZ3, ZZ4, ZZ5, ZZ6, ZZ7, ZZ8, ZZ9, ZZ10, ZZ11, ZZ12, ZZ13, ZZ14, ZZ15] at h) <;> (try (exfalso; first | omega | contradiction)))) | (show WC _ _ _ _ _ _; first | refine WC.seq ?_ | refine WC.region ?_ | refine WC.block ?_ | refine WC.skip ?_ | refine WC.condT rfl (by decide) ?_ | refine WC.condF rfl (by decide) ?_ | refine WC.condT rfl (decide_eq_true (by first | with_reducible assumption | omega)) ?_) | refine seqQ_n ?_)
      refine WC.drawP hS [1,2,3,5,8,9,10,11,12,13] [1,2,3,5,8,9,10,11] (.two 0 [] (.two 4 [6,7,12,13] .nil 6 [4,7,12,13] .nil) 6 [0,4,7,12,13] .nil) (by kernel_rfl) (by kernel_rfl) ?_
      clear hS
      intro w hS hM
      repeat' (first | (show WL _ _ _ _ _ _ _; first | refine WL.pure rfl rfl rfl rfl ?_ | refine WL.load hS rfl rfl (LdOk.box Mm rfl) rfl rfl rfl ?_ | refine WL.build rfl rfl rfl rfl rfl ?_) | (show WC _ _ _ _ _ _; first | refine WC.seq ?_ | refine WC.region ?_) | (show WD _ _ _ _ _ _ _ _ _; first | refine WD.pure rfl rfl rfl rfl rfl ?_ | refine WD.nil ?_ | refine WD.load rfl rfl (LdOk.box Mm rfl) rfl rfl rfl rfl ?_ | (refine WD.highV rfl rfl rfl rfl (by omega) rfl rfl rfl rfl ?_) | (refine WD.fork ?_ ?_) | (refine WD.slit0 (size := 14) hS hM rfl rfl rfl rfl rfl rfl rfl ?_; clear hS hM; intro w ob hS hM) | (refine WD.slit (t := 22) hS hM rfl rfl rfl rfl rfl rfl rfl ?_; clear hS hM; intro w rb hS hM) | (refine WD.appSl (sz := 14) (enc := encHc) (hsz := fun _ => rfl) (ys := cs) hS Pl1 (by first | exact .refl _ _ | exact .chunk (.refl _ _) _) rfl rfl rfl rfl hs1 Mm (by decide) hone (by omega) rfl rfl rfl rfl rfl ?_; clear hS hM; intro A3 cap3 w hS hM) | (refine WD.app hS Pl1 (by first | exact .refl _ _ | exact .chunk (.refl _ _) _) rfl rfl rfl rfl (RdOk.box Mm) rfl rfl (by omega) rfl rfl rfl rfl rfl ?_; clear hS hM; intro A4 ci w hS hM; obtain ⟨ag, ao, rfl⟩ := hS.own_addr (A := A4) Mm (by omega); have hci := (hS.own_len (A := some ⟨ag, ao, none⟩) Mm).2.2) | refine WD.build rfl rfl rfl rfl rfl rfl ?_) | (refine WDo.slit0 (size := 14) hS hM rfl rfl rfl rfl rfl rfl ?_; clear hS hM; intro w ob hS hM) | (refine WDo.slit (t := 22) hS hM rfl rfl rfl rfl rfl rfl ?_; clear hS hM; intro w rb hS hM) | (refine WDo.appSl (sz := 14) (enc := encHc) (hsz := fun _ => rfl) (ys := cs) hS Pl1 (by first | exact .refl _ _ | exact .chunk (.refl _ _) _) rfl rfl rfl rfl hs1 Mm (by decide) hone (by omega) rfl rfl rfl rfl ?_; clear hS hM; intro A3 cap3 w hS hM) | refine seqQ_n ?_)
      all_goals
        replace hS := hS.droplast2 (D := [.own (.slice (some ⟨ag, ao, none⟩) (0 + cs.length + 1) ci) 79 14 (0 + cs.length + 1) (hcs cs ++ [str [115, 112, 97, 114, 101], .int .i64 0, .int .i64 0, str [], .int .i64 0, str [], .int .i64 0, str [], .int .i64 0, str [], .int .i64 0, str [], .int .i64 0, str []]), .box b 88 [.int .i64 1, .int .i64 id, .int .i64 rid, .int .i64 rtick, .int .i64 rspoke, .slice A1 cs.length c1, .int .i64 clock, .int .i64 quota, .int .i64 age], bchC B (some ⟨Tp, 0, none⟩) m fb, tabC Tp q ⟨sysP, rowsOf bs ls, ⟨sysL, ls.map recordE, false⟩⟩ fp, dkC q mb lb D, .own (.slice AL pl.length cl) 24 4 pl.length (prs pl)]) Pu
        rw [Nat.zero_add, hflc] at hS
        rw [Nat.zero_add] at hci
        repeat' (first | (show WL _ _ _ _ _ _ _; first | refine WL.pure rfl rfl rfl rfl ?_ | refine WL.nil ?_ | refine WL.load hS rfl rfl (LdOk.box Mm rfl) rfl rfl rfl ?_ | refine WL.add rfl rfl rfl (by omega) rfl rfl rfl ?_ | (refine WL.callL (D := [bchC B (some ⟨Tp, 0, none⟩) m fb, tabC Tp q ⟨sysP, rowsOf bs ls, ⟨sysL, ls.map recordE, false⟩⟩ fp]) hS Pu rfl rfl (fun hI => hA1 _ hI (hp.pull hS Pu)) rfl rfl rfl ?_; rintro v w ⟨rfl, hmu⟩ hS; replace hS := hS _ hmu; clear hmu) | (refine WL.calls hS rfl rfl (hA2 _ (St.ownSl (enc := encHr) (hsz := fun _ => rfl) (l := pl) (by decide) hS Mm)) rfl rfl rfl ?_; rintro v w rfl hS) | (refine WL.callL (D := [bchC B (some ⟨Tp, 0, none⟩) m fb, tabC Tp q ⟨sysP, rowsOf bs ls, ⟨sysL, ls.map recordE, false⟩⟩ fp]) hS Pu rfl rfl (fun hI => halike_c (T := ⟨sysP, rowsOf bs ls, ⟨sysL, ls.map recordE, false⟩⟩) (L := L) (vs := vs) (N := N) pl id hid.1 hid.2 (St.ownSlY (enc := encHr) (hsz := fun _ => rfl) (l := pl) (by decide) (hS.pulls (D := [bchC B (some ⟨Tp, 0, none⟩) m fb, tabC Tp q ⟨sysP, rowsOf bs ls, ⟨sysL, ls.map recordE, false⟩⟩ fp]) Pu) Mm) (hls ▸ St.plSlY (hS.pulls (D := [bchC B (some ⟨Tp, 0, none⟩) m fb, tabC Tp q ⟨sysP, rowsOf bs ls, ⟨sysL, ls.map recordE, false⟩⟩ fp]) Pu) Mm Mm hin) hls hI (hp.pull hS Pu) his (by omega) (by omega) (by omega) (by show (rowsOf bs ls).length ≤ _; omega)) rfl rfl rfl ?_; rintro v w ⟨rfl, hmu⟩ hS; replace hS := hS _ hmu; clear hmu)) | (show WC _ _ _ _ _ _; first | refine WC.seq ?_ | refine WC.region ?_ | refine WC.skip ?_ | (show WC _ _ (Code.region _ (List.toArray [_, _, _, _, _, _, _, _, _, _, _, _, _, _, _, _, _, _, _, _, _, _, _, _, _, _, _, _]) true) _ _ _; refine WC.drawS hS [0,1,2,3,4,5,6,7,9,10,11,12,13,14,15,16,17,18,19,20,21,22,23,24,25,26,27] [0,1,2,3,4,5,6,7,8,9,10,11,12,13,14,15,16,17,18,19,20,21,22,23,24,25,26,27] (by kernel_rfl) (by kernel_rfl) ?_; clear hS; intro w hS hM) | refine WC.condF rfl (by decide) ?_) | (show WD _ _ _ _ _ _ _ _ _; first | refine WD.pure rfl rfl rfl rfl rfl ?_ | refine WD.nil ?_ | refine WD.load rfl rfl (LdOk.box Mm rfl) rfl rfl rfl rfl ?_ | refine WD.add rfl rfl rfl (by omega) rfl rfl rfl rfl ?_ | (refine WD.calls hS hM rfl rfl (rsamec_c cs _ (St.ownSl (enc := encHc) (sz := 14) (hsz := fun _ => rfl) (l := cs ++ [spareH]) (by decide) hS Mm).pre (hS.slO Mm hs1) (by omega)) rfl rfl rfl rfl rfl ?_; clear hS; rintro v w rfl hS) | (refine WD.highV (j := cs.length + 1) rfl rfl rfl rfl (by omega) rfl rfl rfl rfl ?_) | (refine WD.load rfl rfl (LdOk.ownAt (off := cs.length * 14 + 0) Mm rfl ⟨_, rfl⟩ hspare rfl) rfl rfl rfl rfl ?_) | refine WD.index rfl rfl rfl rfl (by first | with_reducible assumption | omega) rfl rfl rfl rfl rfl ?_) | refine seqQ_n ?_ | refine blkQ_n ?_)
        exact rndQ_n (i + 1, B, AL, cl, pl) ⟨m, L, vs, N, bs, ls, D, fb, fp, Tp, ⟨⟨by omega, by omega⟩, hpi2, hls, hin⟩, hS.droplast2 Pu⟩ (by show steps.length - (i + 1) < steps.length - i; omega) ⟨rfl, rfl, vint (by omega), trivial⟩ ⟨rfl, rfl, trivial⟩
    obtain ⟨ok1, ok2, hf⟩ := hadd
    have hrok : HrOk ⟨rid, rtick, rspoke, cs⟩ := hr_ok hqr (Nat.le_refl _) ok1 ok2 ((okR_iff _).1 hw)
    have hpe : placeE (pl.map Prod.fst) rid = ((placeE (L.map Kr.r) rid).1, false) := by
      rw [hls]
      exact Prod.ext rfl (by rw [place_find his.srt, hf]; rfl)
    have hap := fun (k : Kr) (hk : k.r = ⟨rid, rtick, rspoke, cs⟩) => ins_place k L (by rw [hk]; exact hf)
    have hpl := place_le (L.map Kr.r) rid
    rw [List.length_map] at hpl
    have hil := fun k => insH_len k L
    have hls2 := fun (kcs : List Kc) => (show (pl.take (placeE (L.map Kr.r) rid).1 ++ ((⟨rid, rtick, rspoke, cs⟩, A1, c1) : Pr) :: pl.drop (placeE (L.map Kr.r) rid).1).map Prod.fst = (insH ⟨⟨rid, rtick, rspoke, cs⟩, kcs⟩ L).map Kr.r from by
      have := hap ⟨⟨rid, rtick, rspoke, cs⟩, kcs⟩ rfl
      dsimp only at this
      rw [this, ← hls, List.map_append, List.map_cons, List.map_take, List.map_drop])
    have hadds := fun {kcs : List Kc} {m1 : Bch} {vs1 : List Ver} {N1 : Nat} {F : List (Nat × List UInt8)} (h1 : KrIs ⟨⟨rid, rtick, rspoke, cs⟩, kcs⟩) (h2 : AddIs (rowsOf bs ls) m vs N (heldR kcs) F m1 vs1 N1) (h3 : HisIs (rowsOf bs ls) (noteE m1 ⟨hK rid, recE ⟨⟨rid, rtick, rspoke, cs⟩, kcs⟩, false⟩) (insH ⟨⟨rid, rtick, rspoke, cs⟩, kcs⟩ L) vs1 N1) =>
      (show HPl (i + 1) (wS (steps.take (i + 1))) (noteE m1 ⟨hK rid, recE ⟨⟨rid, rtick, rspoke, cs⟩, kcs⟩, false⟩) (insH ⟨⟨rid, rtick, rspoke, cs⟩, kcs⟩ L) vs1 N1 bs ls D ∧ HisIs (rowsOf bs ls) (noteE m1 ⟨hK rid, recE ⟨⟨rid, rtick, rspoke, cs⟩, kcs⟩, false⟩) (insH ⟨⟨rid, rtick, rspoke, cs⟩, kcs⟩ L) vs1 N1 ∧
          List.length (noteE m1 ⟨hK rid, recE ⟨⟨rid, rtick, rspoke, cs⟩, kcs⟩, false⟩) ≤ 549755813888 ∧ (insH ⟨⟨rid, rtick, rspoke, cs⟩, kcs⟩ L).length ≤ 100000 ∧ N1 ≤ 1048576 ∧ (pl.take (placeE (L.map Kr.r) rid).1 ++ ((⟨rid, rtick, rspoke, cs⟩, A1, c1) : Pr) :: pl.drop (placeE (L.map Kr.r) rid).1).map Prod.fst = (insH ⟨⟨rid, rtick, rspoke, cs⟩, kcs⟩ L).map Kr.r from by
        have x1 := hinv (hpi.add (k := ⟨⟨rid, rtick, rspoke, cs⟩, kcs⟩) (by show wS (steps.take i) + wL cs ≤ 1048576; omega) h1 hrok h2 h3)
        have x2 := x1.mlen.1
        have x3 := x1.hN
        have x5 := wS_le steps (i + 1)
        have x4 := hil ⟨⟨rid, rtick, rspoke, cs⟩, kcs⟩
        exact ⟨x1, h3, by show List.length (noteE m1 ⟨hK rid, recE ⟨⟨rid, rtick, rspoke, cs⟩, kcs⟩, false⟩) ≤ _; have : List.length (noteE m1 ⟨hK rid, recE ⟨⟨rid, rtick, rspoke, cs⟩, kcs⟩, false⟩) ≤ 1 + N1 + (i + 1) := x2; omega, by omega, by omega, hls2 kcs⟩)
    have hin2 : ∀ p ∈ pl.take (placeE (L.map Kr.r) rid).1 ++ ((⟨rid, rtick, rspoke, cs⟩, A1, c1) : Pr) :: pl.drop (placeE (L.map Kr.r) rid).1, p.1.chgs.length ≤ p.2.2 ∧ SlAt cHc (Old w0) w0 p.2.1 p.1.chgs := fun p hp => by
      rcases List.mem_append.1 hp with hp | hp
      · exact hin p (List.mem_of_mem_take hp)
      · rcases List.mem_cons.1 hp with rfl | hp
        · exact ⟨hc1, hs1⟩
        · exact hin p (List.mem_of_mem_drop hp)
    have hA1 := fun {A : Option Addr} {cap : Nat} (w0 : World) (h1 : SlAt cHc (fun b => b < w0.heap.size ∧ b ∉ fps [bchC B (some ⟨Tp, 0, none⟩) m fb, tabC Tp q ⟨sysP, rowsOf bs ls, ⟨sysL, ls.map recordE, false⟩⟩ fp]) w0 A cs) (hi : InL w0 [bchC B (some ⟨Tp, 0, none⟩) m fb, tabC Tp q ⟨sysP, rowsOf bs ls, ⟨sysL, ls.map recordE, false⟩⟩ fp]) (hp : PowI w0 (fps [bchC B (some ⟨Tp, 0, none⟩) m fb, tabC Tp q ⟨sysP, rowsOf bs ls, ⟨sysL, ls.map recordE, false⟩⟩ fp])) => hadd_c (T := ⟨sysP, rowsOf bs ls, ⟨sysL, ls.map recordE, false⟩⟩) (L := L) (vs := vs) (N := N) (A := A) (cap := cap) ⟨rid, rtick, rspoke, cs⟩ h1 hrok hf hi hp his (by dsimp only; omega) (by omega)
    have hA2 := fun (w : World) (h1 : SlAt cPr (Old w) w AL pl) => radd_c (cap := cl) pl (⟨rid, rtick, rspoke, cs⟩, A1, c1) w h1 hcl hcn (by omega) ok1 ok2 hpe
    dsimp only at hA1
    generalize (placeE (L.map Kr.r) rid).1 = at_ at *
    clear hpi hinv hpe hf hap hil hls2
    repeat' (first | (show WL _ _ _ _ _ _ _; first | refine WL.pure rfl rfl rfl rfl ?_ | refine WL.nil ?_ | refine WL.load hS rfl rfl (LdOk.box Mm rfl) rfl rfl rfl ?_ | (refine WL.load hS rfl rfl (LdOk.snap0 hF hr Mm rfl) rfl rfl rfl ?_) | (refine WL.calls hS rfl rfl (rwhole_c cs _ _ _ _ (hS.slO Mm hs1) (by omega) hsm2) rfl rfl rfl ?_; rintro v w rfl hS; rw [hw]) | (refine WL.store hS rfl rfl rfl Sb rfl rfl rfl ?_; intro w hS) | (refine WL.alloc hS rfl rfl rfl rfl rfl rfl ?_; intro w b hS) | refine WL.index rfl rfl rfl rfl (by first | with_reducible assumption | omega) rfl rfl rfl rfl ?_ | ((fail_if_success (refine WL.wanted rfl ?_)); refine WL.guard rfl rfl rfl (fun h => ?_) (fun h => ?_) <;> (try simp only [ZZ0, ZZ1, ZZ2, ZZ3, ZZ4, ZZ5, ZZ6, ZZ7, ZZ8, ZZ9, ZZ10, ZZ11, ZZ12, ZZ13, ZZ14, ZZ15] at h) <;> (try (exfalso; first | omega | contradiction)))) | (show WC _ _ _ _ _ _; first | refine WC.seq ?_ | refine WC.region ?_ | refine WC.block ?_ | refine WC.skip ?_ | refine WC.condT rfl (by decide) ?_ | refine WC.condF rfl (by decide) ?_ | refine WC.condT rfl (decide_eq_true (by first | with_reducible assumption | omega)) ?_) | refine seqQ_n ?_)
    refine WC.drawP hS [1,2,3,5,8,9,10,11,12,13] [1,2,3,5,8,9,10,11] (.two 0 [] (.two 4 [6,7,12,13] .nil 6 [4,7,12,13] .nil) 6 [0,4,7,12,13] .nil) (by kernel_rfl) (by kernel_rfl) ?_
    clear hS
    intro w hS hM
    repeat' (first | (show WL _ _ _ _ _ _ _; first | refine WL.pure rfl rfl rfl rfl ?_ | refine WL.load hS rfl rfl (LdOk.box Mm rfl) rfl rfl rfl ?_ | refine WL.build rfl rfl rfl rfl rfl ?_) | (show WC _ _ _ _ _ _; first | refine WC.seq ?_ | refine WC.region ?_) | (show WD _ _ _ _ _ _ _ _ _; first | refine WD.pure rfl rfl rfl rfl rfl ?_ | refine WD.nil ?_ | refine WD.load rfl rfl (LdOk.box Mm rfl) rfl rfl rfl rfl ?_ | (refine WD.highV rfl rfl rfl rfl (by omega) rfl rfl rfl rfl ?_) | (refine WD.fork ?_ ?_) | (refine WD.slit0 (size := 14) hS hM rfl rfl rfl rfl rfl rfl rfl ?_; clear hS hM; intro w ob hS hM) | (refine WD.slit (t := 22) hS hM rfl rfl rfl rfl rfl rfl rfl ?_; clear hS hM; intro w rb hS hM) | (refine WD.appSl (sz := 14) (enc := encHc) (hsz := fun _ => rfl) (ys := cs) hS Pl1 (by first | exact .refl _ _ | exact .chunk (.refl _ _) _) rfl rfl rfl rfl hs1 Mm (by decide) hone (by omega) rfl rfl rfl rfl rfl ?_; clear hS hM; intro A3 cap3 w hS hM) | (refine WD.app hS Pl1 (by first | exact .refl _ _ | exact .chunk (.refl _ _) _) rfl rfl rfl rfl (RdOk.box Mm) rfl rfl (by omega) rfl rfl rfl rfl rfl ?_; clear hS hM; intro A4 ci w hS hM; obtain ⟨ag, ao, rfl⟩ := hS.own_addr (A := A4) Mm (by omega); have hci := (hS.own_len (A := some ⟨ag, ao, none⟩) Mm).2.2) | refine WD.build rfl rfl rfl rfl rfl rfl ?_) | (refine WDo.slit0 (size := 14) hS hM rfl rfl rfl rfl rfl rfl ?_; clear hS hM; intro w ob hS hM) | (refine WDo.slit (t := 22) hS hM rfl rfl rfl rfl rfl rfl ?_; clear hS hM; intro w rb hS hM) | (refine WDo.appSl (sz := 14) (enc := encHc) (hsz := fun _ => rfl) (ys := cs) hS Pl1 (by first | exact .refl _ _ | exact .chunk (.refl _ _) _) rfl rfl rfl rfl hs1 Mm (by decide) hone (by omega) rfl rfl rfl rfl ?_; clear hS hM; intro A3 cap3 w hS hM) | refine seqQ_n ?_)
    all_goals
      replace hS := hS.droplast2 (D := [.own (.slice (some ⟨ag, ao, none⟩) (0 + cs.length + 1) ci) 79 14 (0 + cs.length + 1) (hcs cs ++ [str [115, 112, 97, 114, 101], .int .i64 0, .int .i64 0, str [], .int .i64 0, str [], .int .i64 0, str [], .int .i64 0, str [], .int .i64 0, str [], .int .i64 0, str []]), .box b 88 [.int .i64 1, .int .i64 id, .int .i64 rid, .int .i64 rtick, .int .i64 rspoke, .slice A1 cs.length c1, .int .i64 clock, .int .i64 quota, .int .i64 age], bchC B (some ⟨Tp, 0, none⟩) m fb, tabC Tp q ⟨sysP, rowsOf bs ls, ⟨sysL, ls.map recordE, false⟩⟩ fp, dkC q mb lb D, .own (.slice AL pl.length cl) 24 4 pl.length (prs pl)]) Pu
      rw [Nat.zero_add, hflc] at hS
      rw [Nat.zero_add] at hci
      repeat' (first | (show WL _ _ _ _ _ _ _; first | refine WL.pure rfl rfl rfl rfl ?_ | refine WL.nil ?_ | refine WL.load hS rfl rfl (LdOk.box Mm rfl) rfl rfl rfl ?_ | refine WL.add rfl rfl rfl (by omega) rfl rfl rfl ?_ | (refine WL.callL (D := [bchC B (some ⟨Tp, 0, none⟩) m fb, tabC Tp q ⟨sysP, rowsOf bs ls, ⟨sysL, ls.map recordE, false⟩⟩ fp]) hS Pu rfl rfl (fun hI => hA1 _ (St.ownSlY (enc := encHc) (sz := 14) (hsz := fun _ => rfl) (l := cs ++ [spareH]) (by decide) (hS.pulls (D := [bchC B (some ⟨Tp, 0, none⟩) m fb, tabC Tp q ⟨sysP, rowsOf bs ls, ⟨sysL, ls.map recordE, false⟩⟩ fp]) Pu) Mm).pre hI (hp.pull hS Pu)) rfl rfl rfl ?_; rintro v w ⟨rfl, ⟨kr, kcs⟩, m3, vs2, N2, F, fb2, hkr, hki, ha2, hh2, hmu⟩ hS; dsimp only at hkr; subst hkr; replace hS := hS _ hmu; clear hmu; have hq2 := hadds hki ha2 hh2; clear hki ha2 hh2; generalize noteE m3 ⟨hK rid, recE ⟨⟨rid, rtick, rspoke, cs⟩, kcs⟩, false⟩ = m2 at hS hq2; generalize insH ⟨⟨rid, rtick, rspoke, cs⟩, kcs⟩ L = L2 at hq2; obtain ⟨hpi2, his2, hml2, hll2, hN2, hls3⟩ := hq2) | (refine WL.callG rfl rfl (hA2 _ (St.ownSl (enc := encHr) (hsz := fun _ => rfl) (l := pl) (by decide) hS Mm)) rfl rfl rfl ?_; rintro v w ⟨hu, AL2, cl2, rfl, hn⟩; replace hS := hS.new hu hn; clear hu hn) | (refine WL.callL (D := [bchC B (some ⟨Tp, 0, none⟩) m2 fb2, tabC Tp q ⟨sysP, rowsOf bs ls, ⟨sysL, ls.map recordE, false⟩⟩ fp]) hS Pu rfl rfl (fun hI => halike_c (T := ⟨sysP, rowsOf bs ls, ⟨sysL, ls.map recordE, false⟩⟩) (L := L2) (vs := vs2) (N := N2) (pl.take at_ ++ ((⟨rid, rtick, rspoke, cs⟩, A1, c1) : Pr) :: pl.drop at_) _ hid.1 hid.2 (St.ownSlY (enc := encHr) (hsz := fun _ => rfl) (l := pl.take at_ ++ ((⟨rid, rtick, rspoke, cs⟩, A1, c1) : Pr) :: pl.drop at_) (by decide) (hS.pulls (D := [bchC B (some ⟨Tp, 0, none⟩) m2 fb2, tabC Tp q ⟨sysP, rowsOf bs ls, ⟨sysL, ls.map recordE, false⟩⟩ fp]) Pu) Mm) (hls3 ▸ St.plSlY (hS.pulls (D := [bchC B (some ⟨Tp, 0, none⟩) m2 fb2, tabC Tp q ⟨sysP, rowsOf bs ls, ⟨sysL, ls.map recordE, false⟩⟩ fp]) Pu) Mm Mm hin2) hls3 hI (hp.pull hS Pu) his2 (by omega) (by omega) (by first | omega | decide) (by show (rowsOf bs ls).length ≤ _; omega)) rfl rfl rfl ?_; rintro v w ⟨rfl, hmu⟩ hS; replace hS := hS _ hmu; clear hmu)) | (show WC _ _ _ _ _ _; first | refine WC.seq ?_ | refine WC.region ?_ | refine WC.skip ?_ | (show WC _ _ (Code.region _ (List.toArray [_, _, _, _, _, _, _, _, _, _, _, _, _, _, _, _, _, _, _, _, _, _, _, _, _, _, _, _]) true) _ _ _; refine WC.drawS hS [0,1,2,3,4,5,6,7,9,10,11,12,13,14,15,16,17,18,19,20,21,22,23,24,25,26,27] [0,1,2,3,4,5,6,7,8,9,10,11,12,13,14,15,16,17,18,19,20,21,22,23,24,25,26,27] (by kernel_rfl) (by kernel_rfl) ?_; clear hS; intro w hS hM) | refine WC.condF rfl (by decide) ?_) | (show WD _ _ _ _ _ _ _ _ _; first | refine WD.pure rfl rfl rfl rfl rfl ?_ | refine WD.nil ?_ | refine WD.load rfl rfl (LdOk.box Mm rfl) rfl rfl rfl rfl ?_ | refine WD.add rfl rfl rfl (by omega) rfl rfl rfl rfl ?_ | (refine WD.calls hS hM rfl rfl (rsamec_c cs _ (St.ownSl (enc := encHc) (sz := 14) (hsz := fun _ => rfl) (l := cs ++ [spareH]) (by decide) hS Mm).pre (hS.slO Mm hs1) (by omega)) rfl rfl rfl rfl rfl ?_; clear hS; rintro v w rfl hS) | (refine WD.highV (j := cs.length + 1) rfl rfl rfl rfl (by omega) rfl rfl rfl rfl ?_) | (refine WD.load rfl rfl (LdOk.ownAt (off := cs.length * 14 + 0) Mm rfl ⟨_, rfl⟩ hspare rfl) rfl rfl rfl rfl ?_) | refine WD.index rfl rfl rfl rfl (by first | with_reducible assumption | omega) rfl rfl rfl rfl rfl ?_) | refine seqQ_n ?_ | refine blkQ_n ?_)
      exact rndQ_n (i + 1, B, AL2, cl2, pl.take at_ ++ ((⟨rid, rtick, rspoke, cs⟩, A1, c1) : Pr) :: pl.drop at_) ⟨m2, L2, vs2, N2, bs, ls, D, fb2, fp, Tp, ⟨⟨by omega, by omega⟩, hpi2, hls3, hin2⟩, hS.droplast2 Pu⟩ (by show steps.length - (i + 1) < steps.length - i; omega) ⟨rfl, rfl, vint (by omega), trivial⟩ ⟨rfl, rfl, trivial⟩
  by_cases k2 : kind = 2
  · subst k2
    have hrl2 : (rowsOf bs ls).length ≤ 549755813888 := by omega
    cases hf : findH L id with
    | none =>
      have hno : (placeE (pl.map Prod.fst) id).2 = false := by rw [hls, place_find his.srt, hf]; rfl
      have hpi2 := hinv (hpi.up (wL cs))
      clear hinv hpi
      repeat' (first | (show WL _ _ _ _ _ _ _; first | refine WL.pure rfl rfl rfl rfl ?_ | refine WL.nil ?_ | refine WL.load hS rfl rfl (LdOk.box Mm rfl) rfl rfl rfl ?_ | refine WL.add rfl rfl rfl (by omega) rfl rfl rfl ?_ | (refine WL.load hS rfl rfl (LdOk.snap0 hF hr Mm rfl) rfl rfl rfl ?_) | (refine WL.callL (D := [bchC B (some ⟨Tp, 0, none⟩) m fb, tabC Tp q ⟨sysP, rowsOf bs ls, ⟨sysL, ls.map recordE, false⟩⟩ fp]) hS Pu rfl rfl (fun hI => hdropNo_c (T := ⟨sysP, rowsOf bs ls, ⟨sysL, ls.map recordE, false⟩⟩) id hid.1 hid.2 hI (hp.pull hS Pu) his hf) rfl rfl rfl ?_; rintro v w ⟨rfl, hmu⟩ hS; replace hS := hS _ hmu; clear hmu) | (refine WL.calls hS rfl rfl (rdropNo_c pl id _ (St.ownSl (enc := encHr) (hsz := fun _ => rfl) (l := pl) (by decide) hS Mm) (by omega) hno) rfl rfl rfl ?_; rintro v w rfl hS) | (refine WL.callL (D := [bchC B (some ⟨Tp, 0, none⟩) m fb, tabC Tp q ⟨sysP, rowsOf bs ls, ⟨sysL, ls.map recordE, false⟩⟩ fp]) hS Pu rfl rfl (fun hI => halike_c (T := ⟨sysP, rowsOf bs ls, ⟨sysL, ls.map recordE, false⟩⟩) (L := L) (vs := vs) (N := N) pl id hid.1 hid.2 (St.ownSlY (enc := encHr) (hsz := fun _ => rfl) (l := pl) (by decide) (hS.pulls (D := [bchC B (some ⟨Tp, 0, none⟩) m fb, tabC Tp q ⟨sysP, rowsOf bs ls, ⟨sysL, ls.map recordE, false⟩⟩ fp]) Pu) Mm) (hls ▸ St.plSlY (hS.pulls (D := [bchC B (some ⟨Tp, 0, none⟩) m fb, tabC Tp q ⟨sysP, rowsOf bs ls, ⟨sysL, ls.map recordE, false⟩⟩ fp]) Pu) Mm Mm hin) hls hI (hp.pull hS Pu) his (by omega) (by omega) (by omega) (by show (rowsOf bs ls).length ≤ _; omega)) rfl rfl rfl ?_; rintro v w ⟨rfl, hmu⟩ hS; replace hS := hS _ hmu; clear hmu) | (refine WL.store hS rfl rfl rfl Sb rfl rfl rfl ?_; intro w hS) | (refine WL.alloc hS rfl rfl rfl rfl rfl rfl ?_; intro w b hS) | refine WL.index rfl rfl rfl rfl (by first | with_reducible assumption | omega) rfl rfl rfl rfl ?_ | ((fail_if_success (refine WL.wanted rfl ?_)); refine WL.guard rfl rfl rfl (fun h => ?_) (fun h => ?_) <;> (try simp only [ZZ0, ZZ1, ZZ2, ZZ3, ZZ4, ZZ5, ZZ6, ZZ7, ZZ8, ZZ9, ZZ10, ZZ11, ZZ12, ZZ13, ZZ14, ZZ15] at h) <;> (try (exfalso; first | omega | contradiction)))) | (show WC _ _ _ _ _ _; first | refine WC.seq ?_ | refine WC.region ?_ | refine WC.block ?_ | refine WC.skip ?_ | refine WC.condT rfl (by decide) ?_ | refine WC.condF rfl (by decide) ?_ | refine WC.condT rfl (decide_eq_true (by first | with_reducible assumption | omega)) ?_) | refine seqQ_n ?_ | refine blkQ_n ?_)
      exact rndQ_n (i + 1, B, AL, cl, pl) ⟨m, L, vs, N, bs, ls, D, fb, fp, Tp, ⟨⟨by omega, by omega⟩, hpi2, hls, hin⟩, hS.droplast2 Pu⟩ (by show steps.length - (i + 1) < steps.length - i; omega) ⟨rfl, rfl, vint (by omega), trivial⟩ ⟨rfl, rfl, trivial⟩
    | some k =>
      obtain ⟨hk, rfl⟩ := findH_some hf
      have hpe : placeE (pl.map Prod.fst) k.r.id = ((placeE (L.map Kr.r) k.r.id).1, true) := by
        rw [hls]
        exact Prod.ext rfl (by rw [place_find his.srt, hf]; rfl)
      have hdp := del_place his.srt hk
      have hpl := place_le (L.map Kr.r) k.r.id
      rw [List.length_map] at hpl
      generalize (placeE (L.map Kr.r) k.r.id).1 = at_ at *
      have hls2 : (pl.take at_ ++ pl.drop (at_ + 1)).map Prod.fst = (delH L k.r.id).map Kr.r := by rw [hdp, ← hls, List.map_append, List.map_take, List.map_drop]
      have hin2 : ∀ p ∈ pl.take at_ ++ pl.drop (at_ + 1), p.1.chgs.length ≤ p.2.2 ∧ SlAt cHc (Old w0) w0 p.2.1 p.1.chgs := fun p hp => by
        rcases List.mem_append.1 hp with hp | hp
        · exact hin p (List.mem_of_mem_take hp)
        · exact hin p (List.mem_of_mem_drop hp)
      have hdl : (delH L k.r.id).length ≤ L.length := List.length_filter_le ..
      have hless := fun {m2 : Bch} {vs2 : List Ver} (h1 : GoneIs (rowsOf bs ls) m vs N ((heldR k.cs).map Prod.fst) m2 vs2) (h2 : HisIs (rowsOf bs ls) (noteE m2 ⟨hK k.r.id, [], true⟩) (delH L k.r.id) vs2 N) =>
        hinv ((hpi.less (by omega) (by omega) ((h1.hrew his hk).mono (fun x hx => hx) fun x hx => by rw [List.mem_singleton.1 hx]; exact hk) h2 (fun x hx => (mem_del.1 hx).1) hdl (fun x hx => by
          rw [h1.dat] at hx
          exact (List.mem_filter.1 hx).1)).wt (wL cs))
      have hrd := fun (w : World) (h1 : SlAt cPr (Old w) w AL pl) => rdrop_c (cap := cl) pl k.r.id w h1 hcl hcn (by omega) hpe
      clear hpi hinv hpe hdp hf
      repeat' (first | (show WL _ _ _ _ _ _ _; first | refine WL.pure rfl rfl rfl rfl ?_ | refine WL.nil ?_ | refine WL.load hS rfl rfl (LdOk.box Mm rfl) rfl rfl rfl ?_ | refine WL.add rfl rfl rfl (by omega) rfl rfl rfl ?_ | (refine WL.load hS rfl rfl (LdOk.snap0 hF hr Mm rfl) rfl rfl rfl ?_) | (refine WL.callL (D := [bchC B (some ⟨Tp, 0, none⟩) m fb, tabC Tp q ⟨sysP, rowsOf bs ls, ⟨sysL, ls.map recordE, false⟩⟩ fp]) hS Pu rfl rfl (fun hI => hdrop_c (T := ⟨sysP, rowsOf bs ls, ⟨sysL, ls.map recordE, false⟩⟩) k hk hI (hp.pull hS Pu) his (by omega) (by omega) hrl2) rfl rfl rfl ?_; rintro v w ⟨rfl, m3, vs2, fb2, hg2, hh2, hmu⟩ hS; replace hS := hS _ hmu; clear hmu; have hpi2 := hless hg2 hh2; have his2 := hpi2.his; have hml2 := hpi2.mlen.1; generalize noteE m3 ⟨hK k.r.id, [], true⟩ = m2 at *) | (refine WL.callG rfl rfl (hrd _ (St.ownSl (enc := encHr) (hsz := fun _ => rfl) (l := pl) (by decide) hS Mm)) rfl rfl rfl ?_; rintro v w ⟨hu, AL2, cl2, rfl, hn⟩; replace hS := hS.new hu hn; clear hu hn) | (refine WL.callL (D := [bchC B (some ⟨Tp, 0, none⟩) m2 fb2, tabC Tp q ⟨sysP, rowsOf bs ls, ⟨sysL, ls.map recordE, false⟩⟩ fp]) hS Pu rfl rfl (fun hI => halike_c (T := ⟨sysP, rowsOf bs ls, ⟨sysL, ls.map recordE, false⟩⟩) (L := delH L k.r.id) (vs := vs2) (N := N) (pl.take at_ ++ pl.drop (at_ + 1)) _ hid.1 hid.2 (St.ownSlY (enc := encHr) (hsz := fun _ => rfl) (l := pl.take at_ ++ pl.drop (at_ + 1)) (by decide) (hS.pulls (D := [bchC B (some ⟨Tp, 0, none⟩) m2 fb2, tabC Tp q ⟨sysP, rowsOf bs ls, ⟨sysL, ls.map recordE, false⟩⟩ fp]) Pu) Mm) (hls2 ▸ St.plSlY (hS.pulls (D := [bchC B (some ⟨Tp, 0, none⟩) m2 fb2, tabC Tp q ⟨sysP, rowsOf bs ls, ⟨sysL, ls.map recordE, false⟩⟩ fp]) Pu) Mm Mm hin2) hls2 hI (hp.pull hS Pu) his2 (by omega) (by omega) (by first | omega | decide) (by show (rowsOf bs ls).length ≤ _; omega)) rfl rfl rfl ?_; rintro v w ⟨rfl, hmu⟩ hS; replace hS := hS _ hmu; clear hmu) | (refine WL.store hS rfl rfl rfl Sb rfl rfl rfl ?_; intro w hS) | (refine WL.alloc hS rfl rfl rfl rfl rfl rfl ?_; intro w b hS) | refine WL.index rfl rfl rfl rfl (by first | with_reducible assumption | omega) rfl rfl rfl rfl ?_ | ((fail_if_success (refine WL.wanted rfl ?_)); refine WL.guard rfl rfl rfl (fun h => ?_) (fun h => ?_) <;> (try simp only [ZZ0, ZZ1, ZZ2, ZZ3, ZZ4, ZZ5, ZZ6, ZZ7, ZZ8, ZZ9, ZZ10, ZZ11, ZZ12, ZZ13, ZZ14, ZZ15] at h) <;> (try (exfalso; first | omega | contradiction)))) | (show WC _ _ _ _ _ _; first | refine WC.seq ?_ | refine WC.region ?_ | refine WC.block ?_ | refine WC.skip ?_ | refine WC.condT rfl (by decide) ?_ | refine WC.condF rfl (by decide) ?_ | refine WC.condT rfl (decide_eq_true (by first | with_reducible assumption | omega)) ?_) | refine seqQ_n ?_ | refine blkQ_n ?_)
      exact rndQ_n (i + 1, B, AL2, cl2, pl.take at_ ++ pl.drop (at_ + 1)) ⟨m2, delH L k.r.id, vs2, N, bs, ls, D, fb2, fp, Tp, ⟨⟨by omega, by omega⟩, hpi2, hls2, hin2⟩, hS.droplast2 Pu⟩ (by show steps.length - (i + 1) < steps.length - i; omega) ⟨rfl, rfl, vint (by omega), trivial⟩ ⟨rfl, rfl, trivial⟩
  by_cases k3 : kind = 3
  · subst k3
    by_cases hok : (0 ≤ clock ∧ clock ≤ 1099511627776) ∧ (0 ≤ quota ∧ quota ≤ 1099511627776) ∧ (0 ≤ age ∧ age ≤ 1099511627776)
    rotate_left
    · have hcase : clock < 0 ∨ (0 ≤ clock ∧ 1099511627776 < clock) ∨ (0 ≤ clock ∧ clock ≤ 1099511627776 ∧ quota < 0) ∨ (0 ≤ clock ∧ clock ≤ 1099511627776 ∧ 0 ≤ quota ∧ 1099511627776 < quota) ∨
          (0 ≤ clock ∧ clock ≤ 1099511627776 ∧ 0 ≤ quota ∧ quota ≤ 1099511627776 ∧ age < 0) ∨ (0 ≤ clock ∧ clock ≤ 1099511627776 ∧ 0 ≤ quota ∧ quota ≤ 1099511627776 ∧ 0 ≤ age ∧ 1099511627776 < age) := by omega
      have hpi2 := hinv (hpi.up (wL cs))
      clear hok hinv hpi
      rcases hcase with h1 | ⟨h1, h2⟩ | ⟨h1, h2, h3⟩ | ⟨h1, h2, h3, h4⟩ | ⟨h1, h2, h3, h4, h5⟩ | ⟨h1, h2, h3, h4, h5, h6⟩
      all_goals
        repeat' (first | (show WL _ _ _ _ _ _ _; first | refine WL.pure rfl rfl rfl rfl ?_ | refine WL.nil ?_ | refine WL.load hS rfl rfl (LdOk.box Mm rfl) rfl rfl rfl ?_ | refine WL.add rfl rfl rfl (by omega) rfl rfl rfl ?_ | (refine WL.load hS rfl rfl (LdOk.snap0 hF hr Mm rfl) rfl rfl rfl ?_) | (refine WL.store hS rfl rfl rfl Sb rfl rfl rfl ?_; intro w hS) | (refine WL.alloc hS rfl rfl rfl rfl rfl rfl ?_; intro w b hS) | refine WL.index rfl rfl rfl rfl (by first | with_reducible assumption | omega) rfl rfl rfl rfl ?_ | refine WL.skip rfl rfl rfl ?_ | ((fail_if_success (refine WL.wanted rfl ?_)); refine WL.guard rfl rfl rfl (fun h => ?_) (fun h => ?_) <;> (try simp only [ZZ0, ZZ1, ZZ2, ZZ3, ZZ4, ZZ5, ZZ6, ZZ7, ZZ8, ZZ9, ZZ10, ZZ11, ZZ12, ZZ13, ZZ14, ZZ15] at h) <;> (try (exfalso; first | omega | contradiction)))) | (show WC _ _ _ _ _ _; first | refine WC.seq ?_ | refine WC.region ?_ | refine WC.block ?_ | refine WC.skip ?_ | refine WC.exit ?_ | refine WC.condT rfl (by with_reducible rfl) ?_ | refine WC.condT rfl (by decide) ?_ | refine WC.condF rfl (by decide) ?_ | refine WC.condT rfl (decide_eq_true (by first | with_reducible assumption | omega)) ?_) | refine seqQ_n ?_ | refine seqQ_x ?_ | refine blkQ_hit rfl ?_ | refine blkQ_miss rfl ?_)
        exact rndQ_n (i + 1, B, AL, cl, pl) ⟨m, L, vs, N, bs, ls, D, fb, fp, Tp, ⟨⟨by omega, by omega⟩, hpi2, hls, hin⟩, hS.droplast2 Pu⟩ (by show steps.length - (i + 1) < steps.length - i; omega) ⟨rfl, rfl, vint (by omega), trivial⟩ ⟨rfl, rfl, trivial⟩
    obtain ⟨ok1, ok2, ok3⟩ := hok
    have hdl := drops_le clock quota age (L.map Kr.r)
    rw [List.length_map] at hdl
    have hrl2 : (rowsOf bs ls).length ≤ 549755813888 := by omega
    have hsum : sumSz (L.map Kr.r) ≤ 4611686018427387904 := by
      have := sumSz_le (l := L.map Kr.r) fun r hr => by
        obtain ⟨k, hk, rfl⟩ := List.mem_map.1 hr
        exact (his.ok k hk).1
      rw [List.length_map] at this
      omega
    have hen := fun (w0 : World) (hi : InL w0 [bchC B (some ⟨Tp, 0, none⟩) m fb, tabC Tp q ⟨sysP, rowsOf bs ls, ⟨sysL, ls.map recordE, false⟩⟩ fp]) (hp : PowI w0 (fps [bchC B (some ⟨Tp, 0, none⟩) m fb, tabC Tp q ⟨sysP, rowsOf bs ls, ⟨sysL, ls.map recordE, false⟩⟩ fp])) => henf_c (T := ⟨sysP, rowsOf bs ls, ⟨sysL, ls.map recordE, false⟩⟩) clock quota age ok1 ok2 ok3 hi hp his (by omega) (by omega) (by omega) hrl2
    have hrn := fun (w : World) (h1 : SlAt cPr (Old w) w AL pl) (h2 : SlAt cHr (Old w) w AL (pl.map Prod.fst)) => renf_c (cap := cl) pl clock quota age w h1 h2 hcl (by omega) (by rw [hls]; exact hsum) ok1 ok3
    rw [show dropsL clock quota age (pl.map Prod.fst) = dropsL clock quota age (L.map Kr.r) by rw [hls]] at hrn
    generalize dropsL clock quota age (L.map Kr.r) = n at *
    have hls2 : (pl.drop n).map Prod.fst = (L.drop n).map Kr.r := by rw [List.map_drop, hls, ← List.map_drop]
    have hin2 : ∀ p ∈ pl.drop n, p.1.chgs.length ≤ p.2.2 ∧ SlAt cHc (Old w0) w0 p.2.1 p.1.chgs := fun p hp => hin p (List.mem_of_mem_drop hp)
    have hless := fun {m2 : Bch} {vs2 : List Ver} (h1 : HRew (vs.map idData) L m m2) (h2 : HisIs (rowsOf bs ls) m2 (L.drop n) vs2 N) (h3 : ∀ x ∈ vs2.map idData, x ∈ vs.map idData) => hinv ((hpi.less (by omega) (by omega) h1 h2 (fun k hk => List.mem_of_mem_drop hk) (by rw [List.length_drop]; omega) h3).wt (wL cs))
    have hldl : (L.drop n).length ≤ 30 := by rw [List.length_drop]; omega
    clear hpi hinv hsum
    repeat' (first | (show WL _ _ _ _ _ _ _; first | refine WL.pure rfl rfl rfl rfl ?_ | refine WL.nil ?_ | refine WL.load hS rfl rfl (LdOk.box Mm rfl) rfl rfl rfl ?_ | refine WL.add rfl rfl rfl (by omega) rfl rfl rfl ?_ | (refine WL.load hS rfl rfl (LdOk.snap0 hF hr Mm rfl) rfl rfl rfl ?_) | (refine WL.callL (D := [bchC B (some ⟨Tp, 0, none⟩) m fb, tabC Tp q ⟨sysP, rowsOf bs ls, ⟨sysL, ls.map recordE, false⟩⟩ fp]) hS Pu rfl rfl (fun hI => hen _ hI (hp.pull hS Pu)) rfl rfl rfl ?_; rintro v w ⟨rfl, m2, vs2, fb2, hh2, hrw2, hsub2, hmu⟩ hS; replace hS := hS _ hmu; clear hmu; have hpi2 := hless hrw2 hh2 hsub2; have his2 := hpi2.his; have hml2 := hpi2.mlen.1) | (refine WL.callG rfl rfl (hrn _ (St.ownSl (enc := encHr) (hsz := fun _ => rfl) (l := pl) (by decide) hS Mm) (hS.plSl Mm Mm hin)) rfl rfl rfl ?_; rintro v w ⟨hu, AL2, cl2, rfl, hn⟩; replace hS := hS.new hu hn; clear hu hn) | (refine WL.callL (D := [bchC B (some ⟨Tp, 0, none⟩) m2 fb2, tabC Tp q ⟨sysP, rowsOf bs ls, ⟨sysL, ls.map recordE, false⟩⟩ fp]) hS Pu rfl rfl (fun hI => halike_c (T := ⟨sysP, rowsOf bs ls, ⟨sysL, ls.map recordE, false⟩⟩) (L := L.drop n) (vs := vs2) (N := N) (pl.drop n) _ hid.1 hid.2 (St.ownSlY (enc := encHr) (hsz := fun _ => rfl) (l := pl.drop n) (by decide) (hS.pulls (D := [bchC B (some ⟨Tp, 0, none⟩) m2 fb2, tabC Tp q ⟨sysP, rowsOf bs ls, ⟨sysL, ls.map recordE, false⟩⟩ fp]) Pu) Mm) (hls2 ▸ St.plSlY (hS.pulls (D := [bchC B (some ⟨Tp, 0, none⟩) m2 fb2, tabC Tp q ⟨sysP, rowsOf bs ls, ⟨sysL, ls.map recordE, false⟩⟩ fp]) Pu) Mm Mm hin2) hls2 hI (hp.pull hS Pu) his2 (by omega) (by omega) (by first | omega | decide) (by show (rowsOf bs ls).length ≤ _; omega)) rfl rfl rfl ?_; rintro v w ⟨rfl, hmu⟩ hS; replace hS := hS _ hmu; clear hmu) | (refine WL.store hS rfl rfl rfl Sb rfl rfl rfl ?_; intro w hS) | (refine WL.alloc hS rfl rfl rfl rfl rfl rfl ?_; intro w b hS) | refine WL.index rfl rfl rfl rfl (by first | with_reducible assumption | omega) rfl rfl rfl rfl ?_ | ((fail_if_success (refine WL.wanted rfl ?_)); refine WL.guard rfl rfl rfl (fun h => ?_) (fun h => ?_) <;> (try simp only [ZZ0, ZZ1, ZZ2, ZZ3, ZZ4, ZZ5, ZZ6, ZZ7, ZZ8, ZZ9, ZZ10, ZZ11, ZZ12, ZZ13, ZZ14, ZZ15] at h) <;> (try (exfalso; first | omega | contradiction)))) | (show WC _ _ _ _ _ _; first | refine WC.seq ?_ | refine WC.region ?_ | refine WC.block ?_ | refine WC.skip ?_ | refine WC.condT rfl (by decide) ?_ | refine WC.condF rfl (by decide) ?_ | refine WC.condT rfl (decide_eq_true (by first | with_reducible assumption | omega)) ?_ | refine WC.condF rfl (decide_eq_false (by first | with_reducible assumption | omega)) ?_) | refine seqQ_n ?_ | refine blkQ_n ?_)
    exact rndQ_n (i + 1, B, AL2, cl2, pl.drop n) ⟨m2, L.drop n, vs2, N, bs, ls, D, fb2, fp, Tp, ⟨⟨by omega, by omega⟩, hpi2, hls2, hin2⟩, hS.droplast2 Pu⟩ (by show steps.length - (i + 1) < steps.length - i; omega) ⟨rfl, rfl, vint (by omega), trivial⟩ ⟨rfl, rfl, trivial⟩
  by_cases k4 : kind = 4
  · subst k4
    obtain ⟨D2, bs2, ls2, hpi2, hcm, rc, hr2, hn2, hk2⟩ := hpi.commit (by omega) (by omega)
    have hsm := hpi.sm.up (C := 549755813888) (by omega)
    have hsm2 := hpi2.sm.up (C := 1099511627776) (by omega)
    have hst2 := hpi2.st
    have hwf2 := hpi2.wf
    have his2 := hpi2.his
    have hrl3 := hpi2.mlen.2
    have hlr : (ls.map recordE).length ≤ 4194303 := by rw [List.length_map]; have := hpi.lfew; omega
    have hml2 : m.length ≤ 1048576 := by omega
    have hpi3 := hinv (hpi2.wt (wL cs))
    clear hpi hinv hpi2
    repeat' (first | (show WL _ _ _ _ _ _ _; first | refine WL.pure rfl rfl rfl rfl ?_ | refine WL.nil ?_ | refine WL.load hS rfl rfl (LdOk.box Mm rfl) rfl rfl rfl ?_ | refine WL.add rfl rfl rfl (by omega) rfl rfl rfl ?_ | (refine WL.load hS rfl rfl (LdOk.snap0 hF hr Mm rfl) rfl rfl rfl ?_) | (refine WL.callL (D := [bchC B (some ⟨Tp, 0, none⟩) m fb, tabC Tp q ⟨sysP, rowsOf bs ls, ⟨sysL, ls.map recordE, false⟩⟩ fp, dkC q mb lb D]) hS Pu rfl rfl (fun hI => bcommit_c hI hcm (show sysP.length ≤ 1099511000 by decide) (show sysL.length ≤ 1099511620 by decide) hsm rc hlr hml2 hr2 hn2 hk2) rfl rfl rfl ?_; rintro v w ⟨rfl, fb2, fp2, hmu⟩ hS; replace hS := hS _ hmu; clear hmu) | (refine WL.callL (D := [dkC q mb lb D2]) hS Pu rfl rfl (fun hI => topenSt_c hI hst2 hwf2 hsm2) rfl rfl rfl ?_; rintro v w ⟨Tp2, fp4, rfl, hmu⟩ hS; replace hS := hS _ hmu; clear hmu) | (refine WL.callG rfl rfl (begin_c _) rfl rfl rfl ?_; rintro v w ⟨hu, B2, fb3, rfl, hn⟩; replace hS := hS.new hu hn; clear hu hn) | (refine WL.callL (D := [bchC B2 (some ⟨Tp2, 0, none⟩) [] fb3, tabC Tp2 q ⟨sysP, rowsOf bs2 ls2, ⟨sysL, ls2.map recordE, false⟩⟩ fp4]) hS Pu rfl rfl (fun hI => halike_c (T := ⟨sysP, rowsOf bs2 ls2, ⟨sysL, ls2.map recordE, false⟩⟩) (L := L) (vs := vs) (N := N) (pl) _ hid.1 hid.2 (St.ownSlY (enc := encHr) (hsz := fun _ => rfl) (l := pl) (by decide) (hS.pulls (D := [bchC B2 (some ⟨Tp2, 0, none⟩) [] fb3, tabC Tp2 q ⟨sysP, rowsOf bs2 ls2, ⟨sysL, ls2.map recordE, false⟩⟩ fp4]) Pu) Mm) (hls ▸ St.plSlY (hS.pulls (D := [bchC B2 (some ⟨Tp2, 0, none⟩) [] fb3, tabC Tp2 q ⟨sysP, rowsOf bs2 ls2, ⟨sysL, ls2.map recordE, false⟩⟩ fp4]) Pu) Mm Mm hin) hls hI (hp.pull hS Pu) his2 (by omega) (by omega) (by first | omega | decide) (by show (rowsOf bs2 ls2).length ≤ _; omega)) rfl rfl rfl ?_; rintro v w ⟨rfl, hmu⟩ hS; replace hS := hS _ hmu; clear hmu) | (refine WL.store hS rfl rfl rfl Sb rfl rfl rfl ?_; intro w hS) | (refine WL.alloc hS rfl rfl rfl rfl rfl rfl ?_; intro w b hS) | refine WL.index rfl rfl rfl rfl (by first | with_reducible assumption | omega) rfl rfl rfl rfl ?_ | ((fail_if_success (refine WL.wanted rfl ?_)); refine WL.guard rfl rfl rfl (fun h => ?_) (fun h => ?_) <;> (try simp only [ZZ0, ZZ1, ZZ2, ZZ3, ZZ4, ZZ5, ZZ6, ZZ7, ZZ8, ZZ9, ZZ10, ZZ11, ZZ12, ZZ13, ZZ14, ZZ15] at h) <;> (try (exfalso; first | omega | contradiction)))) | (show WC _ _ _ _ _ _; first | refine WC.seq ?_ | refine WC.region ?_ | refine WC.block ?_ | refine WC.skip ?_ | refine WC.condF rfl (by with_reducible rfl) ?_ | refine WC.condT rfl (by decide) ?_ | refine WC.condF rfl (by decide) ?_ | refine WC.condT rfl (decide_eq_true (by first | with_reducible assumption | omega)) ?_) | refine seqQ_n ?_ | refine blkQ_n ?_)
    exact rndQ_n (i + 1, B2, AL, cl, pl) ⟨[], L, vs, N, bs2, ls2, D2, fb3, fp4, Tp2, ⟨⟨by omega, by omega⟩, hpi3, hls, hin⟩, hS.droplast2 Pu⟩ (by show steps.length - (i + 1) < steps.length - i; omega) ⟨rfl, rfl, vint (by omega), trivial⟩ ⟨rfl, rfl, trivial⟩
  have hpi2 := hinv (hpi.up (wL cs))
  clear hinv hpi
  repeat' (first | (show WL _ _ _ _ _ _ _; first | refine WL.pure rfl rfl rfl rfl ?_ | refine WL.nil ?_ | refine WL.load hS rfl rfl (LdOk.box Mm rfl) rfl rfl rfl ?_ | refine WL.add rfl rfl rfl (by omega) rfl rfl rfl ?_ | (refine WL.load hS rfl rfl (LdOk.snap0 hF hr Mm rfl) rfl rfl rfl ?_) | (refine WL.callL (D := [bchC B (some ⟨Tp, 0, none⟩) m fb, tabC Tp q ⟨sysP, rowsOf bs ls, ⟨sysL, ls.map recordE, false⟩⟩ fp]) hS Pu rfl rfl (fun hI => halike_c (T := ⟨sysP, rowsOf bs ls, ⟨sysL, ls.map recordE, false⟩⟩) (L := L) (vs := vs) (N := N) pl id hid.1 hid.2 (St.ownSlY (enc := encHr) (hsz := fun _ => rfl) (l := pl) (by decide) (hS.pulls (D := [bchC B (some ⟨Tp, 0, none⟩) m fb, tabC Tp q ⟨sysP, rowsOf bs ls, ⟨sysL, ls.map recordE, false⟩⟩ fp]) Pu) Mm) (hls ▸ St.plSlY (hS.pulls (D := [bchC B (some ⟨Tp, 0, none⟩) m fb, tabC Tp q ⟨sysP, rowsOf bs ls, ⟨sysL, ls.map recordE, false⟩⟩ fp]) Pu) Mm Mm hin) hls hI (hp.pull hS Pu) his (by omega) (by omega) (by omega) (by show (rowsOf bs ls).length ≤ _; omega)) rfl rfl rfl ?_; rintro v w ⟨rfl, hmu⟩ hS; replace hS := hS _ hmu; clear hmu) | (refine WL.store hS rfl rfl rfl Sb rfl rfl rfl ?_; intro w hS) | (refine WL.alloc hS rfl rfl rfl rfl rfl rfl ?_; intro w b hS) | refine WL.index rfl rfl rfl rfl (by first | with_reducible assumption | omega) rfl rfl rfl rfl ?_ | ((fail_if_success (refine WL.wanted rfl ?_)); refine WL.guard rfl rfl rfl (fun h => ?_) (fun h => ?_) <;> (try simp only [ZZ0, ZZ1, ZZ2, ZZ3, ZZ4, ZZ5, ZZ6, ZZ7, ZZ8, ZZ9, ZZ10, ZZ11, ZZ12, ZZ13, ZZ14, ZZ15] at h) <;> (try (exfalso; first | omega | contradiction)))) | (show WC _ _ _ _ _ _; first | refine WC.seq ?_ | refine WC.region ?_ | refine WC.block ?_ | refine WC.skip ?_ | refine WC.condF rfl (by decide) ?_ | refine WC.condT rfl (decide_eq_true (by first | with_reducible assumption | omega)) ?_ | refine WC.condF rfl (decide_eq_false (by first | with_reducible assumption | omega)) ?_) | refine seqQ_n ?_ | refine blkQ_n ?_)
  exact rndQ_n (i + 1, B, AL, cl, pl) ⟨m, L, vs, N, bs, ls, D, fb, fp, Tp, ⟨⟨by omega, by omega⟩, hpi2, hls, hin⟩, hS.droplast2 Pu⟩ (by show steps.length - (i + 1) < steps.length - i; omega) ⟨rfl, rfl, vint (by omega), trivial⟩ ⟨rfl, rfl, trivial⟩
end Go.Proofs.YtobfdeiimnnanaaGreatDoor

/- What is proved: the key of HistoryPlays: with the table laid, the law answers true. Conditions: the statement's own bound on the bulk. -/
namespace Go.Proofs.YtobfdeiimnnanaaGreatDoor
open Go Go.J Go.RowKit
theorem ql_steps : ∀ {rs : List Stp21} {b : Nat}, QL QStp21 rs b → (∀ r ∈ rs, QStp21 r b) ∧ wS rs + 5 * rs.length ≤ b
  | rs, b, ⟨bs, hl, hq, hs⟩ => by
    have hle : ∀ i (h : i < bs.length), bs[i] ≤ bs.sum := fun i h => le_sumN (List.getElem_mem h)
    refine ⟨fun r hr => ?_, ?_⟩
    · obtain ⟨i, hi, rfl⟩ := List.getElem_of_mem hr
      obtain ⟨h0, h1, h2, h3⟩ := hq i hi (by omega)
      have := hle i (by omega)
      exact ⟨h0, h1, h2, by omega⟩
    · have : wS rs + 5 * rs.length ≤ bs.sum := by
        clear hs hle
        induction rs generalizing bs with
        | nil => exact Nat.zero_le _
        | cons c cs ih =>
          match bs, hl with
          | b0 :: bs, hl =>
            have h0 := (hq 0 (by simp) (by simp)).2.2.2
            simp only [List.getElem_cons_zero] at h0
            have := ih bs (by simpa using hl) fun i h h' => by have := hq (i + 1) (by simpa using h) (by simpa using h'); simpa using this
            unfold wS at *
            simp only [List.map_cons, List.sum_cons, List.length_cons]
            omega
      omega
theorem historyPlays.key_historyPlays (W : World) (hL : laidMet Tryz.prog Rows.historyPlaysUptoRow.laid W) (v0 : Value) (y0 : List Stp21) (b0 : Nat) (h0 : ASl cStp21 W v0 y0) (q0 : QL QStp21 y0 b0) (hb : b0 ≤ 1048576) :
    Cal Tryz.prog 9 [v0] W (fun v W' => Upd [] W W' ∧ v = .bool true) := by
  obtain ⟨A0, c0, rfl, _, h0⟩ := h0
  obtain ⟨e0, l0⟩ := ql_steps q0
  refine historyPlays_c y0 W h0 (fun s hs => ?_) (by omega) (by omega) (pow_historyPlays W hL)
  obtain ⟨z0, z1, z2, z3⟩ := e0 s hs
  exact ⟨z0, z1, z2, by omega⟩
end Go.Proofs.YtobfdeiimnnanaaGreatDoor
