/- What is proved: the walk's rules for channels in one goroutine: made, asked for their length, and a select of one case with a default. Conditions: as each rule names them. -/
import Derived.Test.YtjmdhakndlhbhaaJA
import Derived.Conc.LoneSelectN
import Derived.Conc.LoneSelect
set_option linter.unusedSimpArgs false
set_option linter.unusedVariables false
namespace Go.J
open Go Go.RowKit Go.Conc

/-- a channel that is open and holds these -/
def ChIs (c cap : Nat) (buf : List Value) (w : World) : Prop := ∃ s r, w.heap[c]? = some (.chan cap ⟨buf⟩ false s r false)
theorem ChIs.local {c cap : Nat} {buf : List Value} : Local [c] (ChIs c cap buf) := fun w w' h ⟨s, r, e⟩ => ⟨s, r, (h c (by simp)).trans e⟩
abbrev chC (c cap : Nat) (buf : List Value) : Chunk := .obj [c] (ChIs c cap buf)
theorem chC_holds {c cap : Nat} {buf : List Value} {w : World} (h : ChIs c cap buf w) : (chC c cap buf).holds w := ⟨h, ChIs.local⟩

section
variable {P : Program} {N : Nat} {f : Fr} {w w0 : World} {Q : Post} {ops l : List Oper} {o : Oper} {M : List Nat} {H H' : List Chunk} {Z : List Snap} {ρ : Operand → Value}

theorem St.setChan {c cap s r : Nat} {buf buf' : List Value} (hS : St w0 M w H Z) (hr : Repl (chC c cap buf) (chC c cap buf') H H') : St w0 M (w.setChan c cap ⟨buf'⟩ false s r false) H' Z := by
  have hlt : c < w.heap.size := (hS.inb _ hr.mem c (by simp [Chunk.fp])).1
  refine hS.step hr ⟨rfl, rfl, rfl, by rw [size_setChan]; exact Nat.le_refl _, fun b hb hn => ?_⟩ (chC_holds ⟨s, r, heap_setChan w c cap ⟨buf'⟩ false s r false hlt⟩) fun b hb => .inl hb
  have hne : b ≠ c := fun e => hn (by simp [Chunk.fp, e])
  simp only [World.setChan]
  rw [Array.getElem?_setIfInBounds_ne (by omega)]

/-! ## select of one case, with a default, at the head of a region -/
theorem G_at (b : Frame) (a : Act) (k : List Item) (cs : List Frame) : ({ frame := b.at a k, callers := cs, status := .running, dying := none } : Goroutine) = G (b.at a k) cs := rfl
theorem WC.commHead {id : Nat} {d : Nat} {cases : Array CommCase} {v : Value} {w' : World} (hg : o.guard = none) (hd : o.dst = some d) (hn : Nat.blt d N = true)
    (hrun : (execOp (ev f) o).run P w = .ok (.comm cases false .select) w)
    (hstep : ∀ (fr : Frame) (cs : List Frame) (es : Array Event), stepG P true (G fr cs) w = .comm (G fr cs) cases false .select w es → step P (solo (G fr cs) w) = .next (solo (G (fr.finish v) cs) w'))
    (h : WL P N (o :: l) l (up f d v) w' Q) : WC P N (.region id (o :: l).toArray false) f w Q := by
  refine ⟨fun a ha b k cs => ?_⟩
  have hlist := h.out _ (ha.put1 hd hn v)
  rw [← wpOps_eq_wpList (ops := (o :: l).toArray) l 1 (fun j => by rw [List.getElem?_toArray, Nat.add_comm 1 j]; rfl)] at hlist
  obtain ⟨e, a', w'', hq, harr⟩ := wp_ops _ _ _ hlist b k cs
  refine ⟨e, a', w'', hq, .of_steps (.head step_region (.one ?_)) harr⟩
  have hrange : List.range (o :: l).toArray.size = 0 :: List.range' 1 l.length := by
    rw [List.range_eq_range']; simp [List.range'_succ]
  rw [hrange]
  have hw : Region.wanted o (yielded (o :: l).toArray a.tmps) = true := by simp [Region.wanted, hg]
  have hgo := stepG_op (P := P) (b := b) (a := a) (k := k) (cs := cs) (w := w) (ops := (o :: l).toArray) (i := 0) (rest := List.range' 1 l.length) (o := o) rfl hw
  rw [ha.eval] at hgo
  have hfin : (b.at a (.inRegion (o :: l).toArray (0 :: List.range' 1 l.length) :: k)).finish v = b.at (a.put o.dst v) (.inRegion (o :: l).toArray (List.range' 1 l.length) :: k) := by
    rw [Frame.finish_at]; rfl
  have hcomm : ∃ es, stepG P true (G (b.at a (.inRegion (o :: l).toArray (0 :: List.range' 1 l.length) :: k)) cs) w = .comm (G (b.at a (.inRegion (o :: l).toArray (0 :: List.range' 1 l.length) :: k)) cs) cases false .select w es := by
    rw [← G_at, hgo]
    simp only [stepG.apply, Sem.runT_eq, if_true, hrun, GStep.after]
    exact ⟨_, rfl⟩
  obtain ⟨es, hcomm⟩ := hcomm
  have := hstep _ cs es hcomm
  rw [hfin] at this
  exact this
theorem run_select1 {x : Operand} {sd : Option Operand} {e : TypeId} {z : Value} (ho : o.op = .select ⟨[⟨x, sd, e⟩]⟩ false) (hz : tyZero P e = some z) :
    (execOp ρ o).run P w = .ok (.comm #[{ chan := ρ x, send := sd.map ρ, zero := z }] false .select) w := by
  simp [execOp, ho, Sem.run_bind, run_zero hz]
theorem WC.selSend {id d c cap : Nat} {x y : Operand} {e : TypeId} {z u : Value} {buf : List Value} (hS : St w0 M w H Z) (ho : o.op = .select ⟨[⟨x, some y, e⟩]⟩ false) (hz : tyZero P e = some z) (hx : ev f x = .chan (some c)) (hy : nfv (ev f y) = some u)
    (hr : Repl (chC c cap buf) (chC c cap (buf ++ [u])) H H') (hroom : buf.length < cap) (hg : o.guard = none) (hd : o.dst = some d) (hn : Nat.blt d N = true)
    (h : ∀ w', St w0 M w' H' Z → WL P N (o :: l) l (up f d (.tuple #[.int .i64 0, .bool false])) w' Q) : WC P N (.region id (o :: l).toArray false) f w Q := by
  obtain ⟨s, r, hc⟩ := (hS.holds _ hr.mem).1
  have hrun := run_select1 (P := P) (ρ := ev f) (w := w) ho hz
  rw [hx, Option.map_some, ← nfv_eq hy] at hrun
  refine .commHead hg hd hn hrun (fun fr cs es hst => step_lone_select_send_room (v := u) (z' := z) hst hc (by simpa using hroom)) ?_
  have := h _ (hS.setChan (s := s + 1) (r := r) hr)
  rw [List.push_toArray]
  exact this
theorem WC.selFull {id d c cap : Nat} {x y : Operand} {e : TypeId} {z : Value} {buf : List Value} (hS : St w0 M w H Z) (ho : o.op = .select ⟨[⟨x, some y, e⟩]⟩ false) (hz : tyZero P e = some z) (hx : ev f x = .chan (some c))
    (hm : chC c cap buf ∈ H) (hfull : cap ≤ buf.length) (hg : o.guard = none) (hd : o.dst = some d) (hn : Nat.blt d N = true)
    (h : WL P N (o :: l) l (up f d (.tuple #[.int .i64 (-1), .bool false])) w Q) : WC P N (.region id (o :: l).toArray false) f w Q := by
  obtain ⟨s, r, hc⟩ := (hS.holds _ hm).1
  have hrun := run_select1 (P := P) (ρ := ev f) (w := w) ho hz
  rw [hx, Option.map_some] at hrun
  exact .commHead hg hd hn hrun (fun fr cs es hst => step_lone_select_send_full (v := ev f y) (z' := z) hst hc (by simpa using hfull)) h
theorem WC.selRecv {id d c cap : Nat} {x : Operand} {e : TypeId} {z u : Value} {buf : List Value} (hS : St w0 M w H Z) (ho : o.op = .select ⟨[⟨x, none, e⟩]⟩ false) (hz : tyZero P e = some z) (hx : ev f x = .chan (some c))
    (hr : Repl (chC c cap (u :: buf)) (chC c cap buf) H H') (hg : o.guard = none) (hd : o.dst = some d) (hn : Nat.blt d N = true)
    (h : ∀ w', St w0 M w' H' Z → WL P N (o :: l) l (up f d (.tuple #[.int .i64 0, .bool true, u])) w' Q) : WC P N (.region id (o :: l).toArray false) f w Q := by
  obtain ⟨s, r, hc⟩ := (hS.holds _ hr.mem).1
  have hrun := run_select1 (P := P) (ρ := ev f) (w := w) ho hz
  rw [hx, Option.map_none] at hrun
  refine .commHead hg hd hn hrun (fun fr cs es hst => step_lone_select_recv_buf (z := z) hst hc (by simp)) ?_
  have := h _ (hS.setChan (s := s) (r := r + 1) hr)
  rw [show (Array.mk (u :: buf)).extract 1 (Array.mk (u :: buf)).size = ⟨buf⟩ by simp]
  exact this
theorem WC.selNone {id d c cap : Nat} {x : Operand} {e : TypeId} {z : Value} (hS : St w0 M w H Z) (ho : o.op = .select ⟨[⟨x, none, e⟩]⟩ false) (hz : tyZero P e = some z) (hx : ev f x = .chan (some c))
    (hm : chC c cap [] ∈ H) (hg : o.guard = none) (hd : o.dst = some d) (hn : Nat.blt d N = true)
    (h : WL P N (o :: l) l (up f d (.tuple #[.int .i64 (-1), .bool false, z])) w Q) : WC P N (.region id (o :: l).toArray false) f w Q := by
  obtain ⟨s, r, hc⟩ := (hS.holds _ hm).1
  have hrun := run_select1 (P := P) (ρ := ev f) (w := w) ho hz
  rw [hx, Option.map_none] at hrun
  exact .commHead hg hd hn hrun (fun fr cs es hst => step_lone_select_default (z := z) hst hc) h

/-! ## len(ch) -/
structure ChOk (H : List Chunk) (Z : List Snap) (c : Nat) (n : Nat) : Prop where
  out : ∀ w0 M w (Hn : List Chunk) (Zn : List Snap), St w0 M w (Hn ++ H) (Zn ++ Z) → ∃ cap buf, buf.length = n ∧ ChIs c cap buf w
theorem ChOk.mk' {c cap : Nat} {buf : List Value} (hm : chC c cap buf ∈ H) : ChOk H Z c buf.length :=
  ⟨fun w0 M w Hn Zn hS => ⟨cap, buf, rfl, (hS.holds _ (List.mem_append_right _ hm)).1⟩⟩
def isChan (P : Program) (t : TypeId) : Bool := match P.underlying t with
  | some (.chan _ _) => true
  | _ => false
theorem run_lenCh {x : Operand} {t : TypeId} {c cap : Nat} {buf : List Value} (ho : o.op = .call ⟨.builtin .len, ⟨[x]⟩, ⟨[t]⟩⟩) (ht : isChan P t = true) (hx : ρ x = .chan (some c)) (hc : ChIs c cap buf w) :
    (execOp ρ o).run P w = .ok (.value (.int .i64 (buf.length : Int))) w := by
  obtain ⟨s, r, hc⟩ := hc
  unfold isChan at ht
  split at ht
  · rename_i dir e hu
    have := run_len_chan (P := P) (w := w) t o.type hu hc
    simp only [List.size_toArray] at this
    simp [execOp, ho, resolve, invoke, builtin, Sem.run_bind, hx, this, goInt]
  · cases ht
end
section
variable {P : Program} {N : Nat} {f : Fr} {w w0 : World} {Q : Post} {ops : List Oper} {M : List Nat} {H0 H H' : List Chunk} {Z0 Z : List Snap} {q l : List Nat} {i : Nat}
theorem WD.lenCh {x : Operand} {t : TypeId} {c n : Nat} (ho : (ix ops i).op = .call ⟨.builtin .len, ⟨[x]⟩, ⟨[t]⟩⟩) (ht : isChan P t = true) (hx : ev f x = .chan (some c)) (hc : ChOk H0 Z0 c n)
    (hq : q.contains i = true) (hg : wants ops f (ix ops i) = true) {d : Nat} (hd : (ix ops i).dst = some d) (hn : Nat.blt d N = true) (h : WD P N (SS w0 M H0 Z0) ops q l (up f d (.int .i64 (n : Int))) w Q) : WD P N (SS w0 M H0 Z0) ops q (i :: l) f w Q :=
  .take hq hd hn (.inl ⟨hg, fun w' ⟨Hn, Zn, hS⟩ => by
    obtain ⟨cap, buf, rfl, hb⟩ := hc.out _ _ _ Hn Zn hS
    exact run_lenCh ho ht hx hb⟩) h

/-! ## two effects at a region's head, in either order -/
structure WDo (P : Program) (N : Nat) (S : World → Prop) (ops : List Oper) (q : List Nat) (i : Nat) (l : List Nat) (f : Fr) (w : World) (Q : Post) : Prop where
  out : ∀ a, Is a N f → ∀ K : Act → World → Prop, (∀ f' w' a', Is a' N f' → S w' → WD P N S ops q l f' w' Q → K a' w') → wpOp P ops.toArray (lift N Q) i K a w
theorem WC.drawTwo {id : Nat} (i j : Nat) (q l : List Nat) (hS : St w0 M w H Z) (hm : P.follows .mixedOrders = true)
    (hk : (Region.noSelect ops.toArray && (Region.ready .any ops.toArray (Array.replicate ops.toArray.size false) == [i, j]) && ordOk ops.toArray q ((Array.replicate ops.toArray.size false).setIfInBounds i true) (j :: l) &&
      ordOk ops.toArray q ((Array.replicate ops.toArray.size false).setIfInBounds j true) (i :: l) && Nat.beq (l.length + 2) ops.length) = true)
    (h1 : ∀ w', St w0 M w' H Z → More H Z H Z → WDo P N (SS w0 M H Z) ops q i (j :: l) f w' Q) (h2 : ∀ w', St w0 M w' H Z → More H Z H Z → WDo P N (SS w0 M H Z) ops q j (i :: l) f w' Q) : WC P N (.region id ops.toArray true) f w Q := by
  simp only [Bool.and_eq_true] at hk
  obtain ⟨⟨⟨⟨hs, hr⟩, ho1⟩, ho2⟩, hn⟩ := hk
  have hr : Region.ready .any ops.toArray (Array.replicate ops.toArray.size false) = [i, j] := by simpa using hr
  have hn := Nat.eq_of_beq_eq_true hn
  refine ⟨fun a ha => wp_region_held (S := SS w0 M H Z) hm ?_⟩
  have hsz : ops.toArray.size = (l.length + 1) + 1 := by simp only [List.size_toArray]; omega
  rw [hsz]
  rw [hsz] at hr ho1 ho2
  have hb : ∀ k l', (∀ a, Is a N f → ∀ K : Act → World → Prop, (∀ f' w' a', Is a' N f' → SS w0 M H Z w' → WD P N (SS w0 M H Z) ops q l' f' w' Q → K a' w') → wpOp P ops.toArray (lift N Q) k K a w.drew) → l'.length = l.length + 1 →
      ordOk ops.toArray q ((Array.replicate ((l.length + 1) + 1) false).setIfInBounds k true) l' = true →
      wpOp P ops.toArray (lift N Q) k (fun a' w' => SS w0 M H Z w' ∧ wpAnyH P .any ops.toArray (lift N Q) (SS w0 M H Z) (l.length + 1) ((Array.replicate ((l.length + 1) + 1) false).setIfInBounds k true) a' w') a w.drew := by
    intro k l' hk hl' hok
    refine hk a ha _ fun f' w' a' ha' hS' hw' => ⟨hS', ?_⟩
    have := hw'.out a' ha' _ hok hs hS'
    rw [hl'] at this
    exact this
  refine wpAnyH_all hr (by simp) fun k hk => ?_
  rcases List.mem_cons.1 hk with rfl | hk
  · exact hb k _ (fun a ha => (h1 _ hS.drew (.refl _ _)).out a ha) (by simp) ho1
  · obtain rfl : k = j := by simpa using hk
    exact hb k _ (fun a ha => (h2 _ hS.drew (.refl _ _)).out a ha) (by simp) ho2

/-! ## make(chan T, n) -/
def chanOk (P : Program) (t : TypeId) (n : Nat) : Bool := match P.underlying t with
  | some (.chan _ e) => match tyBytes P e with
    | some b => Nat.ble (b * n) 281474976710544
    | none => false
  | _ => false
theorem run_makeChan {o : Oper} {ρ : Operand → Value} {t : TypeId} {x : Operand} {n : Nat} (ho : o.op = .makeChan t x) (hx : ρ x = .int .i64 (Int.ofNat n)) (hk : chanOk P t n = true) (hn : n ≤ 9223372036854775807) :
    (execOp ρ o).run P w = .ok (.value (.chan (some w.heap.size))) (w.alloc (.chan n #[] false 0 0 false)) := by
  unfold chanOk at hk
  split at hk
  · rename_i dir e hu
    split at hk
    · rename_i b hb
      have hk := Nat.le_of_ble_eq_true hk
      unfold tyBytes at hb
      split at hb
      · rename_i d s sz by_ hp al fa z x' y' hi
        simp only [Option.some.injEq] at hb
        subst hb
        have h1 : ¬ ((n : Int) < 0 ∨ (n : Int) > IntKind.i64.max ∨ (by_ : Int) * (n : Int) > 2 ^ 48 - 112) := by
          have e1 : IntKind.i64.max = 9223372036854775807 := by decide
          rw [e1]
          have : ((by_ * n : Nat) : Int) ≤ 281474976710544 := by omega
          rw [Int.natCast_mul] at this
          omega
        have h1' : ¬ (Int.ofNat n < 0 ∨ Int.ofNat n > IntKind.i64.max ∨ (by_ : Int) * Int.ofNat n > 2 ^ 48 - 112) := h1
        have h2 : (typeInfo e).run P w = .ok ⟨d, s, sz, by_, hp, al, fa, z, x', y'⟩ w := by simp [typeInfo, hi]
        have h3 : (asInt (.int .i64 (Int.ofNat n))).run P w = .ok (Int.ofNat n) w := by simp [asInt, asIntOf, Sem.run_bind]
        simp only [execOp, ho, hx, Instr.makeChan, Sem.run_bind, Sem.run_pure, run_underlying hu, Result.andThen_ok, h2, h3, h1', if_false]
        rfl
      · cases hb
    · cases hk
  · cases hk
theorem St.newChan (hS : St w0 M w H Z) (n : Nat) : St w0 M (w.alloc (.chan n #[] false 0 0 false)) (chC w.heap.size n [] :: H) Z :=
  hS.push (.alloc _ _ _) (chC_holds ⟨0, 0, heap_alloc_new w _⟩) fun b hb => by
    have : b = w.heap.size := by simpa [Chunk.fp] using hb
    subst this; simp
theorem WDo.chan {t : TypeId} {x : Operand} {n : Nat} (hS : St w0 M w H Z) (hM : More H0 Z0 H Z) (ho : (ix ops i).op = .makeChan t x) (hx : ev f x = .int .i64 (Int.ofNat n)) (hk : chanOk P t n = true) (hnn : n ≤ 9223372036854775807)
    (hi : Nat.blt i ops.length = true) (hg : wants ops f (ix ops i) = true) {d : Nat} (hd : (ix ops i).dst = some d) (hn : Nat.blt d N = true)
    (h : ∀ w' c, St w0 M w' (chC c n [] :: H) Z → More H0 Z0 (chC c n [] :: H) Z → WD P N (SS w0 M H0 Z0) ops q l (up f d (.chan (some c))) w' Q) : WDo P N (SS w0 M H0 Z0) ops q i l f w Q := by
  refine ⟨fun a ha K hK => ?_⟩
  unfold Go.wpOp
  rw [ix_some (by simp only [List.size_toArray]; exact Nat.le_of_ble_eq_true hi)]
  simp only
  rw [if_pos ((wanted_eq ha _).trans hg)]
  refine .inl ?_
  simp only [Oper.wp, ha.eval, run_makeChan (P := P) ho hx hk hnn, Oper.upon]
  exact hK _ _ _ (ha.put1 hd hn _) ((hM.chunk _).ss (hS.newChan n)) (h _ _ (hS.newChan n) (hM.chunk _))
theorem WD.chan {t : TypeId} {x : Operand} {n : Nat} (hS : St w0 M w H Z) (hM : More H0 Z0 H Z) (ho : (ix ops i).op = .makeChan t x) (hx : ev f x = .int .i64 (Int.ofNat n)) (hk : chanOk P t n = true) (hnn : n ≤ 9223372036854775807)
    (hq : q.contains i = false) (hi : Nat.blt i ops.length = true) (hg : wants ops f (ix ops i) = true) {d : Nat} (hd : (ix ops i).dst = some d) (hn : Nat.blt d N = true)
    (h : ∀ w' c, St w0 M w' (chC c n [] :: H) Z → More H0 Z0 (chC c n [] :: H) Z → WD P N (SS w0 M H0 Z0) ops q l (up f d (.chan (some c))) w' Q) : WD P N (SS w0 M H0 Z0) ops q (i :: l) f w Q :=
  .val hq hi hg hd hn (run_makeChan (P := P) ho hx hk hnn) ((hM.chunk _).ss (hS.newChan n)) (h _ _ (hS.newChan n) (hM.chunk _))
end
end Go.J
