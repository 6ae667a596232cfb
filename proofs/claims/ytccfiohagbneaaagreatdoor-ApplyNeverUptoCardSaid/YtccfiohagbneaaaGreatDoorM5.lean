/- What is proved: contracts and plain facts that the law leans on (texts put together). Conditions: as each names them. -/
import Derived.Test.YtccfiohagbneaaaGreatDoorM4
import Derived.Lib.AppendIntMem
import Derived.Lib.ItoaLen
import Derived.Lib.AtoiErrMem
import Derived.Lib.LaidTab
import Derived.Stop.LaidErr
set_option linter.unusedSimpArgs false
set_option linter.unusedVariables false
set_option linter.unusedSectionVars false
/- What is proved: strconv's Itoa and Atoi at small numbers. Conditions: the library's table of powers laid. -/
namespace Go.J
open Go Go.RowKit
end Go.J
namespace Go.Proofs.YtccfiohagbneaaaGreatDoor
open Go Go.J Go.RowKit
abbrev powT (w : World) : Prop := Lib.TabIs Tryz.prog w "internal/strconv.uint64pow10" .u64 Lib.pow10Tab
theorem itoa_c (n : Int) (h0 : -9223372036854775808 ≤ n) (h1 : n ≤ 9223372036854775807) (w0 : World) (ht : powT w0) : Cal Tryz.prog 157 [.int .i64 n] w0 (fun v w' => Upd [] w0 w' ∧ v = str (Lib.itoa n)) :=
  ⟨by kernel_rfl, (Any.strconv_Itoa Tryz.itoaL n h0 h1 w0 ht).mono fun e w' ⟨h1, k, os, h2⟩ => ⟨_, h1, by rw [h2]; exact .of_below (Lib.below_grow _ _ (Nat.le_refl _) _ _), rfl⟩⟩
structure PowI (w : World) (F : List Nat) : Prop where
  tab : powT w
  out : ∀ g, Tryz.prog.globalNamed "internal/strconv.uint64pow10" = some g → g < w.heap.size ∧ g ∉ F
theorem PowI.of {w : World} (h : powT w) : PowI w [] := by
  refine ⟨h, fun g hg => ⟨?_, by simp⟩⟩
  unfold powT Lib.TabIs World.var? at h
  simp only [hg, Option.bind_some] at h
  rcases Nat.lt_or_ge g w.heap.size with h' | h'
  · exact h'
  · simp [Array.getElem?_eq_none h'] at h
section
variable {w0 w : World} {M : List Nat} {H H' D : List Chunk} {Z : List Snap}
theorem PowI.at (hp : PowI w0 M) (hS : St w0 M w H Z) : powT w := by
  have h := hp.tab
  unfold powT Lib.TabIs World.var? at h ⊢
  cases hg : Tryz.prog.globalNamed "internal/strconv.uint64pow10" with
  | none => simp [hg] at h
  | some g =>
    obtain ⟨h1, h2⟩ := hp.out g hg
    simp only [hg, Option.bind_some] at h ⊢
    rw [hS.upd.block g h1 h2]
    exact h
theorem PowI.pull (hp : PowI w0 M) (hS : St w0 M w H Z) (hP : Pulls D H H') : PowI w (fps D) := by
  refine ⟨hp.at hS, fun g hg => ?_⟩
  obtain ⟨h1, h2⟩ := hp.out g hg
  refine ⟨Nat.lt_of_lt_of_le h1 hS.upd.size, fun hm => ?_⟩
  obtain ⟨c, hc, hb⟩ := mem_fps.1 hm
  have h3 := (hS.pulls hP).inb c (List.mem_append_left _ hc) g hb
  rcases h3.2 with h | h
  · omega
  · exact h2 h
end
end Go.Proofs.YtccfiohagbneaaaGreatDoor

/- What is proved: the volume of a root; how the package apply gives work up, lays a node, and what its closures make of a halt. Conditions: disks of bounded contents, without limits. -/
namespace Go.Proofs.YtccfiohagbneaaaGreatDoor
open Go Go.J Go.RowKit
abbrev haltE (e : Int) : List PanicEntry := [{ v := .iface 220 (.agg ⟨[.int .i64 e]⟩), recovered := false }]
set_option maxRecDepth 8000 in
theorem must_c (e : Int) (w0 : World) : CalP Tryz.prog 114 [.int .i64 e] w0 (fun v w' => Upd [] w0 w' ∧ e = 0) (fun c w' => Upd [] w0 w' ∧ c = haltE e ∧ e ≠ 0) := by
  refine CalP.mkL (D := []) ⟨by simp, by simp, by simp⟩ (by kernel_rfl) Tryz.func114 rfl rfl fun hS => ?_
  have hS : St w0 [] w0 [] [⟨w0, Old w0⟩] := .init w0
  by_cases h0 : e = 0
  · subst h0
    repeat' (first | (show WL _ _ _ _ _ _ _; first | refine WL.pure rfl rfl rfl rfl ?_ | refine WL.nil ?_) | (show WC _ _ _ _ _ _; first | refine WC.seq ?_ | refine WC.region ?_ | refine WC.skip ?_ | refine WC.condF rfl (by decide) ?_) | refine seqQ_n ?_)
    exact finR (fin0n rfl ⟨hS.upd, rfl⟩)
  · repeat' (first | (show WL _ _ _ _ _ _ _; first | refine WL.pure rfl rfl rfl rfl ?_ | refine WL.nil ?_ | (refine WL.iface rfl (by kernel_rfl) rfl rfl rfl rfl ?_) | (refine WL.panic rfl rfl rfl ?_) | refine WL.build rfl rfl rfl rfl rfl ?_) | (show WC _ _ _ _ _ _; first | refine WC.seq ?_ | refine WC.region ?_ | refine WC.condT rfl (decide_eq_true (by first | with_reducible assumption | omega)) ?_) | refine seqQ_n ?_)
    exact finP ⟨hS.upd, rfl, h0⟩
set_option maxHeartbeats 4000000 in
set_option maxRecDepth 100000 in
theorem avolume_c (r : Int) (w0 : World) (h0 : -9223372036854775808 ≤ r) (h1 : r ≤ 9223372036854775807) (ht : powT w0) : Cal Tryz.prog 107 [.int .i64 r] w0 (fun v w' => Upd [] w0 w' ∧ v = str (rootE r)) := by
  refine Cal.mk' (by kernel_rfl) Tryz.func107 rfl rfl fun hS => ?_
  unfold rootE
  by_cases e0 : r = 0
  · rw [if_pos e0]
    repeat' (first | (show WL _ _ _ _ _ _ _; first | refine WL.pure rfl rfl rfl rfl ?_ | refine WL.nil ?_) | (show WC _ _ _ _ _ _; first | refine WC.seq ?_ | refine WC.region ?_ | refine WC.block ?_ | refine WC.ret ?_ | refine WC.condT rfl (decide_eq_true (by first | with_reducible assumption | omega)) ?_) | refine seqQ_n ?_ | refine seqQ_r ?_ | refine blkQ_r ?_)
    exact fin1r rfl rfl ⟨hS.upd, rfl⟩
  · rw [if_neg e0]
    by_cases e1 : 1 ≤ r
    · by_cases e2 : r ≤ 6
      · rw [if_pos ⟨e1, e2⟩]
        have hit : Lib.itoa r = [UInt8.ofNat (48 + r.toNat)] := by
          have : r = 1 ∨ r = 2 ∨ r = 3 ∨ r = 4 ∨ r = 5 ∨ r = 6 := by omega
          rcases this with rfl | rfl | rfl | rfl | rfl | rfl <;> decide +kernel
        repeat' (first | (show WL _ _ _ _ _ _ _; first | refine WL.pure rfl rfl rfl rfl ?_ | refine WL.nil ?_ | (refine WL.calls hS rfl rfl (itoa_c r h0 h1 _ ((PowI.of ht).at hS)) rfl rfl rfl ?_; rintro v w rfl hS; rw [hit]) | (refine WL.cat rfl rfl rfl (by simp) rfl rfl rfl ?_) | ((fail_if_success (refine WL.wanted rfl ?_)); refine WL.guard rfl rfl rfl (fun h => ?_) (fun h => ?_) <;> (try simp only [ZZ0, ZZ1, ZZ2, ZZ3, ZZ4, ZZ5, ZZ6, ZZ7, ZZ8, ZZ9, ZZ10, ZZ11, ZZ12, ZZ13, ZZ14, ZZ15] at h) <;> (try (exfalso; first | omega | contradiction)))) | (show WC _ _ _ _ _ _; first | refine WC.seq ?_ | refine WC.region ?_ | refine WC.block ?_ | refine WC.ret ?_ | refine WC.condT rfl (decide_eq_true (by first | with_reducible assumption | omega)) ?_ | refine WC.condF rfl (decide_eq_false (by first | with_reducible assumption | omega)) ?_) | refine seqQ_n ?_ | refine seqQ_r ?_ | refine blkQ_r ?_)
        exact fin1r rfl rfl ⟨hS.upd, rfl⟩
      · rw [if_neg (fun h => e2 h.2)]
        repeat' (first | (show WL _ _ _ _ _ _ _; first | refine WL.pure rfl rfl rfl rfl ?_ | refine WL.nil ?_ | ((fail_if_success (refine WL.wanted rfl ?_)); refine WL.guard rfl rfl rfl (fun h => ?_) (fun h => ?_) <;> (try simp only [ZZ0, ZZ1, ZZ2, ZZ3, ZZ4, ZZ5, ZZ6, ZZ7, ZZ8, ZZ9, ZZ10, ZZ11, ZZ12, ZZ13, ZZ14, ZZ15] at h) <;> (try (exfalso; first | omega | contradiction)))) | (show WC _ _ _ _ _ _; first | refine WC.seq ?_ | refine WC.region ?_ | refine WC.block ?_ | refine WC.skip ?_ | refine WC.ret ?_ | refine WC.condF rfl (decide_eq_false (by first | with_reducible assumption | omega)) ?_) | refine seqQ_n ?_ | refine blkQ_n ?_)
        exact fin1r rfl rfl ⟨hS.upd, rfl⟩
    · rw [if_neg (fun h => e1 h.1)]
      repeat' (first | (show WL _ _ _ _ _ _ _; first | refine WL.pure rfl rfl rfl rfl ?_ | refine WL.nil ?_ | refine WL.skip rfl rfl rfl ?_ | ((fail_if_success (refine WL.wanted rfl ?_)); refine WL.guard rfl rfl rfl (fun h => ?_) (fun h => ?_) <;> (try simp only [ZZ0, ZZ1, ZZ2, ZZ3, ZZ4, ZZ5, ZZ6, ZZ7, ZZ8, ZZ9, ZZ10, ZZ11, ZZ12, ZZ13, ZZ14, ZZ15] at h) <;> (try (exfalso; first | omega | contradiction)))) | (show WC _ _ _ _ _ _; first | refine WC.seq ?_ | refine WC.region ?_ | refine WC.block ?_ | refine WC.skip ?_ | refine WC.ret ?_ | refine WC.condF rfl (by with_reducible rfl) ?_ | refine WC.condF rfl (decide_eq_false (by first | with_reducible assumption | omega)) ?_) | refine seqQ_n ?_ | refine blkQ_n ?_)
      exact fin1r rfl rfl ⟨hS.upd, rfl⟩
set_option maxRecDepth 8000 in
theorem caught_c (e : Int) (w0 : World) : Cal Tryz.prog 111 [.iface 220 (.agg ⟨[.int .i64 e]⟩)] w0 (fun v w' => Upd [] w0 w' ∧ v = .int .i64 e) := by
  refine Cal.mk' (by kernel_rfl) Tryz.func111 rfl rfl fun hS => ?_
  repeat' (first | (show WL _ _ _ _ _ _ _; first | (refine WL.assertOk rfl (by kernel_rfl) rfl rfl rfl rfl ?_) | refine WL.pure rfl rfl rfl rfl ?_ | refine WL.nil ?_ | refine WL.load hS rfl rfl (LdOk.box Mm rfl) rfl rfl rfl ?_ | (refine WL.store hS rfl rfl rfl Sb rfl rfl rfl ?_; intro w hS) | (refine WL.alloc hS rfl rfl rfl rfl rfl rfl ?_; intro w b hS)) | (show WC _ _ _ _ _ _; first | refine WC.seq ?_ | refine WC.region ?_ | refine WC.skip ?_ | refine WC.ret ?_ | refine WC.condF rfl (by decide) ?_) | refine seqQ_n ?_)
  exact fin1r rfl rfl ⟨hS.upd, rfl⟩
structure DkB (n : Nat) (D : Dk) : Prop where
  lim : D.limits = []
  len : D.items.length ≤ n
  nd : (D.items.map Prod.fst).Nodup
  key : ∀ x ∈ D.items, x.1.length ≤ 1099511627
  data : ∀ y, (D.at y).data.length ≤ 1099511627776
theorem mset_leA {β : Type} : ∀ (m : List (List UInt8 × β)) (p : List UInt8) (v : β), (mset m p v).length ≤ m.length + 1
  | [], _, _ => Nat.le_refl _
  | (k, u) :: m, p, v => by
    unfold mset
    split
    · simp
    · have := mset_leA m p v; simp; omega
theorem mset_inA {β : Type} : ∀ {m : List (List UInt8 × β)} {x : List UInt8} {v : β} {p : List UInt8 × β}, p ∈ mset m x v → p ∈ m ∨ p = (x, v)
  | [], x, v, p, h => by simpa [mset] using h
  | (k, u) :: m, x, v, p, h => by
    unfold mset at h
    split at h
    · rename_i e
      rcases List.mem_cons.1 h with h | h
      · right; rw [h, e]
      · left; exact List.mem_cons_of_mem _ h
    · rcases List.mem_cons.1 h with h | h
      · left; rw [h]; exact List.mem_cons_self ..
      · rcases mset_inA h with h | h
        · left; exact List.mem_cons_of_mem _ h
        · right; exact h
section
variable {n : Nat} {D : Dk}
theorem DkB.mono {m : Nat} (h : DkB n D) (hm : n ≤ m) : DkB m D := ⟨h.lim, Nat.le_trans h.len hm, h.nd, h.key, h.data⟩
theorem DkB.step (h : DkB n D) : DkB n D.step := ⟨by rw [Dk.step_limits]; exact h.lim, by rw [Dk.step_items]; exact h.len, by rw [Dk.step_items]; exact h.nd, by rw [Dk.step_items]; exact h.key, fun y => by rw [Dk.step_at]; exact h.data y⟩
theorem DkB.put (h : DkB n D) {p : List UInt8} {x : It} (hp : p.length ≤ 1099511627) (hx : x.data.length ≤ 1099511627776) : DkB (n + 1) { D with items := mset D.items p x } :=
  ⟨h.lim, Nat.le_trans (mset_leA _ _ _) (Nat.succ_le_succ h.len), mset_nodup h.nd _ _, fun y hy => by
    rcases mset_inA hy with hy | hy
    · exact h.key y hy
    · rw [hy]; exact hp, fun y => by
    rw [Dk.at_get, Dk.get_put]
    split
    · exact hx
    · exact h.data y⟩
theorem DkB.set (h : DkB n D) {p : List UInt8} {x : It} (hp : p.length ≤ 1099511627) (hx : x.data.length ≤ 1099511627776) : DkB (n + 1) (D.set p x) := by
  have := DkB.put (x := { x with stamp := IntKind.i64.wrap (D.stamps + 1) }) h hp hx
  exact ⟨this.lim, this.len, this.nd, this.key, this.data⟩
theorem DkB.del (h : DkB n D) {p : List UInt8} : DkB n (D.del p) :=
  ⟨h.lim, Nat.le_trans (mdel_sub _ _).length_le h.len, mdel_nodup h.nd _, fun y hy => h.key y ((mdel_sub _ _).subset hy), fun y => by
    rw [Dk.at_get, Dk.get_del _ h.nd]
    split
    · exact Nat.zero_le _
    · exact h.data y⟩
theorem DkB.mkdir (h : DkB n D) {p : List UInt8} (hp : p.length ≤ 1099511627) : DkB (n + 1) (D.mkdir p).2 := by
  unfold Dk.mkdir
  repeat' split
  all_goals first | exact h.mono (Nat.le_succ _) | exact h.step.mono (Nat.le_succ _) | exact h.step.put hp (Nat.zero_le _)
theorem DkB.remove (h : DkB n D) {p : List UInt8} : DkB n (D.remove p).2 := by
  unfold Dk.remove
  repeat' split
  all_goals first | exact h | exact h.step | exact h.step.del
theorem DkB.write (h : DkB n D) {p s : List UInt8} (hp : p.length ≤ 1099511627) (hs : s.length ≤ 1099511627776) : DkB (n + 1) (D.write p s).2 := by
  unfold Dk.write
  repeat' split
  all_goals first | exact h.mono (Nat.le_succ _) | exact h.step.mono (Nat.le_succ _) | exact h.step.set hp hs
theorem DkB.sync (h : DkB n D) {p : List UInt8} (hp : p.length ≤ 1099511627) : DkB (n + 1) (D.sync p).2 := by
  unfold Dk.sync
  repeat' split
  all_goals first | exact h.mono (Nat.le_succ _) | exact h.step.mono (Nat.le_succ _) | exact h.step.put hp (h.step.data p)
theorem DkB.rename (h : DkB n D) {p r : List UInt8} (hr : r.length ≤ 1099511627) : DkB (n + 1) (D.rename p r).2 := by
  unfold Dk.rename
  repeat' split
  all_goals first | exact h.mono (Nat.le_succ _) | exact h.step.mono (Nat.le_succ _) | exact (h.step.del.set hr (h.data p))
theorem DkB.layF (h : DkB n D) {p s : List UInt8} (hp : p.length ≤ 1099511627) (hs : s.length ≤ 1099511627776) : DkB (n + 3) (D.layF p s).2 := by
  have h1 := h.write (p := stgP) (by decide) hs
  have h2 := h1.sync (p := stgP) (by decide)
  have h3 := h2.rename (p := stgP) hp
  unfold Dk.layF
  repeat' split
  all_goals first | exact h.mono (by omega) | exact h1.mono (by omega) | exact h2.mono (by omega) | exact h3
def layN (D : Dk) (p : List UInt8) (kind : Int) (data : List UInt8) : Int × Dk := if kind = 1 then (if D.kind p ≠ 1 then D.mkdir p else (0, D)) else if kind = 2 then D.layF p data else (0, D)
theorem DkB.layN (h : DkB n D) {p s : List UInt8} {k : Int} (hp : p.length ≤ 1099511627) (hs : s.length ≤ 1099511627776) : DkB (n + 3) (layN D p k s).2 := by
  unfold Go.Proofs.YtccfiohagbneaaaGreatDoor.layN
  repeat' split
  all_goals first | exact (h.mkdir hp).mono (by omega) | exact h.layF hp hs | exact h.mono (by omega)
end
set_option maxRecDepth 8000 in
set_option maxHeartbeats 16000000 in
set_option maxRecDepth 100000 in
theorem lay_c {q mb lb n : Nat} {D : Dk} (p : List UInt8) (kind : Int) (data : List UInt8) {w0 : World} (hI : InL w0 [dkC q mb lb D]) (hB : DkB n D) (hp : p.length ≤ 1099511627) (hd : data.length ≤ 1099511627776) :
    CalP Tryz.prog 116 [.pointer (some ⟨q, 0, none⟩), str p, .agg ⟨[.int .i64 kind, str data]⟩] w0 (fun v w' => (layN D p kind data).1 = 0 ∧ MutL w0 w' [dkC q mb lb D] [dkC q mb lb (layN D p kind data).2])
      (fun c w' => (layN D p kind data).1 ≠ 0 ∧ c = haltE (layN D p kind data).1 ∧ MutL w0 w' [dkC q mb lb D] [dkC q mb lb (layN D p kind data).2]) := by
  refine CalP.mkL hI (by kernel_rfl) Tryz.func116 rfl rfl fun hS => ?_
  unfold layN
  by_cases k1 : kind = 1
  · subst k1
    rw [if_pos rfl]
    by_cases hk : D.kind p ≠ 1
    · rw [if_pos hk]
      repeat' (first | (show WL _ _ _ _ _ _ _; first | refine WL.pure rfl rfl rfl rfl ?_ | refine WL.nil ?_ | refine WL.load hS rfl rfl (LdOk.box Mm rfl) rfl rfl rfl ?_ | (refine WL.calls hS rfl rfl (dkind_c p (hS.holds (dkC q mb lb D) Mm).1) rfl rfl rfl ?_; rintro v w rfl hS) | (refine WL.callL (D := [dkC q mb lb D]) hS Pu rfl rfl (fun hI => mkdir_c p hI.head hI.headB hp) rfl rfl rfl ?_; rintro v w ⟨rfl, hm⟩ hS; replace hS := hS _ (.of1 hm); clear hm) | (refine WL.callP0 hS rfl rfl (must_c _ _) rfl rfl rfl (fun v w he hS => ?_) (fun c w he hS => ?_)) | (refine WL.box hS rfl rfl rfl rfl rfl ?_; intro w b hS)) | (show WC _ _ _ _ _ _; first | refine WC.seq ?_ | refine WC.region ?_ | refine WC.block ?_ | refine WC.condT rfl (by decide) ?_ | refine WC.condT rfl (decide_eq_true (by first | with_reducible assumption | omega)) ?_) | (first | refine seqQ_p ?_ | refine blkQ_p ?_ | refine rndQ_p ?_) | refine seqQ_n ?_ | refine blkQ_n ?_)
      · exact finR (fin0n rfl ⟨he, hS.mutLp Pu⟩)
      · exact finP ⟨he.2, he.1, hS.mutLp Pu⟩
    · rw [if_neg hk]
      repeat' (first | (show WL _ _ _ _ _ _ _; first | refine WL.pure rfl rfl rfl rfl ?_ | refine WL.nil ?_ | refine WL.load hS rfl rfl (LdOk.box Mm rfl) rfl rfl rfl ?_ | (refine WL.calls hS rfl rfl (dkind_c p (hS.holds (dkC q mb lb D) Mm).1) rfl rfl rfl ?_; rintro v w rfl hS) | (refine WL.box hS rfl rfl rfl rfl rfl ?_; intro w b hS)) | (show WC _ _ _ _ _ _; first | refine WC.seq ?_ | refine WC.region ?_ | refine WC.block ?_ | refine WC.skip ?_ | refine WC.condT rfl (by decide) ?_ | refine WC.condF rfl (decide_eq_false (by first | with_reducible assumption | omega)) ?_) | refine seqQ_n ?_ | refine blkQ_n ?_)
      exact finR (fin0n rfl ⟨rfl, hS.mutLp Pu⟩)
  · rw [if_neg k1]
    by_cases k2 : kind = 2
    · subst k2
      rw [if_pos rfl]
      unfold Dk.layF
      by_cases hr : (D.read p).2 = 0 ∧ (D.read p).1 = data
      · rw [if_pos hr]
        obtain ⟨hr1, hr2⟩ := hr
        repeat' (first | (show WL _ _ _ _ _ _ _; first | refine WL.pure rfl rfl rfl rfl ?_ | refine WL.nil ?_ | refine WL.load hS rfl rfl (LdOk.box Mm rfl) rfl rfl rfl ?_ | (refine WL.calls hS rfl rfl (dread_c p (hS.holds (dkC q mb lb D) Mm).1) rfl rfl rfl ?_; rintro v w rfl hS; rw [hr1, hr2]) | (refine WL.box hS rfl rfl rfl rfl rfl ?_; intro w b hS)) | (show WC _ _ _ _ _ _; first | refine WC.seq ?_ | refine WC.region ?_ | refine WC.block ?_ | refine WC.ret ?_ | refine WC.condT rfl (by decide) ?_ | refine WC.condF rfl (by decide) ?_ | refine WC.condT rfl (by first | (simp; done) | (simp; omega)) ?_) | refine seqQ_n ?_ | refine seqQ_r ?_ | refine blkQ_r ?_)
        exact finR (fin0r rfl ⟨rfl, hS.mutLp Pu⟩)
      · rw [if_neg hr]
        have b1 := hB.write (p := stgP) (s := data) (by decide) hd
        have b2 := b1.sync (p := stgP) (by decide)
        have hw := fun (w : World) (hI : InL w [dkC q mb lb D]) => write_c stgP data hI.head hI.headB (by decide) (by rw [hB.lim]; rfl) hd (hB.data _)
        generalize D.write stgP data = r1 at *
        obtain ⟨e1, D1⟩ := r1
        have hy := fun (w : World) (hI : InL w [dkC q mb lb D1]) => sync_c stgP hI.head hI.headB (by decide)
        have b2 : DkB (n + 1 + 1) (D1.sync stgP).2 := b2
        dsimp only at hw ⊢
        generalize D1.sync stgP = r2 at *
        obtain ⟨e2, D2⟩ := r2
        have hn := fun (w : World) (hI : InL w [dkC q mb lb D2]) => rename_c stgP p hI.head hI.headB (by decide) hp (by rw [b2.lim]; rfl) (b2.data _) (b2.data _)
        dsimp only at hy ⊢
        generalize D2.rename stgP p = r3 at *
        obtain ⟨e3, D3⟩ := r3
        dsimp only at hn ⊢
        have hrd := fun (w : World) (hI : DkIs q mb lb D w) => dread_c p hI
        by_cases h0 : (D.read p).2 = 0
        · have hne : ¬ (D.read p).1 = data := fun h => hr ⟨h0, h⟩
          rw [h0] at hrd
          generalize (D.read p).1 = rs at *
          clear hr b1 b2
          repeat' (first | (show WL _ _ _ _ _ _ _; first | refine WL.pure rfl rfl rfl rfl ?_ | refine WL.nil ?_ | refine WL.load hS rfl rfl (LdOk.box Mm rfl) rfl rfl rfl ?_ | (refine WL.calls hS rfl rfl (hrd _ (hS.holds (dkC q mb lb D) Mm).1) rfl rfl rfl ?_; rintro v w rfl hS) | (refine WL.callL (D := [dkC q mb lb D]) hS Pu rfl rfl (fun hI => hw _ hI) rfl rfl rfl ?_; rintro v w ⟨rfl, hm⟩ hS; replace hS := hS _ (.of1 hm); clear hm) | (refine WL.callL (D := [dkC q mb lb D1]) hS Pu rfl rfl (fun hI => hy _ hI) rfl rfl rfl ?_; rintro v w ⟨rfl, hm⟩ hS; replace hS := hS _ (.of1 hm); clear hm) | (refine WL.callL (D := [dkC q mb lb D2]) hS Pu rfl rfl (fun hI => hn _ hI) rfl rfl rfl ?_; rintro v w ⟨rfl, hm⟩ hS; replace hS := hS _ (.of1 hm); clear hm) | (refine WL.callP0 hS rfl rfl (must_c e1 _) rfl rfl rfl (fun v w h1 hS => ?_) (fun c w h1 hS => ?_)) | (refine WL.callP0 hS rfl rfl (must_c e2 _) rfl rfl rfl (fun v w h2 hS => ?_) (fun c w h2 hS => ?_)) | (refine WL.callP0 hS rfl rfl (must_c e3 _) rfl rfl rfl (fun v w h3 hS => ?_) (fun c w h3 hS => ?_)) | (refine WL.box hS rfl rfl rfl rfl rfl ?_; intro w b hS)) | (show WC _ _ _ _ _ _; first | refine WC.seq ?_ | refine WC.region ?_ | refine WC.block ?_ | refine WC.skip ?_ | refine WC.condT rfl (by decide) ?_ | refine WC.condF rfl (by decide) ?_ | refine WC.condF rfl (decide_eq_false (by first | with_reducible assumption | omega)) ?_) | (first | refine seqQ_p ?_ | refine blkQ_p ?_ | refine rndQ_p ?_) | refine seqQ_n ?_ | refine blkQ_n ?_)
          · rw [if_neg (fun h => h h1), if_neg (fun h => h h2)]; exact finR (fin0n rfl ⟨h3, hS.mutLp Pu⟩)
          · rw [if_neg (fun h => h h1), if_neg (fun h => h h2)]; exact finP ⟨h3.2, h3.1, hS.mutLp Pu⟩
          · rw [if_neg (fun h => h h1), if_pos h2.2]; exact finP ⟨h2.2, h2.1, hS.mutLp Pu⟩
          · rw [if_pos h1.2]; exact finP ⟨h1.2, h1.1, hS.mutLp Pu⟩
        · generalize (D.read p).2 = re at *
          generalize (D.read p).1 = rs at *
          clear hr b1 b2
          repeat' (first | (show WL _ _ _ _ _ _ _; first | refine WL.pure rfl rfl rfl rfl ?_ | refine WL.nil ?_ | refine WL.load hS rfl rfl (LdOk.box Mm rfl) rfl rfl rfl ?_ | (refine WL.calls hS rfl rfl (hrd _ (hS.holds (dkC q mb lb D) Mm).1) rfl rfl rfl ?_; rintro v w rfl hS) | (refine WL.callL (D := [dkC q mb lb D]) hS Pu rfl rfl (fun hI => hw _ hI) rfl rfl rfl ?_; rintro v w ⟨rfl, hm⟩ hS; replace hS := hS _ (.of1 hm); clear hm) | (refine WL.callL (D := [dkC q mb lb D1]) hS Pu rfl rfl (fun hI => hy _ hI) rfl rfl rfl ?_; rintro v w ⟨rfl, hm⟩ hS; replace hS := hS _ (.of1 hm); clear hm) | (refine WL.callL (D := [dkC q mb lb D2]) hS Pu rfl rfl (fun hI => hn _ hI) rfl rfl rfl ?_; rintro v w ⟨rfl, hm⟩ hS; replace hS := hS _ (.of1 hm); clear hm) | (refine WL.callP0 hS rfl rfl (must_c e1 _) rfl rfl rfl (fun v w h1 hS => ?_) (fun c w h1 hS => ?_)) | (refine WL.callP0 hS rfl rfl (must_c e2 _) rfl rfl rfl (fun v w h2 hS => ?_) (fun c w h2 hS => ?_)) | (refine WL.callP0 hS rfl rfl (must_c e3 _) rfl rfl rfl (fun v w h3 hS => ?_) (fun c w h3 hS => ?_)) | (refine WL.box hS rfl rfl rfl rfl rfl ?_; intro w b hS) | refine WL.skip rfl rfl rfl ?_ | ((fail_if_success (refine WL.wanted rfl ?_)); refine WL.guard rfl rfl rfl (fun h => ?_) (fun h => ?_) <;> (try simp only [ZZ0, ZZ1, ZZ2, ZZ3, ZZ4, ZZ5, ZZ6, ZZ7, ZZ8, ZZ9, ZZ10, ZZ11, ZZ12, ZZ13, ZZ14, ZZ15] at h) <;> (try (exfalso; first | omega | contradiction)))) | (show WC _ _ _ _ _ _; first | refine WC.seq ?_ | refine WC.region ?_ | refine WC.block ?_ | refine WC.skip ?_ | refine WC.condF rfl (by with_reducible rfl) ?_ | refine WC.condT rfl (by decide) ?_ | refine WC.condF rfl (by decide) ?_) | (first | refine seqQ_p ?_ | refine blkQ_p ?_ | refine rndQ_p ?_) | refine seqQ_n ?_ | refine blkQ_n ?_)
          · rw [if_neg (fun h => h h1), if_neg (fun h => h h2)]; exact finR (fin0n rfl ⟨h3, hS.mutLp Pu⟩)
          · rw [if_neg (fun h => h h1), if_neg (fun h => h h2)]; exact finP ⟨h3.2, h3.1, hS.mutLp Pu⟩
          · rw [if_neg (fun h => h h1), if_pos h2.2]; exact finP ⟨h2.2, h2.1, hS.mutLp Pu⟩
          · rw [if_pos h1.2]; exact finP ⟨h1.2, h1.1, hS.mutLp Pu⟩
    · rw [if_neg k2]
      repeat' (first | (show WL _ _ _ _ _ _ _; first | refine WL.pure rfl rfl rfl rfl ?_ | refine WL.nil ?_ | refine WL.load hS rfl rfl (LdOk.box Mm rfl) rfl rfl rfl ?_ | (refine WL.box hS rfl rfl rfl rfl rfl ?_; intro w b hS)) | (show WC _ _ _ _ _ _; first | refine WC.seq ?_ | refine WC.region ?_ | refine WC.block ?_ | refine WC.skip ?_ | refine WC.condF rfl (decide_eq_false (by first | with_reducible assumption | omega)) ?_) | refine seqQ_n ?_ | refine blkQ_n ?_)
      exact finR (fin0n rfl ⟨rfl, hS.mutLp Pu⟩)
end Go.Proofs.YtccfiohagbneaaaGreatDoor

/- What is proved: how a walk through a volume finds all that stands in it. Conditions: disks of bounded contents that were filled by their own calls; what was seen before is as it was, where its stamp is. -/
namespace Go.Proofs.YtccfiohagbneaaaGreatDoor
open Go Go.J Go.RowKit
abbrev Nd := Int × List UInt8
@[reducible] def encN (n : Nd) : Value := .agg ⟨[.int .i64 n.1, str n.2]⟩
structure FolIs (D : Dk) (v : List UInt8) (C : List UInt8 → Prop) (F F' : List (List UInt8 × Nd)) (S S' : List (List UInt8 × Int)) : Prop where
  f1 : ∀ q, C (v ++ 47 :: q) → D.has (v ++ 47 :: q) = true → mget F' q = some (nodeD D v q)
  f0 : ∀ q, ¬ (C (v ++ 47 :: q) ∧ D.has (v ++ 47 :: q) = true) → mget F' q = mget F q
  s1 : ∀ q, C (v ++ 47 :: q) → D.has (v ++ 47 :: q) = true → (D.at (v ++ 47 :: q)).dir = false → mget S' q = some (D.at (v ++ 47 :: q)).stamp
  s0 : ∀ q, ¬ (C (v ++ 47 :: q) ∧ D.has (v ++ 47 :: q) = true) → mget S' q = mget S q
section
variable {D : Dk} {v : List UInt8} {C C' : List UInt8 → Prop} {F G H : List (List UInt8 × Nd)} {S T U : List (List UInt8 × Int)}
theorem FolIs.none (h : ∀ y, ¬ C y) : FolIs D v C F F S S := ⟨fun q h1 _ => absurd h1 (h _), fun _ _ => rfl, fun q h1 _ _ => absurd h1 (h _), fun _ _ => rfl⟩
theorem FolIs.step (h : FolIs D v C F G S T) (k : FolIs D v C' G H T U) : FolIs D v (fun y => C y ∨ C' y) F H S U := by
  refine ⟨fun q h1 h2 => ?_, fun q hn => ?_, fun q h1 h2 h3 => ?_, fun q hn => ?_⟩
  · rcases Classical.em (C' (v ++ 47 :: q)) with e | e
    · exact k.f1 q e h2
    · rw [k.f0 q fun hh => e hh.1]
      exact h.f1 q (h1.resolve_right e) h2
  · rw [k.f0 q fun hh => hn ⟨.inr hh.1, hh.2⟩, h.f0 q fun hh => hn ⟨.inl hh.1, hh.2⟩]
  · rcases Classical.em (C' (v ++ 47 :: q)) with e | e
    · exact k.s1 q e h2 h3
    · rw [k.s0 q fun hh => e hh.1]
      exact h.s1 q (h1.resolve_right e) h2 h3
  · rw [k.s0 q fun hh => hn ⟨.inr hh.1, hh.2⟩, h.s0 q fun hh => hn ⟨.inl hh.1, hh.2⟩]
theorem FolIs.congr (h : FolIs D v C F G S T) (hc : ∀ y, D.has y = true → (C y ↔ C' y)) : FolIs D v C' F G S T :=
  ⟨fun q h1 h2 => h.f1 q ((hc _ h2).2 h1) h2, fun q hn => h.f0 q fun hh => hn ⟨(hc _ hh.2).1 hh.1, hh.2⟩, fun q h1 h2 h3 => h.s1 q ((hc _ h2).2 h1) h2 h3, fun q hn => h.s0 q fun hh => hn ⟨(hc _ hh.2).1 hh.1, hh.2⟩⟩
theorem vq_inj {v q o : List UInt8} (h : v ++ 47 :: q = v ++ 47 :: o) : q = o := by
  rw [List.append_cancel_left_eq, List.cons.injEq] at h
  exact h.2
theorem FolIs.dir {o : List UInt8} (hd : (D.at (v ++ 47 :: o)).dir = true) (hh : D.has (v ++ 47 :: o) = true) : FolIs D v (fun y => y = v ++ 47 :: o) F (mset F o (1, [])) S S := by
  have hn : nodeD D v o = (1, []) := by
    unfold nodeD
    rw [Dk.at_get] at hd
    rw [Dk.has_get] at hh
    cases hg : D.get (v ++ 47 :: o) with
    | none => rw [hg] at hh; cases hh
    | some x => rw [hg] at hd; exact nd_dir hd
  refine ⟨fun q h1 h2 => ?_, fun q hx => ?_, fun q h1 h2 h3 => ?_, fun _ _ => rfl⟩
  · obtain rfl := vq_inj h1
    rw [mget_set, if_pos rfl, hn]
  · rw [mget_set, if_neg]
    rintro rfl
    exact hx ⟨rfl, hh⟩
  · obtain rfl := vq_inj h1
    rw [hd] at h3; cases h3
theorem FolIs.file {o s : List UInt8} {n : Int} (hd : (D.at (v ++ 47 :: o)).dir = false) (hh : D.has (v ++ 47 :: o) = true) (hs : (D.at (v ++ 47 :: o)).data = s) (hn : (D.at (v ++ 47 :: o)).stamp = n) : FolIs D v (fun y => y = v ++ 47 :: o) F (mset F o (2, s)) S (mset S o n) := by
  have hnd : nodeD D v o = (2, s) := by
    unfold nodeD
    rw [Dk.at_get] at hd hs
    rw [Dk.has_get] at hh
    cases hg : D.get (v ++ 47 :: o) with
    | none => rw [hg] at hh; cases hh
    | some x => rw [hg] at hd hs; rw [← hs]; exact nd_file hd
  refine ⟨fun q h1 h2 => ?_, fun q hx => ?_, fun q h1 h2 h3 => ?_, fun q hx => ?_⟩
  · obtain rfl := vq_inj h1
    rw [mget_set, if_pos rfl, hnd]
  · rw [mget_set, if_neg]
    rintro rfl
    exact hx ⟨rfl, hh⟩
  · obtain rfl := vq_inj h1
    rw [mget_set, if_pos rfl, hn]
  · rw [mget_set, if_neg]
    rintro rfl
    exact hx ⟨rfl, hh⟩
end
def KnownOk (D : Dk) (v : List UInt8) (K : List (PK × Nd)) : Prop := ∀ o n nd, mgetP K (o, n) = some nd → D.has (v ++ 47 :: o) = true → (D.at (v ++ 47 :: o)).dir = false → (D.at (v ++ 47 :: o)).stamp = n → nd = (2, (D.at (v ++ 47 :: o)).data)
set_option maxRecDepth 8000 in
theorem stampTy : KeyTy Tryz.prog 233 := by
  refine ⟨fun a b => by kernel_rfl, by kernel_rfl, ⟨_, Tryz.underlying233⟩, fun a em w => ?_⟩
  obtain ⟨s, n⟩ := a
  exact run_checkKey_pair em 9998 Tryz.underlying233 Tryz.underlying9 Tryz.underlying3 (by kernel_rfl) (by kernel_rfl)
theorem kind_dir {D : Dk} {p : List UInt8} (hh : D.has p = true) (hd : (D.at p).dir = true) : D.kind p = 1 := by unfold Dk.kind; rw [hh, if_pos rfl, hd, if_pos rfl]
theorem kind_file {D : Dk} {p : List UInt8} (hh : D.has p = true) (hd : (D.at p).dir = false) : D.kind p = 2 := by unfold Dk.kind; rw [hh, if_pos rfl, hd, if_neg (by decide)]
theorem look_nodeP (m : List (PK × Nd)) (k : PK) : lookVP (encN (0, [])) (mmapP encN m) k true = .tuple #[encN ((mgetP m k).getD (0, [])), .bool (mgetP m k).isSome] := by
  unfold lookVP
  rw [mget_mapP]
  cases mgetP m k <;> rfl
def FolC (q mb lb wb kb fb sb : Nat) (D : Dk) (v : List UInt8) (K : List (PK × Nd)) (p : List UInt8) : Prop :=
  ∀ (F : List (List UInt8 × Nd)) (S : List (List UInt8 × Int)) (r : Int) (w0 : World), InL w0 [dkC q mb lb D, .box wb 229 [.pointer (some ⟨q, 0, none⟩), str v, .map (some kb), .map (some fb), .map (some sb), .int .i64 r], mapCP kb (mmapP encN K), mapC fb (mmap encN F), mapC sb (mmap encI S)] → Cal Tryz.prog 167 [.pointer (some ⟨wb, 0, none⟩), str p] w0
    (fun v' w' => v' = .int .i64 0 ∧ ∃ G T r2, FolIs D v (fun y => belB p y = true) F G S T ∧ MutL w0 w' [dkC q mb lb D, .box wb 229 [.pointer (some ⟨q, 0, none⟩), str v, .map (some kb), .map (some fb), .map (some sb), .int .i64 r], mapCP kb (mmapP encN K), mapC fb (mmap encN F), mapC sb (mmap encI S)] [dkC q mb lb D, .box wb 229 [.pointer (some ⟨q, 0, none⟩), str v, .map (some kb), .map (some fb), .map (some sb), .int .i64 r2], mapCP kb (mmapP encN K), mapC fb (mmap encN G), mapC sb (mmap encI T)])
set_option maxRecDepth 8000 in
set_option maxHeartbeats 32000000 in
set_option maxRecDepth 100000 in
theorem folder_step {q mb lb wb kb fb sb n : Nat} {D : Dk} {v p : List UInt8} {K : List (PK × Nd)} (hw : DkW D) (hu : D.down = false) (hB : DkB n D) (hn : n ≤ 500000) (hv : VolOk v) (hK : KnownOk D v K) (hp : p = v ∨ belB v p = true)
    (ih : ∀ y ∈ D.list p, (D.at y).dir = true → FolC q mb lb wb kb fb sb D v K y) : FolC q mb lb wb kb fb sb D v K p := by
  intro F S r w0 hI
  have hpn : p ≠ [] := by
    rcases hp with rfl | hp
    · exact hv.ne
    · intro e
      obtain ⟨x, hx⟩ := bel_iff.1 hp
      rw [e] at hx
      exact absurd (congrArg List.length hx) (by simp)
  have hfol := fun y (hy : D.has y = true) => bel_iff_list (y := y) hw hpn hy
  have hmem : ∀ k (h : k < (D.list p).length), D.has (D.list p)[k] = true ∧ belB v (D.list p)[k] = true ∧ (D.list p)[k].length ≤ 1099511627 := fun k h => by
    have h1 := (mem_list.1 (List.getElem_mem h)).1
    have h2 := list_bel hw hpn (List.getElem_mem h)
    refine ⟨h1, ?_, ?_⟩
    · rcases hp with rfl | hp
      · exact h2
      · exact bel_trans hp h2
    · obtain ⟨x, hx⟩ := Option.isSome_iff_exists.1 h1
      exact hB.key _ (mget_mem hx)
  have hll : (D.list p).length ≤ 500000 := by
    unfold Dk.list
    rw [sortL_len]
    refine Nat.le_trans (List.length_filter_le _ _) ?_
    rw [List.length_map]; exact Nat.le_trans hB.len hn
  have hls := fun (w : World) (hI : InL w [dkC q mb lb D]) => dlist_c (q := q) (mb := mb) (lb := lb) p hI (Nat.le_trans hB.len (by omega)) hB.key
  generalize D.list p = L at *
  refine Cal.mkL hI (by kernel_rfl) Tryz.func167 rfl rfl fun hS => ?_
  repeat' (first | (show WL _ _ _ _ _ _ _; first | refine WL.pure rfl rfl rfl rfl ?_ | refine WL.nil ?_ | refine WL.load hS rfl rfl (LdOk.box Mm rfl) rfl rfl rfl ?_ | (refine WL.callL (D := [dkC q mb lb D]) hS Pu rfl rfl (fun hI => hls _ hI) rfl rfl rfl ?_; rintro v' w ⟨A, cap, rfl, hm⟩ hS; replace hS := hS _ hm; clear hm)) | (show WC _ _ _ _ _ _; first | refine WC.seq ?_ | refine WC.region ?_ | refine WC.block ?_) | refine seqQ_n ?_)
  replace hS := hS.droplast2 (D := [dkC q mb lb D, .box wb 229 [.pointer (some ⟨q, 0, none⟩), str v, .map (some kb), .map (some fb), .map (some sb), .int .i64 r], mapCP kb (mmapP encN K), mapC fb (mmap encN F), mapC sb (mmap encI S), .own (.slice A L.length cap) 9 1 L.length (strs L)]) Pu
  refine WC.loop (σ := Nat × List (List UInt8 × Nd) × List (List UInt8 × Int) × Int) [0, 18, 19] (fun (k, _) => [(20, .int .i64 (k : Int))])
    (fun (k, G, T, r2) w => (k ≤ L.length ∧ FolIs D v (fun y => ∃ z ∈ L.take k, y = z ∨ ((D.at z).dir = true ∧ belB z y = true)) F G S T) ∧ St w0 (fps [dkC q mb lb D, .box wb 229 [.pointer (some ⟨q, 0, none⟩), str v, .map (some kb), .map (some fb), .map (some sb), .int .i64 r], mapCP kb (mmapP encN K), mapC fb (mmap encN F), mapC sb (mmap encI S)]) w [dkC q mb lb D, .box wb 229 [.pointer (some ⟨q, 0, none⟩), str v, .map (some kb), .map (some fb), .map (some sb), .int .i64 r2], mapCP kb (mmapP encN K), mapC fb (mmap encN G), mapC sb (mmap encI T), .own (.slice A L.length cap) 9 1 L.length (strs L)] (ZL w0 [dkC q mb lb D, .box wb 229 [.pointer (some ⟨q, 0, none⟩), str v, .map (some kb), .map (some fb), .map (some sb), .int .i64 r], mapCP kb (mmapP encN K), mapC fb (mmap encN F), mapC sb (mmap encI S)]))
    (fun (k, _) => L.length - k) (0, F, S, r) ⟨⟨Nat.zero_le _, .none fun y ⟨z, hz, _⟩ => (by simp at hz)⟩, hS⟩ ⟨rfl, trivial⟩ ?_
  clear hS
  rintro ⟨k, G, T, r2⟩ g w ⟨⟨hk, hG⟩, hS⟩
  show WC _ _ _ (lf _ [(20, .int .i64 (k : Int))] _ _) _ _
  by_cases hlt : k < L.length
  · obtain ⟨g2, o2, rfl⟩ := own_some hS Mm (by omega)
    have hel : (strs L)[k * 1]? = some (str L[k]) := by rw [Nat.mul_one, strs_at hlt]
    obtain ⟨m1, m2, m3⟩ := hmem k hlt
    have hih := ih _ (List.getElem_mem hlt)
    have htk : ∀ (P2 : List UInt8 → Prop), (∀ y, P2 y ↔ (y = L[k] ∨ ((D.at L[k]).dir = true ∧ belB L[k] y = true))) → ∀ y, ((∃ z ∈ L.take k, y = z ∨ ((D.at z).dir = true ∧ belB z y = true)) ∨ P2 y) ↔ ∃ z ∈ L.take (k + 1), y = z ∨ ((D.at z).dir = true ∧ belB z y = true) := fun P2 h2 y => by
      rw [List.take_succ_eq_append_getElem hlt, h2]
      constructor
      · rintro (⟨z, h3, h4⟩ | h3)
        · exact ⟨z, List.mem_append_left _ h3, h4⟩
        · exact ⟨L[k], List.mem_append_right _ (List.mem_singleton.2 rfl), h3⟩
      · rintro ⟨z, h3, h4⟩
        rcases List.mem_append.1 h3 with h3 | h3
        · exact .inl ⟨z, h3, h4⟩
        · rw [List.mem_singleton.1 h3] at h4; exact .inr h4
    generalize L[k] = y at *
    obtain ⟨o, rfl⟩ := bel_iff.1 m2
    have hol : v.length + 1 ≤ (v ++ 47 :: o).length := by simp
    have hown : (v ++ 47 :: o).drop (v.length + 1) = o := ownP_app v o
    have hvl : v.length ≤ 1099511627 := by rw [List.length_append] at m3; omega
    cases hdir : (D.at (v ++ 47 :: o)).dir with
    | true =>
      have hkd := kind_dir m1 hdir
      repeat' (first | (show WL _ _ _ _ _ _ _; first | refine WL.pure rfl rfl rfl rfl ?_ | refine WL.nil ?_ | refine WL.load hS rfl rfl (LdOk.box Mm rfl) rfl rfl rfl ?_ | refine WL.add rfl rfl rfl (by omega) rfl rfl rfl ?_ | (refine WL.load hS rfl rfl (LdOk.ownAt Mm rfl ⟨_, rfl⟩ hel rfl) rfl rfl rfl ?_) | (refine WL.lowS rfl rfl rfl rfl hol rfl rfl rfl ?_; rw [hown]) | (refine WL.calls hS rfl rfl (dkind_c _ (hS.holds (dkC q mb lb D) Mm).1) rfl rfl rfl ?_; rintro v' w rfl hS; rw [hkd]) | (refine WL.mset (u := encN (1, [])) hS (.inl rfl) rfl rfl rfl rfl Rp rfl rfl ?_; clear hS; intro w hS; rw [mset_map] at hS) | (refine WL.callL (D := [dkC q mb lb D, .box wb 229 [.pointer (some ⟨q, 0, none⟩), str v, .map (some kb), .map (some fb), .map (some sb), .int .i64 r2], mapCP kb (mmapP encN K), mapC fb (mmap encN (mset G o (1, []))), mapC sb (mmap encI T)]) hS Pu rfl rfl (fun hI => hih hdir _ _ _ _ hI) rfl rfl rfl ?_; rintro v' w ⟨rfl, G2, T2, r3, hG2, hm⟩ hS; replace hS := hS _ hm; clear hm) | refine WL.index rfl rfl rfl rfl (by first | with_reducible assumption | omega) rfl rfl rfl rfl ?_ | refine WL.build rfl rfl rfl rfl rfl ?_) | (show WC _ _ _ _ _ _; first | refine WC.seq ?_ | refine WC.region ?_ | refine WC.block ?_ | refine WC.skip ?_ | refine WC.exit ?_ | refine WC.condT rfl (by decide) ?_ | refine WC.condF rfl (by decide) ?_ | refine WC.condT rfl (decide_eq_true (by first | with_reducible assumption | omega)) ?_) | refine seqQ_n ?_ | refine seqQ_x ?_ | refine blkQ_hit rfl ?_)
      exact rndQ_n (k + 1, G2, T2, r3) ⟨⟨hlt, (hG.step ((FolIs.dir hdir m1).step hG2)).congr fun y _ => htk (fun y => y = v ++ 47 :: o ∨ belB (v ++ 47 :: o) y = true) (fun y => by rw [hdir]; simp) y⟩, hS.droplast2 (D := [dkC q mb lb D, .box wb 229 [.pointer (some ⟨q, 0, none⟩), str v, .map (some kb), .map (some fb), .map (some sb), .int .i64 r3], mapCP kb (mmapP encN K), mapC fb (mmap encN G2), mapC sb (mmap encI T2), .own (.slice (some ⟨g2, o2, none⟩) L.length cap) 9 1 L.length (strs L)]) Pu⟩ (by show L.length - (k + 1) < L.length - k; omega) ⟨vint (by omega), trivial⟩ ⟨rfl, rfl, rfl, trivial⟩
    | false =>
      have hkd := kind_file m1 hdir
      have hds := fun (w : World) (h : DkIs q mb lb D w) => dstamp_c (v ++ 47 :: o) h
      have hrd := fun (w : World) (h : DkIs q mb lb D w) => dread_c (v ++ 47 :: o) h
      have hread : D.read (v ++ 47 :: o) = ((D.at (v ++ 47 :: o)).data, 0) := by
        unfold Dk.read
        rw [hu, if_neg (by decide), m1, if_neg (by decide), hdir, if_neg (by decide)]
      rw [hread] at hrd
      have hlk := look_nodeP K (o, (D.at (v ++ 47 :: o)).stamp)
      have hkk := fun nd (h : mgetP K (o, (D.at (v ++ 47 :: o)).stamp) = some nd) => hK o _ nd h m1 hdir rfl
      have hff : FolIs D v (fun y => y = v ++ 47 :: o) G (mset G o (2, (D.at (v ++ 47 :: o)).data)) T (mset T o (D.at (v ++ 47 :: o)).stamp) := FolIs.file hdir m1 rfl rfl
      have hfin := (hG.step hff).congr fun y _ => htk (fun y => y = v ++ 47 :: o) (fun y => by rw [hdir]; simp) y
      clear hff hread htk
      generalize (D.at (v ++ 47 :: o)).data = dat at *
      generalize (D.at (v ++ 47 :: o)).stamp = st at *
      obtain ⟨on, hon⟩ : ∃ on, mgetP K (o, st) = on := ⟨_, rfl⟩
      rw [hon] at hlk
      cases on with
      | none =>
        clear hkk
        replace hlk : lookVP (encN (0, [])) (mmapP encN K) (o, st) true = .tuple #[encN (0, []), .bool false] := hlk
        repeat' (first | (show WL _ _ _ _ _ _ _; first | refine WL.pure rfl rfl rfl rfl ?_ | refine WL.nil ?_ | refine WL.load hS rfl rfl (LdOk.box Mm rfl) rfl rfl rfl ?_ | refine WL.add rfl rfl rfl (by omega) rfl rfl rfl ?_ | (refine WL.load hS rfl rfl (LdOk.ownAt Mm rfl ⟨_, rfl⟩ hel rfl) rfl rfl rfl ?_) | (refine WL.lowS rfl rfl rfl rfl hol rfl rfl rfl ?_; rw [hown]) | (refine WL.calls hS rfl rfl (dkind_c _ (hS.holds (dkC q mb lb D) Mm).1) rfl rfl rfl ?_; rintro v' w rfl hS; rw [hkd]) | refine WL.index rfl rfl rfl rfl (by first | with_reducible assumption | omega) rfl rfl rfl rfl ?_) | (show WC _ _ _ _ _ _; first | refine WC.seq ?_ | refine WC.region ?_ | refine WC.block ?_ | refine WC.skip ?_ | refine WC.condF rfl (by decide) ?_ | refine WC.condT rfl (decide_eq_true (by first | with_reducible assumption | omega)) ?_) | refine seqQ_n ?_)
        refine WC.drawLP [] hS Pulls.nil [0,1,2,3,4,5,6,7,8,9,11,12,13,14,15,18] [0,1,2,3,4,5,6,7,8,9] (.two 10 [11,12,13,14,15,16,17,18] .nil 16 [10,11,12,13,14,15,17,18] .nil) (by kernel_rfl) (by kernel_rfl) ?_
        clear hS
        intro w hS hM
        repeat' (first | (show WL _ _ _ _ _ _ _; first | refine WL.pure rfl rfl rfl rfl ?_ | refine WL.nil ?_ | refine WL.load hS rfl rfl (LdOk.box Mm rfl) rfl rfl rfl ?_ | refine WL.add rfl rfl rfl (by omega) rfl rfl rfl ?_ | (refine WL.calls hS rfl rfl (hrd _ (hS.holds (dkC q mb lb D) Mm).1) rfl rfl rfl ?_; rintro v' w rfl hS) | (refine WL.addW (a := r2) rfl rfl rfl rfl rfl rfl ?_) | (refine WL.store hS rfl rfl rfl Sb rfl rfl rfl ?_; intro w hS) | refine WL.build rfl rfl rfl rfl rfl ?_) | (show WC _ _ _ _ _ _; first | refine WC.seq ?_ | refine WC.region ?_ | refine WC.skip ?_ | (show WC _ _ (Code.region _ (List.toArray [_, _, _, _, _, _, _, _, _, _, _, _, _, _, _, _, _, _, _, _, _, _, _]) true) _ _ _; refine WC.drawL [mapC fb (mmap encN G), mapC sb (mmap encI T)] hS Pu [0,1,2,3,4,5,6,7,8,9,10,11,12,13,14,15,18,21] [0,1,2,3,4,5,6,7,8,9,10,11,12,13,14,15,16,17,18,19,20,21,22] (by kernel_rfl) (by kernel_rfl) ?_; clear hS; intro w hS hM) | refine WC.condT rfl (by decide) ?_ | refine WC.condF rfl (decide_eq_false (by first | with_reducible assumption | omega)) ?_) | (show WD _ _ _ _ _ _ _ _ _; first | refine WD.pure rfl rfl rfl rfl rfl ?_ | refine WD.nil ?_ | refine WD.load rfl rfl (LdOk.box Mm rfl) rfl rfl rfl rfl ?_ | (refine WD.fork ?_ ?_) | (refine WD.calls hS hM rfl rfl (hds _ (hS.holds (dkC q mb lb D) Mm).1) rfl rfl rfl rfl rfl ?_; clear hS; rintro v' w rfl hS) | (refine WD.alloc hS hM rfl rfl rfl rfl rfl rfl rfl rfl ?_; clear hS hM; intro w nb hS hM) | (refine WD.mgetP (s := (o, st)) rfl rfl stampTy rfl rfl (.mk' Mm) hlk rfl rfl rfl rfl ?_) | (refine WD.store hS rfl rfl rfl Sb rfl (by first | exact .refl _ _ | exact .chunk (.refl _ _) _ | exact .chunk (.chunk (.refl _ _) _) _) rfl rfl rfl rfl ?_; clear hS hM; intro w hS hM) | (refine WD.mapEntry hS rfl rfl rfl rfl (fun n => Rp) (fun n => (by first | exact .refl _ _ | exact .chunk (.refl _ _) _ | exact .chunk (.chunk (.refl _ _) _) _)) rfl rfl rfl rfl rfl ?_; clear hS hM; intro w bn hS hM) | (refine WD.entryStore (u := encN (2, dat)) hS rfl rfl rfl rfl Rp (by first | exact .refl _ _ | exact .chunk (.refl _ _) _ | exact .chunk (.chunk (.refl _ _) _) _) rfl rfl rfl rfl ?_; clear hS hM; intro w hS hM; rw [mset_entM, mset_map] at hS hM) | (refine WD.entryStore (u := encI st) hS rfl rfl rfl rfl Rp (by first | exact .refl _ _ | exact .chunk (.refl _ _) _ | exact .chunk (.chunk (.refl _ _) _) _) rfl rfl rfl rfl ?_; clear hS hM; intro w hS hM; rw [mset_entM, mset_map] at hS hM) | refine WD.build rfl rfl rfl rfl rfl rfl ?_) | (refine WDo.calls hS hM rfl rfl (hds _ (hS.holds (dkC q mb lb D) Mm).1) rfl rfl rfl rfl ?_; clear hS; rintro v' w rfl hS) | (refine WDo.alloc hS hM rfl rfl rfl rfl rfl rfl rfl ?_; clear hS hM; intro w nb hS hM) | refine seqQ_n ?_ | refine blkQ_n ?_)
        all_goals exact rndQ_n (k + 1, mset G o (2, dat), mset T o st, (IntKind.i64.wrap (r2 + 1))) ⟨⟨hlt, hfin⟩, hS.droplast2 (D := [dkC q mb lb D, .box wb 229 [.pointer (some ⟨q, 0, none⟩), str v, .map (some kb), .map (some fb), .map (some sb), .int .i64 (IntKind.i64.wrap (r2 + 1))], mapCP kb (mmapP encN K), mapC fb (mmap encN (mset G o (2, dat))), mapC sb (mmap encI (mset T o st)), .own (.slice (some ⟨g2, o2, none⟩) L.length cap) 9 1 L.length (strs L)]) Pu⟩ (by show L.length - (k + 1) < L.length - k; omega) ⟨vint (by omega), trivial⟩ ⟨rfl, rfl, rfl, trivial⟩
      | some nd =>
        obtain rfl := hkk nd hon
        clear hkk
        replace hlk : lookVP (encN (0, [])) (mmapP encN K) (o, st) true = .tuple #[encN (2, dat), .bool true] := hlk
        repeat' (first | (show WL _ _ _ _ _ _ _; first | refine WL.pure rfl rfl rfl rfl ?_ | refine WL.nil ?_ | refine WL.load hS rfl rfl (LdOk.box Mm rfl) rfl rfl rfl ?_ | refine WL.add rfl rfl rfl (by omega) rfl rfl rfl ?_ | (refine WL.load hS rfl rfl (LdOk.ownAt Mm rfl ⟨_, rfl⟩ hel rfl) rfl rfl rfl ?_) | (refine WL.lowS rfl rfl rfl rfl hol rfl rfl rfl ?_; rw [hown]) | (refine WL.calls hS rfl rfl (dkind_c _ (hS.holds (dkC q mb lb D) Mm).1) rfl rfl rfl ?_; rintro v' w rfl hS; rw [hkd]) | refine WL.index rfl rfl rfl rfl (by first | with_reducible assumption | omega) rfl rfl rfl rfl ?_) | (show WC _ _ _ _ _ _; first | refine WC.seq ?_ | refine WC.region ?_ | refine WC.block ?_ | refine WC.skip ?_ | refine WC.condF rfl (by decide) ?_ | refine WC.condT rfl (decide_eq_true (by first | with_reducible assumption | omega)) ?_) | refine seqQ_n ?_)
        refine WC.drawLP [] hS Pulls.nil [0,1,2,3,4,5,6,7,8,9,11,12,13,14,15,18] [0,1,2,3,4,5,6,7,8,9] (.two 10 [11,12,13,14,15,16,17,18] .nil 16 [10,11,12,13,14,15,17,18] .nil) (by kernel_rfl) (by kernel_rfl) ?_
        clear hS
        intro w hS hM
        repeat' (first | (show WL _ _ _ _ _ _ _; first | refine WL.pure rfl rfl rfl rfl ?_ | refine WL.nil ?_ | refine WL.add rfl rfl rfl (by omega) rfl rfl rfl ?_) | (show WC _ _ _ _ _ _; first | refine WC.seq ?_ | refine WC.region ?_ | refine WC.skip ?_ | (show WC _ _ (Code.region _ (List.toArray [_, _, _, _, _, _, _, _, _, _, _, _, _, _, _, _, _, _, _, _, _, _, _]) true) _ _ _; refine WC.drawL [mapC fb (mmap encN G), mapC sb (mmap encI T)] hS Pu [0,1,2,3,4,5,6,7,8,9,10,11,12,13,14,15,18,21] [0,1,2,3,4,5,6,7,8,9,10,11,12,13,14,15,16,17,18,19,20,21,22] (by kernel_rfl) (by kernel_rfl) ?_; clear hS; intro w hS hM) | refine WC.condF rfl (by decide) ?_) | (show WD _ _ _ _ _ _ _ _ _; first | refine WD.pure rfl rfl rfl rfl rfl ?_ | refine WD.nil ?_ | refine WD.load rfl rfl (LdOk.box Mm rfl) rfl rfl rfl rfl ?_ | (refine WD.fork ?_ ?_) | (refine WD.calls hS hM rfl rfl (hds _ (hS.holds (dkC q mb lb D) Mm).1) rfl rfl rfl rfl rfl ?_; clear hS; rintro v' w rfl hS) | (refine WD.alloc hS hM rfl rfl rfl rfl rfl rfl rfl rfl ?_; clear hS hM; intro w nb hS hM) | (refine WD.mgetP (s := (o, st)) rfl rfl stampTy rfl rfl (.mk' Mm) hlk rfl rfl rfl rfl ?_) | (refine WD.store hS rfl rfl rfl Sb rfl (by first | exact .refl _ _ | exact .chunk (.refl _ _) _ | exact .chunk (.chunk (.refl _ _) _) _) rfl rfl rfl rfl ?_; clear hS hM; intro w hS hM) | (refine WD.mapEntry hS rfl rfl rfl rfl (fun n => Rp) (fun n => (by first | exact .refl _ _ | exact .chunk (.refl _ _) _ | exact .chunk (.chunk (.refl _ _) _) _)) rfl rfl rfl rfl rfl ?_; clear hS hM; intro w bn hS hM) | (refine WD.entryStore (u := encN (2, dat)) hS rfl rfl rfl rfl Rp (by first | exact .refl _ _ | exact .chunk (.refl _ _) _ | exact .chunk (.chunk (.refl _ _) _) _) rfl rfl rfl rfl ?_; clear hS hM; intro w hS hM; rw [mset_entM, mset_map] at hS hM) | (refine WD.entryStore (u := encI st) hS rfl rfl rfl rfl Rp (by first | exact .refl _ _ | exact .chunk (.refl _ _) _ | exact .chunk (.chunk (.refl _ _) _) _) rfl rfl rfl rfl ?_; clear hS hM; intro w hS hM; rw [mset_entM, mset_map] at hS hM) | refine WD.build rfl rfl rfl rfl rfl rfl ?_) | (refine WDo.calls hS hM rfl rfl (hds _ (hS.holds (dkC q mb lb D) Mm).1) rfl rfl rfl rfl ?_; clear hS; rintro v' w rfl hS) | (refine WDo.alloc hS hM rfl rfl rfl rfl rfl rfl rfl ?_; clear hS hM; intro w nb hS hM) | refine seqQ_n ?_ | refine blkQ_n ?_)
        all_goals exact rndQ_n (k + 1, mset G o (2, dat), mset T o st, r2) ⟨⟨hlt, hfin⟩, hS.droplast2 (D := [dkC q mb lb D, .box wb 229 [.pointer (some ⟨q, 0, none⟩), str v, .map (some kb), .map (some fb), .map (some sb), .int .i64 r2], mapCP kb (mmapP encN K), mapC fb (mmap encN (mset G o (2, dat))), mapC sb (mmap encI (mset T o st)), .own (.slice (some ⟨g2, o2, none⟩) L.length cap) 9 1 L.length (strs L)]) Pu⟩ (by show L.length - (k + 1) < L.length - k; omega) ⟨vint (by omega), trivial⟩ ⟨rfl, rfl, rfl, trivial⟩
  · have e : k = L.length := by omega
    subst e
    rw [List.take_length] at hG
    repeat' (first | (show WL _ _ _ _ _ _ _; first | refine WL.pure rfl rfl rfl rfl ?_ | refine WL.nil ?_) | (show WC _ _ _ _ _ _; first | refine WC.seq ?_ | refine WC.region ?_ | refine WC.exit ?_ | refine WC.ret ?_ | refine WC.condF rfl (decide_eq_false (by first | with_reducible assumption | omega)) ?_) | refine seqQ_n ?_ | refine seqQ_x ?_ | refine blkQ_hit rfl ?_ | refine rndQ_x ?_)
    exact fin1r rfl rfl ⟨rfl, G, T, r2, hG.congr fun y hy => (hfol y hy).symm, hS.mutLp Pu⟩
theorem folder_c {q mb lb wb kb fb sb n : Nat} {D : Dk} {v : List UInt8} {K : List (PK × Nd)} (hw : DkW D) (hu : D.down = false) (hB : DkB n D) (hn : n ≤ 500000) (hv : VolOk v) (hK : KnownOk D v K) :
    ∀ (m : Nat) (p : List UInt8), (p = v ∨ belB v p = true) → 6 - deepE p ≤ (m : Int) → FolC q mb lb wb kb fb sb D v K p := by
  have ne : ∀ p, (p = v ∨ belB v p = true) → p ≠ [] := fun p hp => by
    rcases hp with rfl | hp
    · exact hv.ne
    · intro e
      obtain ⟨x, hx⟩ := bel_iff.1 hp
      rw [e] at hx
      exact absurd (congrArg List.length hx) (by simp)
  intro m
  induction m with
  | zero =>
    intro p hp hm
    refine folder_step hw hu hB hn hv hK hp fun y hy _ => ?_
    have := list_deep hw (ne p hp) hy
    omega
  | succ m ihm =>
    intro p hp hm
    refine folder_step hw hu hB hn hv hK hp fun y hy _ => ihm y ?_ ?_
    · have h2 := list_bel hw (ne p hp) hy
      rcases hp with rfl | hp
      · exact .inr h2
      · exact .inr (bel_trans hp h2)
    · have := list_deep hw (ne p hp) hy
      omega
end Go.Proofs.YtccfiohagbneaaaGreatDoor

/- What is proved: 'slices.Sorted(maps.Keys(m))' gives the keys, rising. Conditions: the map is not nil, its keys and their number are bounded. -/
namespace Go.Proofs.YtccfiohagbneaaaGreatDoor
open Go Go.J Go.RowKit Go.Maps Go.Sort Go.Shelf
def keysNT : TypeId := Tryz.keysNL_ren.t 23
theorem mapsKeysN_c (mb : Nat) (w : World) : Cal Tryz.prog 168 [.map (some mb)] w fun v w' => v = .func (.func 198) ⟨[]⟩ ⟨[.pointer (some ⟨w.heap.size, 0, none⟩)]⟩ ∧ w' = w.alloc (.cells ⟨[.map (some mb)]⟩ keysNT) :=
  ⟨by kernel_rfl, (callsIn_wide.1 (AnyZ.keys_in Tryz.keysNL Fence.wide 5 trivial rfl (some mb) w)).mono fun e w' ⟨h1, h2⟩ => ⟨_, h1, rfl, h2⟩⟩
theorem mapsKeysN_n (mb : Nat) (w : World) : Cal Tryz.prog 168 [.map (some mb)] w fun v w' => ∃ x, v = .func (.func 198) ⟨[]⟩ ⟨[.pointer (some ⟨x, 0, none⟩)]⟩ ∧ Upd [] w w' ∧ New w w' (.box x keysNT [.map (some mb)]) :=
  (mapsKeysN_c mb w).mono fun v w' ⟨h1, h2⟩ => by
    subst h2
    have hh := heap_alloc_new w (.cells ⟨[.map (some mb)]⟩ keysNT)
    exact ⟨_, h1, .alloc _ _ _, ⟨hh, fun b hb => by simp [Chunk.fp] at hb; subst hb; simp⟩⟩
theorem sortedN_c {x mb : Nat} {m : KV} {w : World} (hx : w.heap[x]? = some (.cells ⟨[.map (some mb)]⟩ keysNT (0, 0))) (hm : MapIs mb m w) (hl : m.length ≤ 1048576) (hkl : ∀ p ∈ m, p.1.length ≤ 1099511627776) :
    Cal Tryz.prog 75 [.func (.func 198) ⟨[]⟩ ⟨[.pointer (some ⟨x, 0, none⟩)]⟩] w fun v w' => Upd [] w w' ∧ ∃ A cap, v = .slice A m.length cap ∧
      New w w' (.own (.slice A m.length cap) 9 1 m.length (strs ((m.map Prod.fst).mergeSort (fun x y => decide (x ≤ y))))) := by
  have hmx : m.length ≤ maxLen := by unfold maxLen; omega
  obtain ⟨D0, hown, hperm, hsz⟩ := own_of_map Tryz.underlying9 hm hmx (fun p hp => by have := hkl p hp; unfold maxLen; omega)
  have hxl : x < w.heap.size := (Array.getElem?_eq_some_iff.1 hx).1
  have hseq : SeqGives Fence.wide 2 Tryz.prog 198 #[.pointer (some ⟨x, 0, none⟩)] encStr (fun ss => ss.Perm (strKeys D0)) (Maps.size D0) w :=
    AnyZ.keys_gives (ρ := Tryz.keysNL_ren) { Tryz.keysNL with } Fence.wide _ trivial rfl (by omega) x mb m.length D0 _ hxl (by rw [cell_of_row w x 0 _ _ _ hx]; rfl) hown
  have cS := AnyZ.sorted_in Tryz.sortedL Fence.wide 5 trivial trivial trivial trivial rfl (by omega) (sortsL _) (enters_of Tryz.func138 (by kernel_rfl) rfl) 198 #[.pointer (some ⟨x, 0, none⟩)] trivial (enters_of Tryz.func198 (by kernel_rfl) rfl) _ _ (by rw [hsz]; exact hmx) (by rw [hsz]; omega) _ hseq
  change CallsIn _ _ Tryz.prog 75 _ _ _ at cS
  refine ⟨by kernel_rfl, (callsIn_wide.1 cS).mono fun e w' ⟨v, ss, he, hS, hrow, hnil, hb⟩ => ⟨v, he, .of_below hb, ?_⟩⟩
  have hp : ss.Perm (m.map Prod.fst) := hS.trans hperm
  have hlen : ss.length = m.length := by rw [hp.length_eq, List.length_map]
  have hms : ss.mergeSort (fun x y => decide (x ≤ y)) = (m.map Prod.fst).mergeSort (fun x y => decide (x ≤ y)) := mergeSort_of_perm hp
  rw [hms, hlen] at hrow
  have hst : ((m.map Prod.fst).mergeSort (fun x y => decide (x ≤ y))).map encStr = strs ((m.map Prod.fst).mergeSort (fun x y => decide (x ≤ y))) := by
    generalize (m.map Prod.fst).mergeSort (fun x y => decide (x ≤ y)) = l
    induction l with
    | nil => rfl
    | cons a l ih => simp only [List.map_cons, ih]; rfl
  rw [hst] at hrow
  have hrow' := hrow
  rcases hrow.2 with ⟨rfl, hz⟩ | ⟨g, cap, cur, rfl, hg, hh, _⟩
  · refine ⟨none, 0, by rw [hz], ⟨?_, fun b hb => by simp [Chunk.fp, Value.ownBlock] at hb⟩⟩
    have := RowAt.of_owns hrow
    rwa [hz] at this ⊢
  · exact ⟨_, _, rfl, ⟨RowAt.of_owns hrow', fun b hb => by
      simp [Chunk.fp, Value.ownBlock] at hb
      subst hb
      exact ⟨hg, (Array.getElem?_eq_some_iff.1 hh).1⟩⟩⟩
end Go.Proofs.YtccfiohagbneaaaGreatDoor

/- What is proved: what scanning a volume answers: its tree, what is seen now. Conditions: as for the walk. -/
namespace Go.Proofs.YtccfiohagbneaaaGreatDoor
open Go Go.J Go.RowKit
structure Sn where
  path : List UInt8
  stamp : Int
  kind : Int
  data : List UInt8
instance : Inhabited Sn := ⟨⟨[], 0, 0, []⟩⟩
def encSn (s : Sn) : List Value := [str s.path, .int .i64 s.stamp, .int .i64 s.kind, str s.data]
def cSn : Cod Sn := .flat encSn 4 fun _ => rfl
def SeenOk (D : Dk) (v : List UInt8) (l : List Sn) : Prop := ∀ s ∈ l, s.kind = 2 → D.has (v ++ 47 :: s.path) = true → (D.at (v ++ 47 :: s.path)).dir = false → (D.at (v ++ 47 :: s.path)).stamp = s.stamp → s.data = (D.at (v ++ 47 :: s.path)).data
structure NowIs (D : Dk) (v : List UInt8) (l : List Sn) : Prop where
  ents : l.map (fun s => (⟨s.path, s.kind, s.data⟩ : Ent)) = walkE D v
  st : ∀ s ∈ l, s.kind = 2 → s.stamp = (D.at (v ++ 47 :: s.path)).stamp
def knownE (l : List Sn) : List (PK × Nd) := l.foldl (fun K s => if s.kind = 2 then msetP K (s.path, s.stamp) (s.kind, s.data) else K) []
theorem known_snoc (l : List Sn) (s : Sn) : knownE (l ++ [s]) = if s.kind = 2 then msetP (knownE l) (s.path, s.stamp) (s.kind, s.data) else knownE l := by unfold knownE; rw [List.foldl_append]; rfl
theorem known_mem (l : List Sn) : ∀ o n nd, mgetP (knownE l) (o, n) = some nd → ∃ s ∈ l, s.kind = 2 ∧ s.path = o ∧ s.stamp = n ∧ nd = (2, s.data) := by
  refine snoc_ind (P := fun l => ∀ o n nd, mgetP (knownE l) (o, n) = some nd → ∃ s ∈ l, s.kind = 2 ∧ s.path = o ∧ s.stamp = n ∧ nd = (2, s.data)) ?_ (fun l s ih => ?_) l
  · intro o n nd h; cases h
  · intro o n nd h
    rw [known_snoc] at h
    split at h
    · rename_i hk
      rw [mget_setP] at h
      split at h
      · rename_i e
        simp only [Prod.mk.injEq] at e
        refine ⟨s, by simp, hk, e.1.symm, e.2.symm, ?_⟩
        rw [← Option.some.inj h, hk]
      · obtain ⟨x, h1, h2⟩ := ih o n nd h
        exact ⟨x, List.mem_append_left _ h1, h2⟩
    · obtain ⟨x, h1, h2⟩ := ih o n nd h
      exact ⟨x, List.mem_append_left _ h1, h2⟩
theorem known_ok {D : Dk} {v : List UInt8} {l : List Sn} (h : SeenOk D v l) : KnownOk D v (knownE l) := by
  intro o n nd hk h1 h2 h3
  obtain ⟨s, hs, k2, rfl, rfl, rfl⟩ := known_mem l o n nd hk
  rw [h s hs k2 h1 h2 h3]
section
variable {D : Dk} {v : List UInt8} {F : List (List UInt8 × Nd)} {S : List (List UInt8 × Int)}
theorem found_keys (hv : v ≠ []) (h : FolIs D v (fun y => belB v y = true) [] F [] S) (hn : (F.map Prod.fst).Nodup) (hd : (D.items.map Prod.fst).Nodup) : keysE F = ownsE D v := by
  have hp : (F.map Prod.fst).Perm ((D.belows v).map (ownP v)) := by
    refine (List.perm_ext_iff_of_nodup hn ?_).2 fun q => ?_
    · have := owns_nodup (v := v) hd
      unfold ownsE at this
      exact (List.mergeSort_perm _ _).nodup_iff.1 this
    · have h1 : q ∈ (D.belows v).map (ownP v) ↔ D.has (v ++ 47 :: q) = true := by
        rw [← mem_owns (D := D) (v := v)]
        exact (List.mergeSort_perm _ _).mem_iff.symm
      rw [h1]
      constructor
      · intro hm
        refine Classical.byContradiction fun hno => ?_
        have := h.f0 q fun hh => hno hh.2
        exact mget_none.1 this hm
      · intro hh
        have := h.f1 q (bel_app _ _) hh
        refine Classical.byContradiction fun hno => ?_
        rw [mget_none.2 hno] at this; cases this
  unfold keysE ownsE
  exact sort_perm' hp
theorem found_look (h : FolIs D v (fun y => belB v y = true) [] F [] S) {q : List UInt8} (hq : q ∈ ownsE D v) : lookV (encN (0, [])) (mmap encN F) q false = encN (nodeD D v q) := by
  have := h.f1 q (bel_app _ _) (mem_owns.1 hq)
  unfold lookV
  rw [mget_map, this]
  rfl
theorem stamp_look (S : List (List UInt8 × Int)) (q : List UInt8) : lookV (encI 0) (mmap encI S) q false = .int .i64 ((mget S q).getD 0) := by
  unfold lookV
  rw [mget_map]
  cases mget S q <;> rfl
def snOf (D : Dk) (v : List UInt8) (S : List (List UInt8 × Int)) (q : List UInt8) : Sn := ⟨q, (mget S q).getD 0, (nodeD D v q).1, (nodeD D v q).2⟩
theorem now_is (h : FolIs D v (fun y => belB v y = true) [] F [] S) : NowIs D v ((ownsE D v).map (snOf D v S)) := by
  refine ⟨by rw [List.map_map]; rfl, fun s hs hk => ?_⟩
  obtain ⟨q, hq, rfl⟩ := List.mem_map.1 hs
  have hh := mem_owns.1 hq
  have hk : (nodeD D v q).1 = 2 := hk
  have hd : (D.at (v ++ 47 :: q)).dir = false := by
    cases e : (D.at (v ++ 47 :: q)).dir with
    | false => rfl
    | true => rw [show (nodeD D v q).1 = 1 from dir_kind.1 e] at hk; cases hk
  have := h.s1 q (bel_app _ _) hh hd
  show (mget S q).getD 0 = _
  rw [this]; rfl
end
abbrev snC (A : Option Addr) (c : Nat) (s : List Sn) : Chunk := .own (.slice A s.length c) 231 4 s.length (s.flatMap encSn)
theorem snC_snoc {A : Option Addr} {c : Nat} {s : List Sn} {e : Sn} : Chunk.own (.slice A (s.length + 1) c) 231 4 (s.length + 1) (s.flatMap encSn ++ encSn e) = snC A c (s ++ [e]) := by
  unfold snC
  rw [List.flatMap_append, List.length_append]
  rfl
set_option maxRecDepth 8000 in
set_option maxHeartbeats 32000000 in
set_option maxRecDepth 100000 in
theorem scan_c {q mb lb n : Nat} {D : Dk} {v : List UInt8} {A : Option Addr} {cap : Nat} {seen : List Sn} {w0 : World} (hI : InL w0 [dkC q mb lb D]) (hA : SlAt cSn (fun b => b < w0.heap.size ∧ b ∉ fps [dkC q mb lb D]) w0 A seen) (hl : seen.length ≤ 1048576) (hse : SeenOk D v seen)
    (hw : DkW D) (hu : D.down = false) (hB : DkB n D) (hn : n ≤ 500000) (hv : VolOk v) (hd : (D.at v).dir = true) :
    Cal Tryz.prog 117 [.pointer (some ⟨q, 0, none⟩), str v, .slice A seen.length cap] w0
      (fun v' w' => ∃ AT ct AN cn nl r, NowIs D v nl ∧ v' = .tuple #[.slice AT (walkE D v).length ct, .slice AN nl.length cn, .int .i64 r, .int .i64 0] ∧ MutL w0 w' [dkC q mb lb D] [dkC q mb lb D, eC AT ct (walkE D v), snC AN cn nl]) := by
  refine Cal.mkL hI (by kernel_rfl) Tryz.func117 rfl rfl fun hS => ?_
  obtain ⟨v1, v2, v3⟩ := vol_self hv
  have hvl : v.length ≤ 12 := by
    have := hv.name
    unfold nameB at this
    rw [Bool.and_eq_true] at this
    exact (of_decide_eq_true this.1).2
  have hpc := fun w => pcheck_c v 1 w (by omega)
  rw [v2] at hpc
  have hhas : D.has v = true := by
    rw [Dk.at_get] at hd
    rw [Dk.has_get]
    cases hg : D.get v with
    | none => rw [hg] at hd; cases hd
    | some x => rfl
  have hkd := kind_dir hhas hd
  have hdn := fun (w : World) (h : DkIs q mb lb D w) => ddown_c h
  rw [hu] at hdn
  clear v1 v2 v3
  repeat' (first | (show WL _ _ _ _ _ _ _; first | refine WL.pure rfl rfl rfl rfl ?_ | refine WL.nil ?_ | (refine WL.calls hS rfl rfl (hpc _) rfl rfl rfl ?_; rintro v' w rfl hS) | (refine WL.calls hS rfl rfl (hdn _ (hS.holds (dkC q mb lb D) Mm).1) rfl rfl rfl ?_; rintro v' w rfl hS) | (refine WL.calls hS rfl rfl (dkind_c v (hS.holds (dkC q mb lb D) Mm).1) rfl rfl rfl ?_; rintro v' w rfl hS; rw [hkd]) | (refine WL.mmakeP hS rfl rfl stampTy rfl rfl rfl ?_; intro w kb hS) | (refine WL.mmake (t := 227) hS rfl rfl rfl rfl rfl ?_; intro w fb hS) | (refine WL.mmake (t := 120) hS rfl rfl rfl rfl rfl ?_; intro w sb hS) | (refine WL.store hS rfl rfl rfl Sb rfl rfl rfl ?_; intro w hS) | (refine WL.alloc hS rfl rfl rfl rfl rfl rfl ?_; intro w b hS) | refine WL.build rfl rfl rfl rfl rfl ?_) | (show WC _ _ _ _ _ _; first | refine WC.seq ?_ | refine WC.region ?_ | refine WC.block ?_ | refine WC.skip ?_ | refine WC.condF rfl (by with_reducible rfl) ?_ | refine WC.condF rfl (by decide) ?_) | refine seqQ_n ?_)
  obtain ⟨wb, hwb⟩ : ∃ wb, wb = b := ⟨_, rfl⟩
  subst hwb
  clear hpc hdn
  replace hS := hS.droplast2 (D := [dkC q mb lb D, .box wb 229 [.pointer (some ⟨q, 0, none⟩), str v, .map (some kb), .map (some fb), .map (some sb), .int .i64 0], mapCP kb (mmapP encN (knownE (seen.take 0))), mapC fb (mmap encN []), mapC sb (mmap encI [])]) Pu
  refine WC.loop (σ := Nat) [1, 6, 7, 10, 33, 34] (fun k => [(35, .int .i64 (k : Int))])
    (fun k w => k ≤ seen.length ∧ St w0 (fps [dkC q mb lb D]) w [dkC q mb lb D, .box wb 229 [.pointer (some ⟨q, 0, none⟩), str v, .map (some kb), .map (some fb), .map (some sb), .int .i64 0], mapCP kb (mmapP encN (knownE (seen.take k))), mapC fb (mmap encN []), mapC sb (mmap encI [])] (ZL w0 [dkC q mb lb D]))
    (fun k => seen.length - k) 0 ⟨Nat.zero_le _, hS⟩ ⟨rfl, trivial⟩ ?_
  clear hS
  rintro k g w ⟨hk, hS⟩
  show WC _ _ _ (lf _ [(35, .int .i64 (k : Int))] _ _) _ _
  by_cases hlt : k < seen.length
  · obtain ⟨rb, ro, es, rfl, hF, hrr, hes⟩ := hA.at_ hlt
    have hes : es = encSn seen[k] := hes
    subst hes
    have hrr : w0.rangeAt rb (ro + k * 4) (encSn seen[k]) := hrr
    have hks := known_snoc (seen.take k) seen[k]
    rw [← List.take_succ_eq_append_getElem hlt] at hks
    generalize seen[k] = x at *
    obtain ⟨xp, xs, xk, xd⟩ := x
    dsimp only at hks
    by_cases hx : xk = 2
    · rw [if_pos hx] at hks
      repeat' (first | (show WL _ _ _ _ _ _ _; first | refine WL.pure rfl rfl rfl rfl ?_ | refine WL.nil ?_ | refine WL.load hS rfl rfl (LdOk.box Mm rfl) rfl rfl rfl ?_ | refine WL.add rfl rfl rfl (by omega) rfl rfl rfl ?_ | (refine WL.load hS rfl rfl (LdOk.snap0 hF hrr Mm rfl) rfl rfl rfl ?_) | (refine WL.msetP (s := (xp, xs)) (u := encN (xk, xd)) hS (.inl rfl) rfl stampTy rfl rfl rfl Rp rfl rfl ?_; clear hS; intro w hS; rw [mset_mapP, ← hks] at hS) | (refine WL.store hS rfl rfl rfl Sb rfl rfl rfl ?_; intro w hS) | (refine WL.alloc hS rfl rfl rfl rfl rfl rfl ?_; intro w b hS) | refine WL.index rfl rfl rfl rfl (by first | with_reducible assumption | omega) rfl rfl rfl rfl ?_ | refine WL.build rfl rfl rfl rfl rfl ?_) | (show WC _ _ _ _ _ _; first | refine WC.seq ?_ | refine WC.region ?_ | refine WC.block ?_ | refine WC.skip ?_ | refine WC.condT rfl (decide_eq_true (by first | with_reducible assumption | omega)) ?_) | refine seqQ_n ?_ | refine blkQ_n ?_)
      exact rndQ_n (k + 1) ⟨hlt, hS.droplast2 Pu⟩ (by show seen.length - (k + 1) < seen.length - k; omega) ⟨vint (by omega), trivial⟩ ⟨rfl, rfl, rfl, rfl, rfl, rfl, trivial⟩
    · rw [if_neg hx] at hks
      repeat' (first | (show WL _ _ _ _ _ _ _; first | refine WL.pure rfl rfl rfl rfl ?_ | refine WL.nil ?_ | refine WL.load hS rfl rfl (LdOk.box Mm rfl) rfl rfl rfl ?_ | refine WL.add rfl rfl rfl (by omega) rfl rfl rfl ?_ | (refine WL.load hS rfl rfl (LdOk.snap0 hF hrr Mm rfl) rfl rfl rfl ?_) | (refine WL.store hS rfl rfl rfl Sb rfl rfl rfl ?_; intro w hS) | (refine WL.alloc hS rfl rfl rfl rfl rfl rfl ?_; intro w b hS) | refine WL.index rfl rfl rfl rfl (by first | with_reducible assumption | omega) rfl rfl rfl rfl ?_) | (show WC _ _ _ _ _ _; first | refine WC.seq ?_ | refine WC.region ?_ | refine WC.block ?_ | refine WC.skip ?_ | refine WC.condT rfl (decide_eq_true (by first | with_reducible assumption | omega)) ?_ | refine WC.condF rfl (decide_eq_false (by first | with_reducible assumption | omega)) ?_) | refine seqQ_n ?_ | refine blkQ_n ?_)
      exact rndQ_n (k + 1) ⟨hlt, by rw [hks]; exact hS.droplast2 Pu⟩ (by show seen.length - (k + 1) < seen.length - k; omega) ⟨vint (by omega), trivial⟩ ⟨rfl, rfl, rfl, rfl, rfl, rfl, trivial⟩
  · have e : k = seen.length := by omega
    subst e
    rw [List.take_length] at hS
    have hko := known_ok hse
    generalize knownE seen = K at *
    have hfo := folder_c (q := q) (mb := mb) (lb := lb) (wb := wb) (kb := kb) (fb := fb) (sb := sb) hw hu hB hn hv hko 6 v (.inl rfl) (by have := deep_ge hv.ne; omega)
    repeat' (first | (show WL _ _ _ _ _ _ _; first | refine WL.pure rfl rfl rfl rfl ?_ | refine WL.nil ?_ | refine WL.load hS rfl rfl (LdOk.box Mm rfl) rfl rfl rfl ?_ | (refine WL.callL (D := [dkC q mb lb D, .box wb 229 [.pointer (some ⟨q, 0, none⟩), str v, .map (some kb), .map (some fb), .map (some sb), .int .i64 0], mapCP kb (mmapP encN K), mapC fb (mmap encN []), mapC sb (mmap encI [])]) hS Pu rfl rfl (fun hI => hfo _ _ _ _ hI) rfl rfl rfl ?_; rintro v' w ⟨rfl, F, S, r, hF, hm⟩ hS; replace hS := hS _ hm; clear hm)) | (show WC _ _ _ _ _ _; first | refine WC.seq ?_ | refine WC.region ?_ | refine WC.skip ?_ | refine WC.exit ?_ | refine WC.condF rfl (by decide) ?_ | refine WC.condF rfl (decide_eq_false (by first | with_reducible assumption | omega)) ?_) | refine seqQ_n ?_ | refine seqQ_x ?_ | refine blkQ_hit rfl ?_ | refine rndQ_x ?_)
    have hnd : (F.map Prod.fst).Nodup := by
      have := (hS.holds (mapC fb (mmap encN F)) Mm).1.1
      rwa [show (mmap encN F).map Prod.fst = F.map Prod.fst by unfold mmap; rw [List.map_map]; rfl] at this
    have hks := found_keys hv.ne hF hnd hw.nd
    have hon : (ownsE D v).length ≤ 500000 := by
      unfold ownsE
      rw [sortL_len, List.length_map]
      unfold Dk.belows
      refine Nat.le_trans (List.length_filter_le _ _) ?_
      rw [List.length_map]; exact Nat.le_trans hB.len hn
    have hFl : F.length = (ownsE D v).length := by rw [← hks, keysE_len]
    have hkl : ∀ x ∈ F, x.1.length ≤ 1099511627776 := fun x hx => by
      have h1 : x.1 ∈ ownsE D v := by
        rw [← hks]
        exact (List.mergeSort_perm _ _).mem_iff.2 (List.mem_map_of_mem hx)
      obtain ⟨y, hy⟩ := Option.isSome_iff_exists.1 (mem_owns.1 h1)
      have h2 := hB.key _ (mget_mem hy)
      dsimp only at h2
      rw [List.length_append, List.length_cons] at h2
      omega
    have hsk : ∀ w0 x, w0.heap[x]? = some (.cells ⟨[.map (some fb)]⟩ keysNT (0, 0)) → MapIs fb (mmap encN F) w0 → Cal Tryz.prog 75 [.func (.func 198) ⟨[]⟩ ⟨[.pointer (some ⟨x, 0, none⟩)]⟩] w0 fun v' w' => Upd [] w0 w' ∧ ∃ A cap, v' = .slice A (ownsE D v).length cap ∧
        New w0 w' (.own (.slice A (ownsE D v).length cap) 9 1 (ownsE D v).length (strs (ownsE D v))) := fun w0 x hx hm => by
      have h := sortedN_c hx hm (by unfold mmap; rw [List.length_map]; omega) (fun p hp => by
        obtain ⟨y, hy, rfl⟩ := List.mem_map.1 hp
        exact hkl y hy)
      have e1 : (mmap encN F).map Prod.fst = F.map Prod.fst := by unfold mmap; rw [List.map_map]; rfl
      have e2 : (mmap encN F).length = (ownsE D v).length := by unfold mmap; rw [List.length_map]; exact hFl
      rw [e1, e2] at h
      rw [← hks] at h ⊢
      exact h
    have hlook : ∀ j (h : j < (ownsE D v).length), lookV (encN (0, [])) (mmap encN F) (ownsE D v)[j] false = encN (nodeD D v (ownsE D v)[j]) := fun j h => found_look hF (List.getElem_mem h)
    have hnow := now_is hF
    have hwk : walkE D v = (ownsE D v).map (entD D v) := rfl
    rw [hwk]
    clear hks hFl hkl hnd hF hfo hko hlt hk hwk
    generalize ownsE D v = ks at *
    repeat' (first | (show WL _ _ _ _ _ _ _; first | refine WL.pure rfl rfl rfl rfl ?_ | refine WL.nil ?_ | (refine WL.callG rfl rfl (mapsKeysN_n fb _) rfl rfl rfl ?_; rintro v' w ⟨x, rfl, hup, hnew⟩; have hS := hS.new hup hnew; clear hup hnew) | (refine WL.callG rfl rfl (hsk _ _ (hS.holds _ (List.Mem.head _)) (hS.holds (mapC fb (mmap encN F)) Mm).1) rfl rfl rfl ?_; rintro v' w ⟨hup, AK, ck, rfl, hnew⟩; have hS := hS.new hup hnew; clear hup hnew)) | (show WC _ _ _ _ _ _; first | refine WC.block ?_) | refine seqQ_n ?_)
    clear hsk
    replace hS := (hS.nilRow 165 3).nilRow 231 4
    replace hS := hS.droplast2 (D := [eC none 0 [], snC none 0 [], dkC q mb lb D, .box wb 229 [.pointer (some ⟨q, 0, none⟩), str v, .map (some kb), .map (some fb), .map (some sb), .int .i64 r], mapC fb (mmap encN F), mapC sb (mmap encI S), .own (.slice AK ks.length ck) 9 1 ks.length (strs ks)]) Pu
    refine WC.loop (σ := Nat × List Ent × List Sn × Option Addr × Nat × Option Addr × Nat) [10, 61, 62] (fun (j, tl, nl, AT, ct, AN, cn) => [(6, .slice AT tl.length ct), (7, .slice AN nl.length cn), (63, .int .i64 (j : Int))])
      (fun (j, tl, nl, AT, ct, AN, cn) w => (j ≤ ks.length ∧ tl = (ks.take j).map (entD D v) ∧ nl = (ks.take j).map (snOf D v S) ∧ tl.length = j ∧ nl.length = j) ∧ St w0 (fps [dkC q mb lb D]) w [eC AT ct tl, snC AN cn nl, dkC q mb lb D, .box wb 229 [.pointer (some ⟨q, 0, none⟩), str v, .map (some kb), .map (some fb), .map (some sb), .int .i64 r], mapC fb (mmap encN F), mapC sb (mmap encI S), .own (.slice AK ks.length ck) 9 1 ks.length (strs ks)] (ZL w0 [dkC q mb lb D]))
      (fun (j, _) => ks.length - j) (0, [], [], none, 0, none, 0) ⟨⟨Nat.zero_le _, rfl, rfl, rfl, rfl⟩, hS⟩ ⟨rfl, rfl, rfl, trivial⟩ ?_
    clear hS
    rintro ⟨j, tl, nl, AT, ct, AN, cn⟩ g w ⟨⟨hj, ht, hn2, htl, hnl⟩, hS⟩
    show WC _ _ _ (lf _ [(6, .slice AT tl.length ct), (7, .slice AN nl.length cn), (63, .int .i64 (j : Int))] _ _) _ _
    by_cases hjl : j < ks.length
    · obtain ⟨g2, o2, rfl⟩ := hS.own_addr (A := AK) (n := ks.length) Mm (by omega)
      have hel : (strs ks)[j * 1]? = some (str ks[j]) := by rw [Nat.mul_one, strs_at hjl]
      have hlf := hlook j hjl
      have hls := stamp_look S ks[j]
      have ht2 : (ks.take (j + 1)).map (entD D v) = tl ++ [⟨ks[j], (nodeD D v ks[j]).1, (nodeD D v ks[j]).2⟩] := by rw [List.take_succ_eq_append_getElem hjl, List.map_append, ht]; rfl
      have hn3 : (ks.take (j + 1)).map (snOf D v S) = nl ++ [⟨ks[j], (mget S ks[j]).getD 0, (nodeD D v ks[j]).1, (nodeD D v ks[j]).2⟩] := by rw [List.take_succ_eq_append_getElem hjl, List.map_append, hn2]; rfl
      generalize ks[j] = p at *
      generalize nodeD D v p = nd at *
      generalize (mget S p).getD 0 = st at *
      obtain ⟨nk, nda⟩ := nd
      dsimp only at ht2 hn3
      repeat' (first | (show WL _ _ _ _ _ _ _; first | refine WL.pure rfl rfl rfl rfl ?_ | refine WL.nil ?_ | refine WL.load hS rfl rfl (LdOk.box Mm rfl) rfl rfl rfl ?_ | refine WL.add rfl rfl rfl (by omega) rfl rfl rfl ?_ | (refine WL.load hS rfl rfl (LdOk.ownAt Mm rfl ⟨_, rfl⟩ hel rfl) rfl rfl rfl ?_) | (refine WL.mget hS rfl rfl rfl rfl (.mk' Mm) hlf rfl rfl rfl ?_) | (refine WL.mget hS rfl rfl rfl rfl (.mk' Mm) hls rfl rfl rfl ?_) | (refine WL.slit (t := 84) hS rfl rfl rfl rfl rfl ?_; intro w eb hS) | (refine WL.slit (t := 178) hS rfl rfl rfl rfl rfl ?_; intro w nb hS) | (refine WL.app (n := tl.length) (size := 3) hS rfl rfl rfl rfl (RdOk.box Mm) rfl rfl (fun A cap => Rp) (by omega) rfl rfl rfl ?_; intro A3 cap3 w hS) | (refine WL.app (n := nl.length) (size := 4) hS rfl rfl rfl rfl (RdOk.box Mm) rfl rfl (fun A cap => Rp) (by omega) rfl rfl rfl ?_; intro A4 cap4 w hS) | refine WL.index rfl rfl rfl rfl (by first | with_reducible assumption | omega) rfl rfl rfl rfl ?_ | refine WL.build rfl rfl rfl rfl rfl ?_) | (show WC _ _ _ _ _ _; first | refine WC.seq ?_ | refine WC.region ?_ | refine WC.block ?_ | refine WC.skip ?_ | refine WC.condT rfl (decide_eq_true (by first | with_reducible assumption | omega)) ?_) | refine seqQ_n ?_ | refine blkQ_n ?_)
      replace hS := hS.droplast2 (D := [.own (.slice A3 (tl.length + 1) cap3) 165 3 (tl.length + 1) (tl.flatMap encEnt ++ encEnt ⟨p, nk, nda⟩), .own (.slice A4 (nl.length + 1) cap4) 231 4 (nl.length + 1) (nl.flatMap encSn ++ encSn ⟨p, st, nk, nda⟩), dkC q mb lb D, .box wb 229 [.pointer (some ⟨q, 0, none⟩), str v, .map (some kb), .map (some fb), .map (some sb), .int .i64 r], mapC fb (mmap encN F), mapC sb (mmap encI S), .own (.slice (some ⟨g2, o2, none⟩) ks.length ck) 9 1 ks.length (strs ks)]) Pu
      rw [eC_snoc, snC_snoc] at hS
      exact rndQ_n (j + 1, tl ++ [⟨p, nk, nda⟩], nl ++ [⟨p, st, nk, nda⟩], A3, cap3, A4, cap4) ⟨⟨hjl, ht2.symm, hn3.symm, by simp [htl], by simp [hnl]⟩, hS⟩ (by show ks.length - (j + 1) < ks.length - j; omega) ⟨by rw [List.length_append]; rfl, by rw [List.length_append]; rfl, vint (by omega), trivial⟩ ⟨rfl, rfl, rfl, trivial⟩
    · have e : j = ks.length := by omega
      subst e
      rw [List.take_length] at ht hn2
      subst ht hn2
      repeat' (first | (show WL _ _ _ _ _ _ _; first | refine WL.pure rfl rfl rfl rfl ?_ | refine WL.nil ?_) | (show WC _ _ _ _ _ _; first | refine WC.seq ?_ | refine WC.region ?_ | refine WC.exit ?_ | refine WC.ret ?_ | (show WC _ _ (Code.region _ (List.toArray [_, _, _, _, _, _, _, _]) true) _ _ _; refine WC.drawS hS [0, 1, 2, 3, 4, 5, 6, 7] [0, 1, 2, 3, 4, 5, 6, 7] (by kernel_rfl) (by kernel_rfl) ?_; clear hS; intro w hS hM) | refine WC.condF rfl (decide_eq_false (by first | with_reducible assumption | omega)) ?_) | (show WD _ _ _ _ _ _ _ _ _; first | refine WD.pure rfl rfl rfl rfl rfl ?_ | refine WD.nil ?_ | refine WD.load rfl rfl (LdOk.box Mm rfl) rfl rfl rfl rfl ?_) | refine seqQ_n ?_ | refine seqQ_x ?_ | refine blkQ_hit rfl ?_ | refine rndQ_x ?_)
      exact fin4r rfl rfl rfl rfl rfl ⟨AT, ct, AN, cn, _, r, hnow, rfl, hS.mutLp Pu⟩
theorem SlAt.nil0 {α : Type} {c : Cod α} {F : Nat → Prop} {w : World} : SlAt c F w none ([] : List α) := fun i hi => absurd hi (Nat.not_lt_zero _)
set_option maxRecDepth 8000 in
set_option maxHeartbeats 4000000 in
set_option maxRecDepth 100000 in
theorem swalk_c {q mb lb n : Nat} {D : Dk} {v : List UInt8} {w0 : World} (hI : InL w0 [dkC q mb lb D]) (hw : DkW D) (hu : D.down = false) (hB : DkB n D) (hn : n ≤ 500000) (hv : VolOk v) (hd : (D.at v).dir = true) :
    Cal Tryz.prog 52 [.pointer (some ⟨q, 0, none⟩), str v] w0
      (fun v' w' => ∃ AT ct, v' = .tuple #[.slice AT (walkE D v).length ct, .int .i64 0] ∧ MutL w0 w' [dkC q mb lb D] [dkC q mb lb D, eC AT ct (walkE D v)]) := by
  refine Cal.mkL hI (by kernel_rfl) Tryz.func52 rfl rfl fun hS => ?_
  repeat' (first | (show WL _ _ _ _ _ _ _; first | refine WL.pure rfl rfl rfl rfl ?_ | refine WL.nil ?_ | (refine WL.callL (D := [dkC q mb lb D]) hS Pu rfl rfl (fun hI => scan_c (seen := []) (cap := 0) hI SlAt.nil0 (Nat.zero_le _) (fun s hs => by cases hs) hw hu hB hn hv hd) rfl rfl rfl ?_; rintro v' w ⟨AT, ct, AN, cn, nl, r, _, rfl, hm⟩ hS; replace hS := hS _ hm; clear hm)) | (show WC _ _ _ _ _ _; first | refine WC.seq ?_ | refine WC.region ?_ | refine WC.ret ?_) | refine seqQ_n ?_)
  exact fin2r rfl rfl rfl ⟨AT, ct, rfl, hS.mutLp Pu⟩
end Go.Proofs.YtccfiohagbneaaaGreatDoor

/- What is proved: disks of bounded contents stay so; what a new beginning leaves of a disk: plain. Conditions: as each names them. -/
namespace Go.Proofs.YtccfiohagbneaaaGreatDoor
open Go Go.J Go.RowKit
def KpX (B : Nat) (x : It) : Prop := x.data.length ≤ B ∧ x.kept.length ≤ B ∧ (x.loose = true → x.anew = false → x.kept.length ≤ x.data.length)
section
variable {D : Dk} {B : Nat} {p r s : List UInt8}
theorem Kp.of_at (h : D.Kp B) (p : List UInt8) : KpX B (D.at p) := h.at_ p
theorem Kp.same {D' : Dk} (h : D.Kp B) (e : D'.items = D.items) : D'.Kp B := fun x hx => h x (by rw [← e]; exact hx)
theorem Kp.stepK (h : D.Kp B) : D.step.Kp B := Kp.same h D.step_items
theorem Kp.put (h : D.Kp B) {x : It} (hx : KpX B x) {D' : Dk} (e : D'.items = mset D.items p x) : D'.Kp B := fun y hy => by
  rw [e] at hy
  rcases mset_inA hy with hy | hy
  · exact h y hy
  · rw [hy]; exact hx
theorem Kp.del (h : D.Kp B) : (D.del p).Kp B := fun y hy => h y ((mdel_sub _ _).subset hy)
theorem Kp.set (h : D.Kp B) {x : It} (hx : KpX B x) : (D.set p x).Kp B := Kp.put (x := { x with stamp := IntKind.i64.wrap (D.stamps + 1) }) h hx rfl
theorem Kp.mkdir (h : D.Kp B) : (D.mkdir p).2.Kp B := by
  unfold Dk.mkdir
  repeat' split
  all_goals first | exact h | exact Kp.stepK h | exact Kp.put (x := { It0 with dir := true }) (Kp.stepK h) ⟨Nat.zero_le _, Nat.zero_le _, fun _ _ => Nat.zero_le _⟩ rfl
theorem Kp.remove (h : D.Kp B) : (D.remove p).2.Kp B := by
  unfold Dk.remove
  repeat' split
  all_goals first | exact h | exact Kp.stepK h | exact Kp.del (Kp.stepK h)
theorem Kp.write (h : D.Kp B) (hs : s.length ≤ B) : (D.write p s).2.Kp B := by
  unfold Dk.write
  repeat' split
  all_goals first | exact h | exact Kp.stepK h | exact Kp.set (Kp.stepK h) ⟨hs, (Kp.of_at h p).2.1, fun _ h => Bool.noConfusion h⟩
theorem Kp.sync (h : D.Kp B) : (D.sync p).2.Kp B := by
  unfold Dk.sync
  repeat' split
  all_goals first | exact h | exact Kp.stepK h | exact Kp.put (x := { D.step.at p with kept := (D.step.at p).data, loose := false, anew := false }) (Kp.stepK h) ⟨(Kp.of_at (Kp.stepK h) p).1, (Kp.of_at (Kp.stepK h) p).1, fun h => Bool.noConfusion h⟩ rfl
theorem Kp.rename (h : D.Kp B) : (D.rename p r).2.Kp B := by
  unfold Dk.rename
  repeat' split
  all_goals first | exact h | exact Kp.stepK h | exact Kp.set (Kp.del (Kp.stepK h)) (Kp.of_at h p)
theorem Kp.layF (h : D.Kp B) (hs : s.length ≤ B) : (D.layF p s).2.Kp B := by
  have h1 := Kp.write (p := stgP) h hs
  have h2 := Kp.sync (p := stgP) h1
  have h3 := Kp.rename (p := stgP) (r := p) h2
  unfold Dk.layF
  repeat' split
  all_goals first | exact h | exact h1 | exact h2 | exact h3
theorem Kp.layN {k : Int} (h : D.Kp B) (hs : s.length ≤ B) : (Go.Proofs.YtccfiohagbneaaaGreatDoor.layN D p k s).2.Kp B := by
  unfold Go.Proofs.YtccfiohagbneaaaGreatDoor.layN
  repeat' split
  all_goals first | exact Kp.mkdir h | exact Kp.layF h hs | exact h
end
structure DkS (n : Nat) (D : Dk) : Prop where
  b : DkB n D
  k : D.Kp 1000000000
section
variable {D : Dk} {n : Nat}
theorem DkS.mono {m : Nat} (h : DkS n D) (hm : n ≤ m) : DkS m D := ⟨h.b.mono hm, h.k⟩
theorem DkS.lay1 {s : Int × Dk} {v : List UInt8} {x : Ent} (h : DkS n s.2) (hp : v.length + x.path.length ≤ 1000000) (hd : x.data.length ≤ 1000000000) : DkS (n + 2) (Go.Proofs.YtccfiohagbneaaaGreatDoor.lay1 v s x).2 := by
  have hl : (v ++ 47 :: x.path).length ≤ 1099511627 := by rw [List.length_append, List.length_cons]; omega
  have w1 := h.b.write (p := v ++ 47 :: x.path) hl (Nat.le_trans hd (by decide))
  have w2 := w1.sync (p := v ++ 47 :: x.path) hl
  have k1 := Kp.write (p := v ++ 47 :: x.path) h.k hd
  have k2 := Kp.sync (p := v ++ 47 :: x.path) k1
  unfold Go.Proofs.YtccfiohagbneaaaGreatDoor.lay1
  repeat' split
  all_goals first | exact h.mono (by omega) | exact ⟨(h.b.mkdir hl).mono (by omega), Kp.mkdir h.k⟩ | exact ⟨w1.mono (by omega), k1⟩ | exact ⟨w2, k2⟩
theorem DkS.layFold {v : List UInt8} : ∀ {t : List Ent} {s : Int × Dk} {n : Nat}, DkS n s.2 → (∀ x ∈ t, v.length + x.path.length ≤ 1000000 ∧ x.data.length ≤ 1000000000) → DkS (n + 2 * t.length) (t.foldl (Go.Proofs.YtccfiohagbneaaaGreatDoor.lay1 v) s).2
  | [], _, _, h, _ => h
  | x :: t, s, n, h, hx => by
    have h1 := DkS.lay1 (v := v) h (hx x (List.mem_cons_self ..)).1 (hx x (List.mem_cons_self ..)).2
    have := DkS.layFold (t := t) h1 fun y hy => hx y (List.mem_cons_of_mem _ hy)
    rw [List.foldl_cons, List.length_cons]
    exact this.mono (by omega)
theorem DkS.rmS {s : Int × Dk} {a : Fs} (h : DkS n s.2) : DkS n (Go.Proofs.YtccfiohagbneaaaGreatDoor.rmS s a).2 := by
  unfold Go.Proofs.YtccfiohagbneaaaGreatDoor.rmS
  repeat' split
  all_goals first | exact h | exact ⟨h.b.remove, Kp.remove h.k⟩
theorem DkS.layS {s : Int × Dk} {a : Fs} (h : DkS n s.2) (hp : a.p.length ≤ 1099511627) (hd : a.data.length ≤ 1000000000) : DkS (n + 3) (Go.Proofs.YtccfiohagbneaaaGreatDoor.layS s a).2 := by
  unfold Go.Proofs.YtccfiohagbneaaaGreatDoor.layS
  repeat' split
  all_goals first | exact h.mono (by omega) | exact ⟨(h.b.mkdir hp).mono (by omega), Kp.mkdir h.k⟩ | exact ⟨(h.b.layF hp (Nat.le_trans hd (by decide))).mono (by omega), Kp.layF h.k hd⟩
theorem DkS.rmFold : ∀ {F : List Fs} {s : Int × Dk}, DkS n s.2 → DkS n (F.foldl Go.Proofs.YtccfiohagbneaaaGreatDoor.rmS s).2
  | [], _, h => h
  | a :: F, s, h => by rw [List.foldl_cons]; exact DkS.rmFold h.rmS
theorem DkS.laySFold : ∀ {F : List Fs} {s : Int × Dk} {n : Nat}, DkS n s.2 → (∀ a ∈ F, a.p.length ≤ 1099511627 ∧ a.data.length ≤ 1000000000) → DkS (n + 3 * F.length) (F.foldl Go.Proofs.YtccfiohagbneaaaGreatDoor.layS s).2
  | [], _, _, h, _ => h
  | a :: F, s, n, h, hx => by
    have h1 := h.layS (hx a (List.mem_cons_self ..)).1 (hx a (List.mem_cons_self ..)).2
    have := DkS.laySFold (F := F) h1 fun y hy => hx y (List.mem_cons_of_mem _ hy)
    rw [List.foldl_cons, List.length_cons]
    exact this.mono (by omega)
theorem DkS.runF {F : List Fs} (h : DkS n D) (hx : ∀ a ∈ F, a.p.length ≤ 1099511627 ∧ a.data.length ≤ 1000000000) : DkS (n + 3 * F.length) (Go.Proofs.YtccfiohagbneaaaGreatDoor.runF D F).2 := by
  unfold Go.Proofs.YtccfiohagbneaaaGreatDoor.runF rmF
  exact DkS.laySFold (DkS.rmFold (s := (0, D)) h) hx
theorem DkB.arm (h : DkB n D) (a : Int) : DkB n (D.arm a) := ⟨h.lim, h.len, h.nd, h.key, h.data⟩
theorem DkS.arm (h : DkS n D) (a : Int) : DkS n (D.arm a) := ⟨h.b.arm a, h.k⟩
end
section
variable {D : Dk} {p r s y : List UInt8}
end
theorem lostI_dir (loss n st : Int) (x : It) : (lostI loss n st x).dir = x.dir := by unfold lostI; split <;> rfl
theorem lostI_firm {loss n st : Int} {x : It} (h : x.loose = false) : lostI loss n st x = x := by unfold lostI; rw [if_neg (by rw [h]; decide)]
section
variable {D D' : Dk} {loss : Int}
theorem LoseR.dirs {p : List UInt8} (h : LoseR loss (D.get p) (D'.get p)) : (D'.at p).dir = (D.at p).dir ∧ D'.has p = D.has p := by
  rw [Dk.at_get, Dk.at_get, Dk.has_get, Dk.has_get]
  cases hg : D.get p with
  | none => rw [h.1 hg]; exact ⟨rfl, rfl⟩
  | some x =>
    obtain ⟨n, st, e⟩ := h.2 x hg
    rw [e]
    exact ⟨lostI_dir _ _ _ _, rfl⟩
theorem Dk.lose_keys : ∀ (ks : List (List UInt8)) (s : Int × Dk), (∀ k ∈ ks, k ∈ s.2.items.map Prod.fst) → (ks.foldl (lose1 loss) s).2.items.map Prod.fst = s.2.items.map Prod.fst ∧ (ks.foldl (lose1 loss) s).2.limits = s.2.limits
  | [], s, _ => ⟨rfl, rfl⟩
  | k :: ks, s, h => by
    have hk : (lose1 loss s k).2.items.map Prod.fst = s.2.items.map Prod.fst ∧ (lose1 loss s k).2.limits = s.2.limits := by
      unfold lose1
      split
      · refine ⟨?_, rfl⟩
        show (mset s.2.items k _).map Prod.fst = _
        rw [mset_keys, if_pos (h k (List.mem_cons_self ..))]
      · exact ⟨rfl, rfl⟩
    obtain ⟨i1, i2⟩ := Dk.lose_keys ks (lose1 loss s k) (fun x hx => by rw [hk.1]; exact h x (List.mem_cons_of_mem _ hx))
    rw [List.foldl_cons]
    exact ⟨i1.trans hk.1, i2.trans hk.2⟩
structure Again (loss : Int) (D D' : Dk) : Prop where
  up : D'.down = false
  calm : D'.armed < 0
  keys : D'.items.map Prod.fst = D.items.map Prod.fst
  lim : D'.limits = D.limits
  get : ∀ y, LoseR loss (D.get y) (D'.get y)
theorem restart_again (hn : (D.items.map Prod.fst).Nodup) (loss : Int) : Again loss D (D.restart loss) := by
  have hperm : D.keys.Perm (D.items.map Prod.fst) := List.mergeSort_perm _ _
  obtain ⟨k1, k2⟩ := Dk.lose_keys (loss := loss) D.keys (0, D) fun k hk => hperm.mem_iff.1 hk
  refine ⟨rfl, (by decide : (-1 : Int) < 0), k1, k2, fun y => ?_⟩
  have hf := lose_fold loss D.keys (0, D) (hperm.nodup_iff.2 hn) y
  by_cases hy : y ∈ D.keys
  · exact hf.2 hy
  · have hg : (D.restart loss).get y = D.get y := hf.1 hy
    have hn : D.get y = none := mget_none.2 fun hh => hy (hperm.mem_iff.2 hh)
    rw [hg, hn]
    exact ⟨fun h => h, fun x hx => by cases hx⟩
theorem Again.w (h : Again loss D D') (hw : DkW D) : DkW D' := by
  have hd := fun y => (h.get y).dirs
  refine ⟨h.lim.trans hw.lim, by rw [h.keys]; exact hw.nd, by rw [(hd _).1]; exact hw.dir, by rw [(hd _).2]; exact hw.has, by rw [(hd _).1]; exact hw.stg, fun p hp => hw.ok p (by rw [← (hd p).2]; exact hp), fun p hp => ?_, fun p hp => by rw [(hd p).1]; exact hw.files p hp⟩
  have := hw.up p (by rw [← (hd p).2]; exact hp)
  unfold Dk.under at this ⊢
  rw [(hd _).1]; exact this
theorem Again.quiet (h : Again loss D D') (hw : DkW D) : Quiet D' := ⟨h.w hw, h.up, h.calm⟩
theorem Again.node (h : Again loss D D') (hf : Firm D) {y : List UInt8} (h1 : ¬ sysF y) (h2 : y ≠ stgP) : D'.get y = D.get y := by
  cases hg : D.get y with
  | none => exact (h.get y).1 hg
  | some x =>
    obtain ⟨n, st, e⟩ := (h.get y).2 x hg
    rw [e, lostI_firm (hf y x h1 h2 hg).1]
theorem Again.firm (h : Again loss D D') (hf : Firm D) : Firm D' := fun y x h1 h2 h3 => hf y x h1 h2 (by rw [← h.node hf h1 h2]; exact h3)
theorem loses_len {B : Nat} : ∀ (ks : List (List UInt8)) (s : Int × Dk), s.2.Kp B → (ks.foldl (lose1 loss) s).2.Kp B
  | [], _, h => h
  | k :: ks, s, h => by rw [List.foldl_cons]; exact loses_len ks _ (lose1_Kp h)
theorem DkS.restart {n : Nat} (h : DkS n D) (loss : Int) : DkS n (D.restart loss) := by
  have ha := restart_again h.b.nd loss
  have hk : (D.restart loss).Kp 1000000000 := loses_len D.keys (0, D) h.k
  refine ⟨⟨ha.lim.trans h.b.lim, ?_, by rw [ha.keys]; exact h.b.nd, fun x hx => ?_, fun y => Nat.le_trans (hk.at_ y).1 (by decide)⟩, hk⟩
  · have := congrArg List.length ha.keys
    rw [List.length_map, List.length_map] at this
    rw [this]; exact h.b.len
  · have : x.1 ∈ D.items.map Prod.fst := by rw [← ha.keys]; exact List.mem_map_of_mem hx
    obtain ⟨y, hy, e⟩ := List.mem_map.1 this
    rw [← e]; exact h.b.key y hy
end
end Go.Proofs.YtccfiohagbneaaaGreatDoor

/- What is proved: two trees laid on a new disk; what steps make of them, wherever the machine stops: plain. Conditions: trees. -/
namespace Go.Proofs.YtccfiohagbneaaaGreatDoor
open Go Go.J Go.RowKit
abbrev hubP : List UInt8 := [104, 117, 98]
abbrev s1P : List UInt8 := [115, 49]
theorem root0 : rootE 0 = hubP := rfl
theorem root1 : rootE 1 = s1P := by decide +kernel
def Dv3 : Dk := (((Dk0.mkdir sysP).2.mkdir hubP).2.mkdir s1P).2
theorem Dv3_eq : Dk0.mkdir sysP = (0, (Dk0.mkdir sysP).2) ∧ (Dk0.mkdir sysP).2.mkdir hubP = (0, ((Dk0.mkdir sysP).2.mkdir hubP).2) ∧ ((Dk0.mkdir sysP).2.mkdir hubP).2.mkdir s1P = (0, Dv3) := ⟨by kernel_rfl, by kernel_rfl, by kernel_rfl⟩
theorem Dv3_items : Dv3.items = [(sysP, { It0 with dir := true }), (hubP, { It0 with dir := true }), (s1P, { It0 with dir := true })] := by kernel_rfl
theorem Dv3_get (y : List UInt8) : Dv3.get y = if y = sysP then some { It0 with dir := true } else if y = hubP then some { It0 with dir := true } else if y = s1P then some { It0 with dir := true } else none := by
  unfold Dk.get
  rw [Dv3_items]
  rfl
theorem Dv3_has {y : List UInt8} (h : Dv3.has y = true) : y = sysP ∨ y = hubP ∨ y = s1P := by
  rw [Dk.has_get, Dv3_get] at h
  by_cases h1 : y = sysP
  · exact .inl h1
  · rw [if_neg h1] at h
    by_cases h2 : y = hubP
    · exact .inr (.inl h2)
    · rw [if_neg h2] at h
      by_cases h3 : y = s1P
      · exact .inr (.inr h3)
      · rw [if_neg h3] at h; cases h
theorem Dv3_q : Quiet Dv3 := by
  refine ⟨⟨by kernel_rfl, by rw [Dv3_items]; decide, by kernel_rfl, by kernel_rfl, by kernel_rfl, fun p hp => ?_, fun p hp => ?_, fun p hp => ?_⟩, by kernel_rfl, by decide +kernel⟩
  · rcases Dv3_has hp with rfl | rfl | rfl <;> kernel_rfl
  · rcases Dv3_has hp with rfl | rfl | rfl <;> kernel_rfl
  · rcases hp with rfl | rfl | rfl | rfl <;> kernel_rfl
theorem Dv3_firm : Firm Dv3 := fun p x _ _ h => by
  rw [Dv3_get] at h
  have : x = { It0 with dir := true } := by
    split at h
    · exact (Option.some.inj h).symm
    · split at h
      · exact (Option.some.inj h).symm
      · split at h
        · exact (Option.some.inj h).symm
        · cases h
  rw [this]
  exact ⟨rfl, rfl, fun _ => rfl⟩
theorem Dv3_bel (v : List UInt8) : ∀ y, Dv3.has y = true → belB v y = false := fun y hy => by
  cases hb : belB v y with
  | false => rfl
  | true =>
    obtain ⟨q, rfl⟩ := bel_iff.1 hb
    have h47 : (47 : UInt8) ∈ v ++ 47 :: q := by simp
    rcases Dv3_has hy with h | h | h <;> (rw [h] at h47; exact absurd h47 (by decide))
theorem Dv3_s : DkS 3 Dv3 := by
  have hi := Dv3_items
  refine ⟨⟨by kernel_rfl, by rw [hi]; decide, by rw [hi]; decide, fun x hx => ?_, fun y => ?_⟩, fun x hx => ?_⟩
  · rw [hi] at hx
    simp only [List.mem_cons, List.not_mem_nil, or_false] at hx
    rcases hx with rfl | rfl | rfl <;> decide
  · rw [Dk.at_get, Dv3_get]
    repeat' split
    all_goals exact Nat.zero_le _
  · rw [hi] at hx
    simp only [List.mem_cons, List.not_mem_nil, or_false] at hx
    rcases hx with rfl | rfl | rfl <;> exact ⟨Nat.zero_le _, Nat.zero_le _, fun _ _ => Nat.le_refl _⟩
structure LaidD (D : Dk) (hub side : List Ent) : Prop where
  q : Quiet D
  firm : Firm D
  nh : ∀ q, nodeD D hubP q = nodeT hub q
  ns : ∀ q, nodeD D s1P q = nodeT side q
  dh : (D.at hubP).dir = true
  ds : (D.at s1P).dir = true
  s : DkS (3 + 2 * hub.length + 2 * side.length) D
theorem hub_vol : VolOk hubP := ⟨by decide +kernel, by decide⟩
theorem s1_vol : VolOk s1P := ⟨by decide +kernel, by decide⟩
theorem tree_small {t : List Ent} (h : TreeOk t) {x : Ent} (hx : x ∈ t) : x.path.length ≤ 65 ∧ x.data.length ≤ 4096 := by
  obtain ⟨i, hi, rfl⟩ := List.getElem_of_mem hx
  have h1 := (h i hi).path
  have h2 := (h i hi).whole
  refine ⟨?_, ?_⟩
  · obtain ⟨c1, c2⟩ := (checkE_iff _ 5).1 h1
    have key : ∀ (s one : List UInt8), ((splitA one s).all nameB = true) → one.length + s.length ≤ 13 * (splitA one s).length := by
      intro s
      induction s with
      | nil =>
        intro one ha
        have : nameB one = true := by simpa [splitA] using ha
        unfold nameB at this
        rw [Bool.and_eq_true] at this
        have := of_decide_eq_true this.1
        simp [splitA]; omega
      | cons c s ih =>
        intro one ha
        unfold splitA at ha ⊢
        split at ha
        · rename_i hc
          rw [if_pos hc]
          rw [List.all_cons, Bool.and_eq_true] at ha
          have h3 := ih [] ha.2
          have h4 := ha.1
          unfold nameB at h4
          rw [Bool.and_eq_true] at h4
          have := of_decide_eq_true h4.1
          simp only [List.length_cons, List.length_nil] at *
          omega
        · rename_i hc
          rw [if_neg hc]
          have h3 := ih _ ha
          simp only [List.length_append, List.length_cons, List.length_nil] at *
          omega
    have := key t[i].path [] c2
    have : (splitA [] t[i].path).length ≤ 5 := by have h : ((splitL t[i].path).length : Int) ≤ 5 := c1; unfold splitL at h; omega
    simp only [List.length_nil] at *
    omega
  · unfold wholeE at h2
    split at h2
    · rw [of_decide_eq_true h2]; exact Nat.zero_le _
    · split at h2
      · exact of_decide_eq_true h2
      · cases h2
section
variable {hub side h s : List Ent} {D : Dk}
theorem laid_two (hh : TreeOk hub) (hs : TreeOk side) : (layT Dv3 hubP hub).1 = 0 ∧ (layT (layT Dv3 hubP hub).2 s1P side).1 = 0 ∧ LaidD (layT (layT Dv3 hubP hub).2 s1P side).2 hub side ∧ DkS (3 + 2 * hub.length) (layT Dv3 hubP hub).2 ∧ Quiet (layT Dv3 hubP hub).2 ∧ ((layT Dv3 hubP hub).2.at s1P).dir = true ∧ walkE (layT Dv3 hubP hub).2 s1P = [] := by
  have h1 := layT_ok (v := hubP) hub_vol Dv3_q (by kernel_rfl) (Dv3_bel _) hh
  have sb1 : DkS (3 + 2 * hub.length) (layT Dv3 hubP hub).2 := DkS.layFold (s := (0, Dv3)) Dv3_s fun x hx => by
    have := tree_small hh hx
    show 3 + x.path.length ≤ _ ∧ _
    omega
  generalize layT Dv3 hubP hub = r1 at *
  obtain ⟨e1, D1⟩ := r1
  have q1 : Quiet D1 := h1.q
  have nb : ∀ (v u : List UInt8), (47 : UInt8) ∉ u → belB v u = false := fun v u hu => by
    cases hb : belB v u with
    | false => rfl
    | true =>
      obtain ⟨q, rfl⟩ := bel_iff.1 hb
      exact absurd (by simp) hu
  have ds1 : (D1.at s1P).dir = true := by
    rw [Dk.at_get, show D1.get s1P = Dv3.get s1P from h1.other _ (nb _ _ (by decide))]
    kernel_rfl
  have hne : ∀ q, belB hubP (s1P ++ 47 :: q) = false := fun q => by
    cases hb : belB hubP (s1P ++ 47 :: q) with
    | false => rfl
    | true =>
      obtain ⟨r, hr⟩ := bel_iff.1 hb
      exact absurd (split47 (by decide) (by decide) hr).1 (by decide)
  have empty : ∀ y, D1.has y = true → belB s1P y = false := fun y hy => by
    cases hb : belB s1P y with
    | false => rfl
    | true =>
      obtain ⟨q, rfl⟩ := bel_iff.1 hb
      have : D1.get (s1P ++ 47 :: q) = Dv3.get (s1P ++ 47 :: q) := h1.other _ (hne q)
      rw [Dk.has_get, this, ← Dk.has_get] at hy
      rw [Dv3_bel _ _ hy] at hb; cases hb
  have h2 := layT_ok (v := s1P) s1_vol q1 ds1 empty hs
  have sb2 : DkS (3 + 2 * hub.length + 2 * side.length) (layT D1 s1P side).2 := DkS.layFold (s := (0, D1)) sb1 fun x hx => by
    have := tree_small hs hx
    show 2 + x.path.length ≤ _ ∧ _
    omega
  refine ⟨h1.ok, h2.ok, ⟨h2.q, h2.firm (h1.firm Dv3_firm), fun q => ?_, h2.node, ?_, ?_, sb2⟩, sb1, q1, ds1, ?_⟩
  · have hb : belB s1P (hubP ++ 47 :: q) = false := by
      cases hb : belB s1P (hubP ++ 47 :: q) with
      | false => rfl
      | true =>
        obtain ⟨r, hr⟩ := bel_iff.1 hb
        exact absurd (split47 (by decide) (by decide) hr).1 (by decide)
    have := h2.other _ hb
    unfold nodeD
    rw [this]
    exact h1.node q
  · rw [Dk.at_get, h2.other _ (nb _ _ (by decide)), show D1.get hubP = Dv3.get hubP from h1.other _ (nb _ _ (by decide))]
    kernel_rfl
  · rw [Dk.at_get, h2.other _ (nb _ _ (by decide)), ← Dk.at_get]; exact ds1
  · refine walk_eq q1.w.nd List.Pairwise.nil (fun e he => by cases he) fun q => ?_
    rw [nodeT_no fun e he => by cases he]
    unfold nodeD
    have : D1.get (s1P ++ 47 :: q) = none := by
      cases hg : D1.get (s1P ++ 47 :: q) with
      | none => rfl
      | some x =>
        have := empty _ (has_of_get hg)
        rw [bel_app] at this; cases this
    rw [this]; rfl
theorem walk_none (v : List UInt8) (h : ∀ y, D.has y = true → belB v y = false) : walkE D v = [] := by
  cases hw : walkE D v with
  | nil => rfl
  | cons x l =>
    have := (mem_walk (e := x) (D := D) (v := v)).1 (by rw [hw]; exact List.mem_cons_self ..)
    have := h _ this.1
    rw [bel_app] at this; cases this
theorem LaidD.two (h0 : LaidD D hub side) (h1 : TreeOk hub) (h2 : TreeOk side) (h3 : TreeOk h) (h4 : TreeOk s) : Two D 0 1 hub side h s :=
  ⟨h0.q.w, by decide, by decide, by decide, by rw [root0]; exact h0.dh, by rw [root1]; exact h0.ds, h1, h2, h3, h4, fun q => by rw [root0]; exact h0.nh q, fun q => by rw [root1]; exact h0.ns q⟩
theorem Two.arm {r1 r2 : Int} {o1 o2 n1 n2 : List Ent} (h : Two D r1 r2 o1 o2 n1 n2) (a : Int) : Two (D.arm a) r1 r2 o1 o2 n1 n2 :=
  ⟨h.w.same rfl rfl, h.q1, h.q2, h.ne, h.d1, h.d2, h.t1, h.t2, h.u1, h.u2, h.h1, h.h2⟩
theorem Betw.dirs {D0 : Dk} {F : List Fs} (hb : Betw D0 F D) {v : List UInt8} (h1 : v ≠ stgP) (h2 : ¬ sysF v) (hn : newN D0 F v = ndE (D0.get v)) (hd : (D0.at v).dir = true) : (D.at v).dir = true := by
  have hk := dir_kind.1 hd
  rw [dir_kind]
  rcases hb.node v h1 h2 with h | h | h
  · rw [h]; exact hk
  · rw [h, hn]; exact hk
  · exact absurd (by rw [hn]) h.2
theorem vol_nst {v : List UInt8} (hv : VolOk v) : v ≠ stgP ∧ ¬ sysF v := by
  have h := hv.no47
  refine ⟨fun e => h (by rw [e]; decide), ?_⟩
  rintro (e | e | e | e) <;> exact h (by rw [e]; decide)
theorem Two.dir1 {r1 r2 : Int} {o1 o2 n1 n2 : List Ent} {D' : Dk} (h : Two D r1 r2 o1 o2 n1 n2) (hb : Betw D (twoF r1 r2 o1 o2 n1 n2) D') : (D'.at (rootE r1)).dir = true := by
  obtain ⟨m1, m2⟩ := vol_nst (root_vol h.q1)
  exact hb.dirs m1 m2 (h.newO (bel_root h.q1 _ h.q1) (bel_root h.q2 _ h.q1)) h.d1
theorem Two.dir2 {r1 r2 : Int} {o1 o2 n1 n2 : List Ent} {D' : Dk} (h : Two D r1 r2 o1 o2 n1 n2) (hb : Betw D (twoF r1 r2 o1 o2 n1 n2) D') : (D'.at (rootE r2)).dir = true := by
  obtain ⟨m1, m2⟩ := vol_nst (root_vol h.q2)
  exact hb.dirs m1 m2 (h.newO (bel_root h.q1 _ h.q2) (bel_root h.q2 _ h.q2)) h.d2
theorem Two.node1 {r1 r2 : Int} {o1 o2 n1 n2 : List Ent} {D' : Dk} (h : Two D r1 r2 o1 o2 n1 n2) (hb : Betw D (twoF r1 r2 o1 o2 n1 n2) D') (q : List UInt8) :
    nodeD D' (rootE r1) q = nodeT o1 q ∨ nodeD D' (rootE r1) q = nodeT n1 q ∨ (nodeD D' (rootE r1) q = (0, []) ∧ (nodeT o1 q).1 ≠ (nodeT n1 q).1) := by
  obtain ⟨_, m2, m3⟩ := vol_nsys (q := q) (root_vol h.q1)
  rcases hb.node _ m2 m3 with e | e | e
  · exact .inl (e.trans (h.h1 q))
  · exact .inr (.inl (e.trans (h.new1 q)))
  · have h1 : ndE (D.get (rootE r1 ++ 47 :: q)) = nodeT o1 q := h.h1 q
    rw [h.new1, h1] at e
    exact .inr (.inr e)
theorem Two.sizes {r1 r2 : Int} {o1 o2 n1 n2 : List Ent} (h : Two D r1 r2 o1 o2 n1 n2) : ∀ f ∈ twoF r1 r2 o1 o2 n1 n2, f.p.length ≤ 1099511627 ∧ f.data.length ≤ 1000000000 := fun f hf => by
  obtain ⟨a, ha, rfl⟩ := List.mem_map.1 hf
  have hp := h.pathOk ha
  have hl : a.path.length ≤ 65 := by
    have key := tree_small (t := [⟨a.path, 1, []⟩]) (x := ⟨a.path, 1, []⟩)
    rcases h.final ha with ⟨_, e⟩ | ⟨_, e⟩
    · rcases getT_cases n1 a.path with ⟨x, hx, hxp, _⟩ | ⟨hno, _⟩
      · rw [← hxp]; exact (tree_small h.u1 hx).1
      · rcases getT_cases o1 a.path with ⟨x, hx, hxp, _⟩ | ⟨hno2, _⟩
        · rw [← hxp]; exact (tree_small h.t1 hx).1
        · exact absurd ((nodeT_no hno2).trans (nodeT_no hno).symm) e
    · rcases getT_cases n2 a.path with ⟨x, hx, hxp, _⟩ | ⟨hno, _⟩
      · rw [← hxp]; exact (tree_small h.u2 hx).1
      · rcases getT_cases o2 a.path with ⟨x, hx, hxp, _⟩ | ⟨hno2, _⟩
        · rw [← hxp]; exact (tree_small h.t2 hx).1
        · exact absurd ((nodeT_no hno2).trans (nodeT_no hno).symm) e
  have hr : (rootE a.root).length ≤ 3 := by
    unfold rootE
    split
    · decide
    · split <;> simp
  refine ⟨?_, ?_⟩
  · show (rootE a.root ++ 47 :: a.path).length ≤ _
    rw [List.length_append, List.length_cons]; omega
  · show a.data.length ≤ _
    rcases h.final ha with ⟨e, _⟩ | ⟨e, _⟩
    · rw [e]; exact Nat.le_trans (tree_whole h.u1 _).2.2 (by decide)
    · rw [e]; exact Nat.le_trans (tree_whole h.u2 _).2.2 (by decide)
theorem act_len (root : Int) (old now : List Ent) : (actE root old now).length ≤ old.length + now.length := by
  unfold actE remA putA
  rw [List.length_append, List.length_map, List.length_map]
  have h1 := List.length_filter_le (fun x : Ent => decide ((getT now x.path).kind ≠ x.kind)) old.reverse
  have h2 := List.length_filter_le (fun x : Ent => decide (nodeT old x.path ≠ (x.kind, x.data))) now
  rw [List.length_reverse] at h1
  omega
theorem twoF_len (r1 r2 : Int) (o1 o2 n1 n2 : List Ent) : (twoF r1 r2 o1 o2 n1 n2).length ≤ o1.length + o2.length + n1.length + n2.length := by
  unfold twoF twoA
  rw [List.length_map]
  have h0 := final_len (actE r1 o1 n1 ++ actE r2 o2 n2)
  rw [List.length_append] at h0
  have h1 := act_len r1 o1 n1
  have h2 := act_len r2 o2 n2
  omega
end
end Go.Proofs.YtccfiohagbneaaaGreatDoor

/- What is proved: how Apply, Run and Recover of the package apply end: with what stands in their result, or with a halt's error. Conditions: none. -/
namespace Go.Proofs.YtccfiohagbneaaaGreatDoor
open Go Go.J Go.RowKit
set_option maxRecDepth 8000 in
theorem aprec_ret {rb : Nat} {e0 : Int} {w0 : World} (hI : InL w0 [.box rb 30 [.int .i64 e0]]) : CallsD Tryz.prog 110 #[.pointer (some ⟨rb, 0, none⟩)] .returning w0 (fun e u' w' => u' = .returning ∧ (∃ x, e = .returned x) ∧ MutL w0 w' [.box rb 30 [.int .i64 e0]] [.box rb 30 [.int .i64 e0]]) := by
  refine CallsD.mono (callsD_rec (args := [.pointer (some ⟨rb, 0, none⟩)]) (R := fun _ w' => MutL w0 w' [.box rb 30 [.int .i64 e0]] [.box rb 30 [.int .i64 e0]]) Tryz.func110 rfl rfl rfl rfl rfl rfl (.inl ⟨rfl, rfl, rfl⟩) ?_) ?_
  · have hS := St.initL hI
    repeat' (first | (show WL _ _ _ _ _ _ _; first | refine WL.pure rfl rfl rfl rfl ?_ | refine WL.nil ?_ | (refine WL.neNil0 rfl rfl rfl rfl rfl rfl ?_)) | (show WC _ _ _ _ _ _; first | refine WC.seq ?_ | refine WC.region ?_ | refine WC.skip ?_ | refine WC.condF rfl (by with_reducible rfl) ?_) | refine seqQ_n ?_)
    exact fin0n rfl (hS.mutLp Pu)
  · rintro e u' w' ⟨rfl, v, rfl, h⟩
    exact ⟨rfl, ⟨_, rfl⟩, h⟩
set_option maxRecDepth 8000 in
theorem aprec_pan {rb : Nat} {e0 e : Int} {w0 : World} (hI : InL w0 [.box rb 30 [.int .i64 e0]]) : CallsD Tryz.prog 110 #[.pointer (some ⟨rb, 0, none⟩)] (.panicking (haltE e)) w0 (fun en u' w' => u' = .panicking [⟨.iface 220 (.agg ⟨[.int .i64 e]⟩), true, false⟩] ∧ (∃ x, en = .returned x) ∧ MutL w0 w' [.box rb 30 [.int .i64 e0]] [.box rb 30 [.int .i64 e]]) := by
  refine CallsD.mono (callsD_rec (args := [.pointer (some ⟨rb, 0, none⟩)]) (R := fun _ w' => MutL w0 w' [.box rb 30 [.int .i64 e0]] [.box rb 30 [.int .i64 e]]) Tryz.func110 rfl rfl rfl rfl rfl rfl (.inr ⟨rfl, rfl⟩) ?_) ?_
  · have hS := St.initL hI
    repeat' (first | (show WL _ _ _ _ _ _ _; first | refine WL.pure rfl rfl rfl rfl ?_ | refine WL.nil ?_ | (refine WL.neNil1 rfl rfl rfl rfl rfl rfl ?_) | (refine WL.calls hS rfl rfl (caught_c e _) rfl rfl rfl ?_; rintro v w rfl hS) | (refine WL.store hS rfl rfl rfl Sb rfl rfl rfl ?_; intro w hS)) | (show WC _ _ _ _ _ _; first | refine WC.seq ?_ | refine WC.region ?_ | refine WC.condT rfl (by with_reducible rfl) ?_) | refine seqQ_n ?_)
    exact fin0n rfl (hS.mutLp Pu)
  · rintro en u' w' ⟨rfl, v, rfl, h⟩
    exact ⟨rfl, ⟨_, rfl⟩, h⟩
end Go.Proofs.YtccfiohagbneaaaGreatDoor

/- What is proved: what laying a tree into an empty volume makes of a disk. Conditions: a quiet disk, a tree. -/
namespace Go.Proofs.YtccfiohagbneaaaGreatDoor
open Go Go.J Go.RowKit
theorem lay1_ok {v : List UInt8} {E : Dk} {x : Ent} (h : (lay1 v (0, E) x).1 = 0) : (x.kind = 1 → (E.mkdir (v ++ 47 :: x.path)).1 = 0 ∧ (lay1 v (0, E) x).2 = (E.mkdir (v ++ 47 :: x.path)).2) ∧
    (x.kind ≠ 1 → (E.write (v ++ 47 :: x.path) x.data).1 = 0 ∧ ((E.write (v ++ 47 :: x.path) x.data).2.sync (v ++ 47 :: x.path)).1 = 0 ∧ (lay1 v (0, E) x).2 = ((E.write (v ++ 47 :: x.path) x.data).2.sync (v ++ 47 :: x.path)).2) := by
  have e : lay1 v (0, E) x = if x.kind = 1 then E.mkdir (v ++ 47 :: x.path) else if (E.write (v ++ 47 :: x.path) x.data).1 ≠ 0 then E.write (v ++ 47 :: x.path) x.data else (E.write (v ++ 47 :: x.path) x.data).2.sync (v ++ 47 :: x.path) := by
    unfold lay1
    rw [if_neg (fun hh => hh rfl)]
  rw [e] at h ⊢
  refine ⟨fun hk => ?_, fun hk => ?_⟩
  · rw [if_pos hk] at h ⊢
    exact ⟨h, rfl⟩
  · rw [if_neg hk] at h ⊢
    by_cases hw : (E.write (v ++ 47 :: x.path) x.data).1 = 0
    · rw [if_neg (fun hh => hh hw)] at h ⊢
      exact ⟨hw, h, rfl⟩
    · rw [if_pos hw] at h
      exact absurd h hw
set_option maxRecDepth 8000 in
theorem sl_res {w w0 : World} {M : List Nat} {H : List Chunk} {Z : List Snap} {rb : Nat} {tmps : Array Value} (hS : St w0 M w (.box rb 30 [.int .i64 0] :: H) Z) (ht : tmps.getD 6 undef = .pointer (some ⟨rb, 0, none⟩)) : (results Tryz.f109 tmps).run Tryz.prog w = .ok (.int .i64 0) w := by
  have h2 := hS.loads (P := Tryz.prog) (ty := 30) (a := ⟨rb, 0, none⟩) (v := .int .i64 0) (LdOk.box (.head _) rfl)
  have h3 : Tryz.f109.results = #[.cell 6 30] := rfl
  simp only [Array.getD_eq_getD_getElem?] at ht
  simp [results, h3, ht, h2, asAddr, Sem.run_bind]
set_option maxRecDepth 8000 in
set_option maxHeartbeats 32000000 in
set_option maxRecDepth 100000 in
theorem slay_c {q mb lb n : Nat} {D : Dk} {v : List UInt8} {A : Option Addr} {cap : Nat} (t : List Ent) {w0 : World} (hI : InL w0 [dkC q mb lb D]) (hA : SlAt cEnt (fun b => b < w0.heap.size ∧ b ∉ fps [dkC q mb lb D]) w0 A t) (hl : t.length ≤ 10000) (ht : TreeOk t)
    (hq : Quiet D) (hB : DkS n D) (hn : n ≤ 100000) (hv : VolOk v) (hd : (D.at v).dir = true) (he : walkE D v = []) :
    Cal Tryz.prog 109 [.pointer (some ⟨q, 0, none⟩), str v, .slice A t.length cap] w0 (fun v' w' => v' = .int .i64 0 ∧ MutL w0 w' [dkC q mb lb D] [dkC q mb lb (layT D v t).2]) := by
  have hvl : v.length ≤ 12 := by
    have := hv.name
    unfold nameB at this
    rw [Bool.and_eq_true] at this
    exact (of_decide_eq_true this.1).2
  have hempty : ∀ y, D.has y = true → belB v y = false := fun y hy => by
    cases hb : belB v y with
    | false => rfl
    | true =>
      obtain ⟨p, rfl⟩ := bel_iff.1 hb
      have := mem_walk (e := entD D v p) |>.2 ⟨hy, rfl⟩
      rw [he] at this; cases this
  have h0 : LaidTo D v (t.take 0) (0, D) := by
    refine ⟨rfl, hq, fun p => ?_, fun _ _ => rfl, id⟩
    rw [List.take_zero, nodeT_no fun e he => by cases he]
    unfold nodeD
    have : D.get (v ++ 47 :: p) = none := by
      cases hg : D.get (v ++ 47 :: p) with
      | none => rfl
      | some x =>
        have := hempty _ (has_of_get hg)
        rw [bel_app] at this; cases this
    show ndE (D.get (v ++ 47 :: p)) = _
    rw [this]; rfl
  have hto := fun k (hk : k ≤ t.length) => lay_to hv hd ht k hk h0
  have hsz := fun (x : Ent) (hx : x ∈ t) => tree_small ht hx
  have hst := fun k => DkS.layFold (v := v) (t := t.take k) (s := (0, D)) hB fun x hx => by
    have := hsz x (List.mem_of_mem_take hx)
    omega
  have hwk := fun (w : World) (hI : InL w [dkC q mb lb D]) => swalk_c (n := n) hI hq.w hq.up hB.b (by omega) hv hd
  rw [he] at hwk
  refine ⟨by kernel_rfl, callsR (args := [.pointer (some ⟨q, 0, none⟩), str v, .slice A t.length cap]) Tryz.func109 rfl rfl ?_⟩
  have hS := St.initL hI
  refine WR.seq (Q0 := noQ) rfl noQ_ok ?_
  repeat' (first | (show WL _ _ _ _ _ _ _; first | refine WL.nil ?_ | (refine WL.box (t := 23) hS rfl rfl rfl rfl rfl ?_; intro w pb hS) | (refine WL.box (t := 9) hS rfl rfl rfl rfl rfl ?_; intro w vb hS) | (refine WL.box (t := 84) hS rfl rfl rfl rfl rfl ?_; intro w tb hS) | (refine WL.alloc (t := 30) hS rfl rfl rfl rfl rfl rfl ?_; intro w rb hS)) | (show WC _ _ _ _ _ _; first | refine WC.region ?_) | fail)
  show WR _ _ _ _ _ _
  refine WR.seq (Q0 := endQ0 _ _ _ [] [] _) rfl (endQ0_ok rfl) ?_
  repeat' (first | (show WL _ _ _ _ _ _ _; first | refine WL.pure rfl rfl rfl rfl ?_ | refine WL.nil ?_ | refine WL.load hS rfl rfl (LdOk.box Mm rfl) rfl rfl rfl ?_ | (refine WL.callL (D := [dkC q mb lb D]) hS Pu rfl rfl (fun hI => hwk _ hI) rfl rfl rfl ?_; rintro v' w ⟨AO, co, rfl, hm⟩ hS; replace hS := hS _ hm; clear hm)) | (show WC _ _ _ _ _ _; first | refine WC.region ?_) | fail)
  show WR _ _ _ _ _ _
  refine WR.seq (Q0 := endQ0 _ _ _ [] [] _) rfl (endQ0_ok rfl) ?_
  repeat' (first | (show WL _ _ _ _ _ _ _; first | refine WL.pure rfl rfl rfl rfl ?_ | refine WL.nil ?_) | (show WC _ _ _ _ _ _; first | refine WC.seq ?_ | refine WC.region ?_ | refine WC.skip ?_ | refine WC.condF rfl (by decide) ?_) | refine seqQ_n ?_)
  show WR _ _ _ _ _ _
  refine WR.range rfl ?_
  repeat' (first | (show WL _ _ _ _ _ _ _; first | refine WL.pure rfl rfl rfl rfl ?_ | refine WL.nil ?_ | (refine WL.callL (D := []) hS Pu rfl rfl (fun hI => backE_c AO 0 co _) rfl rfl rfl ?_; rintro v' w ⟨sb, rfl, hm⟩ hS; replace hS := hS _ hm; clear hm)) | (show WC _ _ _ _ _ _; first | refine WC.region ?_) | fail)
  refine rangeAt_of (gf := 188) (cap := ⟨[.pointer (some ⟨sb, 0, none⟩)]⟩) hS rfl (by kernel_rfl) fun db fn F0 tm w2 RC hfn htn htf hRC hS => ?_
  refine Calls.mono (backInE_c (b := sb) (A := AO) (cap := co) (t := []) (I := fun _ w => St w0 (fps [dkC q mb lb D]) w [ocC (db + 1) (RC .ready none), ocC db (.deferred (some [])), .box sb 84 [.slice AO 0 co], dkC q mb lb D, .box rb 30 [.int .i64 0], .box tb 84 [.slice A t.length cap], .box vb 9 [str v], .box pb 23 [.pointer (some ⟨q, 0, none⟩)]] [⟨w0, fun b => b < w0.heap.size ∧ b ∉ fps [dkC q mb lb D]⟩]) (X := fun _ => False) (S := fun _ _ => False) (by decide) ?_ ?_ ?_ ?_) ?_
  · rintro k w hS
    exact hS.holds (.box sb 84 [.slice AO 0 co]) (by simp)
  · rintro k w hS
    exact fun i hi => absurd hi (Nat.not_lt_zero _)
  · exact fun k hk => absurd hk (Nat.not_lt_zero _)
  · exact hS.droplast2 Pu
  · rintro e w hcall
    rcases hcall with ⟨v', rfl, hS | hx⟩ | ⟨c, _, hx⟩
    rotate_left
    · exact hx.elim
    · exact hx.elim
    obtain ⟨w3, hend, hS⟩ := rc_endAll (P := Tryz.prog) (st := .ready) hRC (by decide) hS Rp
    refine ⟨none, w3, hend, .inl ⟨rfl, ?_⟩⟩
    replace hS := hS.droplast2 (D := [ocC db (.deferred (some [])), dkC q mb lb ((t.take 0).foldl (lay1 v) (0, D)).2, .box rb 30 [.int .i64 0], .box tb 84 [.slice A t.length cap], .box vb 9 [str v], .box pb 23 [.pointer (some ⟨q, 0, none⟩)]]) Pu
    clear hfn htn htf hRC hend hwk hempty
    refine WR.seq (Q0 := endQ0 _ _ _ [db] [] _) rfl (endQ0_ok rfl) ?_
    repeat' (first | (show WL _ _ _ _ _ _ _; first | refine WL.pure rfl rfl rfl rfl ?_ | refine WL.nil ?_ | refine WL.load hS rfl rfl (LdOk.box Mm rfl) rfl rfl rfl ?_) | (show WC _ _ _ _ _ _; first | refine WC.seq ?_ | refine WC.region ?_ | refine WC.block ?_) | refine seqQ_n ?_)
    refine WC.loop (σ := Nat) [3, 4, 6, 7, 47, 48] (fun k => [(8, .int .i64 0), (49, .int .i64 (k : Int))])
      (fun k w => k ≤ t.length ∧ St w0 (fps [dkC q mb lb D]) w [ocC db (.deferred (some [])), dkC q mb lb ((t.take k).foldl (lay1 v) (0, D)).2, .box rb 30 [.int .i64 0], .box tb 84 [.slice A t.length cap], .box vb 9 [str v], .box pb 23 [.pointer (some ⟨q, 0, none⟩)]] [⟨w0, fun b => b < w0.heap.size ∧ b ∉ fps [dkC q mb lb D]⟩])
      (fun k => t.length - k) 0 ⟨Nat.zero_le _, hS⟩ ⟨rfl, rfl, trivial⟩ ?_
    clear hS
    rintro k g w ⟨hk, hS⟩
    show WC _ _ _ (lf _ [(8, .int .i64 0), (49, .int .i64 (k : Int))] _ _) _ _
    by_cases hlt : k < t.length
    · obtain ⟨eb, eo, es, rfl, hF, hrr, hes⟩ := hA.at_ hlt
      have hes : es = encEnt t[k] := hes
      subst hes
      have hrr : w0.rangeAt eb (eo + k * 3) (encEnt t[k]) := hrr
      have hto1 := (hto (k + 1) hlt).ok
      obtain ⟨E, hE⟩ : ∃ E, (t.take k).foldl (lay1 v) (0, D) = (0, E) := ⟨_, Prod.ext (hto k hk).ok rfl⟩
      have hsE := hst k
      have hE1 : (t.take (k + 1)).foldl (lay1 v) (0, D) = lay1 v (0, E) t[k] := by rw [List.take_succ_eq_append_getElem hlt, List.foldl_append, hE]; rfl
      rw [hE1] at hto1
      rw [hE] at hS hsE
      obtain ⟨l1, l2⟩ := lay1_ok hto1
      obtain ⟨z1, z2⟩ := hsz t[k] (List.getElem_mem hlt)
      have hkd := (ht k hlt).kind
      have hwh := (ht k hlt).whole
      generalize t[k] = x at *
      obtain ⟨xp, xk, xd⟩ := x
      have hp : v ++ 47 :: xp = v ++ [47] ++ xp := by simp
      dsimp only at l1 l2 z1 z2 hkd hwh
      rw [hp] at l1 l2
      have hpl : (v ++ [47] ++ xp).length ≤ 1099511627 := by simp only [List.length_append, List.length_cons, List.length_nil]; omega
      by_cases h1 : xk = 1
      · obtain ⟨a1, a2⟩ := l1 h1
        subst h1
        repeat' (first | (show WL _ _ _ _ _ _ _; first | refine WL.pure rfl rfl rfl rfl ?_ | refine WL.nil ?_ | refine WL.load hS rfl rfl (LdOk.box Mm rfl) rfl rfl rfl ?_ | refine WL.add rfl rfl rfl (by omega) rfl rfl rfl ?_ | (refine WL.load hS rfl rfl (LdOk.snap0 hF hrr Mm rfl) rfl rfl rfl ?_) | (refine WL.cat rfl rfl rfl (by simp only [List.length_append, List.length_cons, List.length_nil]; omega) rfl rfl rfl ?_) | (refine WL.callL (D := [dkC q mb lb E]) hS Pu rfl rfl (fun hI => mkdir_c _ hI.head hI.headB hpl) rfl rfl rfl ?_; rintro v' w ⟨rfl, hm⟩ hS; rw [a1]; replace hS := hS _ (.of1 hm); clear hm) | (refine WL.store hS rfl rfl rfl Sb rfl rfl rfl ?_; intro w hS) | (refine WL.alloc hS rfl rfl rfl rfl rfl rfl ?_; intro w b hS) | refine WL.index rfl rfl rfl rfl (by first | with_reducible assumption | omega) rfl rfl rfl rfl ?_) | (show WC _ _ _ _ _ _; first | refine WC.seq ?_ | refine WC.region ?_ | refine WC.block ?_ | refine WC.skip ?_ | refine WC.condF rfl (by decide) ?_ | refine WC.condT rfl (decide_eq_true (by first | with_reducible assumption | omega)) ?_ | refine WC.condT rfl (by first | (simp; done) | (simp; omega)) ?_) | refine seqQ_n ?_ | refine blkQ_n ?_)
        exact rndQ_n (k + 1) ⟨hlt, by rw [hE1, a2]; exact hS.droplast2 Pu⟩ (by show t.length - (k + 1) < t.length - k; omega) ⟨rfl, vint (by omega), trivial⟩ ⟨rfl, rfl, rfl, rfl, rfl, rfl, trivial⟩
      · obtain ⟨a1, a2, a3⟩ := l2 h1
        have h2 : xk = 2 := by
          unfold wholeE at hwh
          split at hwh
          · rename_i h; rcases h with h | h
            · exact absurd h hkd
            · exact absurd h h1
          · split at hwh
            · assumption
            · cases hwh
        subst h2
        have hwr := fun (w : World) (hI : InL w [dkC q mb lb E]) => write_c (v ++ [47] ++ xp) xd hI.head hI.headB hpl (by rw [hsE.b.lim]; rfl) (by omega) (hsE.b.data _)
        generalize E.write (v ++ [47] ++ xp) xd = r1 at *
        obtain ⟨e1, E1⟩ := r1
        dsimp only at a1 a2 a3 hwr
        subst a1
        repeat' (first | (show WL _ _ _ _ _ _ _; first | refine WL.pure rfl rfl rfl rfl ?_ | refine WL.nil ?_ | refine WL.load hS rfl rfl (LdOk.box Mm rfl) rfl rfl rfl ?_ | refine WL.add rfl rfl rfl (by omega) rfl rfl rfl ?_ | (refine WL.load hS rfl rfl (LdOk.snap0 hF hrr Mm rfl) rfl rfl rfl ?_) | (refine WL.cat rfl rfl rfl (by simp only [List.length_append, List.length_cons, List.length_nil]; omega) rfl rfl rfl ?_) | (refine WL.callL (D := [dkC q mb lb E]) hS Pu rfl rfl (fun hI => hwr _ hI) rfl rfl rfl ?_; rintro v' w ⟨rfl, hm⟩ hS; replace hS := hS _ (.of1 hm); clear hm) | (refine WL.callL (D := [dkC q mb lb E1]) hS Pu rfl rfl (fun hI => sync_c _ hI.head hI.headB hpl) rfl rfl rfl ?_; rintro v' w ⟨rfl, hm⟩ hS; rw [a2]; replace hS := hS _ (.of1 hm); clear hm) | (refine WL.store hS rfl rfl rfl Sb rfl rfl rfl ?_; intro w hS) | (refine WL.alloc hS rfl rfl rfl rfl rfl rfl ?_; intro w b hS) | refine WL.index rfl rfl rfl rfl (by first | with_reducible assumption | omega) rfl rfl rfl rfl ?_) | (show WC _ _ _ _ _ _; first | refine WC.seq ?_ | refine WC.region ?_ | refine WC.block ?_ | refine WC.skip ?_ | (show WC _ _ (Code.region _ (List.toArray [_, _, _, _, _, _, _, _]) true) _ _ _; refine WC.drawS hS [0,1,2,4,5,6,7] [0,1,2,4,5,3,6,7] (by kernel_rfl) (by kernel_rfl) ?_; clear hS; intro w hS hM) | refine WC.condT rfl (by decide) ?_ | refine WC.condF rfl (by decide) ?_ | refine WC.condT rfl (decide_eq_true (by first | with_reducible assumption | omega)) ?_ | refine WC.condF rfl (decide_eq_false (by first | with_reducible assumption | omega)) ?_ | refine WC.condT rfl (by first | (simp; done) | (simp; omega)) ?_) | (show WD _ _ _ _ _ _ _ _ _; first | refine WD.pure rfl rfl rfl rfl rfl ?_ | refine WD.nil ?_ | refine WD.load rfl rfl (LdOk.box Mm rfl) rfl rfl rfl rfl ?_ | (refine WD.calls hS hM rfl rfl (trget_c [] xp (n := 0) (fun i hi => absurd hi (Nat.not_lt_zero _)) (fun i j hi hj _ => absurd hj (Nat.not_lt_zero _)) (Nat.zero_le _) rfl) rfl rfl rfl rfl rfl ?_; clear hS; rintro v' w rfl hS; rw [show getT [] xp = ⟨[], 0, []⟩ from rfl]) | refine WD.neS rfl rfl rfl rfl (by kernel_rfl) rfl rfl rfl rfl ?_) | refine seqQ_n ?_ | refine blkQ_n ?_)
        exact rndQ_n (k + 1) ⟨hlt, by rw [hE1, a3]; exact hS.droplast2 Pu⟩ (by show t.length - (k + 1) < t.length - k; omega) ⟨rfl, vint (by omega), trivial⟩ ⟨rfl, rfl, rfl, rfl, rfl, rfl, trivial⟩
    · have e : k = t.length := by omega
      subst e
      rw [List.take_length] at hS
      repeat' (first | (show WL _ _ _ _ _ _ _; first | refine WL.pure rfl rfl rfl rfl ?_ | refine WL.nil ?_) | (show WC _ _ _ _ _ _; first | refine WC.seq ?_ | refine WC.region ?_ | refine WC.exit ?_ | refine WC.condF rfl (decide_eq_false (by first | with_reducible assumption | omega)) ?_) | refine seqQ_n ?_ | refine seqQ_x ?_ | refine blkQ_hit rfl ?_ | refine rndQ_x ?_)
      show WR _ _ _ _ _ _
      refine WR.seq (Q0 := endQ0 _ _ _ [db] [] _) rfl (endQ0_ok rfl) ?_
      repeat' (first | (show WL _ _ _ _ _ _ _; first | refine WL.nil ?_ | (refine WL.store hS rfl rfl rfl Sb rfl rfl rfl ?_; intro w hS)) | (show WC _ _ _ _ _ _; first | refine WC.region ?_) | fail)
      show WR _ _ _ _ _ _
      refine WR.ofC (Q0 := endQ0 _ _ _ [db] [] _) rfl ?_ (endQ0_ok rfl)
      repeat' (first | (show WC _ _ _ _ _ _; first | refine WC.ret ?_) | fail)
      intro a ha
      obtain ⟨w3, htk, hS⟩ := run_take (P := Tryz.prog) hS Rp
      refine ⟨w3, htk, ?_⟩
      exact ⟨_, sl_res (hS.pulls (D := [.box rb 30 [.int .i64 0]]) Pu) (ha.get 6), _, rfl, rfl, hS.mutLp Pu⟩
end Go.Proofs.YtccfiohagbneaaaGreatDoor

/- What is proved: what Get, Whole, Check and Same of reference 4 answer. Conditions: entries of bounded length. -/
namespace Go.Proofs.YtccfiohagbneaaaGreatDoor
open Go Go.J Go.RowKit
set_option maxHeartbeats 4000000 in
set_option maxRecDepth 100000 in
theorem rwhole_c (kind : Int) (data : List UInt8) (w0 : World) : Cal Tryz.prog 158 [.agg ⟨[.int .i64 kind, str data]⟩] w0 (fun v w' => Upd [] w0 w' ∧ v = .bool (wholeE kind data)) := by
  refine Cal.mk' (by kernel_rfl) Tryz.func158 rfl rfl fun hS => ?_
  by_cases h2 : kind = 2
  · have e : wholeE kind data = decide ((data.length : Int) ≤ 4096) := by
      unfold wholeE
      rw [if_neg (by omega), if_pos h2]
      by_cases hd : data.length ≤ 4096
      · rw [decide_eq_true hd, decide_eq_true (by omega)]
      · rw [decide_eq_false hd, decide_eq_false (by omega)]
    rw [e]
    subst h2
    repeat' (first | (show WL _ _ _ _ _ _ _; first | refine WL.pure rfl rfl rfl rfl ?_ | refine WL.nil ?_ | refine WL.load hS rfl rfl (LdOk.box Mm rfl) rfl rfl rfl ?_ | (refine WL.box hS rfl rfl rfl rfl rfl ?_; intro w b hS)) | (show WC _ _ _ _ _ _; first | refine WC.seq ?_ | refine WC.region ?_ | refine WC.ret ?_ | refine WC.condT rfl (by decide) ?_) | refine seqQ_n ?_ | refine seqQ_r ?_)
    exact fin1r rfl rfl ⟨hS.upd, rfl⟩
  by_cases h01 : kind = 0 ∨ kind = 1
  · have e : wholeE kind data = decide ((data.length : Int) = 0) := by
      unfold wholeE
      rw [if_pos h01]
      by_cases hd : data = []
      · rw [decide_eq_true hd, decide_eq_true (by rw [hd]; rfl)]
      · have := List.length_pos_iff.2 hd
        rw [decide_eq_false hd, decide_eq_false (by omega)]
    rw [e]
    rcases h01 with h | h
    all_goals
      subst h
      repeat' (first | (show WL _ _ _ _ _ _ _; first | refine WL.pure rfl rfl rfl rfl ?_ | refine WL.nil ?_ | refine WL.load hS rfl rfl (LdOk.box Mm rfl) rfl rfl rfl ?_ | (refine WL.box hS rfl rfl rfl rfl rfl ?_; intro w b hS) | refine WL.skip rfl rfl rfl ?_) | (show WC _ _ _ _ _ _; first | refine WC.seq ?_ | refine WC.region ?_ | refine WC.skip ?_ | refine WC.ret ?_ | refine WC.condF rfl (by decide) ?_) | refine seqQ_n ?_)
      exact fin1r rfl rfl ⟨hS.upd, rfl⟩
  · have e : wholeE kind data = false := by unfold wholeE; rw [if_neg h01, if_neg h2]
    have h0 : ¬ kind = 0 := fun h => h01 (.inl h)
    have h1 : ¬ kind = 1 := fun h => h01 (.inr h)
    rw [e]
    clear h01
    repeat' (first | (show WL _ _ _ _ _ _ _; first | refine WL.pure rfl rfl rfl rfl ?_ | refine WL.nil ?_ | refine WL.load hS rfl rfl (LdOk.box Mm rfl) rfl rfl rfl ?_ | (refine WL.box hS rfl rfl rfl rfl rfl ?_; intro w b hS) | refine WL.skip rfl rfl rfl ?_ | ((fail_if_success (refine WL.wanted rfl ?_)); refine WL.guard rfl rfl rfl (fun h => ?_) (fun h => ?_) <;> (try simp only [ZZ0, ZZ1, ZZ2, ZZ3, ZZ4, ZZ5, ZZ6, ZZ7, ZZ8, ZZ9, ZZ10, ZZ11, ZZ12, ZZ13, ZZ14, ZZ15] at h) <;> (try (exfalso; first | omega | contradiction)))) | (show WC _ _ _ _ _ _; first | refine WC.seq ?_ | refine WC.region ?_ | refine WC.skip ?_ | refine WC.ret ?_ | refine WC.condF rfl (decide_eq_false (by first | with_reducible assumption | omega)) ?_) | refine seqQ_n ?_)
    exact fin1r rfl rfl ⟨hS.upd, vbool (by simp [h0, h1])⟩
set_option maxHeartbeats 4000000 in
set_option maxRecDepth 100000 in
theorem rget_c (t : List Ent) (p : List UInt8) {A : Option Addr} {cap : Nat} {w0 : World} (hA : SlAt cEnt (Old w0) w0 A t) (hl : t.length ≤ 1048576) :
    Cal Tryz.prog 54 [.slice A t.length cap, str p] w0 (fun v w' => Upd [] w0 w' ∧ v = nodeV (getT t p)) := by
  refine Cal.mk' (by kernel_rfl) Tryz.func54 rfl rfl fun hS => ?_
  repeat' (first | (show WL _ _ _ _ _ _ _; first | refine WL.pure rfl rfl rfl rfl ?_ | refine WL.nil ?_ | (refine WL.alloc hS rfl rfl rfl rfl rfl rfl ?_; intro w b hS)) | (show WC _ _ _ _ _ _; first | refine WC.seq ?_ | refine WC.region ?_ | refine WC.block ?_) | refine seqQ_n ?_)
  refine WC.loop (σ := Nat) [0, 1, 4] (fun k => [(5, .int .i64 (k : Int))]) (fun k w => (k ≤ t.length ∧ ∀ e ∈ t.take k, e.path ≠ p) ∧ St w0 [] w [.box _ 94 [.int .i64 0, str []]] [⟨w0, Old w0⟩]) (fun k => t.length - k) 0 ⟨⟨Nat.zero_le _, by simp⟩, hS⟩ ⟨rfl, trivial⟩ ?_
  clear hS
  rintro k g w ⟨⟨hk, hno⟩, hS⟩
  show WC _ _ _ (lf _ [(5, .int .i64 (k : Int))] _ _) _ _
  by_cases hlt : k < t.length
  · obtain ⟨rb, ro, es, rfl, hF, hrr, hes⟩ := hA.at_ hlt
    have hes : es = encEnt t[k] := hes
    subst hes
    have hrr : w0.rangeAt rb (ro + k * 3) (encEnt t[k]) := hrr
    by_cases he : t[k].path = p
    · have hg : getT t p = t[k] := by
        unfold getT
        rw [show (t.find? fun e => decide (e.path = p)) = some t[k] from by
          rw [List.find?_eq_some_iff_append]
          refine ⟨by simpa using he, t.take k, t.drop (k + 1), ?_, fun e hm => by simpa using hno e hm⟩
          rw [← List.drop_eq_getElem_cons hlt, List.take_append_drop]]
        rfl
      rw [hg]
      generalize t[k] = e at *
      obtain ⟨epath, ekind, edata⟩ := e
      have he : epath = p := he
      subst he
      clear hno hg
      repeat' (first | (show WL _ _ _ _ _ _ _; first | refine WL.pure rfl rfl rfl rfl ?_ | refine WL.nil ?_ | (refine WL.load hS rfl rfl (LdOk.snap (off := 0) hF hrr Mm rfl) rfl rfl rfl ?_) | (refine WL.load hS rfl rfl (LdOk.snap (off := 1) hF hrr Mm rfl) rfl rfl rfl ?_) | (refine WL.store hS rfl rfl rfl Sb rfl rfl rfl ?_; intro w hS) | refine WL.index rfl rfl rfl rfl (by first | with_reducible assumption | omega) rfl rfl rfl rfl ?_) | (show WC _ _ _ _ _ _; first | refine WC.seq ?_ | refine WC.region ?_ | refine WC.block ?_ | refine WC.skip ?_ | refine WC.ret ?_ | refine WC.condT rfl (decide_eq_true (by first | with_reducible assumption | omega)) ?_) | refine seqQ_n ?_ | refine seqQ_r ?_ | refine blkQ_r ?_ | refine rndQ_r ?_)
      exact finC1r hS rfl rfl (LdOk.box (List.Mem.head _) rfl) ⟨hS.upd, rfl⟩
    · have hno2 : ∀ e ∈ t.take (k + 1), e.path ≠ p := fun e hm => by
        rw [List.take_succ_eq_append_getElem hlt, List.mem_append, List.mem_singleton] at hm
        rcases hm with hm | rfl
        · exact hno e hm
        · exact he
      obtain ⟨HN, rfl⟩ : ∃ h : (∀ e ∈ t.take (k + 1), e.path ≠ p), h = hno2 := ⟨_, rfl⟩
      generalize t[k] = e at *
      obtain ⟨epath, ekind, edata⟩ := e
      have he : ¬ epath = p := he
      clear hno
      repeat' (first | (show WL _ _ _ _ _ _ _; first | refine WL.pure rfl rfl rfl rfl ?_ | refine WL.nil ?_ | refine WL.add rfl rfl rfl (by omega) rfl rfl rfl ?_ | (refine WL.load hS rfl rfl (LdOk.snap (off := 0) hF hrr Mm rfl) rfl rfl rfl ?_) | refine WL.index rfl rfl rfl rfl (by first | with_reducible assumption | omega) rfl rfl rfl rfl ?_) | (show WC _ _ _ _ _ _; first | refine WC.seq ?_ | refine WC.region ?_ | refine WC.block ?_ | refine WC.skip ?_ | refine WC.condT rfl (decide_eq_true (by first | with_reducible assumption | omega)) ?_ | refine WC.condF rfl (decide_eq_false (by first | with_reducible assumption | omega)) ?_) | refine seqQ_n ?_ | refine blkQ_n ?_)
      exact rndQ_n (k + 1) ⟨⟨by omega, HN⟩, hS⟩ (by show t.length - (k + 1) < t.length - k; omega) ⟨vint (by omega), trivial⟩ ⟨rfl, rfl, rfl, trivial⟩
  · have hke : k = t.length := by omega
    subst hke
    rw [List.take_length] at hno
    rw [getT_no hno]
    clear hno
    repeat' (first | (show WL _ _ _ _ _ _ _; first | refine WL.pure rfl rfl rfl rfl ?_ | refine WL.nil ?_ | (refine WL.store hS rfl rfl rfl Sb rfl rfl rfl ?_; intro w hS) | refine WL.build rfl rfl rfl rfl rfl ?_) | (show WC _ _ _ _ _ _; first | refine WC.seq ?_ | refine WC.region ?_ | refine WC.exit ?_ | refine WC.ret ?_ | refine WC.condF rfl (decide_eq_false (by first | with_reducible assumption | omega)) ?_) | refine seqQ_n ?_ | refine seqQ_x ?_ | refine blkQ_hit rfl ?_ | refine rndQ_x ?_)
    exact finC1r hS rfl rfl (LdOk.box (List.Mem.head _) rfl) ⟨hS.upd, rfl⟩
set_option maxHeartbeats 4000000 in
set_option maxRecDepth 100000 in
theorem rsame_c (l : List Ent) {A B : Option Addr} {cap cap2 : Nat} {w0 : World} (hA : SlAt cEnt (Old w0) w0 A l) (hB : SlAt cEnt (Old w0) w0 B l) (hl : l.length ≤ 1099511627776) :
    Cal Tryz.prog 53 [.slice A l.length cap, .slice B l.length cap2] w0 (fun v w' => Upd [] w0 w' ∧ v = .bool true) := by
  refine Cal.mk' (by kernel_rfl) Tryz.func53 rfl rfl fun hS => ?_
  repeat' (first | (show WL _ _ _ _ _ _ _; first | refine WL.pure rfl rfl rfl rfl ?_ | refine WL.nil ?_) | (show WC _ _ _ _ _ _; first | refine WC.seq ?_ | refine WC.region ?_ | refine WC.block ?_ | refine WC.skip ?_ | refine WC.condF rfl (decide_eq_false (by first | with_reducible assumption | omega)) ?_) | refine seqQ_n ?_)
  refine WC.loop (σ := Nat) [0, 1] (fun k => [(5, .int .i64 (k : Int))]) (fun k w => k ≤ l.length ∧ St w0 [] w [] [⟨w0, Old w0⟩]) (fun k => l.length - k) 0 ⟨Nat.zero_le _, hS⟩ ⟨rfl, trivial⟩ ?_
  clear hS
  rintro k g w ⟨hk, hS⟩
  show WC _ _ _ (lf _ [(5, .int .i64 (k : Int))] _ _) _ _
  by_cases hlt : k < l.length
  · obtain ⟨rb, ro, es, rfl, hF, hrr, hes⟩ := hA.at_ hlt
    obtain ⟨rb2, ro2, es2, rfl, hF2, hr2, hes2⟩ := hB.at_ hlt
    have hes : es = encEnt l[k] := hes
    have hes2 : es2 = encEnt l[k] := hes2
    subst hes hes2
    have hrr : w0.rangeAt rb (ro + k * 3) (encEnt l[k]) := hrr
    have hr2 : w0.rangeAt rb2 (ro2 + k * 3) (encEnt l[k]) := hr2
    generalize l[k] = o at *
    obtain ⟨opath, okind, odata⟩ := o
    repeat' (first | (show WL _ _ _ _ _ _ _; first | refine WL.pure rfl rfl rfl rfl ?_ | refine WL.nil ?_ | refine WL.add rfl rfl rfl (by omega) rfl rfl rfl ?_) | (show WC _ _ _ _ _ _; first | refine WC.seq ?_ | refine WC.region ?_ | refine WC.block ?_ | refine WC.skip ?_ | (show WC _ _ (Code.region _ (List.toArray [_, _, _, _, _, _, _, _, _]) true) _ _ _; refine WC.drawS hS [0, 1, 2, 3, 4, 5, 6, 7, 8] [0, 1, 2, 3, 4, 5, 6, 7, 8] (by kernel_rfl) (by kernel_rfl) ?_; clear hS; intro w hS hM) | refine WC.condT rfl (decide_eq_true (by first | with_reducible assumption | omega)) ?_ | refine WC.condF rfl (by first | (simp; done) | (simp; omega)) ?_) | (show WD _ _ _ _ _ _ _ _ _; first | refine WD.pure rfl rfl rfl rfl rfl ?_ | refine WD.nil ?_ | (refine WD.load rfl rfl (LdOk.snap0 hF hrr Mm rfl) rfl rfl rfl rfl ?_) | (refine WD.load rfl rfl (LdOk.snap0 hF2 hr2 Mm rfl) rfl rfl rfl rfl ?_) | refine WD.index rfl rfl rfl rfl (by first | with_reducible assumption | omega) rfl rfl rfl rfl rfl ?_ | refine WD.neS rfl rfl rfl rfl (by kernel_rfl) rfl rfl rfl rfl ?_) | refine seqQ_n ?_ | refine blkQ_n ?_)
    exact rndQ_n (k + 1) ⟨by omega, hS⟩ (by show l.length - (k + 1) < l.length - k; omega) ⟨vint (by omega), trivial⟩ ⟨rfl, rfl, trivial⟩
  · have hke : k = l.length := by omega
    subst hke
    repeat' (first | (show WL _ _ _ _ _ _ _; first | refine WL.pure rfl rfl rfl rfl ?_ | refine WL.nil ?_) | (show WC _ _ _ _ _ _; first | refine WC.seq ?_ | refine WC.region ?_ | refine WC.exit ?_ | refine WC.ret ?_ | refine WC.condF rfl (decide_eq_false (by first | with_reducible assumption | omega)) ?_) | refine seqQ_n ?_ | refine seqQ_x ?_ | refine blkQ_hit rfl ?_ | refine rndQ_x ?_)
    exact fin1r rfl rfl ⟨hS.upd, rfl⟩
def RefTo (t : List Ent) (n : Nat) : Prop := ∀ i (h : i < t.length), i < n → RefOk t i h
theorem checkT_badR {t : List Ent} (h : t.length ≤ 200) {i : Nat} (hi : i < t.length) (hb : ¬ RefOk t i hi) : checkT t = 3 := by
  unfold checkT
  rw [if_neg (by omega), if_neg (fun hh => hb (tree_refOk hh i hi))]
set_option maxHeartbeats 16000000 in
set_option maxRecDepth 100000 in
theorem rtcheck_c (t : List Ent) {A : Option Addr} {cap : Nat} {w0 : World} (hA : SlAt cEnt (Old w0) w0 A t) (hcap : t.length ≤ cap) (hl : t.length ≤ 1048576) (hz : ∀ e ∈ t, e.path.length ≤ 1048576) :
    Cal Tryz.prog 108 [.slice A t.length cap] w0 (fun v w' => Upd [] w0 w' ∧ v = .int .i64 (checkT t)) := by
  refine Cal.mk' (by kernel_rfl) Tryz.func108 rfl rfl fun hS => ?_
  by_cases h200 : t.length ≤ 200
  rotate_left
  · have e : checkT t = 4 := by unfold checkT; rw [if_pos (by omega)]
    rw [e]
    repeat' (first | (show WL _ _ _ _ _ _ _; first | refine WL.pure rfl rfl rfl rfl ?_ | refine WL.nil ?_) | (show WC _ _ _ _ _ _; first | refine WC.seq ?_ | refine WC.region ?_ | refine WC.ret ?_ | refine WC.condT rfl (decide_eq_true (by first | with_reducible assumption | omega)) ?_) | refine seqQ_n ?_ | refine seqQ_r ?_)
    exact fin1r rfl rfl ⟨hS.upd, rfl⟩
  repeat' (first | (show WL _ _ _ _ _ _ _; first | refine WL.pure rfl rfl rfl rfl ?_ | refine WL.nil ?_) | (show WC _ _ _ _ _ _; first | refine WC.seq ?_ | refine WC.region ?_ | refine WC.block ?_ | refine WC.skip ?_ | refine WC.condF rfl (decide_eq_false (by first | with_reducible assumption | omega)) ?_) | refine seqQ_n ?_)
  refine WC.loop (σ := Nat) [0] (fun i => [(3, .int .i64 (i : Int))]) (fun i w => (i ≤ t.length ∧ RefTo t i) ∧ St w0 [] w [] [⟨w0, Old w0⟩]) (fun i => t.length - i) 0 ⟨⟨Nat.zero_le _, fun i _ h => absurd h (Nat.not_lt_zero _)⟩, hS⟩ ⟨rfl, trivial⟩ ?_
  clear hS
  rintro i g w ⟨⟨hi, hto⟩, hS⟩
  show WC _ _ _ (lf _ [(3, .int .i64 (i : Int))] _ _) _ _
  by_cases hlt : i < t.length
  rotate_left
  · have hie : i = t.length := by omega
    subst hie
    rw [checkT_ok h200 (refOk_tree fun j hj => hto j hj hj)]
    clear hto
    repeat' (first | (show WL _ _ _ _ _ _ _; first | refine WL.pure rfl rfl rfl rfl ?_ | refine WL.nil ?_) | (show WC _ _ _ _ _ _; first | refine WC.seq ?_ | refine WC.region ?_ | refine WC.exit ?_ | refine WC.ret ?_ | refine WC.condF rfl (decide_eq_false (by first | with_reducible assumption | omega)) ?_) | refine seqQ_n ?_ | refine seqQ_x ?_ | refine blkQ_hit rfl ?_ | refine rndQ_x ?_)
    exact fin1r rfl rfl ⟨hS.upd, rfl⟩
  obtain ⟨rb, ro, es, rfl, hF, hrr, hes⟩ := hA.at_ hlt
  have hes : es = encEnt t[i] := hes
  subst hes
  have hrr : w0.rangeAt rb (ro + i * 3) (encEnt t[i]) := hrr
  have hpl := hz t[i] (List.getElem_mem hlt)
  have hbad := fun (h : ¬ RefOk t i hlt) => checkT_badR h200 hlt h
  have hprev : 0 < i → ∃ pb po, (some ⟨rb, ro, none⟩ : Option Addr) = some ⟨pb, po, none⟩ ∧ ∃ h : i - 1 < t.length, Old w0 pb ∧ w0.rangeAt pb (po + (i - 1) * 3) (encEnt t[i - 1]) := fun h0 => by
    have h1 : i - 1 < t.length := by omega
    obtain ⟨pb, po, es, hA2, hF2, hr2, hes2⟩ := hA.at_ h1
    have hes2 : es = encEnt t[i - 1] := hes2
    subst hes2
    exact ⟨pb, po, hA2, h1, hF2, hr2⟩
  have hnext : RefOk t i hlt → RefTo t (i + 1) := fun h j hj hji => by
    by_cases e : j = i
    · subst e; exact h
    · exact hto j hj (by omega)
  have hfail : (checkE t[i].path 5 ≠ 0 ∨ wholeE t[i].kind t[i].data = false ∨ t[i].kind = 0 ∨ (∃ h0 : 0 < i, Op.bytesLess (t[i - 1]'(by omega)).path t[i].path = false) ∨ (parentE t[i].path ≠ [] ∧ (getT t (parentE t[i].path)).kind ≠ 1)) → checkT t = 3 := fun h => hbad fun ho => by
    rcases h with h | h | h | ⟨h0, h⟩ | ⟨h1, h2⟩
    · exact h ho.path
    · have := ho.whole; rw [h] at this; cases this
    · exact ho.kind h
    · have := ho.ord (i - 1) (by omega); rw [h] at this; cases this
    · exact h2 (ho.up h1)
  have hgood : checkE t[i].path 5 = 0 → wholeE t[i].kind t[i].data = true → t[i].kind ≠ 0 → (∀ h0 : 0 < i, Op.bytesLess (t[i - 1]'(by omega)).path t[i].path = true) → (parentE t[i].path ≠ [] → (getT t (parentE t[i].path)).kind = 1) → RefTo t (i + 1) := fun h1 h2 h3 h4 h5 =>
    hnext ⟨h1, h2, h3, fun j hj => by subst hj; exact h4 (by omega), h5⟩
  have hq : 0 < i → ∃ q, ∃ h1 : i - 1 < t.length, q = t[i - 1] := fun h0 => ⟨_, by omega, rfl⟩
  clear hbad hnext hto
  obtain ⟨c, hcp⟩ : ∃ c, checkE t[i].path 5 = c := ⟨_, rfl⟩
  obtain ⟨wb, hwb⟩ : ∃ wb, wholeE t[i].kind t[i].data = wb := ⟨_, rfl⟩
  obtain ⟨up, hup⟩ : ∃ up, parentE t[i].path = up := ⟨_, rfl⟩
  rw [hcp, hwb, hup] at hfail hgood
  obtain ⟨gt, hgt⟩ : ∃ gt, getT t up = gt := ⟨_, rfl⟩
  rw [hgt] at hfail hgood
  obtain ⟨gpath, gkind, gdata⟩ := gt
  have hgt : getT t up = ⟨gpath, gkind, gdata⟩ := hgt
  have hfail : (c ≠ 0 ∨ wb = false ∨ t[i].kind = 0 ∨ (∃ h0 : 0 < i, Op.bytesLess (t[i - 1]'(by omega)).path t[i].path = false) ∨ (up ≠ [] ∧ gkind ≠ 1)) → checkT t = 3 := hfail
  have hgood : c = 0 → wb = true → t[i].kind ≠ 0 → (∀ h0 : 0 < i, Op.bytesLess (t[i - 1]'(by omega)).path t[i].path = true) → (up ≠ [] → gkind = 1) → RefTo t (i + 1) := hgood
  by_cases hc0 : c = 0
  rotate_left
  · rw [hfail (.inl hc0)]
    generalize t[i] = e at *
    obtain ⟨path, kind, data⟩ := e
    dsimp only at hcp hwb hup hpl
    clear hfail hgood hprev hq
    repeat' (first | (show WL _ _ _ _ _ _ _; first | refine WL.pure rfl rfl rfl rfl ?_ | refine WL.nil ?_ | (refine WL.load hS rfl rfl (LdOk.snap (off := 0) hF hrr Mm rfl) rfl rfl rfl ?_) | (refine WL.calls hS rfl rfl (rcheck_c path 5 _ (by omega)) rfl rfl rfl ?_; rintro v w rfl hS; rw [hcp]) | refine WL.index rfl rfl rfl rfl (by first | with_reducible assumption | omega) rfl rfl rfl rfl ?_ | refine WL.skip rfl rfl rfl ?_ | ((fail_if_success (refine WL.wanted rfl ?_)); refine WL.guard rfl rfl rfl (fun h => ?_) (fun h => ?_) <;> (try simp only [ZZ0, ZZ1, ZZ2, ZZ3, ZZ4, ZZ5, ZZ6, ZZ7, ZZ8, ZZ9, ZZ10, ZZ11, ZZ12, ZZ13, ZZ14, ZZ15] at h) <;> (try (exfalso; first | omega | contradiction)))) | (show WC _ _ _ _ _ _; first | refine WC.seq ?_ | refine WC.region ?_ | refine WC.block ?_ | refine WC.skip ?_ | refine WC.ret ?_ | refine WC.condT rfl (by with_reducible rfl) ?_ | refine WC.condT rfl (decide_eq_true (by first | with_reducible assumption | omega)) ?_) | refine seqQ_n ?_ | refine seqQ_r ?_ | refine blkQ_r ?_ | refine rndQ_r ?_)
    exact fin1r rfl rfl ⟨hS.upd, rfl⟩
  subst hc0
  cases wb with
  | false =>
    rw [hfail (.inr (.inl rfl))]
    generalize t[i] = e at *
    obtain ⟨path, kind, data⟩ := e
    dsimp only at hcp hwb hup hpl
    clear hfail hgood hprev hq
    repeat' (first | (show WL _ _ _ _ _ _ _; first | refine WL.pure rfl rfl rfl rfl ?_ | refine WL.nil ?_ | (refine WL.load hS rfl rfl (LdOk.snap (off := 0) hF hrr Mm rfl) rfl rfl rfl ?_) | (refine WL.load hS rfl rfl (LdOk.snap (off := 1) hF hrr Mm rfl) rfl rfl rfl ?_) | (refine WL.calls hS rfl rfl (rcheck_c path 5 _ (by omega)) rfl rfl rfl ?_; rintro v w rfl hS; rw [hcp]) | (refine WL.calls hS rfl rfl (rwhole_c kind data _) rfl rfl rfl ?_; rintro v w rfl hS; rw [hwb]) | refine WL.index rfl rfl rfl rfl (by first | with_reducible assumption | omega) rfl rfl rfl rfl ?_ | refine WL.skip rfl rfl rfl ?_) | (show WC _ _ _ _ _ _; first | refine WC.seq ?_ | refine WC.region ?_ | refine WC.block ?_ | refine WC.skip ?_ | refine WC.ret ?_ | refine WC.condT rfl (by with_reducible rfl) ?_ | refine WC.condT rfl (decide_eq_true (by first | with_reducible assumption | omega)) ?_) | refine seqQ_n ?_ | refine seqQ_r ?_ | refine blkQ_r ?_ | refine rndQ_r ?_)
    exact fin1r rfl rfl ⟨hS.upd, rfl⟩
  | true =>
    by_cases hk0 : t[i].kind = 0
    · rw [hfail (.inr (.inr (.inl hk0)))]
      generalize t[i] = e at *
      obtain ⟨path, kind, data⟩ := e
      dsimp only at hcp hwb hup hpl
      have hk0 : kind = 0 := hk0
      clear hfail hgood hprev hq
      repeat' (first | (show WL _ _ _ _ _ _ _; first | refine WL.pure rfl rfl rfl rfl ?_ | refine WL.nil ?_ | (refine WL.load hS rfl rfl (LdOk.snap (off := 0) hF hrr Mm rfl) rfl rfl rfl ?_) | (refine WL.load hS rfl rfl (LdOk.snap (off := 1) hF hrr Mm rfl) rfl rfl rfl ?_) | (refine WL.calls hS rfl rfl (rcheck_c path 5 _ (by omega)) rfl rfl rfl ?_; rintro v w rfl hS; rw [hcp]) | (refine WL.calls hS rfl rfl (rwhole_c kind data _) rfl rfl rfl ?_; rintro v w rfl hS; rw [hwb]) | refine WL.index rfl rfl rfl rfl (by first | with_reducible assumption | omega) rfl rfl rfl rfl ?_ | refine WL.skip rfl rfl rfl ?_ | ((fail_if_success (refine WL.wanted rfl ?_)); refine WL.guard rfl rfl rfl (fun h => ?_) (fun h => ?_) <;> (try simp only [ZZ0, ZZ1, ZZ2, ZZ3, ZZ4, ZZ5, ZZ6, ZZ7, ZZ8, ZZ9, ZZ10, ZZ11, ZZ12, ZZ13, ZZ14, ZZ15] at h) <;> (try (exfalso; first | omega | contradiction)))) | (show WC _ _ _ _ _ _; first | refine WC.seq ?_ | refine WC.region ?_ | refine WC.block ?_ | refine WC.skip ?_ | refine WC.ret ?_ | refine WC.condT rfl (by with_reducible rfl) ?_ | refine WC.condT rfl (decide_eq_true (by first | with_reducible assumption | omega)) ?_) | refine seqQ_n ?_ | refine seqQ_r ?_ | refine blkQ_r ?_ | refine rndQ_r ?_)
      exact fin1r rfl rfl ⟨hS.upd, rfl⟩
    by_cases h0 : 0 < i
    rotate_left
    · have hi0 : i = 0 := by omega
      have hg2 := hgood rfl rfl hk0 (fun h => absurd h h0)
      have hf2 := fun h => hfail (.inr (.inr (.inr (.inr h))))
      generalize t[i] = e at *
      obtain ⟨path, kind, data⟩ := e
      dsimp only at hcp hwb hup hpl
      have hk0 : ¬ kind = 0 := hk0
      clear hfail hgood hprev hq
      by_cases hu : up = []
      · have hg3 := hg2 (fun h => absurd hu h)
        subst hu
        clear hg2 hf2
        repeat' (first | (show WL _ _ _ _ _ _ _; first | refine WL.pure rfl rfl rfl rfl ?_ | refine WL.nil ?_ | refine WL.add rfl rfl rfl (by omega) rfl rfl rfl ?_ | (refine WL.load hS rfl rfl (LdOk.snap (off := 0) hF hrr Mm rfl) rfl rfl rfl ?_) | (refine WL.load hS rfl rfl (LdOk.snap (off := 1) hF hrr Mm rfl) rfl rfl rfl ?_) | (refine WL.calls hS rfl rfl (rcheck_c path 5 _ (by omega)) rfl rfl rfl ?_; rintro v w rfl hS; rw [hcp]) | (refine WL.calls hS rfl rfl (rwhole_c kind data _) rfl rfl rfl ?_; rintro v w rfl hS; rw [hwb]) | (refine WL.calls hS rfl rfl (rparent_c path _ (by omega)) rfl rfl rfl ?_; rintro v w rfl hS; rw [hup]) | refine WL.index rfl rfl rfl rfl (by first | with_reducible assumption | omega) rfl rfl rfl rfl ?_ | refine WL.skip rfl rfl rfl ?_ | ((fail_if_success (refine WL.wanted rfl ?_)); refine WL.guard rfl rfl rfl (fun h => ?_) (fun h => ?_) <;> (try simp only [ZZ0, ZZ1, ZZ2, ZZ3, ZZ4, ZZ5, ZZ6, ZZ7, ZZ8, ZZ9, ZZ10, ZZ11, ZZ12, ZZ13, ZZ14, ZZ15] at h) <;> (try (exfalso; first | omega | contradiction)))) | (show WC _ _ _ _ _ _; first | refine WC.seq ?_ | refine WC.region ?_ | refine WC.block ?_ | refine WC.skip ?_ | refine WC.condF rfl (by with_reducible rfl) ?_ | refine WC.condT rfl (decide_eq_true (by first | with_reducible assumption | omega)) ?_) | refine seqQ_n ?_ | refine blkQ_n ?_)
        exact rndQ_n (i + 1) ⟨⟨by omega, hg3⟩, hS⟩ (by show t.length - (i + 1) < t.length - i; omega) ⟨vint (by omega), trivial⟩ ⟨rfl, trivial⟩
      · by_cases hgk : gkind = 1
        · have hg3 := hg2 (fun _ => hgk)
          subst hgk
          clear hg2 hf2
          repeat' (first | (show WL _ _ _ _ _ _ _; first | refine WL.pure rfl rfl rfl rfl ?_ | refine WL.nil ?_ | refine WL.add rfl rfl rfl (by omega) rfl rfl rfl ?_ | (refine WL.load hS rfl rfl (LdOk.snap (off := 0) hF hrr Mm rfl) rfl rfl rfl ?_) | (refine WL.load hS rfl rfl (LdOk.snap (off := 1) hF hrr Mm rfl) rfl rfl rfl ?_) | (refine WL.calls hS rfl rfl (rcheck_c path 5 _ (by omega)) rfl rfl rfl ?_; rintro v w rfl hS; rw [hcp]) | (refine WL.calls hS rfl rfl (rwhole_c kind data _) rfl rfl rfl ?_; rintro v w rfl hS; rw [hwb]) | (refine WL.calls hS rfl rfl (rparent_c path _ (by omega)) rfl rfl rfl ?_; rintro v w rfl hS; rw [hup]) | (refine WL.calls hS rfl rfl (rget_c t up (hS.slO Mm hA) hl) rfl rfl rfl ?_; rintro v w rfl hS; rw [hgt]) | refine WL.index rfl rfl rfl rfl (by first | with_reducible assumption | omega) rfl rfl rfl rfl ?_ | refine WL.skip rfl rfl rfl ?_ | ((fail_if_success (refine WL.wanted rfl ?_)); refine WL.guard rfl rfl rfl (fun h => ?_) (fun h => ?_) <;> (try simp only [ZZ0, ZZ1, ZZ2, ZZ3, ZZ4, ZZ5, ZZ6, ZZ7, ZZ8, ZZ9, ZZ10, ZZ11, ZZ12, ZZ13, ZZ14, ZZ15] at h) <;> (try (exfalso; first | omega | contradiction)))) | (show WC _ _ _ _ _ _; first | refine WC.seq ?_ | refine WC.region ?_ | refine WC.block ?_ | refine WC.skip ?_ | refine WC.condF rfl (by with_reducible rfl) ?_ | refine WC.condT rfl (decide_eq_true (by first | with_reducible assumption | omega)) ?_ | refine WC.condF rfl (by first | (simp; done) | (simp; omega)) ?_) | refine seqQ_n ?_ | refine blkQ_n ?_)
          exact rndQ_n (i + 1) ⟨⟨by omega, hg3⟩, hS⟩ (by show t.length - (i + 1) < t.length - i; omega) ⟨vint (by omega), trivial⟩ ⟨rfl, trivial⟩
        · rw [hf2 ⟨hu, hgk⟩]
          clear hg2 hf2
          repeat' (first | (show WL _ _ _ _ _ _ _; first | refine WL.pure rfl rfl rfl rfl ?_ | refine WL.nil ?_ | (refine WL.load hS rfl rfl (LdOk.snap (off := 0) hF hrr Mm rfl) rfl rfl rfl ?_) | (refine WL.load hS rfl rfl (LdOk.snap (off := 1) hF hrr Mm rfl) rfl rfl rfl ?_) | (refine WL.calls hS rfl rfl (rcheck_c path 5 _ (by omega)) rfl rfl rfl ?_; rintro v w rfl hS; rw [hcp]) | (refine WL.calls hS rfl rfl (rwhole_c kind data _) rfl rfl rfl ?_; rintro v w rfl hS; rw [hwb]) | (refine WL.calls hS rfl rfl (rparent_c path _ (by omega)) rfl rfl rfl ?_; rintro v w rfl hS; rw [hup]) | (refine WL.calls hS rfl rfl (rget_c t up (hS.slO Mm hA) hl) rfl rfl rfl ?_; rintro v w rfl hS; rw [hgt]) | refine WL.index rfl rfl rfl rfl (by first | with_reducible assumption | omega) rfl rfl rfl rfl ?_ | refine WL.skip rfl rfl rfl ?_ | ((fail_if_success (refine WL.wanted rfl ?_)); refine WL.guard rfl rfl rfl (fun h => ?_) (fun h => ?_) <;> (try simp only [ZZ0, ZZ1, ZZ2, ZZ3, ZZ4, ZZ5, ZZ6, ZZ7, ZZ8, ZZ9, ZZ10, ZZ11, ZZ12, ZZ13, ZZ14, ZZ15] at h) <;> (try (exfalso; first | omega | contradiction)))) | (show WC _ _ _ _ _ _; first | refine WC.seq ?_ | refine WC.region ?_ | refine WC.block ?_ | refine WC.skip ?_ | refine WC.ret ?_ | refine WC.condF rfl (by with_reducible rfl) ?_ | refine WC.condT rfl (decide_eq_true (by first | with_reducible assumption | omega)) ?_) | refine seqQ_n ?_ | refine seqQ_r ?_ | refine blkQ_r ?_ | refine rndQ_r ?_)
          exact fin1r rfl rfl ⟨hS.upd, rfl⟩
    obtain ⟨pb, po, hpe, h1, hF2, hr2⟩ := hprev h0
    cases hpe
    cases hless : Op.bytesLess t[i - 1].path t[i].path with
    | false =>
      rw [hfail (.inr (.inr (.inr (.inl ⟨h0, hless⟩))))]
      generalize t[i] = e at *
      generalize t[i - 1] = q at *
      obtain ⟨path, kind, data⟩ := e
      dsimp only at hcp hwb hup hpl
      obtain ⟨qpath, qkind, qdata⟩ := q
      have hk0 : ¬ kind = 0 := hk0
      have hless : Op.bytesLess qpath path = false := hless
      clear hfail hgood hprev hq
      repeat' (first | (show WL _ _ _ _ _ _ _; first | refine WL.pure rfl rfl rfl rfl ?_ | refine WL.nil ?_ | refine WL.sub rfl rfl rfl (by omega) rfl rfl rfl ?_ | (refine WL.load hS rfl rfl (LdOk.snap (off := 0) hF hrr Mm rfl) rfl rfl rfl ?_) | (refine WL.load hS rfl rfl (LdOk.snap (off := 1) hF hrr Mm rfl) rfl rfl rfl ?_) | (refine WL.calls hS rfl rfl (rcheck_c path 5 _ (by omega)) rfl rfl rfl ?_; rintro v w rfl hS; rw [hcp]) | (refine WL.calls hS rfl rfl (rwhole_c kind data _) rfl rfl rfl ?_; rintro v w rfl hS; rw [hwb]) | (refine WL.index (j := i - 1) rfl rfl rfl (vint (show ((i : Nat) : Int) - 1 = ((i - 1 : Nat) : Int) by omega)) (by omega) rfl rfl rfl rfl ?_) | (refine WL.load hS rfl rfl (LdOk.snap (off := 0) hF2 hr2 Mm rfl) rfl rfl rfl ?_) | refine WL.index rfl rfl rfl rfl (by first | with_reducible assumption | omega) rfl rfl rfl rfl ?_ | ((fail_if_success (refine WL.wanted rfl ?_)); refine WL.guard rfl rfl rfl (fun h => ?_) (fun h => ?_) <;> (try simp only [ZZ0, ZZ1, ZZ2, ZZ3, ZZ4, ZZ5, ZZ6, ZZ7, ZZ8, ZZ9, ZZ10, ZZ11, ZZ12, ZZ13, ZZ14, ZZ15] at h) <;> (try (exfalso; first | omega | contradiction)))) | (show WC _ _ _ _ _ _; first | refine WC.condT rfl (by first | (simp [hless]; done) | fail) ?_ | refine WC.seq ?_ | refine WC.region ?_ | refine WC.block ?_ | refine WC.skip ?_ | refine WC.ret ?_ | refine WC.condT rfl (decide_eq_true (by first | with_reducible assumption | omega)) ?_) | refine seqQ_n ?_ | refine seqQ_r ?_ | refine blkQ_r ?_ | refine rndQ_r ?_)
      exact fin1r rfl rfl ⟨hS.upd, rfl⟩
    | true =>
      have hg2 := hgood rfl rfl hk0 (fun _ => hless)
      have hf2 := fun h => hfail (.inr (.inr (.inr (.inr h))))
      generalize t[i] = e at *
      generalize t[i - 1] = q at *
      obtain ⟨path, kind, data⟩ := e
      dsimp only at hcp hwb hup hpl
      obtain ⟨qpath, qkind, qdata⟩ := q
      have hk0 : ¬ kind = 0 := hk0
      have hless : Op.bytesLess qpath path = true := hless
      clear hfail hgood hprev hq
      by_cases hu : up = []
      · have hg3 := hg2 (fun h => absurd hu h)
        subst hu
        clear hg2 hf2
        repeat' (first | (show WL _ _ _ _ _ _ _; first | refine WL.pure rfl rfl rfl rfl ?_ | refine WL.nil ?_ | refine WL.add rfl rfl rfl (by omega) rfl rfl rfl ?_ | refine WL.sub rfl rfl rfl (by omega) rfl rfl rfl ?_ | (refine WL.load hS rfl rfl (LdOk.snap (off := 0) hF hrr Mm rfl) rfl rfl rfl ?_) | (refine WL.load hS rfl rfl (LdOk.snap (off := 1) hF hrr Mm rfl) rfl rfl rfl ?_) | (refine WL.calls hS rfl rfl (rcheck_c path 5 _ (by omega)) rfl rfl rfl ?_; rintro v w rfl hS; rw [hcp]) | (refine WL.calls hS rfl rfl (rwhole_c kind data _) rfl rfl rfl ?_; rintro v w rfl hS; rw [hwb]) | (refine WL.index (j := i - 1) rfl rfl rfl (vint (show ((i : Nat) : Int) - 1 = ((i - 1 : Nat) : Int) by omega)) (by omega) rfl rfl rfl rfl ?_) | (refine WL.load hS rfl rfl (LdOk.snap (off := 0) hF2 hr2 Mm rfl) rfl rfl rfl ?_) | (refine WL.calls hS rfl rfl (rparent_c path _ (by omega)) rfl rfl rfl ?_; rintro v w rfl hS; rw [hup]) | refine WL.index rfl rfl rfl rfl (by first | with_reducible assumption | omega) rfl rfl rfl rfl ?_ | refine WL.skip rfl rfl rfl ?_ | ((fail_if_success (refine WL.wanted rfl ?_)); refine WL.guard rfl rfl rfl (fun h => ?_) (fun h => ?_) <;> (try simp only [ZZ0, ZZ1, ZZ2, ZZ3, ZZ4, ZZ5, ZZ6, ZZ7, ZZ8, ZZ9, ZZ10, ZZ11, ZZ12, ZZ13, ZZ14, ZZ15] at h) <;> (try (exfalso; first | omega | contradiction)))) | (show WC _ _ _ _ _ _; first | refine WC.condF rfl (by first | (simp [hless]; done) | fail) ?_ | refine WC.seq ?_ | refine WC.region ?_ | refine WC.block ?_ | refine WC.skip ?_ | refine WC.condT rfl (decide_eq_true (by first | with_reducible assumption | omega)) ?_) | refine seqQ_n ?_ | refine blkQ_n ?_)
        exact rndQ_n (i + 1) ⟨⟨by omega, hg3⟩, hS⟩ (by show t.length - (i + 1) < t.length - i; omega) ⟨vint (by omega), trivial⟩ ⟨rfl, trivial⟩
      · by_cases hgk : gkind = 1
        · have hg3 := hg2 (fun _ => hgk)
          subst hgk
          clear hg2 hf2
          repeat' (first | (show WL _ _ _ _ _ _ _; first | refine WL.pure rfl rfl rfl rfl ?_ | refine WL.nil ?_ | refine WL.add rfl rfl rfl (by omega) rfl rfl rfl ?_ | refine WL.sub rfl rfl rfl (by omega) rfl rfl rfl ?_ | (refine WL.load hS rfl rfl (LdOk.snap (off := 0) hF hrr Mm rfl) rfl rfl rfl ?_) | (refine WL.load hS rfl rfl (LdOk.snap (off := 1) hF hrr Mm rfl) rfl rfl rfl ?_) | (refine WL.calls hS rfl rfl (rcheck_c path 5 _ (by omega)) rfl rfl rfl ?_; rintro v w rfl hS; rw [hcp]) | (refine WL.calls hS rfl rfl (rwhole_c kind data _) rfl rfl rfl ?_; rintro v w rfl hS; rw [hwb]) | (refine WL.index (j := i - 1) rfl rfl rfl (vint (show ((i : Nat) : Int) - 1 = ((i - 1 : Nat) : Int) by omega)) (by omega) rfl rfl rfl rfl ?_) | (refine WL.load hS rfl rfl (LdOk.snap (off := 0) hF2 hr2 Mm rfl) rfl rfl rfl ?_) | (refine WL.calls hS rfl rfl (rparent_c path _ (by omega)) rfl rfl rfl ?_; rintro v w rfl hS; rw [hup]) | (refine WL.calls hS rfl rfl (rget_c t up (hS.slO Mm hA) hl) rfl rfl rfl ?_; rintro v w rfl hS; rw [hgt]) | refine WL.index rfl rfl rfl rfl (by first | with_reducible assumption | omega) rfl rfl rfl rfl ?_ | ((fail_if_success (refine WL.wanted rfl ?_)); refine WL.guard rfl rfl rfl (fun h => ?_) (fun h => ?_) <;> (try simp only [ZZ0, ZZ1, ZZ2, ZZ3, ZZ4, ZZ5, ZZ6, ZZ7, ZZ8, ZZ9, ZZ10, ZZ11, ZZ12, ZZ13, ZZ14, ZZ15] at h) <;> (try (exfalso; first | omega | contradiction)))) | (show WC _ _ _ _ _ _; first | refine WC.condF rfl (by first | (simp [hless]; done) | fail) ?_ | refine WC.seq ?_ | refine WC.region ?_ | refine WC.block ?_ | refine WC.skip ?_ | refine WC.condT rfl (decide_eq_true (by first | with_reducible assumption | omega)) ?_) | refine seqQ_n ?_ | refine blkQ_n ?_)
          exact rndQ_n (i + 1) ⟨⟨by omega, hg3⟩, hS⟩ (by show t.length - (i + 1) < t.length - i; omega) ⟨vint (by omega), trivial⟩ ⟨rfl, trivial⟩
        · rw [hf2 ⟨hu, hgk⟩]
          clear hg2 hf2
          repeat' (first | (show WL _ _ _ _ _ _ _; first | refine WL.pure rfl rfl rfl rfl ?_ | refine WL.nil ?_ | refine WL.sub rfl rfl rfl (by omega) rfl rfl rfl ?_ | (refine WL.load hS rfl rfl (LdOk.snap (off := 0) hF hrr Mm rfl) rfl rfl rfl ?_) | (refine WL.load hS rfl rfl (LdOk.snap (off := 1) hF hrr Mm rfl) rfl rfl rfl ?_) | (refine WL.calls hS rfl rfl (rcheck_c path 5 _ (by omega)) rfl rfl rfl ?_; rintro v w rfl hS; rw [hcp]) | (refine WL.calls hS rfl rfl (rwhole_c kind data _) rfl rfl rfl ?_; rintro v w rfl hS; rw [hwb]) | (refine WL.index (j := i - 1) rfl rfl rfl (vint (show ((i : Nat) : Int) - 1 = ((i - 1 : Nat) : Int) by omega)) (by omega) rfl rfl rfl rfl ?_) | (refine WL.load hS rfl rfl (LdOk.snap (off := 0) hF2 hr2 Mm rfl) rfl rfl rfl ?_) | (refine WL.calls hS rfl rfl (rparent_c path _ (by omega)) rfl rfl rfl ?_; rintro v w rfl hS; rw [hup]) | (refine WL.calls hS rfl rfl (rget_c t up (hS.slO Mm hA) hl) rfl rfl rfl ?_; rintro v w rfl hS; rw [hgt]) | refine WL.index rfl rfl rfl rfl (by first | with_reducible assumption | omega) rfl rfl rfl rfl ?_ | ((fail_if_success (refine WL.wanted rfl ?_)); refine WL.guard rfl rfl rfl (fun h => ?_) (fun h => ?_) <;> (try simp only [ZZ0, ZZ1, ZZ2, ZZ3, ZZ4, ZZ5, ZZ6, ZZ7, ZZ8, ZZ9, ZZ10, ZZ11, ZZ12, ZZ13, ZZ14, ZZ15] at h) <;> (try (exfalso; first | omega | contradiction)))) | (show WC _ _ _ _ _ _; first | refine WC.condF rfl (by first | (simp [hless]; done) | fail) ?_ | refine WC.seq ?_ | refine WC.region ?_ | refine WC.block ?_ | refine WC.skip ?_ | refine WC.ret ?_ | refine WC.condT rfl (decide_eq_true (by first | with_reducible assumption | omega)) ?_) | refine seqQ_n ?_ | refine seqQ_r ?_ | refine blkQ_r ?_ | refine rndQ_r ?_)
          exact fin1r rfl rfl ⟨hS.upd, rfl⟩
end Go.Proofs.YtccfiohagbneaaaGreatDoor

/- What is proved: the document's steps from one tree to another. Conditions: lists of bounded length. -/
namespace Go.Proofs.YtccfiohagbneaaaGreatDoor
open Go Go.J Go.RowKit
abbrev aC (A : Option Addr) (c : Nat) (s : List Ac) : Chunk := .own (.slice A s.length c) 167 4 s.length (s.flatMap encAc)
theorem aC_snoc {A : Option Addr} {c : Nat} {s : List Ac} {e : Ac} : Chunk.own (.slice A (s.length + 1) c) 167 4 (s.length + 1) (s.flatMap encAc ++ encAc e) = aC A c (s ++ [e]) := by
  unfold aC
  rw [List.flatMap_append, List.length_append]
  rfl
theorem rem_step (root : Int) (old now : List Ent) {k : Nat} (h : k < old.length) : remA root (old.drop k) now = remA root (old.drop (k + 1)) now ++ if (getT now old[k].path).kind ≠ old[k].kind then [⟨root, old[k].path, 0, []⟩] else [] := by
  unfold remA
  rw [List.drop_eq_getElem_cons h, List.reverse_cons, List.filter_append, List.map_append]
  congr 1
  by_cases hk : (getT now old[k].path).kind = old[k].kind
  · rw [if_neg (fun hh => hh hk), List.filter_cons_of_neg (by simp [hk])]; rfl
  · rw [if_pos hk, List.filter_cons_of_pos (by simp [hk])]; rfl
theorem put_step (root : Int) (old now : List Ent) {k : Nat} (h : k < now.length) : putA root old (now.take (k + 1)) = putA root old (now.take k) ++ if nodeT old now[k].path ≠ (now[k].kind, now[k].data) then [⟨root, now[k].path, now[k].kind, now[k].data⟩] else [] := by
  unfold putA
  rw [List.take_succ_eq_append_getElem h, List.filter_append, List.map_append]
  congr 1
  by_cases hk : nodeT old now[k].path = (now[k].kind, now[k].data)
  · rw [if_neg (fun hh => hh hk), List.filter_cons_of_neg (by simp [hk])]; rfl
  · rw [if_pos hk, List.filter_cons_of_pos (by simp [hk])]; rfl
theorem putA_len (root : Int) (old now : List Ent) : (putA root old now).length ≤ now.length := by unfold putA; rw [List.length_map]; exact List.length_filter_le _ _
theorem remA_len (root : Int) (old now : List Ent) : (remA root old now).length ≤ old.length := by
  unfold remA
  rw [List.length_map]
  refine Nat.le_trans (List.length_filter_le _ _) ?_
  rw [List.length_reverse]; exact Nat.le_refl _
set_option maxRecDepth 8000 in
set_option maxHeartbeats 16000000 in
set_option maxRecDepth 100000 in
theorem ractions_c (root : Int) (old now : List Ent) {A B : Option Addr} {ca cb : Nat} {w0 : World} (hA : SlAt cEnt (Old w0) w0 A old) (hB : SlAt cEnt (Old w0) w0 B now) (hl : old.length ≤ 100000) (hlb : now.length ≤ 100000) :
    Cal Tryz.prog 51 [.int .i64 root, .slice A old.length ca, .slice B now.length cb] w0 (fun v w' => Upd [] w0 w' ∧ ∃ A' c', v = .slice A' (actE root old now).length c' ∧ New w0 w' (aC A' c' (actE root old now))) := by
  refine Cal.mk' (by kernel_rfl) Tryz.func51 rfl rfl fun hS => ?_
  replace hS := hS.nilRow 167 4
  repeat' (first | (show WL _ _ _ _ _ _ _; first | refine WL.pure rfl rfl rfl rfl ?_ | refine WL.nil ?_ | refine WL.sub rfl rfl rfl (by omega) rfl rfl rfl ?_) | (show WC _ _ _ _ _ _; first | refine WC.seq ?_ | refine WC.region ?_ | refine WC.block ?_) | refine seqQ_n ?_)
  refine WC.loop (σ := Nat × List Ac × Option Addr × Nat) [0, 1, 2] (fun (k, out, AO, oc) => [(7, .slice AO out.length oc), (8, .int .i64 ((k : Int) - 1))])
    (fun (k, out, AO, oc) w => (k ≤ old.length ∧ out = remA root (old.drop k) now) ∧ St w0 [] w [aC AO oc out] [⟨w0, Old w0⟩]) (fun (k, _) => k) (old.length, [], none, 0)
    ⟨⟨Nat.le_refl _, by rw [List.drop_of_length_le (Nat.le_refl _)]; rfl⟩, hS⟩ ⟨rfl, rfl, trivial⟩ ?_
  clear hS
  rintro ⟨k, out, AO, oc⟩ g w ⟨⟨hk, ho⟩, hS⟩
  show WC _ _ _ (lf _ [(7, .slice AO out.length oc), (8, .int .i64 ((k : Int) - 1))] _ _) _ _
  have hol : out.length ≤ 100000 := by
    rw [ho]
    refine Nat.le_trans (remA_len _ _ _) ?_
    rw [List.length_drop]; omega
  rcases k with _ | k
  · rw [List.drop_zero] at ho
    repeat' (first | (show WL _ _ _ _ _ _ _; first | refine WL.pure rfl rfl rfl rfl ?_ | refine WL.nil ?_) | (show WC _ _ _ _ _ _; first | refine WC.seq ?_ | refine WC.region ?_ | refine WC.block ?_ | refine WC.exit ?_ | refine WC.condF rfl (by decide) ?_) | refine seqQ_n ?_ | refine seqQ_x ?_ | refine blkQ_hit rfl ?_ | refine rndQ_x ?_)
    refine WC.loop (σ := Nat × List Ac × Option Addr × Nat) [0, 1, 2] (fun (k, out, AO, oc) => [(7, .slice AO out.length oc), (9, .int .i64 (k : Int))])
      (fun (k, out, AO, oc) w => (k ≤ now.length ∧ out = remA root old now ++ putA root old (now.take k)) ∧ St w0 [] w [aC AO oc out] [⟨w0, Old w0⟩]) (fun (k, _) => now.length - k) (0, out, AO, oc)
      ⟨⟨Nat.zero_le _, by rw [ho]; unfold putA; simp⟩, hS⟩ ⟨rfl, rfl, trivial⟩ ?_
    clear hS ho hol
    rintro ⟨k, out, AO, oc⟩ g w ⟨⟨hk, ho⟩, hS⟩
    show WC _ _ _ (lf _ [(7, .slice AO out.length oc), (9, .int .i64 (k : Int))] _ _) _ _
    have hol : out.length ≤ 200000 := by
      rw [ho, List.length_append]
      have h1 := remA_len root old now
      have h2 := putA_len root old (now.take k)
      rw [List.length_take] at h2
      omega
    by_cases hlt : k < now.length
    · obtain ⟨eb, eo, es, rfl, hF, hrr, hes⟩ := hB.at_ hlt
      have hes : es = encEnt now[k] := hes
      subst hes
      have hrr : w0.rangeAt eb (eo + k * 3) (encEnt now[k]) := hrr
      have hst := put_step root old now hlt
      generalize now[k] = x at *
      obtain ⟨xp, xk, xd⟩ := x
      dsimp only at hst
      obtain ⟨gp, hgp⟩ : ∃ gp, getT old xp = gp := ⟨_, rfl⟩
      have hnode : nodeT old xp = (gp.kind, gp.data) := by unfold nodeT; rw [hgp]
      rw [hnode] at hst
      obtain ⟨g1, gk, gd⟩ := gp
      dsimp only at hst
      have hrg := fun (w : World) (h : SlAt cEnt (Old w) w A old) => rget_c (cap := ca) old xp h (by omega)
      rw [hgp] at hrg
      by_cases hn : gk = xk ∧ gd = xd
      · obtain ⟨rfl, rfl⟩ := hn
        rw [if_neg (fun h => h rfl), List.append_nil] at hst
        repeat' (first | (show WL _ _ _ _ _ _ _; first | refine WL.pure rfl rfl rfl rfl ?_ | refine WL.nil ?_ | refine WL.add rfl rfl rfl (by omega) rfl rfl rfl ?_) | (show WC _ _ _ _ _ _; first | refine WC.seq ?_ | refine WC.region ?_ | refine WC.block ?_ | refine WC.skip ?_ | (show WC _ _ (Code.region _ (List.toArray [_, _, _, _, _, _, _, _, _, _, _, _, _]) true) _ _ _; refine WC.drawS hS [0,1,2,3,4,5,7,8,9,10,11,12] [0,1,2,3,4,5,7,8,9,10,11,6,12] (by kernel_rfl) (by kernel_rfl) ?_; clear hS; intro w hS hM) | refine WC.condF rfl (by decide) ?_ | refine WC.condT rfl (decide_eq_true (by first | with_reducible assumption | omega)) ?_) | (show WD _ _ _ _ _ _ _ _ _; first | refine WD.pure rfl rfl rfl rfl rfl ?_ | refine WD.nil ?_ | (refine WD.load rfl rfl (LdOk.snap0 hF hrr Mm rfl) rfl rfl rfl rfl ?_) | (refine WD.load rfl rfl (LdOk.snap (off := 1) hF hrr Mm rfl) rfl rfl rfl rfl ?_) | (refine WD.calls hS hM rfl rfl (hrg _ (hS.slO Mm hA)) rfl rfl rfl rfl rfl ?_; clear hS; rintro v w rfl hS) | (refine WD.neS rfl rfl rfl (show some (decide (gk = gk) && decide (gd = gd)) = some true by simp) (by kernel_rfl) rfl rfl rfl rfl ?_) | refine WD.index rfl rfl rfl rfl (by first | with_reducible assumption | omega) rfl rfl rfl rfl rfl ?_) | refine seqQ_n ?_ | refine blkQ_n ?_)
        exact rndQ_n (k + 1, out, AO, oc) ⟨⟨hlt, by rw [hst]; exact ho⟩, hS.droplast2 Pu⟩ (by show now.length - (k + 1) < now.length - k; omega) ⟨rfl, vint (by omega), trivial⟩ ⟨rfl, rfl, rfl, trivial⟩
      · have hne : (gk, gd) ≠ (xk, xd) := fun e => hn ⟨congrArg Prod.fst e, congrArg Prod.snd e⟩
        rw [if_pos hne] at hst
        have hdec : (decide (gk = xk) && decide (gd = xd)) = false := by
          cases h : (decide (gk = xk) && decide (gd = xd)) with
          | false => rfl
          | true =>
            rw [Bool.and_eq_true] at h
            exact absurd ⟨of_decide_eq_true h.1, of_decide_eq_true h.2⟩ hn
        clear hn hne
        repeat' (first | (show WL _ _ _ _ _ _ _; first | refine WL.pure rfl rfl rfl rfl ?_ | refine WL.nil ?_ | refine WL.add rfl rfl rfl (by omega) rfl rfl rfl ?_) | (show WC _ _ _ _ _ _; first | refine WC.seq ?_ | refine WC.region ?_ | refine WC.block ?_ | refine WC.skip ?_ | (show WC _ _ (Code.region _ (List.toArray [_, _, _, _, _, _, _, _, _, _, _, _, _]) true) _ _ _; refine WC.drawS hS [0,1,2,3,4,5,7,8,9,10,11,12] [0,1,2,3,4,5,7,8,9,10,11,6,12] (by kernel_rfl) (by kernel_rfl) ?_; clear hS; intro w hS hM) | (show WC _ _ (Code.region _ (List.toArray [_, _, _, _, _, _, _, _, _, _, _, _, _, _, _, _]) true) _ _ _; refine WC.drawL [aC AO oc out] hS Pu [0,1,2,3,4,5,6,7,8,9,10,11,12,15] [0,1,2,3,4,5,6,7,8,9,10,11,12,13,14,15] (by kernel_rfl) (by kernel_rfl) ?_; clear hS; intro w hS hM) | refine WC.condT rfl (by decide) ?_ | refine WC.condT rfl (decide_eq_true (by first | with_reducible assumption | omega)) ?_) | (show WD _ _ _ _ _ _ _ _ _; first | refine WD.pure rfl rfl rfl rfl rfl ?_ | refine WD.nil ?_ | (refine WD.load rfl rfl (LdOk.snap0 hF hrr Mm rfl) rfl rfl rfl rfl ?_) | (refine WD.load rfl rfl (LdOk.snap (off := 1) hF hrr Mm rfl) rfl rfl rfl rfl ?_) | (refine WD.calls hS hM rfl rfl (hrg _ (hS.slO Mm hA)) rfl rfl rfl rfl rfl ?_; clear hS; rintro v w rfl hS) | (refine WD.neS rfl rfl rfl (show some (decide (gk = xk) && decide (gd = xd)) = some false from congrArg some hdec) (by kernel_rfl) rfl rfl rfl rfl ?_) | (refine WD.slit (t := 88) hS hM rfl rfl rfl rfl rfl rfl rfl ?_; clear hS hM; intro w ob hS hM) | (refine WD.app (n := out.length) (size := 4) hS Pl1 (More.chunk (.refl _ _) _) rfl rfl rfl rfl (RdOk.box Mm) rfl rfl (by omega) rfl rfl rfl rfl rfl ?_; clear hS hM; intro A3 cap3 w hS hM) | refine WD.index rfl rfl rfl rfl (by first | with_reducible assumption | omega) rfl rfl rfl rfl rfl ?_ | refine WD.build rfl rfl rfl rfl rfl rfl ?_) | refine seqQ_n ?_ | refine blkQ_n ?_)
        have hS := hS.droplast2 (D := [.own (.slice A3 (out.length + 1) cap3) 167 4 (out.length + 1) (out.flatMap encAc ++ encAc ⟨root, xp, xk, xd⟩)]) Pu
        rw [aC_snoc] at hS
        exact rndQ_n (k + 1, out ++ [⟨root, xp, xk, xd⟩], A3, cap3) ⟨⟨hlt, by rw [hst, ← List.append_assoc, ho]⟩, hS⟩ (by show now.length - (k + 1) < now.length - k; omega) ⟨by rw [List.length_append]; rfl, vint (by omega), trivial⟩ ⟨rfl, rfl, rfl, trivial⟩
    · have e : k = now.length := by omega
      subst e
      rw [List.take_length] at ho
      have ho : out = actE root old now := ho
      subst ho
      repeat' (first | (show WL _ _ _ _ _ _ _; first | refine WL.pure rfl rfl rfl rfl ?_ | refine WL.nil ?_) | (show WC _ _ _ _ _ _; first | refine WC.seq ?_ | refine WC.region ?_ | refine WC.exit ?_ | refine WC.ret ?_ | refine WC.condF rfl (decide_eq_false (by first | with_reducible assumption | omega)) ?_) | refine seqQ_n ?_ | refine seqQ_x ?_ | refine blkQ_hit rfl ?_ | refine rndQ_x ?_)
      exact fin1r rfl rfl ⟨hS.upd, AO, oc, rfl, hS.newOf (List.Mem.head _)⟩
  · have e : (((k + 1 : Nat) : Int) - 1) = (k : Int) := by omega
    rw [e]
    have hlt : k < old.length := hk
    obtain ⟨eb, eo, es, rfl, hF, hrr, hes⟩ := hA.at_ hlt
    have hes : es = encEnt old[k] := hes
    subst hes
    have hrr : w0.rangeAt eb (eo + k * 3) (encEnt old[k]) := hrr
    have hst := rem_step root old now hlt
    generalize old[k] = x at *
    obtain ⟨xp, xk, xd⟩ := x
    dsimp only at hst
    have hrg := fun (w : World) (h : SlAt cEnt (Old w) w B now) => rget_c (cap := cb) now xp h (by omega)
    obtain ⟨gp, hgp⟩ : ∃ gp, getT now xp = gp := ⟨_, rfl⟩
    rw [hgp] at hst hrg
    obtain ⟨g1, gk, gd⟩ := gp
    dsimp only at hst
    by_cases hn : gk = xk
    · subst hn
      rw [if_neg (fun h => h rfl), List.append_nil] at hst
      repeat' (first | (show WL _ _ _ _ _ _ _; first | refine WL.pure rfl rfl rfl rfl ?_ | refine WL.nil ?_ | refine WL.sub rfl rfl rfl (by omega) rfl rfl rfl ?_) | (show WC _ _ _ _ _ _; first | refine WC.seq ?_ | refine WC.region ?_ | refine WC.block ?_ | refine WC.skip ?_ | (show WC _ _ (Code.region _ (List.toArray [_, _, _, _, _, _, _, _, _, _, _, _, _, _, _]) true) _ _ _; refine WC.drawS hS [0,1,2,3,4,5,7,8,9,10,11,12,13,14] [0,1,2,3,4,5,8,9,10,11,12,13,6,7,14] (by kernel_rfl) (by kernel_rfl) ?_; clear hS; intro w hS hM) | refine WC.condT rfl (decide_eq_true (by first | with_reducible assumption | omega)) ?_ | refine WC.condF rfl (by first | (simp; done) | (simp; omega)) ?_) | (show WD _ _ _ _ _ _ _ _ _; first | refine WD.pure rfl rfl rfl rfl rfl ?_ | refine WD.nil ?_ | (refine WD.load rfl rfl (LdOk.snap0 hF hrr Mm rfl) rfl rfl rfl rfl ?_) | (refine WD.load rfl rfl (LdOk.snap (off := 1) hF hrr Mm rfl) rfl rfl rfl rfl ?_) | (refine WD.calls hS hM rfl rfl (hrg _ (hS.slO Mm hB)) rfl rfl rfl rfl rfl ?_; clear hS; rintro v w rfl hS) | refine WD.index rfl rfl rfl rfl (by first | with_reducible assumption | omega) rfl rfl rfl rfl rfl ?_) | refine seqQ_n ?_ | refine blkQ_n ?_)
      exact rndQ_n (k, out, AO, oc) ⟨⟨by omega, by rw [hst]; exact ho⟩, hS.droplast2 Pu⟩ (Nat.lt_succ_self k) ⟨rfl, vint (by omega), trivial⟩ ⟨rfl, rfl, rfl, trivial⟩
    · rw [if_pos hn] at hst
      repeat' (first | (show WL _ _ _ _ _ _ _; first | refine WL.pure rfl rfl rfl rfl ?_ | refine WL.nil ?_ | refine WL.sub rfl rfl rfl (by omega) rfl rfl rfl ?_ | (refine WL.load hS rfl rfl (LdOk.snap0 hF hrr Mm rfl) rfl rfl rfl ?_) | (refine WL.slit (t := 88) hS rfl rfl rfl rfl rfl ?_; intro w ob hS) | (refine WL.app (n := out.length) (size := 4) hS rfl rfl rfl rfl (RdOk.box Mm) rfl rfl (fun A cap => Rp) (by omega) rfl rfl rfl ?_; intro A3 cap3 w hS) | refine WL.index rfl rfl rfl rfl (by first | with_reducible assumption | omega) rfl rfl rfl rfl ?_ | refine WL.build rfl rfl rfl rfl rfl ?_) | (show WC _ _ _ _ _ _; first | refine WC.seq ?_ | refine WC.region ?_ | refine WC.block ?_ | refine WC.skip ?_ | (show WC _ _ (Code.region _ (List.toArray [_, _, _, _, _, _, _, _, _, _, _, _, _, _, _]) true) _ _ _; refine WC.drawS hS [0,1,2,3,4,5,7,8,9,10,11,12,13,14] [0,1,2,3,4,5,8,9,10,11,12,13,6,7,14] (by kernel_rfl) (by kernel_rfl) ?_; clear hS; intro w hS hM) | refine WC.condT rfl (decide_eq_true (by first | with_reducible assumption | omega)) ?_) | (show WD _ _ _ _ _ _ _ _ _; first | refine WD.pure rfl rfl rfl rfl rfl ?_ | refine WD.nil ?_ | (refine WD.load rfl rfl (LdOk.snap0 hF hrr Mm rfl) rfl rfl rfl rfl ?_) | (refine WD.load rfl rfl (LdOk.snap (off := 1) hF hrr Mm rfl) rfl rfl rfl rfl ?_) | (refine WD.calls hS hM rfl rfl (hrg _ (hS.slO Mm hB)) rfl rfl rfl rfl rfl ?_; clear hS; rintro v w rfl hS) | refine WD.index rfl rfl rfl rfl (by first | with_reducible assumption | omega) rfl rfl rfl rfl rfl ?_) | refine seqQ_n ?_ | refine blkQ_n ?_)
      have hS := hS.droplast2 (D := [.own (.slice A3 (out.length + 1) cap3) 167 4 (out.length + 1) (out.flatMap encAc ++ encAc ⟨root, xp, 0, []⟩)]) Pu
      rw [aC_snoc] at hS
      exact rndQ_n (k, out ++ [⟨root, xp, 0, []⟩], A3, cap3) ⟨⟨by omega, by rw [hst, ho]⟩, hS⟩ (Nat.lt_succ_self k) ⟨by rw [List.length_append]; rfl, vint (by omega), trivial⟩ ⟨rfl, rfl, rfl, trivial⟩
end Go.Proofs.YtccfiohagbneaaaGreatDoor

/- What is proved: what Apply of the package apply makes of a disk. Conditions: steps and disks of bounded size, without limits. -/
namespace Go.Proofs.YtccfiohagbneaaaGreatDoor
open Go Go.J Go.RowKit
def rootsOk (l : List Ac) : Bool := l.all fun a => decide (rootE a.root ≠ [])
def applyA (D : Dk) (l : List Ac) : Int × Dk := if rootsOk (finalE l) = true then runF D ((finalE l).map fsA) else (1, D)
structure AcOk (a : Ac) : Prop where
  lo : -9223372036854775808 ≤ a.root
  hi : a.root ≤ 9223372036854775807
  path : a.path.length ≤ 1000000
  data : a.data.length ≤ 1099511627776
theorem putG_mem {l : List Ac} {x z : Ac} (h : z ∈ putG keyA ltA l x) : z = x ∨ z ∈ l := (mem_putG actO h).imp id fun h => h.1
theorem final_mem {l : List Ac} {a : Ac} (h : a ∈ finalE l) : a ∈ l := by
  unfold finalE at h
  have : ∀ (l r : List Ac), a ∈ l.foldl (putG keyA ltA) r → a ∈ l ∨ a ∈ r := by
    intro l
    induction l with
    | nil => exact fun r h => .inr h
    | cons x l ih =>
      intro r h
      rcases ih _ h with h | h
      · exact .inl (List.mem_cons_of_mem _ h)
      · rcases putG_mem h with h | h
        · exact .inl (by rw [h]; exact List.mem_cons_self ..)
        · exact .inr h
  rcases this l [] h with h | h
  · exact h
  · cases h
theorem rootE_len (r : Int) : (rootE r).length ≤ 3 := by
  unfold rootE
  split
  · decide
  · split <;> simp
theorem fsA_len {a : Ac} (h : AcOk a) : (fsA a).p.length ≤ 1099511627 := by
  have h1 := rootE_len a.root
  have h2 := h.path
  show (rootE a.root ++ 47 :: a.path).length ≤ _
  rw [List.length_append, List.length_cons]; omega
def downA (F : List Ac) (D : Dk) (k : Nat) : Int × Dk := ((F.map fsA).drop k).foldr (fun a s => rmS s a) (0, D)
theorem downA_all (F : List Ac) (D : Dk) : downA F D 0 = rmF D (F.map fsA) := by unfold downA rmF; rw [List.foldl_reverse]; rfl
theorem downA_end (F : List Ac) (D : Dk) : downA F D F.length = (0, D) := by
  unfold downA
  rw [List.drop_of_length_le (by simp)]
  rfl
theorem downA_step (F : List Ac) (D : Dk) {k : Nat} (h : k < F.length) : downA F D k = rmS (downA F D (k + 1)) (fsA F[k]) := by
  unfold downA
  rw [List.drop_eq_getElem_cons (by simpa using h), List.foldr_cons, List.getElem_map]
theorem rmS_stick {s : Int × Dk} (h : s.1 ≠ 0) (l : List Fs) : l.foldr (fun a s => rmS s a) s = s := by
  induction l with
  | nil => rfl
  | cons a l ih =>
    rw [List.foldr_cons, ih]
    unfold rmS
    rw [if_pos h]
theorem layS_stick {s : Int × Dk} (h : s.1 ≠ 0) (l : List Fs) : l.foldl layS s = s := by
  induction l with
  | nil => rfl
  | cons a l ih =>
    have e : layS s a = s := by unfold layS; rw [if_pos h]
    rw [List.foldl_cons, e, ih]
theorem downA_fail (F : List Ac) (D : Dk) {k : Nat} (hk : k ≤ F.length) (h : (downA F D k).1 ≠ 0) : runF D (F.map fsA) = downA F D k := by
  have e : rmF D (F.map fsA) = downA F D k := by
    rw [← downA_all]
    have : (F.map fsA).foldr (fun a s => rmS s a) (0, D) = ((F.map fsA).take k).foldr (fun a s => rmS s a) (((F.map fsA).drop k).foldr (fun a s => rmS s a) (0, D)) := by
      rw [← List.foldr_append, List.take_append_drop]
    show ((F.map fsA).drop 0).foldr _ _ = _
    rw [List.drop_zero, this]
    exact rmS_stick h _
  unfold runF
  rw [e]
  exact layS_stick h _
def upA (F : List Ac) (D : Dk) (k : Nat) : Int × Dk := ((F.map fsA).take k).foldl layS (rmF D (F.map fsA))
theorem upA_all (F : List Ac) (D : Dk) : upA F D F.length = runF D (F.map fsA) := by
  unfold upA runF
  rw [List.take_of_length_le (by simp)]
theorem upA_zero (F : List Ac) (D : Dk) : upA F D 0 = rmF D (F.map fsA) := rfl
theorem upA_step (F : List Ac) (D : Dk) {k : Nat} (h : k < F.length) : upA F D (k + 1) = layS (upA F D k) (fsA F[k]) := by
  unfold upA
  rw [List.take_succ_eq_append_getElem (by simpa using h), List.foldl_append, List.getElem_map]
  rfl
theorem upA_fail (F : List Ac) (D : Dk) {k : Nat} (h : (upA F D k).1 ≠ 0) : runF D (F.map fsA) = upA F D k := by
  have : runF D (F.map fsA) = ((F.map fsA).drop k).foldl layS (upA F D k) := by
    unfold runF upA
    rw [← List.foldl_append, List.take_append_drop]
  rw [this]
  exact layS_stick h _
theorem layS_ok {s : Int × Dk} {a : Ac} (h : s.1 = 0) : layS s (fsA a) = layN s.2 (fsA a).p a.kind a.data := by
  obtain ⟨e, D⟩ := s
  have h : e = 0 := h
  subst h
  unfold layS layN
  rw [if_neg (fun h => h rfl)]
  rfl
section
variable {w w0 : World} {M : List Nat} {H : List Chunk} {Z : List Snap} {rb : Nat} {e0 e : Int} {R : Ending → World → Prop} {tmps : Array Value}
set_option maxRecDepth 8000 in
theorem ap_res {e0 : Int} (hS : St w0 M w (.box rb 30 [.int .i64 e0] :: H) Z) (ht : tmps.getD 4 undef = .pointer (some ⟨rb, 0, none⟩)) : (results Tryz.f50 tmps).run Tryz.prog w = .ok (.int .i64 e0) w := by
  have h2 := hS.loads (P := Tryz.prog) (ty := 30) (a := ⟨rb, 0, none⟩) (v := .int .i64 e0) (LdOk.box (.head _) rfl)
  have h3 : Tryz.f50.results = #[.cell 4 30] := rfl
  simp only [Array.getD_eq_getD_getElem?] at ht
  simp [results, h3, ht, h2, asAddr, Sem.run_bind]
theorem ap_inv : (invoke (.fn (.func 110) ⟨[.pointer (some ⟨rb, 0, none⟩)]⟩) #[]).run Tryz.prog w = .ok (.enter 110 ([.pointer (some ⟨rb, 0, none⟩)] : List Value).toArray) w :=
  run_callFunc (by kernel_rfl) _
theorem ap_ret (hS : St w0 M w (.box rb 30 [.int .i64 e0] :: H) Z) (ht : tmps.getD 4 undef = .pointer (some ⟨rb, 0, none⟩)) (hR : ∀ w', St w0 M w' (.box rb 30 [.int .i64 e0] :: H) Z → R (.returned (.int .i64 e0)) w') :
    Leaves Tryz.prog Tryz.f50 tmps R [⟨.fn (.func 110) ⟨[.pointer (some ⟨rb, 0, none⟩)]⟩, #[]⟩] .returning w := by
  have hS' : St w0 M w ([.box rb 30 [.int .i64 e0]] ++ H) Z := hS
  exact leaves_ret ap_inv (aprec_ret hS'.inL) fun w' hm => ⟨_, ap_res (hS'.mutL hm) ht, hR w' (hS'.mutL hm)⟩
theorem ap_pan (hS : St w0 M w (.box rb 30 [.int .i64 e0] :: H) Z) (ht : tmps.getD 4 undef = .pointer (some ⟨rb, 0, none⟩)) (hR : ∀ w', St w0 M w' (.box rb 30 [.int .i64 e] :: H) Z → R (.returned (.int .i64 e)) w') :
    Leaves Tryz.prog Tryz.f50 tmps R [⟨.fn (.func 110) ⟨[.pointer (some ⟨rb, 0, none⟩)]⟩, #[]⟩] (.panicking (haltE e)) w := by
  have hS' : St w0 M w ([.box rb 30 [.int .i64 e0]] ++ H) Z := hS
  exact leaves_pan ap_inv (aprec_pan hS'.inL) fun w' hm => ⟨_, ap_res (hS'.mutL hm) ht, hR w' (hS'.mutL hm)⟩
end
set_option maxRecDepth 8000 in
set_option maxHeartbeats 32000000 in
set_option maxRecDepth 100000 in
theorem aapply_c {q mb lb n : Nat} {D : Dk} {A : Option Addr} {cap : Nat} (l : List Ac) {w0 : World} (hI : InL w0 [dkC q mb lb D]) (hA : SlAt cAc (fun b => b < w0.heap.size ∧ b ∉ fps [dkC q mb lb D]) w0 A l) (hl : l.length ≤ 100000) (hok : ∀ a ∈ l, AcOk a) (hB : DkB n D) (hn : n ≤ 500000) (hp : PowI w0 (fps [dkC q mb lb D])) :
    Cal Tryz.prog 50 [.pointer (some ⟨q, 0, none⟩), .slice A l.length cap] w0 (fun v w' => v = .int .i64 (applyA D l).1 ∧ MutL w0 w' [dkC q mb lb D] [dkC q mb lb (applyA D l).2]) := by
  refine ⟨by kernel_rfl, callsR (args := [.pointer (some ⟨q, 0, none⟩), .slice A l.length cap]) Tryz.func50 rfl rfl ?_⟩
  have hS := St.initL hI
  refine WR.seq (Q0 := noQ) rfl noQ_ok ?_
  repeat' (first | (show WL _ _ _ _ _ _ _; first | refine WL.nil ?_ | (refine WL.box hS rfl rfl rfl rfl rfl ?_; intro w b hS) | (refine WL.alloc hS rfl rfl rfl rfl rfl rfl ?_; intro w b hS)) | (show WC _ _ _ _ _ _; first | refine WC.region ?_) | fail)
  show WR _ _ _ _ _ _
  obtain ⟨rb, hrb⟩ : ∃ rb, rb = b := ⟨_, rfl⟩
  subst hrb
  obtain ⟨tb, htb⟩ : ∃ tb, tb = b := ⟨_, rfl⟩
  subst htb
  refine WR.defer (n := 1) (z := .tmp 14) 5 rfl rfl rfl rfl rfl ?_
  show WL _ _ _ [_] _ _ _
  repeat' (first | (show WL _ _ _ _ _ _ _; first | refine WL.pure rfl rfl rfl rfl ?_ | refine WL.nil ?_) | fail)
  refine ⟨.func 110, ⟨[.pointer (some ⟨rb, 0, none⟩)]⟩, rfl, ?_⟩
  refine WR.seq (Q0 := endQ0 _ _ _ [] [⟨.fn (.func 110) ⟨[.pointer (some ⟨rb, 0, none⟩)]⟩, #[]⟩] _) rfl (endQ0_ok rfl) ?_
  repeat' (first | (show WL _ _ _ _ _ _ _; first | refine WL.pure rfl rfl rfl rfl ?_ | refine WL.nil ?_ | refine WL.load hS rfl rfl (LdOk.box Mm rfl) rfl rfl rfl ?_) | (show WC _ _ _ _ _ _; first | refine WC.seq ?_ | refine WC.region ?_ | refine WC.skip ?_ | refine WC.condF rfl (by with_reducible rfl) ?_) | refine seqQ_n ?_)
  show WR _ _ _ _ _ _
  refine WR.seq (Q0 := endQ0 _ _ _ [] [⟨.fn (.func 110) ⟨[.pointer (some ⟨rb, 0, none⟩)]⟩, #[]⟩] _) rfl (endQ0_ok rfl) ?_
  repeat' (first | (show WL _ _ _ _ _ _ _; first | refine WL.pure rfl rfl rfl rfl ?_ | refine WL.nil ?_ | (refine WL.callL (D := []) hS Pu rfl rfl (fun hI => final_c l (hS.slO Mm hA) (by omega)) rfl rfl rfl ?_; rintro v w ⟨A2, c2, rfl, hm⟩ hS; replace hS := hS _ hm; clear hm)) | (show WC _ _ _ _ _ _; first | refine WC.region ?_) | fail)
  show WR _ _ _ _ _ _
  have hFok : ∀ a ∈ finalE l, AcOk a := fun a ha => hok a (final_mem ha)
  have hFl := Nat.le_trans (final_len l) hl
  obtain ⟨F, hF⟩ : ∃ F, F = finalE l := ⟨_, rfl⟩
  have happ : applyA D l = if rootsOk F = true then runF D (F.map fsA) else (1, D) := by rw [hF]; rfl
  rw [happ]
  rw [← hF] at hS hFok hFl ⊢
  clear happ hA hok hl
  refine WR.seq (Q0 := endQ0 _ _ _ [] [⟨.fn (.func 110) ⟨[.pointer (some ⟨rb, 0, none⟩)]⟩, #[]⟩] _) rfl (endQ0_ok rfl) ?_
  repeat' (first | (show WL _ _ _ _ _ _ _; first | refine WL.pure rfl rfl rfl rfl ?_ | refine WL.nil ?_) | (show WC _ _ _ _ _ _; first | refine WC.seq ?_ | refine WC.region ?_ | refine WC.block ?_) | refine seqQ_n ?_)
  refine WC.loop (σ := Nat) [2, 4, 5, 19, 20] (fun k => [(21, .int .i64 (k : Int))])
    (fun k w => (k ≤ F.length ∧ ∀ j (h : j < F.length), j < k → rootE F[j].root ≠ []) ∧ St w0 (fps [dkC q mb lb D]) w [.own (.slice A2 F.length c2) 167 4 F.length (F.flatMap encAc), .box rb 30 [.int .i64 0], .box tb 23 [.pointer (some ⟨q, 0, none⟩)], dkC q mb lb D] [⟨w0, fun b => b < w0.heap.size ∧ b ∉ fps [dkC q mb lb D]⟩])
    (fun k => F.length - k) 0 ⟨⟨Nat.zero_le _, fun _ _ h => absurd h (Nat.not_lt_zero _)⟩, hS⟩ ⟨rfl, trivial⟩ ?_
  clear hS
  rintro k g w ⟨⟨hk, hz⟩, hS⟩
  show WC _ _ _ (lf _ [(21, .int .i64 (k : Int))] _ _) _ _
  by_cases hlt : k < F.length
  · obtain ⟨g2, o2, rfl⟩ := own_some hS (.head _) (by omega)
    have hFk := hFok _ (List.getElem_mem hlt)
    have hap := fun (w : World) (ht : powT w) => avolume_c F[k].root w hFk.lo hFk.hi ht
    have hel : F[k]? = some F[k] := List.getElem?_eq_getElem hlt
    by_cases h0 : rootE F[k].root = []
    · have hno : ¬ rootsOk F = true := fun h => by
        unfold rootsOk at h
        exact of_decide_eq_true (List.all_eq_true.1 h F[k] (List.getElem_mem hlt)) h0
      rw [h0] at hap
      generalize F[k] = x at *
      repeat' (first | (show WL _ _ _ _ _ _ _; first | refine WL.pure rfl rfl rfl rfl ?_ | refine WL.nil ?_ | refine WL.load hS rfl rfl (LdOk.box Mm rfl) rfl rfl rfl ?_ | (refine WL.load hS rfl rfl (LdOk.ownElemE encAc_len Mm hel rfl rfl) rfl rfl rfl ?_) | (refine WL.calls hS rfl rfl (hap _ (hp.at hS)) rfl rfl rfl ?_; rintro v w rfl hS) | (refine WL.store hS rfl rfl rfl Sb rfl rfl rfl ?_; intro w hS) | (refine WL.alloc hS rfl rfl rfl rfl rfl rfl ?_; intro w b hS) | refine WL.index rfl rfl rfl rfl (by first | with_reducible assumption | omega) rfl rfl rfl rfl ?_) | (show WC _ _ _ _ _ _; first | refine WC.seq ?_ | refine WC.region ?_ | refine WC.block ?_ | refine WC.skip ?_ | refine WC.ret ?_ | refine WC.condT rfl (by decide) ?_ | refine WC.condT rfl (decide_eq_true (by first | with_reducible assumption | omega)) ?_) | refine seqQ_n ?_ | refine seqQ_r ?_ | refine blkQ_r ?_ | refine rndQ_r ?_)
      intro a ha
      have hS := hS.pulls (D := [.box rb 30 [.int .i64 1]]) Pu
      exact ap_ret (e0 := 1) hS (ha.get 4) fun w' hS' => ⟨_, rfl, by rw [if_neg hno], by rw [if_neg hno]; exact hS'.mutLp Pu⟩
    · have hz2 : ∀ j (h : j < F.length), j < k + 1 → rootE F[j].root ≠ [] := fun j hj hjk => by
        by_cases e : j = k
        · subst e; exact h0
        · exact hz j hj (by omega)
      obtain ⟨HZ, rfl⟩ : ∃ h : (∀ j (h : j < F.length), j < k + 1 → rootE F[j].root ≠ []), h = hz2 := ⟨_, rfl⟩
      clear hz
      generalize F[k] = x at *
      repeat' (first | (show WL _ _ _ _ _ _ _; first | refine WL.pure rfl rfl rfl rfl ?_ | refine WL.nil ?_ | refine WL.load hS rfl rfl (LdOk.box Mm rfl) rfl rfl rfl ?_ | refine WL.add rfl rfl rfl (by omega) rfl rfl rfl ?_ | (refine WL.load hS rfl rfl (LdOk.ownElemE encAc_len Mm hel rfl rfl) rfl rfl rfl ?_) | (refine WL.calls hS rfl rfl (hap _ (hp.at hS)) rfl rfl rfl ?_; rintro v w rfl hS) | (refine WL.store hS rfl rfl rfl Sb rfl rfl rfl ?_; intro w hS) | (refine WL.alloc hS rfl rfl rfl rfl rfl rfl ?_; intro w b hS) | refine WL.index rfl rfl rfl rfl (by first | with_reducible assumption | omega) rfl rfl rfl rfl ?_) | (show WC _ _ _ _ _ _; first | refine WC.seq ?_ | refine WC.region ?_ | refine WC.block ?_ | refine WC.skip ?_ | refine WC.condT rfl (decide_eq_true (by first | with_reducible assumption | omega)) ?_ | refine WC.condF rfl (decide_eq_false (by first | with_reducible assumption | omega)) ?_) | refine seqQ_n ?_ | refine blkQ_n ?_)
      exact rndQ_n (k + 1) ⟨⟨hlt, HZ⟩, hS.droplast2 Pu⟩ (by show F.length - (k + 1) < F.length - k; omega) ⟨vint (by omega), trivial⟩ ⟨rfl, rfl, rfl, rfl, rfl, trivial⟩
  · have hyes : rootsOk F = true := List.all_eq_true.2 fun a ha => by
      obtain ⟨j, hj, rfl⟩ := List.getElem_of_mem ha
      exact decide_eq_true (hz j hj (by omega))
    clear hz
    repeat' (first | (show WL _ _ _ _ _ _ _; first | refine WL.pure rfl rfl rfl rfl ?_ | refine WL.nil ?_) | (show WC _ _ _ _ _ _; first | refine WC.seq ?_ | refine WC.region ?_ | refine WC.exit ?_ | refine WC.condF rfl (decide_eq_false (by first | with_reducible assumption | omega)) ?_) | refine seqQ_n ?_ | refine seqQ_x ?_ | refine blkQ_hit rfl ?_ | refine rndQ_x ?_)
    show WR _ _ _ _ _ _
    rw [if_pos hyes]
    refine WR.range rfl ?_
    repeat' (first | (show WL _ _ _ _ _ _ _; first | refine WL.pure rfl rfl rfl rfl ?_ | refine WL.nil ?_ | (refine WL.callL (D := []) hS Pu rfl rfl (fun hI => backA_c A2 F.length c2 _) rfl rfl rfl ?_; rintro v w ⟨sb, rfl, hm⟩ hS; replace hS := hS _ hm; clear hm)) | (show WC _ _ _ _ _ _; first | refine WC.region ?_) | fail)
    refine rangeAt_of (gf := 164) (cap := ⟨[.pointer (some ⟨sb, 0, none⟩)]⟩) hS rfl (by kernel_rfl) fun db fn F0 tm w2 RC hfn htn htf hRC hS => ?_
    refine Calls.mono (backInA_c (b := sb) (A := A2) (cap := c2) (t := F) (I := fun k w => ∃ Dk, downA F D k = (0, Dk) ∧ DkB n Dk ∧ St w0 (fps [dkC q mb lb D]) w [ocC (db + 1) (RC .ready none), ocC db (.deferred (some [])), .box sb 88 [.slice A2 F.length c2], .own (.slice A2 F.length c2) 167 4 F.length (F.flatMap encAc), .box rb 30 [.int .i64 0], .box tb 23 [.pointer (some ⟨q, 0, none⟩)], dkC q mb lb Dk] [⟨w0, fun b => b < w0.heap.size ∧ b ∉ fps [dkC q mb lb D]⟩]) (X := fun _ => False)
      (S := fun c w => ∃ e Dk, runF D (F.map fsA) = (e, Dk) ∧ e ≠ 0 ∧ c = haltE e ∧ St w0 (fps [dkC q mb lb D]) w [.box rb 30 [.int .i64 0], ocC db (.deferred (some [])), dkC q mb lb Dk] [⟨w0, fun b => b < w0.heap.size ∧ b ∉ fps [dkC q mb lb D]⟩]) (by omega) ?_ ?_ ?_ ?_) ?_
    · rintro k w ⟨Dk, _, _, hS⟩
      exact hS.holds (.box sb 88 [.slice A2 F.length c2]) (by simp)
    · rintro k w ⟨Dk, _, _, hS⟩
      exact St.ownSl (enc := encAc) (hsz := encAc_len) (by decide) hS Mm
    · rintro k hk w ⟨Dk, hdn, hbk, hS⟩
      have hrec : w.heap[db + 1]? = some (RC .ready none) := hS.heapOf (.head _)
      rw [hRC] at hrec
      refine yield2 (n := Tryz.f50.ntmps) hrec hfn htn htf (Nat.le_of_ble_eq_true rfl) (Nat.le_of_ble_eq_true rfl) ?_
      repeat' (first | (show WL _ _ _ _ _ _ _; first | refine WL.nil ?_ | (refine WL.store hS rfl rfl rfl Sb rfl rfl rfl ?_; intro w hS) | (refine WL.alloc hS rfl rfl rfl rfl rfl rfl ?_; intro w b hS)) | (show WC _ _ _ _ _ _; first | refine WC.region ?_) | fail)
      obtain ⟨w2, hbg, hS⟩ := rc_begin (P := Tryz.prog) hRC hS Rp
      refine ⟨w2, hbg, ?_⟩
      have hFk := hFok _ (List.getElem_mem hk)
      have hap := fun (w : World) (ht : powT w) => avolume_c F[k].root w hFk.lo hFk.hi ht
      have hst := downA_step F D hk
      have hpl := fsA_len hFk
      have hrl := rootE_len F[k].root
      have hpth := hFk.path
      rw [hdn] at hst
      have hfs : (fsA F[k]).p = rootE F[k].root ++ [47] ++ F[k].path := by simp [fsA]
      have hfk : (fsA F[k]).kind = F[k].kind := rfl
      generalize fsA F[k] = fs at *
      generalize F[k] = x at *
      generalize rootE x.root = rt at *
      obtain ⟨xr, xp, xk, xd⟩ := x
      dsimp only at hap hrl hpth hfs hfk
      repeat' (first | (show WL _ _ _ _ _ _ _; first | refine WL.pure rfl rfl rfl rfl ?_ | refine WL.nil ?_ | refine WL.load hS rfl rfl (LdOk.box Mm rfl) rfl rfl rfl ?_ | (refine WL.calls hS rfl rfl (dkind_c (rt ++ [47] ++ xp) (hS.holds (dkC q mb lb Dk) Mm).1) rfl rfl rfl ?_; rintro v w rfl hS) | (refine WL.callL (D := [dkC q mb lb Dk]) hS Pu rfl rfl (fun hI => dremove_c (rt ++ [47] ++ xp) hI (by rw [← hfs]; exact hpl) (Nat.le_trans hbk.len (by omega)) hbk.key) rfl rfl rfl ?_; rintro v w ⟨rfl, hm⟩ hS; replace hS := hS _ hm; clear hm) | (refine WL.callP0 hS rfl rfl (must_c _ _) rfl rfl rfl (fun v w he hS => ?_) (fun c w he hS => ?_)) | refine WL.skip rfl rfl rfl ?_ | ((fail_if_success (refine WL.wanted rfl ?_)); refine WL.guard rfl rfl rfl (fun h => ?_) (fun h => ?_) <;> (try simp only [ZZ0, ZZ1, ZZ2, ZZ3, ZZ4, ZZ5, ZZ6, ZZ7, ZZ8, ZZ9, ZZ10, ZZ11, ZZ12, ZZ13, ZZ14, ZZ15] at h) <;> (try (exfalso; first | omega | contradiction)))) | (show WC _ _ _ _ _ _; first | refine WC.seq ?_ | refine WC.region ?_ | refine WC.block ?_ | refine WC.skip ?_ | (show WC _ _ (Code.region _ (List.toArray [_, _, _, _, _, _, _, _]) true) _ _ _; refine WC.drawS hS [0,1,3,4,5,6,7] [0,1,4,5,2,3,6,7] (by kernel_rfl) (by kernel_rfl) ?_; clear hS; intro w hS hM) | refine WC.condF rfl (by with_reducible rfl) ?_ | (refine WC.cond rfl (fun h => ?_) (fun h => ?_) <;> (try simp only [ZZ0, ZZ1, ZZ2, ZZ3, ZZ4, ZZ5, ZZ6, ZZ7, ZZ8, ZZ9, ZZ10, ZZ11, ZZ12, ZZ13, ZZ14, ZZ15] at h) <;> (try (exfalso; first | omega | contradiction)))) | (show WD _ _ _ _ _ _ _ _ _; first | refine WD.pure rfl rfl rfl rfl rfl ?_ | refine WD.nil ?_ | refine WD.load rfl rfl (LdOk.box Mm rfl) rfl rfl rfl rfl ?_ | (refine WD.calls hS hM rfl rfl (hap _ (hp.at hS)) rfl rfl rfl rfl rfl ?_; clear hS; rintro v w rfl hS) | (refine WD.cat rfl rfl rfl (by first | omega | (simp only [List.length_append, List.length_cons, List.length_nil]; omega)) rfl rfl rfl rfl ?_)) | refine seqQ_n ?_ | refine blkQ_n ?_)
      · obtain ⟨w3, hen, hS⟩ := rc_endN (P := Tryz.prog) hRC hS Rp
        refine ⟨_, w3, hen, .inl ⟨rfl, (Dk.remove (rt ++ [47] ++ xp)).2, ?_, hbk.remove, hS.droplast2 Pu⟩⟩
        rw [hst]
        unfold rmS
        rw [if_neg (fun hh => hh rfl), hfs, hfk, if_pos ⟨by assumption, by assumption⟩]
        exact Prod.ext he rfl
      · refine blkQ_p ?_
        refine ⟨(Dk.remove (rt ++ [47] ++ xp)).1, (Dk.remove (rt ++ [47] ++ xp)).2, ?_, he.2, he.1, hS.droplast2 Pu⟩
        have hd : downA F D k = Dk.remove (rt ++ [47] ++ xp) := by
          rw [hst]
          unfold rmS
          rw [if_neg (fun hh => hh rfl), hfs, hfk, if_pos ⟨by assumption, by assumption⟩]
        rw [downA_fail F D (Nat.le_of_lt hk) (by rw [hd]; exact he.2), hd]
      · obtain ⟨w3, hen, hS⟩ := rc_endN (P := Tryz.prog) hRC hS Rp
        refine ⟨_, w3, hen, .inl ⟨rfl, Dk, ?_, hbk, hS.droplast2 Pu⟩⟩
        rw [hst]
        unfold rmS
        rw [if_neg (fun hh => hh rfl), hfs, hfk, if_neg (fun hh => hh.2 (by assumption))]
      · obtain ⟨w3, hen, hS⟩ := rc_endN (P := Tryz.prog) hRC hS Rp
        refine ⟨_, w3, hen, .inl ⟨rfl, Dk, ?_, hbk, hS.droplast2 Pu⟩⟩
        rw [hst]
        unfold rmS
        rw [if_neg (fun hh => hh rfl), hfs, if_neg (fun hh => hh.1 h)]
    · exact ⟨D, downA_end F D, hB, hS⟩
    · rintro e w hcall
      rcases hcall with ⟨v, rfl, ⟨Dk, hdn, hbk, hS⟩ | hx⟩ | ⟨c, rfl, e, Dk, hrun, hne, rfl, hS⟩
      rotate_left
      · exact hx.elim
      · intro a ha
        obtain ⟨w3, htk, hS⟩ := run_take (P := Tryz.prog) hS Rp
        refine ⟨[db], [⟨.fn (.func 110) ⟨[.pointer (some ⟨rb, 0, none⟩)]⟩, #[]⟩], ha.defers, w3, htk, ?_⟩
        exact ap_pan (e0 := 0) hS (ha.get 4) fun w' hS' => ⟨_, rfl, by rw [hrun], by rw [hrun]; exact hS'.mutLp Pu⟩
      obtain ⟨w3, hend, hS⟩ := rc_endAll (P := Tryz.prog) (st := .ready) hRC (by decide) hS Rp
      refine ⟨none, w3, hend, .inl ⟨rfl, ?_⟩⟩
      replace hS := hS.droplast2 (D := [ocC db (.deferred (some [])), .own (.slice A2 F.length c2) 167 4 F.length (F.flatMap encAc), .box rb 30 [.int .i64 0], .box tb 23 [.pointer (some ⟨q, 0, none⟩)], dkC q mb lb Dk]) Pu
      clear hfn htn htf hRC hend
      rw [downA_all] at hdn
      refine WR.seq (Q0 := endQ0 _ _ _ [db] [⟨.fn (.func 110) ⟨[.pointer (some ⟨rb, 0, none⟩)]⟩, #[]⟩] _) rfl (endQ0_ok rfl) ?_
      repeat' (first | (show WL _ _ _ _ _ _ _; first | refine WL.pure rfl rfl rfl rfl ?_ | refine WL.nil ?_) | (show WC _ _ _ _ _ _; first | refine WC.seq ?_ | refine WC.region ?_ | refine WC.block ?_) | refine seqQ_n ?_)
      refine WC.loop (σ := Nat × Go.Proofs.YtccfiohagbneaaaGreatDoor.Dk) [2, 4, 57, 58] (fun (k, _) => [(59, .int .i64 (k : Int))])
        (fun (k, Dk) w => (k ≤ F.length ∧ upA F D k = (0, Dk) ∧ DkB (n + 3 * k) Dk) ∧ St w0 (fps [dkC q mb lb D]) w [ocC db (.deferred (some [])), .own (.slice A2 F.length c2) 167 4 F.length (F.flatMap encAc), .box rb 30 [.int .i64 0], .box tb 23 [.pointer (some ⟨q, 0, none⟩)], dkC q mb lb Dk] [⟨w0, fun b => b < w0.heap.size ∧ b ∉ fps [dkC q mb lb D]⟩])
        (fun (k, _) => F.length - k) (0, Dk) ⟨⟨Nat.zero_le _, (upA_zero F D).trans hdn, hbk⟩, hS⟩ ⟨rfl, trivial⟩ ?_
      clear hS hdn hbk
      rintro ⟨k, Dk⟩ g w ⟨⟨hk, hup, hbk⟩, hS⟩
      show WC _ _ _ (lf _ [(59, .int .i64 (k : Int))] _ _) _ _
      by_cases hlt : k < F.length
      · obtain ⟨g2, o2, rfl⟩ := own_some hS Mm (by omega)
        have hFk := hFok _ (List.getElem_mem hlt)
        have hap := fun (w : World) (ht : powT w) => avolume_c F[k].root w hFk.lo hFk.hi ht
        have hel : F[k]? = some F[k] := List.getElem?_eq_getElem hlt
        have hst : upA F D (k + 1) = layN Dk (fsA F[k]).p F[k].kind F[k].data := by rw [upA_step F D hlt, hup, layS_ok rfl]
        have hpl := fsA_len hFk
        have hrl := rootE_len F[k].root
        have hpth := hFk.path
        have hdat := hFk.data
        have hfs : (fsA F[k]).p = rootE F[k].root ++ [47] ++ F[k].path := by simp [fsA]
        rw [hfs] at hst hpl
        generalize F[k] = x at *
        generalize rootE x.root = rt at *
        obtain ⟨xr, xp, xk, xd⟩ := x
        dsimp only at hap hrl hpth hdat hst hpl
        repeat' (first | (show WL _ _ _ _ _ _ _; first | refine WL.pure rfl rfl rfl rfl ?_ | refine WL.nil ?_ | refine WL.add rfl rfl rfl (by omega) rfl rfl rfl ?_ | (refine WL.load hS rfl rfl (LdOk.ownElemE encAc_len Mm hel rfl rfl) rfl rfl rfl ?_) | (refine WL.store hS rfl rfl rfl Sb rfl rfl rfl ?_; intro w hS) | (refine WL.alloc hS rfl rfl rfl rfl rfl rfl ?_; intro w b hS) | refine WL.index rfl rfl rfl rfl (by first | with_reducible assumption | omega) rfl rfl rfl rfl ?_) | (show WC _ _ _ _ _ _; first | refine WC.seq ?_ | refine WC.region ?_ | refine WC.block ?_ | refine WC.skip ?_ | (show WC _ _ (Code.region _ (List.toArray [_, _, _, _, _, _, _, _, _, _, _]) true) _ _ _; refine WC.drawL [dkC q mb lb Dk] hS Pu [0,1,2,4,5,6,7,8,9] [0,1,2,5,6,8,9,3,4,7,10] (by kernel_rfl) (by kernel_rfl) ?_; clear hS; intro w hS hM) | refine WC.condT rfl (decide_eq_true (by first | with_reducible assumption | omega)) ?_) | (show WD _ _ _ _ _ _ _ _ _; first | refine WD.pure rfl rfl rfl rfl rfl ?_ | refine WD.nil ?_ | refine WD.load rfl rfl (LdOk.box Mm rfl) rfl rfl rfl rfl ?_ | (refine WD.calls hS hM rfl rfl (hap _ (hp.at hS)) rfl rfl rfl rfl rfl ?_; clear hS; rintro v w rfl hS) | (refine WD.cat rfl rfl rfl (by first | omega | (simp only [List.length_append, List.length_cons, List.length_nil]; omega)) rfl rfl rfl rfl ?_) | (refine WD.callPL (D := [dkC q mb lb Dk]) hS Pu (.refl _ _) rfl rfl (fun hI => lay_c (rt ++ [47] ++ xp) xk xd hI hbk hpl hdat) rfl rfl rfl rfl rfl (fun v w hR => ⟨_, hR.2, fun hS hM => ?_⟩) (fun c w hR hS => ?_))) | refine seqQ_n ?_ | refine blkQ_n ?_)
        · refine rndQ_n (k + 1, (layN Dk (rt ++ [47] ++ xp) xk xd).2) ⟨⟨hlt, ?_, (hbk.layN hpl hdat).mono (by omega)⟩, hS.droplast2 Pu⟩ (by show F.length - (k + 1) < F.length - k; omega) ⟨vint (by omega), trivial⟩ ⟨rfl, rfl, rfl, rfl, trivial⟩
          rw [hst]
          exact Prod.ext hR.1 rfl
        · repeat (first | refine blkQ_p ?_ | refine seqQ_p ?_ | refine rndQ_p ?_)
          intro tmps hpin
          have hS := hS _ hR.2.2
          obtain ⟨w3, htk, hS⟩ := run_take (P := Tryz.prog) hS Rp
          refine ⟨w3, htk, ?_⟩
          have hrun : runF D (F.map fsA) = layN Dk (rt ++ [47] ++ xp) xk xd := by
            rw [upA_fail F D (k := k + 1) (by rw [hst]; exact hR.1), hst]
          obtain ⟨_, rfl, _⟩ := hR
          exact ap_pan (e0 := 0) (hS.pulls (D := [.box rb 30 [.int .i64 0]]) Pu) (hpin 4 (show 4 < 5 by decide)) fun w' hS' => ⟨_, rfl, by rw [hrun], by rw [hrun]; exact hS'.mutLp Pu⟩
      · have e : k = F.length := by omega
        subst e
        rw [upA_all] at hup
        repeat' (first | (show WL _ _ _ _ _ _ _; first | refine WL.pure rfl rfl rfl rfl ?_ | refine WL.nil ?_) | (show WC _ _ _ _ _ _; first | refine WC.seq ?_ | refine WC.region ?_ | refine WC.exit ?_ | refine WC.condF rfl (decide_eq_false (by first | with_reducible assumption | omega)) ?_) | refine seqQ_n ?_ | refine seqQ_x ?_ | refine blkQ_hit rfl ?_ | refine rndQ_x ?_)
        show WR _ _ _ _ _ _
        refine WR.seq (Q0 := endQ0 _ _ _ [db] [⟨.fn (.func 110) ⟨[.pointer (some ⟨rb, 0, none⟩)]⟩, #[]⟩] _) rfl (endQ0_ok rfl) ?_
        repeat' (first | (show WL _ _ _ _ _ _ _; first | refine WL.nil ?_ | (refine WL.store hS rfl rfl rfl Sb rfl rfl rfl ?_; intro w hS)) | (show WC _ _ _ _ _ _; first | refine WC.region ?_) | fail)
        show WR _ _ _ _ _ _
        refine WR.ofC (Q0 := endQ0 _ _ _ [db] [⟨.fn (.func 110) ⟨[.pointer (some ⟨rb, 0, none⟩)]⟩, #[]⟩] _) rfl ?_ (endQ0_ok rfl)
        repeat' (first | (show WC _ _ _ _ _ _; first | refine WC.ret ?_) | fail)
        intro a ha
        obtain ⟨w3, htk, hS⟩ := run_take (P := Tryz.prog) hS Rp
        refine ⟨w3, htk, ?_⟩
        exact ap_ret (e0 := 0) (hS.pulls (D := [.box rb 30 [.int .i64 0]]) Pu) (ha.get 4) fun w' hS' => ⟨_, rfl, by rw [hup], by rw [hup]; exact hS'.mutLp Pu⟩
end Go.Proofs.YtccfiohagbneaaaGreatDoor

/- What is proved: the laws' own helpers: two trees laid on a new disk, what stands there, the steps of two roots. Conditions: trees; the library's table of powers laid. -/
namespace Go.Proofs.YtccfiohagbneaaaGreatDoor
open Go Go.J Go.RowKit
theorem tree_of {t : List Ent} (h : checkT t = 0) : t.length ≤ 200 ∧ TreeOk t := by
  unfold checkT at h
  split at h
  · cases h
  · split at h
    · exact ⟨by omega, by assumption⟩
    · cases h
theorem tree_nil : TreeOk [] := fun i hi => absurd hi (Nat.not_lt_zero _)
def laidE (hub side : List Ent) : Dk := (layT (layT Dv3 hubP hub).2 s1P side).2
theorem laidE_ok {hub side : List Ent} (hh : TreeOk hub) (hs : TreeOk side) : LaidD (laidE hub side) hub side := (laid_two hh hs).2.2.1
set_option maxRecDepth 8000 in
set_option maxHeartbeats 16000000 in
set_option maxRecDepth 100000 in
theorem laid_c (hub side : List Ent) {A B : Option Addr} {ca cb : Nat} {w0 : World} (hA : SlAt cEnt (Old w0) w0 A hub) (hB : SlAt cEnt (Old w0) w0 B side) (hl : hub.length ≤ 200) (hl2 : side.length ≤ 200) (hh : TreeOk hub) (hs : TreeOk side) :
    Cal Tryz.prog 49 [.slice A hub.length ca, .slice B side.length cb] w0 (fun v w' => Upd [] w0 w' ∧ ∃ q mb lb, v = .pointer (some ⟨q, 0, none⟩) ∧ New w0 w' (dkC q mb lb (laidE hub side))) := by
  refine Cal.mk' (by kernel_rfl) Tryz.func49 rfl rfl fun hS => ?_
  obtain ⟨t1, t2, t3, t4, t5, t6, t7⟩ := laid_two hh hs
  obtain ⟨e1, e2, e3⟩ := Dv3_eq
  have hlE : laidE hub side = (layT (layT Dv3 hubP hub).2 s1P side).2 := rfl
  have hw0 : walkE Dv3 hubP = [] := walk_none _ (Dv3_bel _)
  have hd0 : (Dv3.at hubP).dir = true := by kernel_rfl
  generalize laidE hub side = DL at *
  subst hlE
  have m1 := fun q mb lb (w : World) (hI : InL w [dkC q mb lb Dk0]) => mkdir_c (D := Dk0) sysP hI.head hI.headB (by decide)
  generalize Dk0.mkdir sysP = r1 at *
  obtain ⟨x1, D1⟩ := r1
  have m2 := fun q mb lb (w : World) (hI : InL w [dkC q mb lb D1]) => mkdir_c (D := D1) hubP hI.head hI.headB (by decide)
  dsimp only at e1 e2 e3 m1
  generalize D1.mkdir hubP = r2 at *
  obtain ⟨x2, D2⟩ := r2
  have m3 := fun q mb lb (w : World) (hI : InL w [dkC q mb lb D2]) => mkdir_c (D := D2) s1P hI.head hI.headB (by decide)
  dsimp only at e2 e3 m2
  rw [e3] at m3
  obtain rfl : x1 = 0 := congrArg Prod.fst e1
  obtain rfl : x2 = 0 := congrArg Prod.fst e2
  dsimp only at m3
  have s1 := fun q mb lb (w : World) (hI : InL w [dkC q mb lb Dv3]) (hA : SlAt cEnt (fun b => b < w.heap.size ∧ b ∉ fps [dkC q mb lb Dv3]) w A hub) => slay_c (cap := ca) hub hI hA (by omega) hh Dv3_q Dv3_s (by decide) hub_vol hd0 hw0
  clear hw0 hd0 e1 e2 e3
  generalize layT Dv3 hubP hub = r4 at *
  obtain ⟨x4, D4⟩ := r4
  dsimp only at t4 t5 t6 t7 s1
  have s2 := fun q mb lb (w : World) (hI : InL w [dkC q mb lb D4]) (hB : SlAt cEnt (fun b => b < w.heap.size ∧ b ∉ fps [dkC q mb lb D4]) w B side) => slay_c (cap := cb) side hI hB (by omega) hs t5 t4 (by omega) s1_vol t6 t7
  dsimp only
  generalize layT D4 s1P side = r5 at *
  obtain ⟨x5, D5⟩ := r5
  dsimp only at s2 ⊢
  clear t1 t2 t3 t4 t5 t6 t7
  repeat' (first | (show WL _ _ _ _ _ _ _; first | refine WL.pure rfl rfl rfl rfl ?_ | refine WL.nil ?_ | (refine WL.callG rfl rfl (dnew_c _) rfl rfl rfl ?_; rintro v w ⟨hu, q, mb, lb, rfl, hn⟩; replace hS := hS.new hu hn; clear hu hn) | (refine WL.callL (D := [dkC q mb lb Dk0]) hS Pu rfl rfl (fun hI => m1 _ _ _ _ hI) rfl rfl rfl ?_; rintro v w ⟨rfl, hm⟩ hS; replace hS := hS _ (.of1 hm); clear hm) | (refine WL.callL (D := [dkC q mb lb D1]) hS Pu rfl rfl (fun hI => m2 _ _ _ _ hI) rfl rfl rfl ?_; rintro v w ⟨rfl, hm⟩ hS; replace hS := hS _ (.of1 hm); clear hm) | (refine WL.callL (D := [dkC q mb lb D2]) hS Pu rfl rfl (fun hI => m3 _ _ _ _ hI) rfl rfl rfl ?_; rintro v w ⟨rfl, hm⟩ hS; replace hS := hS _ (.of1 hm); clear hm) | (refine WL.callL (D := [dkC q mb lb Dv3]) hS Pu rfl rfl (fun hI => s1 _ _ _ _ hI (St.slY (hS.pulls Pu) Mm hA)) rfl rfl rfl ?_; rintro v w ⟨rfl, hm⟩ hS; replace hS := hS _ hm; clear hm) | (refine WL.callL (D := [dkC q mb lb D4]) hS Pu rfl rfl (fun hI => s2 _ _ _ _ hI (St.slY (hS.pulls Pu) Mm hB)) rfl rfl rfl ?_; rintro v w ⟨rfl, hm⟩ hS; replace hS := hS _ hm; clear hm)) | (show WC _ _ _ _ _ _; first | refine WC.seq ?_ | refine WC.region ?_ | refine WC.skip ?_ | refine WC.ret ?_ | refine WC.condF rfl (by decide) ?_) | refine seqQ_n ?_)
  exact fin1r rfl rfl ⟨hS.upd, _, _, _, rfl, hS.newOf (List.Mem.head _)⟩
theorem walk_len {D : Dk} {v : List UInt8} {n : Nat} (hB : DkB n D) : (walkE D v).length ≤ n := by
  unfold walkE ownsE
  rw [List.length_map, sortL_len, List.length_map]
  unfold Dk.belows
  refine Nat.le_trans (List.length_filter_le _ _) ?_
  rw [List.length_map]; exact hB.len
set_option maxRecDepth 8000 in
set_option maxHeartbeats 16000000 in
set_option maxRecDepth 100000 in
theorem holds_c {q mb lb n : Nat} {D : Dk} {A B : Option Addr} {ca cb : Nat} {h s : List Ent} {w0 : World} (hI : InL w0 [dkC q mb lb D]) (hA : SlAt cEnt (fun b => b < w0.heap.size ∧ b ∉ fps [dkC q mb lb D]) w0 A h) (hB : SlAt cEnt (fun b => b < w0.heap.size ∧ b ∉ fps [dkC q mb lb D]) w0 B s)
    (hw : DkW D) (hu : D.down = false) (hb : DkB n D) (hn : n ≤ 500000) (hdh : (D.at hubP).dir = true) (hds : (D.at s1P).dir = true) (h1 : walkE D hubP = h) (h2 : walkE D s1P = s) :
    Cal Tryz.prog 56 [.pointer (some ⟨q, 0, none⟩), .slice A h.length ca, .slice B s.length cb] w0 (fun v w' => v = .bool true ∧ MutL w0 w' [dkC q mb lb D] [dkC q mb lb D]) := by
  subst h1 h2
  refine Cal.mkL hI (by kernel_rfl) Tryz.func56 rfl rfl fun hS => ?_
  have hl1 := walk_len (v := hubP) hb
  have hl2 := walk_len (v := s1P) hb
  have hwh := fun (w : World) (hI : InL w [dkC q mb lb D]) => swalk_c (v := hubP) hI hw hu hb hn hub_vol hdh
  have hws := fun (w : World) (hI : InL w [dkC q mb lb D]) => swalk_c (v := s1P) hI hw hu hb hn s1_vol hds
  repeat' (first | (show WL _ _ _ _ _ _ _; first | refine WL.pure rfl rfl rfl rfl ?_ | refine WL.nil ?_ | (refine WL.callL (D := [dkC q mb lb D]) hS Pu rfl rfl (fun hI => hwh _ hI) rfl rfl rfl ?_; rintro v w ⟨A1, c1, rfl, hm⟩ hS; replace hS := hS _ hm; clear hm) | (refine WL.callL (D := [dkC q mb lb D]) hS Pu rfl rfl (fun hI => hws _ hI) rfl rfl rfl ?_; rintro v w ⟨A2, c2, rfl, hm⟩ hS; replace hS := hS _ hm; clear hm) | (refine WL.calls hS rfl rfl (rsame_c (walkE D hubP) (St.ownSl (enc := encEnt) (hsz := fun _ => rfl) (l := walkE D hubP) (by decide) hS Mm) (hS.slO Mm hA) (by omega)) rfl rfl rfl ?_; rintro v w rfl hS) | (refine WL.calls hS rfl rfl (rsame_c (walkE D s1P) (St.ownSl (enc := encEnt) (hsz := fun _ => rfl) (l := walkE D s1P) (by decide) hS Mm) (hS.slO Mm hB) (by omega)) rfl rfl rfl ?_; rintro v w rfl hS)) | (show WC _ _ _ _ _ _; first | refine WC.seq ?_ | refine WC.region ?_ | refine WC.ret ?_) | refine seqQ_n ?_)
  exact fin1r rfl rfl ⟨rfl, hS.mutLp Pu⟩
set_option maxRecDepth 8000 in
set_option maxHeartbeats 16000000 in
set_option maxRecDepth 100000 in
theorem trees_c (a b c d : List Ent) {A B C D : Option Addr} {ca cb cc cd : Nat} {w0 : World} (hA : SlAt cEnt (Old w0) w0 A a) (hB : SlAt cEnt (Old w0) w0 B b) (hC : SlAt cEnt (Old w0) w0 C c) (hD : SlAt cEnt (Old w0) w0 D d)
    (ka : a.length ≤ ca) (kb : b.length ≤ cb) (kc : c.length ≤ cc) (kd : d.length ≤ cd) (la : a.length ≤ 1048576) (lb : b.length ≤ 1048576) (lc : c.length ≤ 1048576) (ld : d.length ≤ 1048576)
    (za : ∀ e ∈ a, e.path.length ≤ 1048576) (zb : ∀ e ∈ b, e.path.length ≤ 1048576) (zc : ∀ e ∈ c, e.path.length ≤ 1048576) (zd : ∀ e ∈ d, e.path.length ≤ 1048576) :
    Cal Tryz.prog 48 [.slice A a.length ca, .slice B b.length cb, .slice C c.length cc, .slice D d.length cd] w0 (fun v w' => Upd [] w0 w' ∧ ∃ r, v = .bool r ∧ (r = true ↔ checkT a = 0 ∧ checkT b = 0 ∧ checkT c = 0 ∧ checkT d = 0)) := by
  refine Cal.mk' (by kernel_rfl) Tryz.func48 rfl rfl fun hS => ?_
  have r1 := fun (w : World) (h : SlAt cEnt (Old w) w A a) => rtcheck_c a h ka la za
  have r2 := fun (w : World) (h : SlAt cEnt (Old w) w B b) => rtcheck_c b h kb lb zb
  have r3 := fun (w : World) (h : SlAt cEnt (Old w) w C c) => rtcheck_c c h kc lc zc
  have r4 := fun (w : World) (h : SlAt cEnt (Old w) w D d) => rtcheck_c d h kd ld zd
  generalize checkT a = xa at *
  generalize checkT b = xb at *
  generalize checkT c = xc at *
  generalize checkT d = xd at *
  by_cases ea : xa = 0
  · by_cases eb : xb = 0
    · by_cases ec : xc = 0
      · repeat' (first | (show WL _ _ _ _ _ _ _; first | refine WL.pure rfl rfl rfl rfl ?_ | refine WL.nil ?_ | (refine WL.calls hS rfl rfl (r1 _ (hS.slO Mm hA)) rfl rfl rfl ?_; rintro v w rfl hS) | (refine WL.calls hS rfl rfl (r2 _ (hS.slO Mm hB)) rfl rfl rfl ?_; rintro v w rfl hS) | (refine WL.calls hS rfl rfl (r3 _ (hS.slO Mm hC)) rfl rfl rfl ?_; rintro v w rfl hS) | (refine WL.calls hS rfl rfl (r4 _ (hS.slO Mm hD)) rfl rfl rfl ?_; rintro v w rfl hS) | ((fail_if_success (refine WL.wanted rfl ?_)); refine WL.guard rfl rfl rfl (fun h => ?_) (fun h => ?_) <;> (try simp only [ZZ0, ZZ1, ZZ2, ZZ3, ZZ4, ZZ5, ZZ6, ZZ7, ZZ8, ZZ9, ZZ10, ZZ11, ZZ12, ZZ13, ZZ14, ZZ15] at h) <;> (try (exfalso; first | omega | contradiction)))) | (show WC _ _ _ _ _ _; first | refine WC.seq ?_ | refine WC.region ?_ | refine WC.ret ?_) | refine seqQ_n ?_)
        exact fin1r rfl rfl ⟨hS.upd, _, rfl, by simp [ea, eb, ec]⟩
      · repeat' (first | (show WL _ _ _ _ _ _ _; first | refine WL.pure rfl rfl rfl rfl ?_ | refine WL.nil ?_ | (refine WL.calls hS rfl rfl (r1 _ (hS.slO Mm hA)) rfl rfl rfl ?_; rintro v w rfl hS) | (refine WL.calls hS rfl rfl (r2 _ (hS.slO Mm hB)) rfl rfl rfl ?_; rintro v w rfl hS) | (refine WL.calls hS rfl rfl (r3 _ (hS.slO Mm hC)) rfl rfl rfl ?_; rintro v w rfl hS) | refine WL.skip rfl rfl rfl ?_ | ((fail_if_success (refine WL.wanted rfl ?_)); refine WL.guard rfl rfl rfl (fun h => ?_) (fun h => ?_) <;> (try simp only [ZZ0, ZZ1, ZZ2, ZZ3, ZZ4, ZZ5, ZZ6, ZZ7, ZZ8, ZZ9, ZZ10, ZZ11, ZZ12, ZZ13, ZZ14, ZZ15] at h) <;> (try (exfalso; first | omega | contradiction)))) | (show WC _ _ _ _ _ _; first | refine WC.seq ?_ | refine WC.region ?_ | refine WC.ret ?_) | refine seqQ_n ?_)
        exact fin1r rfl rfl ⟨hS.upd, _, rfl, by simp [ec]⟩
    · repeat' (first | (show WL _ _ _ _ _ _ _; first | refine WL.pure rfl rfl rfl rfl ?_ | refine WL.nil ?_ | (refine WL.calls hS rfl rfl (r1 _ (hS.slO Mm hA)) rfl rfl rfl ?_; rintro v w rfl hS) | (refine WL.calls hS rfl rfl (r2 _ (hS.slO Mm hB)) rfl rfl rfl ?_; rintro v w rfl hS) | refine WL.skip rfl rfl rfl ?_ | ((fail_if_success (refine WL.wanted rfl ?_)); refine WL.guard rfl rfl rfl (fun h => ?_) (fun h => ?_) <;> (try simp only [ZZ0, ZZ1, ZZ2, ZZ3, ZZ4, ZZ5, ZZ6, ZZ7, ZZ8, ZZ9, ZZ10, ZZ11, ZZ12, ZZ13, ZZ14, ZZ15] at h) <;> (try (exfalso; first | omega | contradiction)))) | (show WC _ _ _ _ _ _; first | refine WC.seq ?_ | refine WC.region ?_ | refine WC.ret ?_) | refine seqQ_n ?_)
      exact fin1r rfl rfl ⟨hS.upd, _, rfl, by simp [eb]⟩
  · repeat' (first | (show WL _ _ _ _ _ _ _; first | refine WL.pure rfl rfl rfl rfl ?_ | refine WL.nil ?_ | (refine WL.calls hS rfl rfl (r1 _ (hS.slO Mm hA)) rfl rfl rfl ?_; rintro v w rfl hS) | refine WL.skip rfl rfl rfl ?_ | ((fail_if_success (refine WL.wanted rfl ?_)); refine WL.guard rfl rfl rfl (fun h => ?_) (fun h => ?_) <;> (try simp only [ZZ0, ZZ1, ZZ2, ZZ3, ZZ4, ZZ5, ZZ6, ZZ7, ZZ8, ZZ9, ZZ10, ZZ11, ZZ12, ZZ13, ZZ14, ZZ15] at h) <;> (try (exfalso; first | omega | contradiction)))) | (show WC _ _ _ _ _ _; first | refine WC.seq ?_ | refine WC.region ?_ | refine WC.ret ?_) | refine seqQ_n ?_)
    exact fin1r rfl rfl ⟨hS.upd, _, rfl, by simp [ea]⟩
theorem acts_one (l : List Ac) : Go.J.one (l.flatMap encAc) = true := by
  unfold Go.J.one
  rw [List.all_eq_true]
  intro v hv
  obtain ⟨e, _, h⟩ := List.mem_flatMap.1 hv
  simp only [encAc, List.mem_cons, List.not_mem_nil, or_false] at h
  rcases h with rfl | rfl | rfl | rfl <;> rfl
set_option maxRecDepth 8000 in
set_option maxHeartbeats 16000000 in
set_option maxRecDepth 100000 in
theorem two_c (a b c d : List Ent) {A B C D : Option Addr} {ca cb cc cd : Nat} {w0 : World} (hA : SlAt cEnt (Old w0) w0 A a) (hB : SlAt cEnt (Old w0) w0 B b) (hC : SlAt cEnt (Old w0) w0 C c) (hD : SlAt cEnt (Old w0) w0 D d)
    (la : a.length ≤ 200) (lb : b.length ≤ 200) (lc : c.length ≤ 200) (ld : d.length ≤ 200) :
    Cal Tryz.prog 55 [.slice A a.length ca, .slice B b.length cb, .slice C c.length cc, .slice D d.length cd] w0 (fun v w' => Upd [] w0 w' ∧ ∃ A' c', v = .slice A' (twoA 0 1 a b c d).length c' ∧ New w0 w' (aC A' c' (twoA 0 1 a b c d))) := by
  refine Cal.mk' (by kernel_rfl) Tryz.func55 rfl rfl fun hS => ?_
  have l1 := act_len 0 a c
  have l2 := act_len 1 b d
  have h1 := fun (w : World) (h : SlAt cEnt (Old w) w A a) (k : SlAt cEnt (Old w) w C c) => ractions_c (ca := ca) (cb := cc) 0 a c h k (by omega) (by omega)
  have h2 := fun (w : World) (h : SlAt cEnt (Old w) w B b) (k : SlAt cEnt (Old w) w D d) => ractions_c (ca := cb) (cb := cd) 1 b d h k (by omega) (by omega)
  unfold twoA
  generalize actE 0 a c = x at *
  generalize actE 1 b d = y at *
  have hyl : (y.flatMap encAc).length = y.length * 4 := flat_len encAc_len _
  repeat' (first | (show WL _ _ _ _ _ _ _; first | refine WL.pure rfl rfl rfl rfl ?_ | refine WL.nil ?_ | (refine WL.callG rfl rfl (h1 _ (hS.slO Mm hA) (hS.slO Mm hC)) rfl rfl rfl ?_; rintro v w ⟨hu, A1, c1, rfl, hn⟩; replace hS := hS.new hu hn; clear hu hn) | (refine WL.callG rfl rfl (h2 _ (hS.slO Mm hB) (hS.slO Mm hD)) rfl rfl rfl ?_; rintro v w ⟨hu, A2, c2, rfl, hn⟩; replace hS := hS.new hu hn; clear hu hn) | (refine WL.appS (n := x.length) (m := y.length) (size := 4) hS rfl rfl rfl rfl (RdSl.own hS Mm) hyl (acts_one _) (fun A cap => Rp) (by omega) rfl rfl rfl ?_; intro A3 cap3 w hS)) | (show WC _ _ _ _ _ _; first | refine WC.seq ?_ | refine WC.region ?_ | refine WC.ret ?_) | refine seqQ_n ?_)
  have hS := hS.droplast2 (D := [.own (.slice A3 (x.length + y.length) cap3) 167 4 (x.length + y.length) (x.flatMap encAc ++ y.flatMap encAc)]) Pu
  refine fin1r rfl rfl ⟨hS.upd, A3, cap3, by rw [List.length_append], ?_⟩
  have := hS.newOf (List.Mem.head _)
  unfold aC
  rw [List.flatMap_append, List.length_append]
  exact this
end Go.Proofs.YtccfiohagbneaaaGreatDoor

/- What is proved: what Apply makes of two laid trees: plain; the laws' own test. Conditions: trees; the library's table of powers laid. -/
namespace Go.Proofs.YtccfiohagbneaaaGreatDoor
open Go Go.J Go.RowKit
section
variable {D : Dk} {r1 r2 : Int} {o1 o2 n1 n2 : List Ent}
theorem Two.roots (h : Two D r1 r2 o1 o2 n1 n2) : rootsOk (finalE (twoA r1 r2 o1 o2 n1 n2)) = true :=
  List.all_eq_true.2 fun a ha => decide_eq_true (root_vol (h.rootIn ha)).ne
theorem Two.apply (h : Two D r1 r2 o1 o2 n1 n2) : applyA D (twoA r1 r2 o1 o2 n1 n2) = runF D (twoF r1 r2 o1 o2 n1 n2) := by
  unfold applyA
  rw [if_pos h.roots]; rfl
theorem act_ok {root : Int} (hr : 0 ≤ root ∧ root ≤ 6) {old now : List Ent} (ho : TreeOk old) (hn : TreeOk now) : ∀ a ∈ actE root old now, AcOk a := fun a ha => by
  have h1 := act_root ha
  rcases List.mem_append.1 ha with ha | ha
  · obtain ⟨x, hx, _, rfl⟩ := mem_rem.1 ha
    have := tree_small ho hx
    exact ⟨by show -9223372036854775808 ≤ root; omega, by show root ≤ 9223372036854775807; omega, by show x.path.length ≤ _; omega, Nat.zero_le _⟩
  · obtain ⟨x, hx, _, rfl⟩ := mem_put.1 ha
    have := tree_small hn hx
    exact ⟨by show -9223372036854775808 ≤ root; omega, by show root ≤ 9223372036854775807; omega, by show x.path.length ≤ _; omega, by show x.data.length ≤ _; omega⟩
theorem Two.acts (h : Two D r1 r2 o1 o2 n1 n2) : ∀ a ∈ twoA r1 r2 o1 o2 n1 n2, AcOk a := fun a ha => by
  rcases List.mem_append.1 ha with ha | ha
  · exact act_ok h.q1 h.t1 h.u1 a ha
  · exact act_ok h.q2 h.t2 h.u2 a ha
theorem twoA_len (r1 r2 : Int) (o1 o2 n1 n2 : List Ent) : (twoA r1 r2 o1 o2 n1 n2).length ≤ o1.length + o2.length + n1.length + n2.length := by
  unfold twoA
  rw [List.length_append]
  have h1 := act_len r1 o1 n1
  have h2 := act_len r2 o2 n2
  omega
structure Ran (D : Dk) (r1 r2 : Int) (o1 o2 n1 n2 : List Ent) (r : Int × Dk) : Prop where
  w : DkW r.2
  firm : Firm r.2
  d1 : (r.2.at (rootE r1)).dir = true
  d2 : (r.2.at (rootE r2)).dir = true
  nn : ∀ q, nodeD r.2 (rootE r1) q = nodeT o1 q ∨ nodeD r.2 (rootE r1) q = nodeT n1 q ∨ (nodeD r.2 (rootE r1) q = (0, []) ∧ (nodeT o1 q).1 ≠ (nodeT n1 q).1)
  or_ : (r.1 = 14 ∧ r.2.down = true) ∨ (r.1 = 0 ∧ r.2.down = false ∧ (∀ q, nodeD r.2 (rootE r1) q = nodeT n1 q) ∧ (∀ q, nodeD r.2 (rootE r2) q = nodeT n2 q) ∧ DoneOn (twoF r1 r2 o1 o2 n1 n2) r.2)
  calm : D.armed < 0 → r.1 = 0 ∧ r.2.armed < 0
theorem Two.ran (h : Two D r1 r2 o1 o2 n1 n2) (hu : D.down = false) (hf : Firm D) : Ran D r1 r2 o1 o2 n1 n2 (runF D (twoF r1 r2 o1 o2 n1 n2)) := by
  have hp := h.plan
  have hr := hp.run (.refl hp) hu
  have hb : Betw D (twoF r1 r2 o1 o2 n1 n2) (runF D (twoF r1 r2 o1 o2 n1 n2)).2 := by
    rcases hr.or_ with ⟨_, _, h3⟩ | ⟨_, _, h3, _⟩ <;> exact h3
  refine ⟨hb.w, hr.firm hf, h.dir1 hb, h.dir2 hb, fun q => h.node1 hb q, ?_, hr.calm⟩
  rcases hr.or_ with ⟨e1, e2, _⟩ | ⟨e1, e2, _, hd⟩
  · exact .inl ⟨e1, e2⟩
  · refine .inr ⟨e1, e2, fun q => ?_, fun q => ?_, fun a ha => ?_⟩
    · obtain ⟨_, m2, m3⟩ := vol_nsys (q := q) (root_vol h.q1)
      exact (hd _ m2 m3).trans (h.new1 q)
    · obtain ⟨_, m2, m3⟩ := vol_nsys (q := q) (root_vol h.q2)
      exact (hd _ m2 m3).trans (h.new2 q)
    · obtain ⟨_, _, m2, m3⟩ := hp.ok a ha
      rw [hd _ m2 m3, newN_of hp.nd ha]
theorem Two.quiet (h : Two D r1 r2 o1 o2 n1 n2) (hq : Quiet D) (hf : Firm D) : (runF D (twoF r1 r2 o1 o2 n1 n2)).1 = 0 ∧ Quiet (runF D (twoF r1 r2 o1 o2 n1 n2)).2 ∧ (∀ q, nodeD (runF D (twoF r1 r2 o1 o2 n1 n2)).2 (rootE r1) q = nodeT n1 q) ∧ (∀ q, nodeD (runF D (twoF r1 r2 o1 o2 n1 n2)).2 (rootE r2) q = nodeT n2 q) ∧ DoneOn (twoF r1 r2 o1 o2 n1 n2) (runF D (twoF r1 r2 o1 o2 n1 n2)).2 := by
  have h1 := h.ran hq.up hf
  obtain ⟨c1, c2⟩ := h1.calm hq.calm
  rcases h1.or_ with ⟨e, _⟩ | ⟨_, e2, e3, e4, e5⟩
  · rw [e] at c1; exact absurd c1 (by decide)
  · exact ⟨c1, ⟨h1.w, e2, c2⟩, e3, e4, e5⟩
theorem tree_kinds {t : List Ent} (h : TreeOk t) : ∀ e ∈ t, e.kind ≠ 0 := fun e he => by
  obtain ⟨i, hi, rfl⟩ := List.getElem_of_mem he
  exact (h i hi).kind
theorem walk_tree {v : List UInt8} {t : List Ent} (hw : DkW D) (ht : TreeOk t) (h : ∀ q, nodeD D v q = nodeT t q) : walkE D v = t := walk_eq hw.nd (of_rise ht.rise) (tree_kinds ht) h
theorem act_same {t : List Ent} (h : TreeOk t) (r : Int) : actE r t t = [] := by
  have hr := of_rise h.rise
  unfold actE
  have h1 : remA r t t = [] := List.eq_nil_iff_forall_not_mem.2 fun a ha => by
    obtain ⟨x, hx, h2, _⟩ := mem_rem.1 ha
    exact h2 (congrArg Prod.fst (nodeT_mem hr hx))
  have h2 : putA r t t = [] := List.eq_nil_iff_forall_not_mem.2 fun a ha => by
    obtain ⟨x, hx, h2, _⟩ := mem_put.1 ha
    exact h2 (nodeT_mem hr hx)
  rw [h1, h2]; rfl
end
section
variable {P : Program} {fid : FuncId} {args : List Value} {w : World} {X : Prop}
theorem _root_.Go.J.Cal.says_yes (h : Cal P fid args w fun v w' => Upd [] w w' ∧ ∃ r, v = .bool r ∧ (r = true ↔ X)) (hx : X) : Cal P fid args w fun v w' => Upd [] w w' ∧ v = .bool true :=
  h.mono fun v w' ⟨hu, r, hv, hr⟩ => ⟨hu, by rw [hv, hr.2 hx]⟩
theorem _root_.Go.J.Cal.says_no (h : Cal P fid args w fun v w' => Upd [] w w' ∧ ∃ r, v = .bool r ∧ (r = true ↔ X)) (hx : ¬ X) : Cal P fid args w fun v w' => Upd [] w w' ∧ v = .bool false :=
  h.mono fun v w' ⟨hu, r, hv, hr⟩ => ⟨hu, by
    cases r with
    | false => exact hv
    | true => exact absurd (hr.1 rfl) hx⟩
end
def oneT : List Ent := [⟨[97], 2, [104, 105]⟩]
theorem oneT_tree : TreeOk oneT := fun i hi => by
  have : i = 0 := by unfold oneT at hi; simp at hi; omega
  subst this
  exact ⟨by kernel_rfl, by kernel_rfl, by show (2 : Int) ≠ 0; decide, fun j hj => by omega, fun h => absurd (by kernel_rfl) h⟩
theorem oneA : twoA 0 1 [] [] oneT [] = [⟨0, [97], 2, [104, 105]⟩] := by kernel_rfl
set_option maxRecDepth 8000 in
set_option maxHeartbeats 16000000 in
set_option maxRecDepth 100000 in
theorem apawake_c (w0 : World) (ht : powT w0) : Cal Tryz.prog 47 [] w0 (fun v w' => Upd [] w0 w' ∧ v = .bool true) := by
  refine Cal.mk' (by kernel_rfl) Tryz.func47 rfl rfl fun hS => ?_
  have hp := PowI.of ht
  have hl := laidE_ok tree_nil tree_nil
  have htw := hl.two tree_nil tree_nil oneT_tree tree_nil
  have hap := htw.apply
  have hok := htw.acts
  rw [oneA] at hap hok
  obtain ⟨a1, a2, a3, a4, _⟩ := htw.quiet hl.q hl.firm
  have a5 : DkS (3 + 3 * (twoF 0 1 [] [] oneT []).length) (runF (laidE [] []) (twoF 0 1 [] [] oneT [])).2 := hl.s.runF htw.sizes
  have hfl := twoF_len 0 1 [] [] oneT []
  have hw1 := walk_tree a2.w oneT_tree a3
  have hw2 := walk_tree a2.w tree_nil a4
  rw [root0] at hw1
  rw [root1] at hw2
  have hdh := (htw.ran hl.q.up hl.firm).d1
  have hds := (htw.ran hl.q.up hl.firm).d2
  rw [root0] at hdh
  rw [root1] at hds
  have hlaid := fun (w : World) => laid_c (ca := 0) (cb := 0) (A := none) (B := none) (w0 := w) [] [] SlAt.nil0 SlAt.nil0 (Nat.zero_le _) (Nat.zero_le _) tree_nil tree_nil
  have hs0 : DkS 10 (laidE [] []) := hl.s.mono (by decide)
  replace hfl : (twoF 0 1 [] [] oneT []).length ≤ 1 := hfl
  replace a5 : DkS 10 (runF (laidE [] []) (twoF 0 1 [] [] oneT [])).2 := a5.mono (by omega)
  have hap2 := fun q mb lb A cap (w : World) (hI : InL w [dkC q mb lb (laidE [] [])]) (hA : SlAt cAc (fun b => b < w.heap.size ∧ b ∉ fps [dkC q mb lb (laidE [] [])]) w A [⟨0, [97], 2, [104, 105]⟩]) (hp : PowI w (fps [dkC q mb lb (laidE [] [])])) => aapply_c (cap := cap) [⟨0, [97], 2, [104, 105]⟩] hI hA (by decide) hok hs0.b (by decide) hp
  rw [hap] at hap2
  clear htw hl hap
  generalize twoF 0 1 [] [] oneT [] = F at *
  generalize laidE [] [] = D0 at *
  generalize runF D0 F = r at *
  obtain ⟨e, D1⟩ := r
  obtain rfl : e = 0 := a1
  dsimp only at a2 a3 a4 a5 hw1 hw2 hdh hds hap2
  have hho := fun q mb lb A (w : World) (hI : InL w [dkC q mb lb D1]) (hA : SlAt cEnt (fun b => b < w.heap.size ∧ b ∉ fps [dkC q mb lb D1]) w A oneT) => holds_c (ca := 1) (cb := 0) (B := none) (s := []) hI hA SlAt.nil0 a2.w a2.up a5.b (by decide) hdh hds hw1 hw2
  have hvol := fun (w : World) (ht : powT w) => avolume_c 2 w (by decide) (by decide) ht
  rw [show rootE 2 = [115, 50] by decide +kernel] at hvol
  clear a2 a3 a4 a5 hw1 hw2 hdh hds hs0 hok hfl
  repeat' (first | (show WL _ _ _ _ _ _ _; first | refine WL.pure rfl rfl rfl rfl ?_ | refine WL.nil ?_ | refine WL.load hS rfl rfl (LdOk.box Mm rfl) rfl rfl rfl ?_ | (refine WL.callG rfl rfl (hlaid _) rfl rfl rfl ?_; rintro v w ⟨hu, q, mb, lb, rfl, hn⟩; replace hS := hS.new hu hn; clear hu hn) | (refine WL.slit (t := 84) hS rfl rfl rfl rfl rfl ?_; intro w eb hS) | (refine WL.slit (t := 88) hS rfl rfl rfl rfl rfl ?_; intro w ob hS; replace hS := hS.boxRow (n := 1) (size := 4) .here rfl (by decide)) | (refine WL.callL (D := [dkC q mb lb D0]) hS Pu rfl rfl (fun hI => hap2 _ _ _ _ _ _ hI (St.ownSlY (enc := encAc) (hsz := encAc_len) (l := [⟨0, [97], 2, [104, 105]⟩]) (by decide) (hS.pulls Pu) Mm) (hp.pull hS Pu)) rfl rfl rfl ?_; rintro v w ⟨rfl, hm⟩ hS; replace hS := hS _ hm; clear hm) | (replace hS := hS.boxRow (b := eb) (n := 1) (size := 3) Rp rfl (by decide); refine WL.callL (D := [dkC q mb lb D1]) hS Pu rfl rfl (fun hI => hho _ _ _ _ _ hI (St.ownSlY (enc := encEnt) (hsz := fun _ => rfl) (l := oneT) (by decide) (hS.pulls Pu) Mm)) rfl rfl rfl ?_; rintro v w ⟨rfl, hm⟩ hS; replace hS := hS _ hm; clear hm) | (refine WL.calls hS rfl rfl (hvol _ (hp.at hS)) rfl rfl rfl ?_; rintro v w rfl hS) | refine WL.index (j := 0) rfl rfl rfl rfl (by omega) rfl rfl rfl rfl ?_ | refine WL.build rfl rfl rfl rfl rfl ?_) | (show WC _ _ _ _ _ _; first | refine WC.seq ?_ | refine WC.region ?_ | refine WC.ret ?_) | refine seqQ_n ?_)
  exact fin1r rfl rfl ⟨hS.upd, rfl⟩
end Go.Proofs.YtccfiohagbneaaaGreatDoor

/- What is proved: the law ApplyOthers answers true. Conditions: the statement's own bound on the bulk; the library's table of powers laid. -/
namespace Go.Proofs.YtccfiohagbneaaaGreatDoor
open Go Go.J Go.RowKit
set_option maxRecDepth 8000 in
set_option maxHeartbeats 32000000 in
set_option maxRecDepth 100000 in
theorem applyOthers_c (hub side h : List Ent) (p : List UInt8) {A B C : Option Addr} {ca cb cc : Nat} {w0 : World} (hA : SlAt cEnt (Old w0) w0 A hub) (hB : SlAt cEnt (Old w0) w0 B side) (hC : SlAt cEnt (Old w0) w0 C h)
    (ka : hub.length ≤ ca) (kb : side.length ≤ cb) (kc : h.length ≤ cc) (la : hub.length ≤ 1048576) (lb' : side.length ≤ 1048576) (lc : h.length ≤ 1048576)
    (za : ∀ e ∈ hub, e.path.length ≤ 1048576) (zb : ∀ e ∈ side, e.path.length ≤ 1048576) (zc : ∀ e ∈ h, e.path.length ≤ 1048576) (ht : powT w0) :
    Cal Tryz.prog 5 [.slice A hub.length ca, .slice B side.length cb, .slice C h.length cc, str p] w0 (fun v w' => Upd [] w0 w' ∧ v = .bool true) := by
  refine Cal.mk' (by kernel_rfl) Tryz.func5 rfl rfl fun hS => ?_
  have hp := PowI.of ht
  have htr := fun (w : World) (h1 : SlAt cEnt (Old w) w A hub) (h2 : SlAt cEnt (Old w) w B side) (h3 : SlAt cEnt (Old w) w C h) => trees_c hub side h [] (ca := ca) (cb := cb) (cc := cc) (cd := 0) (D := none) h1 h2 h3 SlAt.nil0 ka kb kc (Nat.le_refl _) la lb' lc (Nat.zero_le _) za zb zc (fun e he => by cases he)
  by_cases hT : checkT hub = 0 ∧ checkT side = 0 ∧ checkT h = 0 ∧ checkT [] = 0
  rotate_left
  · replace htr := fun w h1 h2 h3 => (htr w h1 h2 h3).says_no hT
    repeat' (first | (show WL _ _ _ _ _ _ _; first | refine WL.pure rfl rfl rfl rfl ?_ | refine WL.nil ?_ | (refine WL.calls hS rfl rfl (apawake_c _ (hp.at hS)) rfl rfl rfl ?_; rintro v w rfl hS) | (refine WL.calls hS rfl rfl (htr _ (hS.slO Mm hA) (hS.slO Mm hB) (hS.slO Mm hC)) rfl rfl rfl ?_; rintro v w rfl hS)) | (show WC _ _ _ _ _ _; first | refine WC.seq ?_ | refine WC.region ?_ | refine WC.ret ?_ | refine WC.condT rfl (by decide) ?_) | refine seqQ_n ?_ | refine seqQ_r ?_)
    exact fin1r rfl rfl ⟨hS.upd, rfl⟩
  replace htr := fun w h1 h2 h3 => (htr w h1 h2 h3).says_yes hT
  obtain ⟨l1, t1⟩ := tree_of hT.1
  obtain ⟨l2, t2⟩ := tree_of hT.2.1
  obtain ⟨l3, t3⟩ := tree_of hT.2.2.1
  have hl := laidE_ok t1 t2
  have htw := hl.two t1 t2 t3 t2
  have hap0 := htw.apply
  have hok := htw.acts
  have hL : twoA 0 1 hub side h side = actE 0 hub h := by unfold twoA; rw [act_same t2, List.append_nil]
  rw [hL] at hap0 hok
  obtain ⟨a1, a2, a3, a4, _⟩ := htw.quiet hl.q hl.firm
  have a5 := hl.s.runF htw.sizes
  have hfl := twoF_len 0 1 hub side h side
  have hw1 := walk_tree a2.w t3 a3
  have hw2 := walk_tree a2.w t2 a4
  rw [root0] at hw1
  rw [root1] at hw2
  have hdh := (htw.ran hl.q.up hl.firm).d1
  have hds := (htw.ran hl.q.up hl.firm).d2
  rw [root0] at hdh
  rw [root1] at hds
  have hlaid := fun (w : World) (h1 : SlAt cEnt (Old w) w A hub) (h2 : SlAt cEnt (Old w) w B side) => laid_c (ca := ca) (cb := cb) hub side h1 h2 l1 l2 t1 t2
  have hact := fun (w : World) (h1 : SlAt cEnt (Old w) w A hub) (h3 : SlAt cEnt (Old w) w C h) => ractions_c (ca := ca) (cb := cc) 0 hub h h1 h3 (by omega) (by omega)
  have hll := act_len 0 hub h
  have hs0 : DkS 1000 (laidE hub side) := hl.s.mono (by omega)
  replace a5 : DkS 4000 (runF (laidE hub side) (twoF 0 1 hub side h side)).2 := a5.mono (by omega)
  clear hL
  generalize actE 0 hub h = L at *
  have hap := fun q mb lb A cap (w : World) (hI : InL w [dkC q mb lb (laidE hub side)]) (hA : SlAt cAc (fun b => b < w.heap.size ∧ b ∉ fps [dkC q mb lb (laidE hub side)]) w A L) (hp : PowI w (fps [dkC q mb lb (laidE hub side)])) => aapply_c (cap := cap) L hI hA (by omega) hok hs0.b (by decide) hp
  rw [hap0] at hap
  clear htw hl hap0
  generalize twoF 0 1 hub side h side = F at *
  generalize laidE hub side = D0 at *
  generalize runF D0 F = r at *
  obtain ⟨e, D1⟩ := r
  obtain rfl : e = 0 := a1
  dsimp only at a2 a3 a4 a5 hw1 hw2 hdh hds hap
  have hwh := fun q mb lb (w : World) (hI : InL w [dkC q mb lb D1]) => swalk_c (v := hubP) hI a2.w a2.up a5.b (by decide) hub_vol hdh
  have hws := fun q mb lb (w : World) (hI : InL w [dkC q mb lb D1]) => swalk_c (v := s1P) hI a2.w a2.up a5.b (by decide) s1_vol hds
  rw [hw1] at hwh
  rw [hw2] at hws
  have hg1 := fun (w : World) (h1 : SlAt cEnt (Old w) w A hub) => rget_c (cap := ca) hub p h1 (by omega)
  have hg2 := fun (AH : Option Addr) (ch : Nat) (w : World) (h1 : SlAt cEnt (Old w) w AH h) => rget_c (cap := ch) h p h1 (by omega)
  generalize getT hub p = x at *
  generalize getT h p = y at *
  obtain ⟨x1, xk, xd⟩ := x
  obtain ⟨y1, yk, yd⟩ := y
  clear a2 a3 a4 a5 hw1 hw2 hdh hds hs0 hok hfl hT t1 t2 t3
  cases hdec : (decide (xk = yk) && decide (xd = yd)) with
  | true =>
    rw [Bool.and_eq_true] at hdec
    obtain rfl := of_decide_eq_true hdec.1
    obtain rfl := of_decide_eq_true hdec.2
    repeat' (first | (show WL _ _ _ _ _ _ _; first | refine WL.pure rfl rfl rfl rfl ?_ | refine WL.nil ?_ | (refine WL.calls hS rfl rfl (apawake_c _ (hp.at hS)) rfl rfl rfl ?_; rintro v w rfl hS) | (refine WL.calls hS rfl rfl (htr _ (hS.slO Mm hA) (hS.slO Mm hB) (hS.slO Mm hC)) rfl rfl rfl ?_; rintro v w rfl hS) | (refine WL.callG rfl rfl (hlaid _ (hS.slO Mm hA) (hS.slO Mm hB)) rfl rfl rfl ?_; rintro v w ⟨hu, q, mb, lb, rfl, hn⟩; replace hS := hS.new hu hn; clear hu hn) | (refine WL.callG rfl rfl (hact _ (hS.slO Mm hA) (hS.slO Mm hC)) rfl rfl rfl ?_; rintro v w ⟨hu, AA, ac, rfl, hn⟩; replace hS := hS.new hu hn; clear hu hn) | (refine WL.callL (D := [dkC q mb lb D0]) hS Pu rfl rfl (fun hI => hap _ _ _ _ _ _ hI (St.ownSlY (enc := encAc) (hsz := encAc_len) (l := L) (by decide) (hS.pulls Pu) Mm) (hp.pull hS Pu)) rfl rfl rfl ?_; rintro v w ⟨rfl, hm⟩ hS; replace hS := hS _ hm; clear hm) | (refine WL.callL (D := [dkC q mb lb D1]) hS Pu rfl rfl (fun hI => hwh _ _ _ _ hI) rfl rfl rfl ?_; rintro v w ⟨A1, c1, rfl, hm⟩ hS; replace hS := hS _ hm; clear hm) | (refine WL.callL (D := [dkC q mb lb D1]) hS Pu rfl rfl (fun hI => hws _ _ _ _ hI) rfl rfl rfl ?_; rintro v w ⟨A2, c2, rfl, hm⟩ hS; replace hS := hS _ hm; clear hm) | (refine WL.calls hS rfl rfl (rsame_c side (St.ownSl (enc := encEnt) (hsz := fun _ => rfl) (l := side) (by decide) hS Mm) (hS.slO Mm hB) (by omega)) rfl rfl rfl ?_; rintro v w rfl hS) | (refine WL.calls hS rfl rfl (hg1 _ (hS.slO Mm hA)) rfl rfl rfl ?_; rintro v w rfl hS) | (refine WL.calls hS rfl rfl (hg2 _ _ _ (hS.slO Mm hC)) rfl rfl rfl ?_; rintro v w rfl hS) | (refine WL.calls hS rfl rfl (hg2 _ _ _ (St.ownSl (enc := encEnt) (hsz := fun _ => rfl) (l := h) (by decide) hS Mm)) rfl rfl rfl ?_; rintro v w rfl hS) | (refine WL.neS rfl rfl rfl (show some (decide (xk = xk) && decide (xd = xd)) = some true by simp) (by kernel_rfl) rfl rfl rfl ?_) | (refine WL.eqS rfl rfl rfl (show some (decide (xk = xk) && decide (xd = xd)) = some true by simp) (by kernel_rfl) rfl rfl rfl ?_)) | (show WC _ _ _ _ _ _; first | refine WC.seq ?_ | refine WC.region ?_ | refine WC.skip ?_ | refine WC.ret ?_ | refine WC.condF rfl (by decide) ?_) | refine seqQ_n ?_)
    exact fin1r rfl rfl ⟨hS.upd, rfl⟩
  | false =>
    repeat' (first | (show WL _ _ _ _ _ _ _; first | refine WL.pure rfl rfl rfl rfl ?_ | refine WL.nil ?_ | (refine WL.calls hS rfl rfl (apawake_c _ (hp.at hS)) rfl rfl rfl ?_; rintro v w rfl hS) | (refine WL.calls hS rfl rfl (htr _ (hS.slO Mm hA) (hS.slO Mm hB) (hS.slO Mm hC)) rfl rfl rfl ?_; rintro v w rfl hS) | (refine WL.callG rfl rfl (hlaid _ (hS.slO Mm hA) (hS.slO Mm hB)) rfl rfl rfl ?_; rintro v w ⟨hu, q, mb, lb, rfl, hn⟩; replace hS := hS.new hu hn; clear hu hn) | (refine WL.callG rfl rfl (hact _ (hS.slO Mm hA) (hS.slO Mm hC)) rfl rfl rfl ?_; rintro v w ⟨hu, AA, ac, rfl, hn⟩; replace hS := hS.new hu hn; clear hu hn) | (refine WL.callL (D := [dkC q mb lb D0]) hS Pu rfl rfl (fun hI => hap _ _ _ _ _ _ hI (St.ownSlY (enc := encAc) (hsz := encAc_len) (l := L) (by decide) (hS.pulls Pu) Mm) (hp.pull hS Pu)) rfl rfl rfl ?_; rintro v w ⟨rfl, hm⟩ hS; replace hS := hS _ hm; clear hm) | (refine WL.callL (D := [dkC q mb lb D1]) hS Pu rfl rfl (fun hI => hwh _ _ _ _ hI) rfl rfl rfl ?_; rintro v w ⟨A1, c1, rfl, hm⟩ hS; replace hS := hS _ hm; clear hm) | (refine WL.callL (D := [dkC q mb lb D1]) hS Pu rfl rfl (fun hI => hws _ _ _ _ hI) rfl rfl rfl ?_; rintro v w ⟨A2, c2, rfl, hm⟩ hS; replace hS := hS _ hm; clear hm) | (refine WL.calls hS rfl rfl (rsame_c side (St.ownSl (enc := encEnt) (hsz := fun _ => rfl) (l := side) (by decide) hS Mm) (hS.slO Mm hB) (by omega)) rfl rfl rfl ?_; rintro v w rfl hS) | (refine WL.calls hS rfl rfl (hg1 _ (hS.slO Mm hA)) rfl rfl rfl ?_; rintro v w rfl hS) | (refine WL.calls hS rfl rfl (hg2 _ _ _ (hS.slO Mm hC)) rfl rfl rfl ?_; rintro v w rfl hS) | (refine WL.neS rfl rfl rfl (show some (decide (xk = yk) && decide (xd = yd)) = some false from congrArg some hdec) (by kernel_rfl) rfl rfl rfl ?_) | refine WL.skip rfl rfl rfl ?_) | (show WC _ _ _ _ _ _; first | refine WC.seq ?_ | refine WC.region ?_ | refine WC.skip ?_ | refine WC.ret ?_ | refine WC.condF rfl (by decide) ?_) | refine seqQ_n ?_)
    exact fin1r rfl rfl ⟨hS.upd, rfl⟩
end Go.Proofs.YtccfiohagbneaaaGreatDoor

/- What is proved: the key of ApplyOthers: with the table laid, the law answers true. Conditions: the statement's own bound on the bulk. -/
namespace Go.Proofs.YtccfiohagbneaaaGreatDoor
open Go Go.J Go.RowKit
set_option maxRecDepth 100000 in
theorem pow_applyOthers (W : World) (h : laidMet Tryz.prog Rows.applyOthersUptoRow.laid W) : powT W := by
  obtain ⟨a, b, r, he⟩ : ∃ a b r, Rows.applyOthersUptoRow.laid = a :: b :: ("internal/strconv.uint64pow10", Lib.tabData .u64 Lib.pow10Tab) :: r := ⟨_, _, _, rfl⟩
  rw [he] at h
  have h1 := laidMet.tail (laidMet.tail h)
  exact Lib.tabIs_of_head (g := 1) (t := 292) (e := 129) (n := 20) (by kernel_rfl) (by kernel_rfl) (by kernel_rfl) (by kernel_rfl) (by kernel_rfl) (by kernel_rfl) h1
theorem applyOthers.key_applyOthers (W : World) (hL : laidMet Tryz.prog Rows.applyOthersUptoRow.laid W) (v0 v1 v2 v3 : Value) (y0 y1 y2 : List Ent) (y3 : List UInt8) (b0 b1 b2 b3 : Nat) (h0 : ASl cEnt W v0 y0) (h1 : ASl cEnt W v1 y1) (h2 : ASl cEnt W v2 y2) (h3 : AStr W v3 y3) (q0 : QL QEnt y0 b0) (q1 : QL QEnt y1 b1) (q2 : QL QEnt y2 b2) (q3 : QStr y3 b3) (hb : b0 + b1 + b2 + b3 ≤ 1048576) :
    Cal Tryz.prog 5 [v0, v1, v2, v3] W (fun v W' => Upd [] W W' ∧ v = .bool true) := by
  obtain ⟨A0, c0, rfl, k0, h0⟩ := h0
  obtain ⟨A1, c1, rfl, k1, h1⟩ := h1
  obtain ⟨A2, c2, rfl, k2, h2⟩ := h2
  obtain rfl := h3
  obtain ⟨z0, l0⟩ := ents_each q0 (by omega)
  obtain ⟨z1, l1⟩ := ents_each q1 (by omega)
  obtain ⟨z2, l2⟩ := ents_each q2 (by omega)
  exact applyOthers_c y0 y1 y2 y3 h0 h1 h2 k0 k1 k2 l0 l1 l2 z0 z1 z2 (pow_applyOthers W hL)
end Go.Proofs.YtccfiohagbneaaaGreatDoor

/- What is proved: the law ApplyLays answers true. Conditions: the statement's own bound on the bulk; the library's table of powers laid. -/
namespace Go.Proofs.YtccfiohagbneaaaGreatDoor
open Go Go.J Go.RowKit
theorem Two.applyE {D : Dk} {r1 r2 : Int} {o1 o2 n1 n2 : List Ent} (h : Two D r1 r2 o1 o2 n1 n2) (E : Dk) : applyA E (twoA r1 r2 o1 o2 n1 n2) = runF E (twoF r1 r2 o1 o2 n1 n2) := by
  unfold applyA
  rw [if_pos h.roots]; rfl
theorem Kp.up {D : Dk} {B C : Nat} (h : D.Kp B) (hc : B ≤ C) : D.Kp C := fun x hx => ⟨Nat.le_trans (h x hx).1 hc, Nat.le_trans (h x hx).2.1 hc, (h x hx).2.2⟩
set_option maxRecDepth 8000 in
set_option maxHeartbeats 32000000 in
set_option maxRecDepth 100000 in
theorem applyLays_c (hub side h s : List Ent) (loss : Int) {A B C E : Option Addr} {ca cb cc ce : Nat} {w0 : World} (hA : SlAt cEnt (Old w0) w0 A hub) (hB : SlAt cEnt (Old w0) w0 B side) (hC : SlAt cEnt (Old w0) w0 C h) (hE : SlAt cEnt (Old w0) w0 E s)
    (ka : hub.length ≤ ca) (kb : side.length ≤ cb) (kc : h.length ≤ cc) (ke : s.length ≤ ce) (la : hub.length ≤ 1048576) (lb' : side.length ≤ 1048576) (lc : h.length ≤ 1048576) (le : s.length ≤ 1048576)
    (za : ∀ e ∈ hub, e.path.length ≤ 1048576) (zb : ∀ e ∈ side, e.path.length ≤ 1048576) (zc : ∀ e ∈ h, e.path.length ≤ 1048576) (ze : ∀ e ∈ s, e.path.length ≤ 1048576) (ht : powT w0) :
    Cal Tryz.prog 7 [.slice A hub.length ca, .slice B side.length cb, .slice C h.length cc, .slice E s.length ce, .int .i64 loss] w0 (fun v w' => Upd [] w0 w' ∧ v = .bool true) := by
  refine Cal.mk' (by kernel_rfl) Tryz.func7 rfl rfl fun hS => ?_
  have hp := PowI.of ht
  have htr := fun (w : World) (h1 : SlAt cEnt (Old w) w A hub) (h2 : SlAt cEnt (Old w) w B side) (h3 : SlAt cEnt (Old w) w C h) (h4 : SlAt cEnt (Old w) w E s) => trees_c hub side h s (ca := ca) (cb := cb) (cc := cc) (cd := ce) h1 h2 h3 h4 ka kb kc ke la lb' lc le za zb zc ze
  by_cases hT : checkT hub = 0 ∧ checkT side = 0 ∧ checkT h = 0 ∧ checkT s = 0
  rotate_left
  · replace htr := fun w h1 h2 h3 h4 => (htr w h1 h2 h3 h4).says_no hT
    repeat' (first | (show WL _ _ _ _ _ _ _; first | refine WL.pure rfl rfl rfl rfl ?_ | refine WL.nil ?_ | (refine WL.calls hS rfl rfl (apawake_c _ (hp.at hS)) rfl rfl rfl ?_; rintro v w rfl hS) | (refine WL.calls hS rfl rfl (htr _ (hS.slO Mm hA) (hS.slO Mm hB) (hS.slO Mm hC) (hS.slO Mm hE)) rfl rfl rfl ?_; rintro v w rfl hS)) | (show WC _ _ _ _ _ _; first | refine WC.seq ?_ | refine WC.region ?_ | refine WC.ret ?_ | refine WC.condT rfl (by decide) ?_) | refine seqQ_n ?_ | refine seqQ_r ?_)
    exact fin1r rfl rfl ⟨hS.upd, rfl⟩
  replace htr := fun w h1 h2 h3 h4 => (htr w h1 h2 h3 h4).says_yes hT
  obtain ⟨l1, t1⟩ := tree_of hT.1
  obtain ⟨l2, t2⟩ := tree_of hT.2.1
  obtain ⟨l3, t3⟩ := tree_of hT.2.2.1
  obtain ⟨l4, t4⟩ := tree_of hT.2.2.2
  have hl := laidE_ok t1 t2
  have htw := hl.two t1 t2 t3 t4
  have hap0 := htw.applyE
  have hok := htw.acts
  have hkinds := fun a ha => ((htw.plan).kinds a ha).1
  obtain ⟨a1, a2, a3, a4, adone⟩ := htw.quiet hl.q hl.firm
  have afirm := (htw.ran hl.q.up hl.firm).firm
  have a5 := hl.s.runF htw.sizes
  have hfl := twoF_len 0 1 hub side h s
  have hdh := (htw.ran hl.q.up hl.firm).d1
  have hds := (htw.ran hl.q.up hl.firm).d2
  have hlaid := fun (w : World) (h1 : SlAt cEnt (Old w) w A hub) (h2 : SlAt cEnt (Old w) w B side) => laid_c (ca := ca) (cb := cb) hub side h1 h2 l1 l2 t1 t2
  have htwo := fun (w : World) (h1 : SlAt cEnt (Old w) w A hub) (h2 : SlAt cEnt (Old w) w B side) (h3 : SlAt cEnt (Old w) w C h) (h4 : SlAt cEnt (Old w) w E s) => two_c (ca := ca) (cb := cb) (cc := cc) (cd := ce) hub side h s h1 h2 h3 h4 l1 l2 l3 l4
  have hll := twoA_len 0 1 hub side h s
  have hs0 : DkS 1000 (laidE hub side) := hl.s.mono (by omega)
  replace a5 : DkS 4000 (runF (laidE hub side) (twoF 0 1 hub side h s)).2 := a5.mono (by omega)
  have hap := fun q mb lb A cap (w : World) (hI : InL w [dkC q mb lb (laidE hub side)]) (hA : SlAt cAc (fun b => b < w.heap.size ∧ b ∉ fps [dkC q mb lb (laidE hub side)]) w A (twoA 0 1 hub side h s)) (hp : PowI w (fps [dkC q mb lb (laidE hub side)])) => aapply_c (cap := cap) (twoA 0 1 hub side h s) hI hA (by omega) hok hs0.b (by decide) hp
  rw [hap0] at hap
  have hap2 := fun q mb lb A cap (w : World) (hI : InL w [dkC q mb lb (runF (laidE hub side) (twoF 0 1 hub side h s)).2]) (hA : SlAt cAc (fun b => b < w.heap.size ∧ b ∉ fps [dkC q mb lb (runF (laidE hub side) (twoF 0 1 hub side h s)).2]) w A (twoA 0 1 hub side h s)) (hp : PowI w (fps [dkC q mb lb (runF (laidE hub side) (twoF 0 1 hub side h s)).2])) => aapply_c (cap := cap) (twoA 0 1 hub side h s) hI hA (by omega) hok a5.b (by decide) hp
  rw [hap0, run_again a2.up hkinds adone] at hap2
  clear htw hl hap0
  generalize twoA 0 1 hub side h s = L at *
  generalize twoF 0 1 hub side h s = F at *
  generalize laidE hub side = D0 at *
  generalize runF D0 F = r at *
  obtain ⟨e, D1⟩ := r
  obtain rfl : e = 0 := a1
  dsimp only at a2 a3 a4 a5 hdh hds hap hap2 afirm
  rw [root0] at hdh a3
  rw [root1] at hds a4
  have hw1 := walk_tree a2.w t3 a3
  have hw2 := walk_tree a2.w t4 a4
  have hag := restart_again a2.w.nd loss
  have b2 := hag.quiet a2.w
  have b5 := a5.restart loss
  have hdh2 := (hag.get hubP).dirs.1.trans hdh
  have hds2 := (hag.get s1P).dirs.1.trans hds
  have hx1 := walk_tree b2.w t3 fun q => (congrArg ndE (hag.node afirm (vol_nsys (q := q) hub_vol).2.2 (vol_nsys (q := q) hub_vol).2.1)).trans (a3 q)
  have hx2 := walk_tree b2.w t4 fun q => (congrArg ndE (hag.node afirm (vol_nsys (q := q) s1_vol).2.2 (vol_nsys (q := q) s1_vol).2.1)).trans (a4 q)
  have hrs := fun q mb lb (w : World) (hI : InL w [dkC q mb lb D1]) => restart_c loss hI.head hI.headB (Kp.up a5.k (by decide)) (Nat.le_trans a5.b.len (by decide)) a5.b.key
  generalize D1.restart loss = D2 at *
  have hh1 := fun q mb lb (w : World) (hI : InL w [dkC q mb lb D1]) (hC : SlAt cEnt (fun b => b < w.heap.size ∧ b ∉ fps [dkC q mb lb D1]) w C h) (hE : SlAt cEnt (fun b => b < w.heap.size ∧ b ∉ fps [dkC q mb lb D1]) w E s) => holds_c (ca := cc) (cb := ce) hI hC hE a2.w a2.up a5.b (by decide) hdh hds hw1 hw2
  have hh2 := fun q mb lb (w : World) (hI : InL w [dkC q mb lb D2]) (hC : SlAt cEnt (fun b => b < w.heap.size ∧ b ∉ fps [dkC q mb lb D2]) w C h) (hE : SlAt cEnt (fun b => b < w.heap.size ∧ b ∉ fps [dkC q mb lb D2]) w E s) => holds_c (ca := cc) (cb := ce) hI hC hE b2.w b2.up b5.b (by decide) hdh2 hds2 hx1 hx2
  clear a2 a3 a4 a5 b2 b5 hw1 hw2 hx1 hx2 hdh hds hdh2 hds2 hs0 hok hfl hT t1 t2 t3 t4 hag afirm adone hkinds
  repeat' (first | (show WL _ _ _ _ _ _ _; first | refine WL.pure rfl rfl rfl rfl ?_ | refine WL.nil ?_ | (refine WL.calls hS rfl rfl (apawake_c _ (hp.at hS)) rfl rfl rfl ?_; rintro v w rfl hS) | (refine WL.calls hS rfl rfl (htr _ (hS.slO Mm hA) (hS.slO Mm hB) (hS.slO Mm hC) (hS.slO Mm hE)) rfl rfl rfl ?_; rintro v w rfl hS) | (refine WL.callG rfl rfl (hlaid _ (hS.slO Mm hA) (hS.slO Mm hB)) rfl rfl rfl ?_; rintro v w ⟨hu, q, mb, lb, rfl, hn⟩; replace hS := hS.new hu hn; clear hu hn) | (refine WL.callG rfl rfl (htwo _ (hS.slO Mm hA) (hS.slO Mm hB) (hS.slO Mm hC) (hS.slO Mm hE)) rfl rfl rfl ?_; rintro v w ⟨hu, AA, ac, rfl, hn⟩; replace hS := hS.new hu hn; clear hu hn) | (refine WL.callL (D := [dkC q mb lb D0]) hS Pu rfl rfl (fun hI => hap _ _ _ _ _ _ hI (St.ownSlY (enc := encAc) (hsz := encAc_len) (l := L) (by decide) (hS.pulls Pu) Mm) (hp.pull hS Pu)) rfl rfl rfl ?_; rintro v w ⟨rfl, hm⟩ hS; replace hS := hS _ hm; clear hm; clear hap) | (refine WL.callL (D := [dkC q mb lb D1]) hS Pu rfl rfl (fun hI => hap2 _ _ _ _ _ _ hI (St.ownSlY (enc := encAc) (hsz := encAc_len) (l := L) (by decide) (hS.pulls Pu) Mm) (hp.pull hS Pu)) rfl rfl rfl ?_; rintro v w ⟨rfl, hm⟩ hS; replace hS := hS _ hm; clear hm) | (refine WL.callL (D := [dkC q mb lb D1]) hS Pu rfl rfl (fun hI => hh1 _ _ _ _ hI (St.slY (hS.pulls Pu) Mm hC) (St.slY (hS.pulls Pu) Mm hE)) rfl rfl rfl ?_; rintro v w ⟨rfl, hm⟩ hS; replace hS := hS _ hm; clear hm; clear hh1) | (refine WL.callL (D := [dkC q mb lb D2]) hS Pu rfl rfl (fun hI => hh2 _ _ _ _ hI (St.slY (hS.pulls Pu) Mm hC) (St.slY (hS.pulls Pu) Mm hE)) rfl rfl rfl ?_; rintro v w ⟨rfl, hm⟩ hS; replace hS := hS _ hm; clear hm) | (refine WL.calls hS rfl rfl (dstp_c (hS.holds (dkC q mb lb D1) Mm).1) rfl rfl rfl ?_; rintro v w rfl hS) | (refine WL.callL (D := [dkC q mb lb D1]) hS Pu rfl rfl (fun hI => hrs _ _ _ _ hI) rfl rfl rfl ?_; rintro v w ⟨rfl, hm⟩ hS; replace hS := hS _ (.of1 hm); clear hm) | ((fail_if_success (refine WL.wanted rfl ?_)); refine WL.guard rfl rfl rfl (fun h => ?_) (fun h => ?_) <;> (try simp only [ZZ0, ZZ1, ZZ2, ZZ3, ZZ4, ZZ5, ZZ6, ZZ7, ZZ8, ZZ9, ZZ10, ZZ11, ZZ12, ZZ13, ZZ14, ZZ15] at h) <;> (try (exfalso; first | omega | contradiction)))) | (show WC _ _ _ _ _ _; first | refine WC.seq ?_ | refine WC.region ?_ | refine WC.skip ?_ | refine WC.ret ?_ | refine WC.condF rfl (by with_reducible rfl) ?_ | refine WC.condF rfl (by decide) ?_) | refine seqQ_n ?_)
  exact fin1r rfl rfl ⟨hS.upd, rfl⟩
end Go.Proofs.YtccfiohagbneaaaGreatDoor

/- What is proved: the key of ApplyLays: with the table laid, the law answers true. Conditions: the statement's own bound on the bulk. -/
namespace Go.Proofs.YtccfiohagbneaaaGreatDoor
open Go Go.J Go.RowKit
set_option maxRecDepth 100000 in
theorem pow_applyLays (W : World) (h : laidMet Tryz.prog Rows.applyLaysUptoRow.laid W) : powT W := by
  obtain ⟨a, b, r, he⟩ : ∃ a b r, Rows.applyLaysUptoRow.laid = a :: b :: ("internal/strconv.uint64pow10", Lib.tabData .u64 Lib.pow10Tab) :: r := ⟨_, _, _, rfl⟩
  rw [he] at h
  have h1 := laidMet.tail (laidMet.tail h)
  exact Lib.tabIs_of_head (g := 1) (t := 292) (e := 129) (n := 20) (by kernel_rfl) (by kernel_rfl) (by kernel_rfl) (by kernel_rfl) (by kernel_rfl) (by kernel_rfl) h1
theorem applyLays.key_applyLays (W : World) (hL : laidMet Tryz.prog Rows.applyLaysUptoRow.laid W) (v0 v1 v2 v3 v4 : Value) (y0 y1 y2 y3 : List Ent) (y4 : Int) (b0 b1 b2 b3 b4 : Nat) (h0 : ASl cEnt W v0 y0) (h1 : ASl cEnt W v1 y1) (h2 : ASl cEnt W v2 y2) (h3 : ASl cEnt W v3 y3) (h4 : AInt W v4 y4) (q0 : QL QEnt y0 b0) (q1 : QL QEnt y1 b1) (q2 : QL QEnt y2 b2) (q3 : QL QEnt y3 b3) (q4 : QInt y4 b4) (hb : b0 + b1 + b2 + b3 + b4 ≤ 1048576) :
    Cal Tryz.prog 7 [v0, v1, v2, v3, v4] W (fun v W' => Upd [] W W' ∧ v = .bool true) := by
  obtain ⟨A0, c0, rfl, k0, h0⟩ := h0
  obtain ⟨A1, c1, rfl, k1, h1⟩ := h1
  obtain ⟨A2, c2, rfl, k2, h2⟩ := h2
  obtain ⟨A3, c3, rfl, k3, h3⟩ := h3
  obtain rfl := h4
  obtain ⟨z0, l0⟩ := ents_each q0 (by omega)
  obtain ⟨z1, l1⟩ := ents_each q1 (by omega)
  obtain ⟨z2, l2⟩ := ents_each q2 (by omega)
  obtain ⟨z3, l3⟩ := ents_each q3 (by omega)
  exact applyLays_c y0 y1 y2 y3 y4 h0 h1 h2 h3 k0 k1 k2 k3 l0 l1 l2 l3 z0 z1 z2 z3 (pow_applyLays W hL)
end Go.Proofs.YtccfiohagbneaaaGreatDoor

/- What is proved: the law ApplyNever answers true. Conditions: the statement's own bound on the bulk; the library's table of powers laid. -/
namespace Go.Proofs.YtccfiohagbneaaaGreatDoor
open Go Go.J Go.RowKit
theorem kdec {a b : Int} {c d : List UInt8} (h : ¬ (a, c) = (b, d)) : (decide (a = b) && decide (c = d)) = false := by
  cases e : (decide (a = b) && decide (c = d)) with
  | false => rfl
  | true =>
    rw [Bool.and_eq_true] at e
    exact absurd (Prod.ext (of_decide_eq_true e.1) (of_decide_eq_true e.2)) h
set_option maxRecDepth 8000 in
set_option maxHeartbeats 32000000 in
set_option maxRecDepth 100000 in
theorem applyNever_c (hub h : List Ent) (stop loss : Int) (p : List UInt8) {A B : Option Addr} {ca cb : Nat} {w0 : World} (hA : SlAt cEnt (Old w0) w0 A hub) (hB : SlAt cEnt (Old w0) w0 B h)
    (ka : hub.length ≤ ca) (kb : h.length ≤ cb) (la : hub.length ≤ 1048576) (lb' : h.length ≤ 1048576)
    (za : ∀ e ∈ hub, e.path.length ≤ 1048576) (zb : ∀ e ∈ h, e.path.length ≤ 1048576) (ht : powT w0) :
    Cal Tryz.prog 6 [.slice A hub.length ca, .slice B h.length cb, .int .i64 stop, .int .i64 loss, str p] w0 (fun v w' => Upd [] w0 w' ∧ v = .bool true) := by
  refine Cal.mk' (by kernel_rfl) Tryz.func6 rfl rfl fun hS => ?_
  have hp := PowI.of ht
  have htr := fun (w : World) (h1 : SlAt cEnt (Old w) w A hub) (h2 : SlAt cEnt (Old w) w B h) => trees_c hub h [] [] (ca := ca) (cb := cb) (cc := 0) (cd := 0) (C := none) (D := none) h1 h2 SlAt.nil0 SlAt.nil0 ka kb (Nat.le_refl _) (Nat.le_refl _) la lb' (Nat.zero_le _) (Nat.zero_le _) za zb (fun e he => by cases he) (fun e he => by cases he)
  by_cases hT : checkT hub = 0 ∧ checkT h = 0 ∧ checkT [] = 0 ∧ checkT [] = 0
  rotate_left
  · replace htr := fun w h1 h2 => (htr w h1 h2).says_no hT
    repeat' (first | (show WL _ _ _ _ _ _ _; first | refine WL.pure rfl rfl rfl rfl ?_ | refine WL.nil ?_ | (refine WL.calls hS rfl rfl (apawake_c _ (hp.at hS)) rfl rfl rfl ?_; rintro v w rfl hS) | (refine WL.calls hS rfl rfl (htr _ (hS.slO Mm hA) (hS.slO Mm hB)) rfl rfl rfl ?_; rintro v w rfl hS) | refine WL.skip rfl rfl rfl ?_) | (show WC _ _ _ _ _ _; first | refine WC.seq ?_ | refine WC.region ?_ | refine WC.ret ?_ | refine WC.condT rfl (by with_reducible rfl) ?_) | refine seqQ_n ?_ | refine seqQ_r ?_)
    exact fin1r rfl rfl ⟨hS.upd, rfl⟩
  replace htr := fun w h1 h2 => (htr w h1 h2).says_yes hT
  by_cases hpe : p = []
  · subst hpe
    repeat' (first | (show WL _ _ _ _ _ _ _; first | refine WL.pure rfl rfl rfl rfl ?_ | refine WL.nil ?_ | (refine WL.calls hS rfl rfl (apawake_c _ (hp.at hS)) rfl rfl rfl ?_; rintro v w rfl hS) | (refine WL.calls hS rfl rfl (htr _ (hS.slO Mm hA) (hS.slO Mm hB)) rfl rfl rfl ?_; rintro v w rfl hS)) | (show WC _ _ _ _ _ _; first | refine WC.seq ?_ | refine WC.region ?_ | refine WC.ret ?_ | refine WC.condT rfl (by decide) ?_) | refine seqQ_n ?_ | refine seqQ_r ?_)
    exact fin1r rfl rfl ⟨hS.upd, rfl⟩
  obtain ⟨l1, t1⟩ := tree_of hT.1
  obtain ⟨l2, t2⟩ := tree_of hT.2.1
  have hl := laidE_ok t1 tree_nil
  have htw := (hl.two t1 tree_nil t2 tree_nil).arm stop
  have hap0 := htw.applyE ((laidE hub []).arm stop)
  have hok := htw.acts
  have hran := htw.ran hl.q.up hl.firm
  have hs0 : DkS 1000 (laidE hub []) := hl.s.mono (by rw [List.length_nil]; omega)
  have a5 := (hs0.arm stop).runF htw.sizes
  have hfl := twoF_len 0 1 hub [] h []
  have hlaid := fun (w : World) (h1 : SlAt cEnt (Old w) w A hub) => laid_c (ca := ca) (cb := 0) (B := none) hub [] h1 SlAt.nil0 l1 (Nat.zero_le _) t1 tree_nil
  have htwo := fun (w : World) (h1 : SlAt cEnt (Old w) w A hub) (h2 : SlAt cEnt (Old w) w B h) => two_c (ca := ca) (cb := 0) (cc := cb) (cd := 0) (B := none) (D := none) hub [] h [] h1 SlAt.nil0 h2 SlAt.nil0 l1 (Nat.zero_le _) l2 (Nat.zero_le _)
  have hll := twoA_len 0 1 hub [] h []
  rw [List.length_nil] at hll hfl
  replace a5 : DkS 4000 (runF ((laidE hub []).arm stop) (twoF 0 1 hub [] h [])).2 := a5.mono (by omega)
  have harm := fun q mb lb (w : World) (hI : InL w [dkC q mb lb (laidE hub [])]) => arm_c stop hI.head hI.headB
  have hap := fun q mb lb A cap (w : World) (hI : InL w [dkC q mb lb ((laidE hub []).arm stop)]) (hA : SlAt cAc (fun b => b < w.heap.size ∧ b ∉ fps [dkC q mb lb ((laidE hub []).arm stop)]) w A (twoA 0 1 hub [] h [])) (hp : PowI w (fps [dkC q mb lb ((laidE hub []).arm stop)])) => aapply_c (cap := cap) (twoA 0 1 hub [] h []) hI hA (by omega) hok (hs0.arm stop).b (by decide) hp
  rw [hap0] at hap
  clear htw hl hap0 hs0 hok
  generalize twoA 0 1 hub [] h [] = L at *
  generalize twoF 0 1 hub [] h [] = F at *
  generalize (laidE hub []).arm stop = D3 at *
  generalize laidE hub [] = D0 at *
  have hw := hran.w; have hf := hran.firm; have hdh := hran.d1; have hnn := hran.nn p
  clear hran
  generalize runF D3 F = r at *
  obtain ⟨e, D1⟩ := r
  dsimp only at hw hf hdh hnn a5 hap
  rw [root0] at hdh hnn
  have hag := restart_again hw.nd loss
  have b2 := hag.quiet hw
  have b5 := a5.restart loss
  have hdh2 := (hag.get hubP).dirs.1.trans hdh
  have hnd : nodeD (D1.restart loss) hubP p = nodeD D1 hubP p := congrArg ndE (hag.node hf (vol_nsys (q := p) hub_vol).2.2 (vol_nsys (q := p) hub_vol).2.1)
  rw [← hnd] at hnn
  have hrs := fun q mb lb (w : World) (hI : InL w [dkC q mb lb D1]) => restart_c loss hI.head hI.headB (Kp.up a5.k (by decide)) (Nat.le_trans a5.b.len (by decide)) a5.b.key
  generalize D1.restart loss = D2 at *
  have hwh := fun q mb lb (w : World) (hI : InL w [dkC q mb lb D2]) => swalk_c (v := hubP) hI b2.w b2.up b5.b (by decide) hub_vol hdh2
  have hwl := walk_len (v := hubP) b5.b
  rw [← nodeT_walk b2.w.nd] at hnn
  generalize walkE D2 hubP = W at *
  have hg1 := fun (w : World) (h1 : SlAt cEnt (Old w) w A hub) => rget_c (cap := ca) hub p h1 (by omega)
  have hg2 := fun (w : World) (h1 : SlAt cEnt (Old w) w B h) => rget_c (cap := cb) h p h1 (by omega)
  have hg3 := fun (AH : Option Addr) (ch : Nat) (w : World) (h1 : SlAt cEnt (Old w) w AH W) => rget_c (cap := ch) W p h1 (by omega)
  unfold nodeT at hnn
  generalize getT hub p = x at *
  generalize getT h p = y at *
  generalize getT W p = z at *
  obtain ⟨x1, xk, xd⟩ := x
  obtain ⟨y1, yk, yd⟩ := y
  obtain ⟨z1, zk, zd⟩ := z
  dsimp only at hnn
  clear b2 b5 hdh hdh2 hag hf hw hnd a5 hfl hT t1 t2 hwl hll
  by_cases h1 : (zk, zd) = (xk, xd)
  · obtain ⟨rfl, rfl⟩ := Prod.mk.inj h1
    clear h1 hnn
    repeat' (first | (show WL _ _ _ _ _ _ _; first | refine WL.pure rfl rfl rfl rfl ?_ | refine WL.nil ?_ | refine WL.load hS rfl rfl (LdOk.box Mm rfl) rfl rfl rfl ?_ | (refine WL.calls hS rfl rfl (apawake_c _ (hp.at hS)) rfl rfl rfl ?_; rintro v w rfl hS) | (refine WL.calls hS rfl rfl (htr _ (hS.slO Mm hA) (hS.slO Mm hB)) rfl rfl rfl ?_; rintro v w rfl hS) | (refine WL.callG rfl rfl (hlaid _ (hS.slO Mm hA)) rfl rfl rfl ?_; rintro v w ⟨hu, q, mb, lb, rfl, hn⟩; replace hS := hS.new hu hn; clear hu hn) | (refine WL.callL (D := [dkC q mb lb D0]) hS Pu rfl rfl (fun hI => harm _ _ _ _ hI) rfl rfl rfl ?_; rintro v w ⟨rfl, hm⟩ hS; replace hS := hS _ (.of1 hm); clear hm) | (refine WL.callG rfl rfl (htwo _ (hS.slO Mm hA) (hS.slO Mm hB)) rfl rfl rfl ?_; rintro v w ⟨hu, AA, ac, rfl, hn⟩; replace hS := hS.new hu hn; clear hu hn) | (refine WL.callL (D := [dkC q mb lb D3]) hS Pu rfl rfl (fun hI => hap _ _ _ _ _ _ hI (St.ownSlY (enc := encAc) (hsz := encAc_len) (l := L) (by decide) (hS.pulls Pu) Mm) (hp.pull hS Pu)) rfl rfl rfl ?_; rintro v w ⟨rfl, hm⟩ hS; replace hS := hS _ hm; clear hm) | (refine WL.callL (D := [dkC q mb lb D1]) hS Pu rfl rfl (fun hI => hrs _ _ _ _ hI) rfl rfl rfl ?_; rintro v w ⟨rfl, hm⟩ hS; replace hS := hS _ (.of1 hm); clear hm) | (refine WL.callL (D := [dkC q mb lb D2]) hS Pu rfl rfl (fun hI => hwh _ _ _ _ hI) rfl rfl rfl ?_; rintro v w ⟨A1, c1, rfl, hm⟩ hS; replace hS := hS _ hm; clear hm) | (refine WL.calls hS rfl rfl (hg1 _ (hS.slO Mm hA)) rfl rfl rfl ?_; rintro v w rfl hS) | (refine WL.calls hS rfl rfl (hg2 _ (hS.slO Mm hB)) rfl rfl rfl ?_; rintro v w rfl hS) | (refine WL.calls hS rfl rfl (hg3 _ _ _ (St.ownSl (enc := encEnt) (hsz := fun _ => rfl) (l := W) (by decide) hS Mm)) rfl rfl rfl ?_; rintro v w rfl hS) | (refine WL.eqS rfl rfl rfl (show some (decide (zk = zk) && decide (zd = zd)) = some true by simp) (by kernel_rfl) rfl rfl rfl ?_) | (refine WL.store hS rfl rfl rfl Sb rfl rfl rfl ?_; intro w hS) | (refine WL.alloc hS rfl rfl rfl rfl rfl rfl ?_; intro w b hS) | refine WL.skip rfl rfl rfl ?_) | (show WC _ _ _ _ _ _; first | refine WC.seq ?_ | refine WC.region ?_ | refine WC.skip ?_ | refine WC.ret ?_ | refine WC.condF rfl (by with_reducible rfl) ?_ | refine WC.condF rfl (by decide) ?_ | refine WC.condF rfl (decide_eq_false (by first | with_reducible assumption | omega)) ?_) | refine seqQ_n ?_)
    exact fin1r rfl rfl ⟨hS.upd, rfl⟩
  have e1 := kdec h1
  by_cases h2 : (zk, zd) = (yk, yd)
  · obtain ⟨rfl, rfl⟩ := Prod.mk.inj h2
    clear h1 h2 hnn
    repeat' (first | (show WL _ _ _ _ _ _ _; first | refine WL.pure rfl rfl rfl rfl ?_ | refine WL.nil ?_ | refine WL.load hS rfl rfl (LdOk.box Mm rfl) rfl rfl rfl ?_ | (refine WL.calls hS rfl rfl (apawake_c _ (hp.at hS)) rfl rfl rfl ?_; rintro v w rfl hS) | (refine WL.calls hS rfl rfl (htr _ (hS.slO Mm hA) (hS.slO Mm hB)) rfl rfl rfl ?_; rintro v w rfl hS) | (refine WL.callG rfl rfl (hlaid _ (hS.slO Mm hA)) rfl rfl rfl ?_; rintro v w ⟨hu, q, mb, lb, rfl, hn⟩; replace hS := hS.new hu hn; clear hu hn) | (refine WL.callL (D := [dkC q mb lb D0]) hS Pu rfl rfl (fun hI => harm _ _ _ _ hI) rfl rfl rfl ?_; rintro v w ⟨rfl, hm⟩ hS; replace hS := hS _ (.of1 hm); clear hm) | (refine WL.callG rfl rfl (htwo _ (hS.slO Mm hA) (hS.slO Mm hB)) rfl rfl rfl ?_; rintro v w ⟨hu, AA, ac, rfl, hn⟩; replace hS := hS.new hu hn; clear hu hn) | (refine WL.callL (D := [dkC q mb lb D3]) hS Pu rfl rfl (fun hI => hap _ _ _ _ _ _ hI (St.ownSlY (enc := encAc) (hsz := encAc_len) (l := L) (by decide) (hS.pulls Pu) Mm) (hp.pull hS Pu)) rfl rfl rfl ?_; rintro v w ⟨rfl, hm⟩ hS; replace hS := hS _ hm; clear hm) | (refine WL.callL (D := [dkC q mb lb D1]) hS Pu rfl rfl (fun hI => hrs _ _ _ _ hI) rfl rfl rfl ?_; rintro v w ⟨rfl, hm⟩ hS; replace hS := hS _ (.of1 hm); clear hm) | (refine WL.callL (D := [dkC q mb lb D2]) hS Pu rfl rfl (fun hI => hwh _ _ _ _ hI) rfl rfl rfl ?_; rintro v w ⟨A1, c1, rfl, hm⟩ hS; replace hS := hS _ hm; clear hm) | (refine WL.calls hS rfl rfl (hg1 _ (hS.slO Mm hA)) rfl rfl rfl ?_; rintro v w rfl hS) | (refine WL.calls hS rfl rfl (hg2 _ (hS.slO Mm hB)) rfl rfl rfl ?_; rintro v w rfl hS) | (refine WL.calls hS rfl rfl (hg3 _ _ _ (St.ownSl (enc := encEnt) (hsz := fun _ => rfl) (l := W) (by decide) hS Mm)) rfl rfl rfl ?_; rintro v w rfl hS) | (refine WL.eqS rfl rfl rfl (show some (decide (zk = xk) && decide (zd = xd)) = some false from congrArg some e1) (by kernel_rfl) rfl rfl rfl ?_) | (refine WL.eqS rfl rfl rfl (show some (decide (zk = zk) && decide (zd = zd)) = some true by simp) (by kernel_rfl) rfl rfl rfl ?_) | (refine WL.store hS rfl rfl rfl Sb rfl rfl rfl ?_; intro w hS) | (refine WL.alloc hS rfl rfl rfl rfl rfl rfl ?_; intro w b hS) | refine WL.skip rfl rfl rfl ?_) | (show WC _ _ _ _ _ _; first | refine WC.seq ?_ | refine WC.region ?_ | refine WC.skip ?_ | refine WC.ret ?_ | refine WC.condF rfl (by with_reducible rfl) ?_ | refine WC.condF rfl (by decide) ?_ | refine WC.condF rfl (decide_eq_false (by first | with_reducible assumption | omega)) ?_) | refine seqQ_n ?_)
    exact fin1r rfl rfl ⟨hS.upd, rfl⟩
  have e2 := kdec h2
  obtain ⟨h3, h4⟩ : (zk, zd) = (0, []) ∧ xk ≠ yk := by
    rcases hnn with h | h | h
    · exact absurd h h1
    · exact absurd h h2
    · exact h
  obtain ⟨rfl, rfl⟩ := Prod.mk.inj h3
  clear h1 h2 h3 hnn
  repeat' (first | (show WL _ _ _ _ _ _ _; first | refine WL.pure rfl rfl rfl rfl ?_ | refine WL.nil ?_ | refine WL.load hS rfl rfl (LdOk.box Mm rfl) rfl rfl rfl ?_ | (refine WL.calls hS rfl rfl (apawake_c _ (hp.at hS)) rfl rfl rfl ?_; rintro v w rfl hS) | (refine WL.calls hS rfl rfl (htr _ (hS.slO Mm hA) (hS.slO Mm hB)) rfl rfl rfl ?_; rintro v w rfl hS) | (refine WL.callG rfl rfl (hlaid _ (hS.slO Mm hA)) rfl rfl rfl ?_; rintro v w ⟨hu, q, mb, lb, rfl, hn⟩; replace hS := hS.new hu hn; clear hu hn) | (refine WL.callL (D := [dkC q mb lb D0]) hS Pu rfl rfl (fun hI => harm _ _ _ _ hI) rfl rfl rfl ?_; rintro v w ⟨rfl, hm⟩ hS; replace hS := hS _ (.of1 hm); clear hm) | (refine WL.callG rfl rfl (htwo _ (hS.slO Mm hA) (hS.slO Mm hB)) rfl rfl rfl ?_; rintro v w ⟨hu, AA, ac, rfl, hn⟩; replace hS := hS.new hu hn; clear hu hn) | (refine WL.callL (D := [dkC q mb lb D3]) hS Pu rfl rfl (fun hI => hap _ _ _ _ _ _ hI (St.ownSlY (enc := encAc) (hsz := encAc_len) (l := L) (by decide) (hS.pulls Pu) Mm) (hp.pull hS Pu)) rfl rfl rfl ?_; rintro v w ⟨rfl, hm⟩ hS; replace hS := hS _ hm; clear hm) | (refine WL.callL (D := [dkC q mb lb D1]) hS Pu rfl rfl (fun hI => hrs _ _ _ _ hI) rfl rfl rfl ?_; rintro v w ⟨rfl, hm⟩ hS; replace hS := hS _ (.of1 hm); clear hm) | (refine WL.callL (D := [dkC q mb lb D2]) hS Pu rfl rfl (fun hI => hwh _ _ _ _ hI) rfl rfl rfl ?_; rintro v w ⟨A1, c1, rfl, hm⟩ hS; replace hS := hS _ hm; clear hm) | (refine WL.calls hS rfl rfl (hg1 _ (hS.slO Mm hA)) rfl rfl rfl ?_; rintro v w rfl hS) | (refine WL.calls hS rfl rfl (hg2 _ (hS.slO Mm hB)) rfl rfl rfl ?_; rintro v w rfl hS) | (refine WL.calls hS rfl rfl (hg3 _ _ _ (St.ownSl (enc := encEnt) (hsz := fun _ => rfl) (l := W) (by decide) hS Mm)) rfl rfl rfl ?_; rintro v w rfl hS) | (refine WL.eqS rfl rfl rfl (show some (decide ((0 : Int) = xk) && decide ([] = xd)) = some false from congrArg some e1) (by kernel_rfl) rfl rfl rfl ?_) | (refine WL.eqS rfl rfl rfl (show some (decide ((0 : Int) = yk) && decide ([] = yd)) = some false from congrArg some e2) (by kernel_rfl) rfl rfl rfl ?_) | (refine WL.eqS rfl rfl rfl (show some (decide ((0 : Int) = 0) && decide (([] : List UInt8) = [])) = some true by simp) (by kernel_rfl) rfl rfl rfl ?_) | (refine WL.store hS rfl rfl rfl Sb rfl rfl rfl ?_; intro w hS) | (refine WL.alloc hS rfl rfl rfl rfl rfl rfl ?_; intro w b hS) | refine WL.build rfl rfl rfl rfl rfl ?_) | (show WC _ _ _ _ _ _; first | refine WC.seq ?_ | refine WC.region ?_ | refine WC.skip ?_ | refine WC.ret ?_ | refine WC.condF rfl (by with_reducible rfl) ?_ | refine WC.condF rfl (by decide) ?_ | refine WC.condF rfl (decide_eq_false (by first | with_reducible assumption | omega)) ?_) | refine seqQ_n ?_)
  exact fin1r rfl rfl ⟨hS.upd, vbool (decide_eq_true h4)⟩
end Go.Proofs.YtccfiohagbneaaaGreatDoor

/- What is proved: the key of ApplyNever: with the table laid, the law answers true. Conditions: the statement's own bound on the bulk. -/
namespace Go.Proofs.YtccfiohagbneaaaGreatDoor
open Go Go.J Go.RowKit
set_option maxRecDepth 100000 in
theorem pow_applyNever (W : World) (h : laidMet Tryz.prog Rows.applyNeverUptoRow.laid W) : powT W := by
  obtain ⟨a, b, r, he⟩ : ∃ a b r, Rows.applyNeverUptoRow.laid = a :: b :: ("internal/strconv.uint64pow10", Lib.tabData .u64 Lib.pow10Tab) :: r := ⟨_, _, _, rfl⟩
  rw [he] at h
  have h1 := laidMet.tail (laidMet.tail h)
  exact Lib.tabIs_of_head (g := 1) (t := 292) (e := 129) (n := 20) (by kernel_rfl) (by kernel_rfl) (by kernel_rfl) (by kernel_rfl) (by kernel_rfl) (by kernel_rfl) h1
theorem applyNever.key_applyNever (W : World) (hL : laidMet Tryz.prog Rows.applyNeverUptoRow.laid W) (v0 v1 v2 v3 v4 : Value) (y0 y1 : List Ent) (y2 y3 : Int) (y4 : List UInt8) (b0 b1 b2 b3 b4 : Nat) (h0 : ASl cEnt W v0 y0) (h1 : ASl cEnt W v1 y1) (h2 : AInt W v2 y2) (h3 : AInt W v3 y3) (h4 : AStr W v4 y4) (q0 : QL QEnt y0 b0) (q1 : QL QEnt y1 b1) (q2 : QInt y2 b2) (q3 : QInt y3 b3) (q4 : QStr y4 b4) (hb : b0 + b1 + b2 + b3 + b4 ≤ 1048576) :
    Cal Tryz.prog 6 [v0, v1, v2, v3, v4] W (fun v W' => Upd [] W W' ∧ v = .bool true) := by
  obtain ⟨A0, c0, rfl, k0, h0⟩ := h0
  obtain ⟨A1, c1, rfl, k1, h1⟩ := h1
  obtain rfl := h2
  obtain rfl := h3
  obtain rfl := h4
  obtain ⟨z0, l0⟩ := ents_each q0 (by omega)
  obtain ⟨z1, l1⟩ := ents_each q1 (by omega)
  exact applyNever_c y0 y1 y2 y3 y4 h0 h1 k0 k1 l0 l1 z0 z1 (pow_applyNever W hL)
end Go.Proofs.YtccfiohagbneaaaGreatDoor
