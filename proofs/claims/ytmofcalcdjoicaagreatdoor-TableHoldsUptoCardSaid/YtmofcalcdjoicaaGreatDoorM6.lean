/- What is proved: contracts and plain facts that the law leans on (texts put together). Conditions: as each names them. -/
import Derived.Test.YtmofcalcdjoicaaGreatDoorM5
/- What is proved: the law's put. Conditions: as it names them. -/
set_option linter.unusedSimpArgs false
set_option linter.unusedVariables false
namespace Go.Proofs.YtmofcalcdjoicaaGreatDoor
open Go Go.J Go.RowKit

set_option maxHeartbeats 8000000 in
set_option maxRecDepth 100000 in
theorem lput_c (x : List UInt8) {Tp q mb lb : Nat} {D D' : Dk} {T T' : Tb} {fp : List Nat} {w0 : World} {e : Int} (hi : InL w0 [tabC Tp q T fp, dkC q mb lb D]) (hu : tabCommit T D (putOps x) = (e, T', D'))
    (hl : T.dir.length ≤ 1099511000) (hlg : T.log.p.length ≤ 1099511620) (hno : D.Sm 549755813888) (hr : (recordE (putOps x)).length ≤ 1073741824) (hn : T.log.recs.length ≤ 4194303)
    (hr2 : (recordE (packL (applyE T.rows (putOps x)))).length ≤ 549755813888) (hn2 : (applyE T.rows (putOps x)).length ≤ 1048576) (hk2 : ∀ p ∈ applyE T.rows (putOps x), p.1.length ≤ 1099511627776) :
    Cal Tryz.prog 32 [.pointer (some ⟨Tp, 0, none⟩), str x] w0
      (fun v w' => v = .int .i64 e ∧ ∃ fp', MutL w0 w' [tabC Tp q T fp, dkC q mb lb D] [tabC Tp q T' fp', dkC q mb lb D']) := by
  refine Cal.mkL hi (by kernel_rfl) Tryz.func32 rfl rfl fun hS => ?_
  repeat' (first
    | (show WL _ _ _ _ _ _ _; first
      | refine WL.pure rfl rfl rfl rfl ?_
      | refine WL.nil ?_
      | (refine WL.callG rfl rfl (begin_c _) rfl rfl rfl ?_; rintro v w ⟨hu, B, fb, rfl, hn⟩; replace hS := hS.new hu hn; clear hu hn)
      | (refine WL.callL (D := [bchC B (some ⟨Tp, 0, none⟩) [] _]) hS (by repeat (first | exact Pulls.nil | (apply Pulls.cons; focus (repeat (first | exact Pull.here | apply Pull.there))))) rfl rfl (fun hI => bput_c [97] x hI.head hI.headB (by show 0 ≤ 1099511627; omega)) rfl rfl rfl ?_; rintro v w ⟨rfl, fb, hmu⟩ hS; replace hS : St _ _ w (bchC B (some ⟨Tp, 0, none⟩) [([97], ⟨[97], x, false⟩)] fb :: _) _ := hS _ (.of1 hmu); clear hmu)
      | (refine WL.callL (D := [bchC B (some ⟨Tp, 0, none⟩) [([97], ⟨[97], x, false⟩)] _]) hS (by repeat (first | exact Pulls.nil | (apply Pulls.cons; focus (repeat (first | exact Pull.here | apply Pull.there))))) rfl rfl (fun hI => bput_c [98] x hI.head hI.headB (by show 1 ≤ 1099511627; omega)) rfl rfl rfl ?_; rintro v w ⟨rfl, fb, hmu⟩ hS; replace hS : St _ _ w (bchC B (some ⟨Tp, 0, none⟩) [([97], ⟨[97], x, false⟩), ([98], ⟨[98], x, false⟩)] fb :: _) _ := hS _ (.of1 hmu); clear hmu)
      | (refine WL.callL (D := [bchC B (some ⟨Tp, 0, none⟩) [([97], ⟨[97], x, false⟩), ([98], ⟨[98], x, false⟩)] _]) hS (by repeat (first | exact Pulls.nil | (apply Pulls.cons; focus (repeat (first | exact Pull.here | apply Pull.there))))) rfl rfl (fun hI => bput_c [99] x hI.head hI.headB (by show 2 ≤ 1099511627; omega)) rfl rfl rfl ?_; rintro v w ⟨rfl, fb, hmu⟩ hS; replace hS : St _ _ w (bchC B (some ⟨Tp, 0, none⟩) [([97], ⟨[97], x, false⟩), ([98], ⟨[98], x, false⟩), ([99], ⟨[99], x, false⟩)] fb :: _) _ := hS _ (.of1 hmu); clear hmu)
      | (refine WL.callL (D := [bchC B (some ⟨Tp, 0, none⟩) [([97], ⟨[97], x, false⟩), ([98], ⟨[98], x, false⟩), ([99], ⟨[99], x, false⟩)] _]) hS (by repeat (first | exact Pulls.nil | (apply Pulls.cons; focus (repeat (first | exact Pull.here | apply Pull.there))))) rfl rfl (fun hI => bput_c [100] x hI.head hI.headB (by show 3 ≤ 1099511627; omega)) rfl rfl rfl ?_; rintro v w ⟨rfl, fb, hmu⟩ hS; replace hS : St _ _ w (bchC B (some ⟨Tp, 0, none⟩) [([97], ⟨[97], x, false⟩), ([98], ⟨[98], x, false⟩), ([99], ⟨[99], x, false⟩), ([100], ⟨[100], x, false⟩)] fb :: _) _ := hS _ (.of1 hmu); clear hmu)
      | (refine WL.callL (D := [bchC B (some ⟨Tp, 0, none⟩) [([97], ⟨[97], x, false⟩), ([98], ⟨[98], x, false⟩), ([99], ⟨[99], x, false⟩), ([100], ⟨[100], x, false⟩)] _]) hS (by repeat (first | exact Pulls.nil | (apply Pulls.cons; focus (repeat (first | exact Pull.here | apply Pull.there))))) rfl rfl (fun hI => bdrop_c [100] hI.head hI.headB (by show 4 ≤ 1099511627; omega)) rfl rfl rfl ?_; rintro v w ⟨rfl, fb, hmu⟩ hS; replace hS : St _ _ w (bchC B (some ⟨Tp, 0, none⟩) (putM x) fb :: _) _ := hS _ (.of1 hmu); clear hmu)
      | (refine WL.callL (D := [bchC B (some ⟨Tp, 0, none⟩) (putM x) fb, tabC Tp q T fp, dkC q mb lb D]) hS (by repeat (first | exact Pulls.nil | (apply Pulls.cons; focus (repeat (first | exact Pull.here | apply Pull.there))))) rfl rfl (fun hI => bcommit_c hI hu hl hlg hno hr hn (show 4 ≤ _ by decide) hr2 hn2 hk2) rfl rfl rfl ?_; rintro v w ⟨rfl, fb2, fp2, hmu⟩ hS; replace hS := hS _ hmu; clear hmu))
    | (show WC _ _ _ _ _ _; first
      | refine WC.seq ?_
      | refine WC.region ?_
      | refine WC.ret ?_)
    | refine seqQ_n ?_)
  exact fin1r rfl rfl ⟨rfl, _, hS.mutLp (by repeat (first | exact Pulls.nil | (apply Pulls.cons; focus (repeat (first | exact Pull.here | apply Pull.there)))))⟩
end Go.Proofs.YtmofcalcdjoicaaGreatDoor

/- What is proved: the law TableHolds answers true. Conditions: the statement's own bound on the bulk. -/
set_option linter.unusedSimpArgs false
set_option linter.unusedVariables false
namespace Go.Proofs.YtmofcalcdjoicaaGreatDoor
open Go Go.J Go.RowKit

section
variable {D : Dk} {bs : Option (List Chg)} {ls : List (List Chg)}
theorem SysC.sm (h : SysC D) : D.Sm 1000000000 := ⟨h.lim, fun x hx => (h.kp x hx).1⟩
theorem SysC.ok (h : SysC D) : D.Kp 1099511627776 ∧ D.items.length ≤ 1048576 ∧ ∀ x ∈ D.items, x.1.length ≤ 1099511627 := by
  refine ⟨fun x hx => ?_, ?_, fun x hx => ?_⟩
  · obtain ⟨h1, h2, h3⟩ := h.kp x hx
    unfold CB at h1 h2
    exact ⟨by omega, by omega, h3⟩
  · have h1 : (D.items.map Prod.fst).Subset [sysP, sysL, sysLT, sysB, sysBT] := fun k hk => by
      obtain ⟨x, hx, rfl⟩ := List.mem_map.1 hk
      rcases h.keys x hx with e | e | e | e | e <;> rw [e] <;> simp
    have h2 := h.nd.length_le_of_subset h1
    rw [List.length_map] at h2
    simp only [List.length_cons, List.length_nil] at h2
    omega
  · rcases h.keys x hx with e | e | e | e | e <;> rw [e] <;> decide
theorem Post.hlog (h : Post D bs ls) (hu : D.down = false) (hw : TabW bs ls) : ∀ e G D'', walOpen (tabMk D sysP).2 (logP sysP) = (e, some G, D'') → G.recs.length ≤ 4194304 ∧ ∀ r ∈ G.recs, r.length ≤ 1099511627776 := by
  intro e G D'' hh
  have hmk : (tabMk D sysP).2 = D := by unfold tabMk; rw [h.c.kindP, if_neg (by decide)]
  rw [hmk, show logP sysP = sysL from rfl] at hh
  obtain ⟨D', ⟨h1, _⟩ | ⟨h1, _⟩⟩ := h.wopen hu hw
  · rw [h1] at hh
    cases hh
    refine ⟨?_, fun r hr => ?_⟩
    · show (ls.map recordE).length ≤ _
      rw [List.length_map]; have := hw.few; omega
    · have := hw.recs r hr; omega
  · rw [h1] at hh
    cases hh
end
def VV (xs : List (List UInt8)) (k : Nat) : Option (List UInt8) := (xs.take k).getLast?
theorem VV_zero (xs : List (List UInt8)) : VV xs 0 = none := rfl
theorem VV_succ (xs : List (List UInt8)) {k : Nat} (h : k < xs.length) : VV xs (k + 1) = some xs[k] := by
  unfold VV
  rw [List.take_succ_eq_append_getElem h, List.getLast?_append]
  rfl
/-- what lies on the disk where the puts ended -/
def Out (xs : List (List UInt8)) (k : Nat) (D : Dk) : Prop :=
  SysC D ∧ ∀ loss, ∃ bs ls o, Sys (D.restart loss) ∧ Post (D.restart loss) bs ls ∧ Vals bs ls o ∧ (o = VV xs k ∨ ∃ h : k < xs.length, o = some xs[k])
theorem Out.of {xs : List (List UInt8)} {k : Nat} {D : Dk} {bs : Option (List Chg)} {ls : List (List Chg)} (h : TabC D bs ls) (hv : Vals bs ls (VV xs k)) : Out xs k D :=
  ⟨h.c, fun loss => by obtain ⟨a, b⟩ := h.post.restart loss; exact ⟨_, _, _, a, b, hv, .inl rfl⟩⟩
theorem Out.crash {xs : List (List UInt8)} {k : Nat} {D : Dk} {bs : Option (List Chg)} {ls : List (List Chg)} {rows : Rws} (hk : k < xs.length) (hx : xs[k].length ≤ 1048576) (h : Crash D bs ls rows (putOps xs[k])) (hv : Vals bs ls (VV xs k)) (hf : ls.length + 1 ≤ 16)
    (hr : RowsAre (applyE rows (putOps xs[k])) (Fv (some xs[k]))) : Out xs k D := by
  refine ⟨?_, fun loss => ?_⟩
  · rcases h with h | h | h | h
    · exact h.c
    · exact h.1
    · exact h.c
    · exact h.c
  · have hl := szL_putOps xs[k]
    have hrs := rec_small (l := putOps xs[k]) (by omega)
    obtain ⟨bs', ls', a, b, hc⟩ := h.restart (by omega) loss
    rcases hc with ⟨rfl, rfl⟩ | ⟨rfl, rfl⟩ | ⟨rfl, rfl⟩
    · exact ⟨_, _, _, a, b, hv, .inl rfl⟩
    · exact ⟨_, _, _, a, b, hv.snoc hx hf, .inr ⟨hk, rfl⟩⟩
    · exact ⟨_, _, _, a, b, hv.half hr hx hf, .inr ⟨hk, rfl⟩⟩
theorem Fv_keys {rows : Rws} {v : List UInt8} (h : RowsAre rows (Fv (some v))) : rows.length = 3 := by
  have h1 : [[97], [98], [99]].Subset (rows.map Prod.fst) := fun k hk => by
    have hk : k = [97] ∨ k = [98] ∨ k = [99] := by simpa using hk
    have h2 := h.2 k
    unfold Fv at h2
    rw [if_pos hk] at h2
    exact List.mem_map.2 ⟨_, mem_of_mget h2, rfl⟩
  have h2 := (show ([[97], [98], [99]] : List (List UInt8)).Nodup by decide).length_le_of_subset h1
  have h3 := rows_few h
  rw [List.length_map] at h2
  simp only [List.length_cons, List.length_nil] at h2
  omega
theorem Fv_nokeys {rows : Rws} (h : RowsAre rows (Fv none)) : rows = [] := by
  rcases rows with _ | ⟨p, rows⟩
  · rfl
  · have := (rows_keys h p (List.mem_cons_self ..)).2
    cases this
/-- one put, wherever the machine stops -/
theorem put_step {xs : List (List UInt8)} {k : Nat} {D : Dk} {bs : Option (List Chg)} {ls : List (List Chg)} {rows : Rws} (hk : k < xs.length) (hx : xs[k].length ≤ 1048576) (h : TabC D bs ls) (hu : D.down = false) (hf : ls.length ≤ 15) (hv : Vals bs ls (VV xs k)) (hr : RowsAre rows (Fv (VV xs k))) :
    ∃ e T' D', tabCommit ⟨sysP, rows, ⟨sysL, ls.map recordE, false⟩⟩ D (putOps xs[k]) = (e, T', D') ∧ (e = 14 ∧ Out xs k D' ∨ e = 0 ∧ ∃ bs' ls' rows', T' = ⟨sysP, rows', ⟨sysL, ls'.map recordE, false⟩⟩ ∧ TabC D' bs' ls' ∧ D'.down = false ∧ ls'.length ≤ 15 ∧ Vals bs' ls' (VV xs (k + 1)) ∧ RowsAre rows' (Fv (VV xs (k + 1)))) := by
  have hl := szL_putOps xs[k]
  have hrs := rec_small (l := putOps xs[k]) (by omega)
  have hrl := recordE_len (putOps xs[k]) (smO_of (by omega)) (by have := szL_len (putOps xs[k]); omega)
  have hll := szL_len (putOps xs[k])
  have hp1 := packE_len (recordE (putOps xs[k]))
  have hp2 := putN_len10 (n := (recordE (putOps xs[k])).length) (by omega)
  have hfr := hv.wf.frames
  have hra : RowsAre (applyE rows (putOps xs[k])) (Fv (some xs[k])) := by
    have := hr.apply (l := putOps xs[k])
    rwa [Fv_put] at this
  have hsz := rows_size hra (fun v e => by cases e; exact hx)
  obtain ⟨q1, q2⟩ := pack_small hra.1 hsz (by omega)
  obtain ⟨e, T', D', hc, ho⟩ := h.commit hu rows (putOps xs[k]) (by simp [putOps]) (by unfold CB; omega) (by unfold CB; omega)
  refine ⟨e, T', D', hc, ?_⟩
  rcases ho with ⟨rfl, ho⟩ | ⟨rfl, hd, bs', ls', rfl, ht, ho⟩
  · exact .inl ⟨rfl, Out.crash hk hx ho hv (by omega) hra⟩
  · refine .inr ⟨rfl, bs', ls', _, rfl, ht, hd, ?_⟩
    rw [VV_succ xs hk]
    rcases ho with ⟨rfl, rfl, h16⟩ | ⟨rfl, rfl⟩
    · exact ⟨by rw [List.length_append]; simp; omega, hv.snoc hx (by omega), hra⟩
    · exact ⟨by decide, Vals.packed hra hx, hra⟩
theorem Dt0_c : TabC Dt0 none [] := by
  have h := Dt0_st
  refine ⟨⟨h.sys.lim, h.sys.nd, h.sys.dir, h.sys.has, h.sys.files, fun x hx => ?_, fun x hx => ?_, by kernel_rfl⟩, h.log, h.base⟩
  · simp only [Dt0, List.mem_cons, List.not_mem_nil, or_false] at hx
    rcases hx with rfl | rfl
    · exact .inl rfl
    · exact .inr (.inl rfl)
  · simp only [Dt0, List.mem_cons, List.not_mem_nil, or_false] at hx
    rcases hx with rfl | rfl
    · exact ⟨Nat.zero_le _, Nat.zero_le _, fun h => by cases h⟩
    · exact ⟨Nat.zero_le _, Nat.zero_le _, fun h => by cases h⟩
theorem TabC.arm {D : Dk} {bs : Option (List Chg)} {ls : List (List Chg)} (h : TabC D bs ls) (n : Int) : TabC (D.arm n) bs ls := ⟨⟨h.c.lim, h.c.nd, h.c.dir, h.c.has, h.c.files, h.c.keys, h.c.kp, h.c.firm⟩, h.log, by have := h.base; cases bs <;> exact this⟩
theorem Post.arm {D : Dk} {bs : Option (List Chg)} {ls : List (List Chg)} (h : Post D bs ls) (n : Int) : Post (D.arm n) bs ls := ⟨⟨h.c.lim, h.c.nd, h.c.dir, h.c.has, h.c.files, h.c.keys, h.c.kp, h.c.firm⟩, h.log, by have := h.base; cases bs <;> exact this⟩
theorem Vals.zero : Vals none [] none := ⟨fun l hl => by simp at hl, by decide, ⟨none, Fv_none.symm⟩, fun o ho => by simp at ho, by decide, Fv_none.symm⟩
end Go.Proofs.YtmofcalcdjoicaaGreatDoor

/- What is proved: the law TableHolds answers true. Conditions: the statement's own bound on the bulk. -/
set_option linter.unusedSimpArgs false
set_option linter.unusedVariables false
namespace Go.Proofs.YtmofcalcdjoicaaGreatDoor
open Go Go.J Go.RowKit

theorem keysP_all (rows : Rws) : (keysP rows []).length = rows.length := by
  unfold keysP sortL
  rw [(List.mergeSort_perm _ _).length_eq, List.filter_eq_self.2 (fun x _ => by rfl), List.length_map]
theorem mem_le_sumT : ∀ (l : List (List UInt8)) (s : List UInt8), s ∈ l → s.length ≤ (l.map List.length).sum
  | x :: l, s, h => by
    simp only [List.map_cons, List.sum_cons]
    rcases List.mem_cons.1 h with rfl | h
    · omega
    · have := mem_le_sumT l s h; omega
theorem put_bounds {xs : List (List UInt8)} {k : Nat} {rows : Rws} {o : Option (List UInt8)} (hk : k < xs.length) (hx : xs[k].length ≤ 1048576) (hr : RowsAre rows (Fv o)) :
    (recordE (putOps xs[k])).length ≤ 1073741824 ∧ (recordE (packL (applyE rows (putOps xs[k])))).length ≤ 549755813888 ∧ (applyE rows (putOps xs[k])).length ≤ 1048576 ∧ ∀ p ∈ applyE rows (putOps xs[k]), p.1.length ≤ 1099511627776 := by
  have hl := szL_putOps xs[k]
  have hrs := rec_small (l := putOps xs[k]) (by omega)
  have hra : RowsAre (applyE rows (putOps xs[k])) (Fv (some xs[k])) := by
    have := hr.apply (l := putOps xs[k])
    rwa [Fv_put] at this
  have hsz := rows_size hra (fun v e => by cases e; exact hx)
  obtain ⟨q1, q2⟩ := pack_small hra.1 hsz (by omega)
  have := rows_few hra
  exact ⟨hrs, by omega, by omega, fun p hp => by have := szR_mem hp; omega⟩
set_option maxHeartbeats 60000000 in
set_option maxRecDepth 100000 in
theorem tableHolds_c (xs : List (List UInt8)) (stop loss second : Int) {A : Option Addr} {cap : Nat} {w0 : World} (hA : SlAt cStr (Old w0) w0 A xs) (hcap : xs.length ≤ cap) (hz : (xs.map List.length).sum + xs.length ≤ 1048576) :
    Cal Tryz.prog 8 [.slice A xs.length cap, .int .i64 stop, .int .i64 loss, .int .i64 second] w0 (fun v w' => Upd [] w0 w' ∧ v = .bool true) := by
  refine Cal.mk' (by kernel_rfl) Tryz.func8 rfl rfl fun hS => ?_
  repeat' (first
    | (show WL _ _ _ _ _ _ _; first
      | refine WL.pure rfl rfl rfl rfl ?_
      | refine WL.nil ?_
      | (refine WL.callG rfl rfl (dnew_c _) rfl rfl rfl ?_; rintro v w ⟨hu, q, mb, lb, rfl, hn⟩; replace hS := hS.new hu hn; clear hu hn)
      | (refine WL.calls hS rfl rfl (tawake_c _) rfl rfl rfl ?_; rintro v w rfl hS)
      | (refine WL.callL (D := [dkC q mb lb Dk0]) hS (by repeat (first | exact Pulls.nil | (apply Pulls.cons; focus (repeat (first | exact Pull.here | apply Pull.there))))) rfl rfl (fun hI => topenFirst_c hI) rfl rfl rfl ?_; rintro v w ⟨Tp, fp, rfl, hmu⟩ hS; replace hS := hS _ hmu; clear hmu)
      | (refine WL.callL (D := [dkC q mb lb Dt0]) hS (by repeat (first | exact Pulls.nil | (apply Pulls.cons; focus (repeat (first | exact Pull.here | apply Pull.there))))) rfl rfl (fun hI => arm_c stop hI.head hI.headB) rfl rfl rfl ?_; rintro v w ⟨rfl, hm⟩ hS; replace hS := hS _ (.of1 hm); clear hm))
    | (show WC _ _ _ _ _ _; first
      | (show WC _ _ (Code.seq (Code.block 0 (Code.loop _)) _) _ _ _; refine WC.cutS (σ := Nat × Dk) [0, 2, 3, 9, 10] (fun (k, D) => [(12, .int .i64 (k : Int))]) (fun (k, D) w => k ≤ xs.length ∧ Out xs k D ∧ St w0 [] w [dkC q mb lb D] [⟨w0, Old w0⟩]) ?_ ?_)
      | refine WC.seq ?_
      | refine WC.region ?_
      | refine WC.block ?_
      | refine WC.skip ?_
      | refine WC.condF rfl (by with_reducible rfl) ?_
      | refine WC.condF rfl (by decide) ?_)
    | refine seqQ_n ?_)
  · replace hS := hS.droplast2 (D := [tabC Tp q ⟨sysP, [], ⟨sysL, [], false⟩⟩ fp, dkC q mb lb (Dt0.arm stop)]) (by repeat (first | exact Pulls.nil | (apply Pulls.cons; focus (repeat (first | exact Pull.here | apply Pull.there)))))
    refine WC.loop (σ := Nat × List Nat × Dk × Option (List Chg) × List (List Chg) × Rws) [0, 2, 3, 9, 10] (fun (k, _) => [(12, .int .i64 (k : Int))])
      (fun (k, fp, D, bs, ls, rows) w => k ≤ xs.length ∧ (TabC D bs ls ∧ D.down = false ∧ ls.length ≤ 15 ∧ Vals bs ls (VV xs k) ∧ RowsAre rows (Fv (VV xs k))) ∧ St w0 [] w [tabC Tp q ⟨sysP, rows, ⟨sysL, ls.map recordE, false⟩⟩ fp, dkC q mb lb D] [⟨w0, Old w0⟩])
      (fun (k, _) => xs.length - k) (0, fp, Dt0.arm stop, none, [], []) ⟨Nat.zero_le _, ⟨Dt0_c.arm stop, rfl, Nat.zero_le _, Vals.zero, by rw [VV_zero, Fv_none]; exact RowsAre.nil⟩, hS⟩ ⟨rfl, trivial⟩ ?_
    clear hS
    rintro ⟨k, fp, D, bs, ls, rows⟩ g w ⟨hk, ⟨hT, hu, hf, hv, hr⟩, hS⟩
    show WC _ _ _ (lf _ [(12, .int .i64 (k : Int))] _ _) _ _
    by_cases hlt : k < xs.length
    · by_cases h60 : k < 60
      · obtain ⟨rb, ro, es, rfl, hF, hrr, hes⟩ := hA.at_ hlt
        have hes : es = [str xs[k]] := hes
        subst hes
        have hrr : w0.rangeAt rb (ro + k * 1) [str xs[k]] := hrr
        have hxl : xs[k].length ≤ 1048576 := by
          have := mem_le_sumT xs xs[k] (List.getElem_mem hlt); omega
        obtain ⟨e, T', D', hcm, ho⟩ := put_step hlt hxl hT hu hf hv hr
        obtain ⟨b1, b2, b3, b4⟩ := put_bounds hlt hxl hr
        have hsm := hT.c.sm.up (C := 549755813888) (by decide)
        have hlr : (ls.map recordE).length ≤ 4194303 := by rw [List.length_map]; omega
        have hOut := Out.of hT hv
        clear hT hu hv hr hes
        rcases ho with ⟨rfl, ho⟩ | ⟨rfl, bs', ls', rows', rfl, t1, t2, t3, t4, t5⟩
        · generalize xs[k] = x at *
          clear hf
          repeat' (first
            | (show WL _ _ _ _ _ _ _; first
              | refine WL.pure rfl rfl rfl rfl ?_
              | refine WL.nil ?_
              | (refine WL.load hS rfl rfl (LdOk.snap0 hF hrr (by repeat (first | exact List.Mem.head _ | apply List.Mem.tail)) rfl) rfl rfl rfl ?_)
              | (refine WL.callL (D := [tabC Tp q ⟨sysP, rows, ⟨sysL, ls.map recordE, false⟩⟩ fp, dkC q mb lb D]) hS (by repeat (first | exact Pulls.nil | (apply Pulls.cons; focus (repeat (first | exact Pull.here | apply Pull.there))))) rfl rfl (fun hI => lput_c x hI hcm (show sysP.length ≤ _ by decide) (show sysL.length ≤ _ by decide) hsm b1 hlr b2 b3 b4) rfl rfl rfl ?_; rintro v w ⟨rfl, fp2, hmu⟩ hS; replace hS := hS _ hmu; clear hmu)
              | refine WL.index rfl rfl rfl rfl (by first | with_reducible assumption | omega) rfl rfl rfl rfl ?_
              | ((fail_if_success (refine WL.wanted rfl ?_)); refine WL.guard rfl rfl rfl (fun h => ?_) (fun h => ?_) <;> (try simp only [Classical.not_not, Bool.not_eq_true', Bool.not_eq_false', Bool.not_eq_eq_eq_not, Bool.not_true, Bool.not_false, beq_iff_eq, beq_eq_false_iff_ne, ne_eq, decide_eq_decide, decide_eq_true_eq, decide_eq_false_iff_not, Bool.and_eq_true, Bool.or_eq_true, Bool.and_eq_false_iff, Bool.or_eq_false_iff] at h) <;> (try (exfalso; first | omega | contradiction))))
            | (show WC _ _ _ _ _ _; first
              | refine WC.seq ?_
              | refine WC.region ?_
              | refine WC.exit ?_
              | refine WC.condF rfl (by decide) ?_)
            | refine seqQ_n ?_
            | refine seqQ_x ?_
            | refine blkQ_hit rfl ?_
            | refine rndQ_x ?_)
          exact endQ_n (k, D') ⟨hk, ho, hS.droplast2 (D := [dkC q mb lb D']) (by repeat (first | exact Pulls.nil | (apply Pulls.cons; focus (repeat (first | exact Pull.here | apply Pull.there)))))⟩ ⟨rfl, trivial⟩ ⟨rfl, rfl, rfl, rfl, rfl, trivial⟩
        · generalize xs[k] = x at *
          repeat' (first
            | (show WL _ _ _ _ _ _ _; first
              | refine WL.pure rfl rfl rfl rfl ?_
              | refine WL.nil ?_
              | refine WL.add rfl rfl rfl (by omega) rfl rfl rfl ?_
              | (refine WL.load hS rfl rfl (LdOk.snap0 hF hrr (by repeat (first | exact List.Mem.head _ | apply List.Mem.tail)) rfl) rfl rfl rfl ?_)
              | (refine WL.callL (D := [tabC Tp q ⟨sysP, rows, ⟨sysL, ls.map recordE, false⟩⟩ fp, dkC q mb lb D]) hS (by repeat (first | exact Pulls.nil | (apply Pulls.cons; focus (repeat (first | exact Pull.here | apply Pull.there))))) rfl rfl (fun hI => lput_c x hI hcm (show sysP.length ≤ _ by decide) (show sysL.length ≤ _ by decide) hsm b1 hlr b2 b3 b4) rfl rfl rfl ?_; rintro v w ⟨rfl, fp2, hmu⟩ hS; replace hS := hS _ hmu; clear hmu)
              | refine WL.index rfl rfl rfl rfl (by first | with_reducible assumption | omega) rfl rfl rfl rfl ?_
              | ((fail_if_success (refine WL.wanted rfl ?_)); refine WL.guard rfl rfl rfl (fun h => ?_) (fun h => ?_) <;> (try simp only [Classical.not_not, Bool.not_eq_true', Bool.not_eq_false', Bool.not_eq_eq_eq_not, Bool.not_true, Bool.not_false, beq_iff_eq, beq_eq_false_iff_ne, ne_eq, decide_eq_decide, decide_eq_true_eq, decide_eq_false_iff_not, Bool.and_eq_true, Bool.or_eq_true, Bool.and_eq_false_iff, Bool.or_eq_false_iff] at h) <;> (try (exfalso; first | omega | contradiction))))
            | (show WC _ _ _ _ _ _; first
              | refine WC.seq ?_
              | refine WC.region ?_
              | refine WC.block ?_
              | refine WC.skip ?_
              | refine WC.condT rfl (by decide) ?_)
            | refine seqQ_n ?_
            | refine blkQ_n ?_)
          exact rndQ_n (k + 1, fp2, D', bs', ls', rows') ⟨by omega, ⟨t1, t2, t3, t4, t5⟩, hS⟩ (by show xs.length - (k + 1) < xs.length - k; omega) ⟨vint (by omega), trivial⟩ ⟨rfl, rfl, rfl, rfl, rfl, trivial⟩
      · have hOut := Out.of hT hv
        clear hT hu hv hr hf
        repeat' (first
          | (show WL _ _ _ _ _ _ _; first
            | refine WL.pure rfl rfl rfl rfl ?_
            | refine WL.nil ?_
            | refine WL.skip rfl rfl rfl ?_
            | ((fail_if_success (refine WL.wanted rfl ?_)); refine WL.guard rfl rfl rfl (fun h => ?_) (fun h => ?_) <;> (try simp only [Classical.not_not, Bool.not_eq_true', Bool.not_eq_false', Bool.not_eq_eq_eq_not, Bool.not_true, Bool.not_false, beq_iff_eq, beq_eq_false_iff_ne, ne_eq, decide_eq_decide, decide_eq_true_eq, decide_eq_false_iff_not, Bool.and_eq_true, Bool.or_eq_true, Bool.and_eq_false_iff, Bool.or_eq_false_iff] at h) <;> (try (exfalso; first | omega | contradiction))))
          | (show WC _ _ _ _ _ _; first
            | refine WC.seq ?_
            | refine WC.region ?_
            | refine WC.exit ?_
            | refine WC.condF rfl (by with_reducible rfl) ?_)
          | refine seqQ_n ?_
          | refine seqQ_x ?_
          | refine blkQ_hit rfl ?_
          | refine rndQ_x ?_)
        exact endQ_n (k, D) ⟨hk, hOut, hS.droplast2 (D := [dkC q mb lb D]) (by repeat (first | exact Pulls.nil | (apply Pulls.cons; focus (repeat (first | exact Pull.here | apply Pull.there)))))⟩ ⟨rfl, trivial⟩ ⟨rfl, rfl, rfl, rfl, rfl, trivial⟩
    · have hOut := Out.of hT hv
      clear hT hu hv hr hf
      repeat' (first
        | (show WL _ _ _ _ _ _ _; first
          | refine WL.pure rfl rfl rfl rfl ?_
          | refine WL.nil ?_
          | refine WL.skip rfl rfl rfl ?_
          | ((fail_if_success (refine WL.wanted rfl ?_)); refine WL.guard rfl rfl rfl (fun h => ?_) (fun h => ?_) <;> (try simp only [Classical.not_not, Bool.not_eq_true', Bool.not_eq_false', Bool.not_eq_eq_eq_not, Bool.not_true, Bool.not_false, beq_iff_eq, beq_eq_false_iff_ne, ne_eq, decide_eq_decide, decide_eq_true_eq, decide_eq_false_iff_not, Bool.and_eq_true, Bool.or_eq_true, Bool.and_eq_false_iff, Bool.or_eq_false_iff] at h) <;> (try (exfalso; first | omega | contradiction))))
        | (show WC _ _ _ _ _ _; first
          | refine WC.seq ?_
          | refine WC.region ?_
          | refine WC.exit ?_
          | refine WC.condF rfl (by with_reducible rfl) ?_)
        | refine seqQ_n ?_
        | refine seqQ_x ?_
        | refine blkQ_hit rfl ?_
        | refine rndQ_x ?_)
      exact endQ_n (k, D) ⟨hk, hOut, hS.droplast2 (D := [dkC q mb lb D]) (by repeat (first | exact Pulls.nil | (apply Pulls.cons; focus (repeat (first | exact Pull.here | apply Pull.there)))))⟩ ⟨rfl, trivial⟩ ⟨rfl, rfl, rfl, rfl, rfl, trivial⟩
  · clear hS
    rintro ⟨k, D⟩ g w ⟨hk, hOut, hS⟩
    show WC _ _ _ (lf _ [(12, .int .i64 (k : Int))] _ _) _ _
    obtain ⟨hc, ho⟩ := hOut
    obtain ⟨c1, c2, c3⟩ := hc.ok
    obtain ⟨bs, ls, o, s1, p1, v1, hv⟩ := ho loss
    obtain ⟨E, hE⟩ : ∃ E, D.restart loss = E := ⟨_, rfl⟩
    rw [hE] at s1 p1
    have p1a := p1.arm second
    have u1 : (E.arm second).down = false := s1.up
    have hlog1 := p1a.hlog u1 v1.wf
    have sm1 := p1a.c.sm.up (C := 1099511627776) (by decide)
    obtain ⟨D2, hop⟩ := p1a.open u1 v1.wf
    have hp2 : Post D2 bs ls := by rcases hop with ⟨_, h⟩ | ⟨_, h⟩ <;> exact h
    obtain ⟨d1, d2, d3⟩ := hp2.c.ok
    obtain ⟨s3, p3⟩ := hp2.restart loss
    have hlog3 := p3.hlog s3.up v1.wf
    have sm3 := p3.c.sm.up (C := 1099511627776) (by decide)
    obtain ⟨E2, hE2⟩ : ∃ E, D2.restart loss = E := ⟨_, rfl⟩
    rw [hE2] at s3 p3 hlog3 sm3
    obtain ⟨D3, hop3⟩ := p3.openCalm s3 v1.wf
    have ha := v1.are
    have hfw := rows_few ha
    have hlm : (ls.map recordE).length ≤ 4194303 := by rw [List.length_map]; have := v1.few; omega
    obtain ⟨rows, hrows⟩ : ∃ r, r = rowsOf bs ls := ⟨_, rfl⟩
    rw [← hrows] at ha hfw hop3 hop
    generalize hT : ls.map recordE = rs at *
    have hkl := keysP_all rows
    have hkn : rows.length ≤ 1099511627776 := by omega
    have hop' : ∃ e t, tabOpen (E.arm second) sysP = (e, t, D2) ∧ (e = 0 ∧ t = some ⟨sysP, rows, ⟨sysL, rs, false⟩⟩ ∨ e = 14 ∧ t = none) := by
      rcases hop with ⟨h, _⟩ | ⟨h, _⟩
      · exact ⟨_, _, h, .inl ⟨rfl, rfl⟩⟩
      · exact ⟨_, _, h, .inr ⟨rfl, rfl⟩⟩
    clear hop ho hc p1 s1 p1a u1 v1 hp2 s3 p3 hrows hT
    obtain ⟨e, t, hop, ht⟩ := hop'
    rcases o with _ | v
    · have hk0 : k = 0 := by
        rcases hv with h | ⟨_, h⟩
        · rcases k with _ | m
          · rfl
          · rw [VV_succ xs (by omega)] at h; cases h
        · cases h
      subst hk0
      obtain rfl := Fv_nokeys ha
      have ga : getE [] [97] = ([], false) := rfl
      have gb : getE [] [98] = ([], false) := rfl
      have gc : getE [] [99] = ([], false) := rfl
      replace hkl : (keysP [] []).length = 0 := hkl
      clear hkn
      have hkn : ([] : Rws).length ≤ 1099511627776 := by decide
      clear ha hv hfw
      rcases ht with ⟨rfl, rfl⟩ | ⟨rfl, rfl⟩
      repeat' (first
        | (show WL _ _ _ _ _ _ _; first
          | refine WL.pure rfl rfl rfl rfl ?_
          | refine WL.nil ?_
          | (refine WL.callL (D := [dkC q mb lb D]) hS (by repeat (first | exact Pulls.nil | (apply Pulls.cons; focus (repeat (first | exact Pull.here | apply Pull.there))))) rfl rfl (fun hI => restart_c loss hI.head hI.headB c1 c2 c3) rfl rfl rfl ?_; rintro v w ⟨rfl, hm⟩ hS; rw [hE] at hm; replace hS := hS _ (.of1 hm); clear hm)
          | (refine WL.callL (D := [dkC q mb lb E]) hS (by repeat (first | exact Pulls.nil | (apply Pulls.cons; focus (repeat (first | exact Pull.here | apply Pull.there))))) rfl rfl (fun hI => arm_c second hI.head hI.headB) rfl rfl rfl ?_; rintro v w ⟨rfl, hm⟩ hS; replace hS := hS _ (.of1 hm); clear hm)
          | (refine WL.callL (D := [dkC q mb lb (E.arm second)]) hS (by repeat (first | exact Pulls.nil | (apply Pulls.cons; focus (repeat (first | exact Pull.here | apply Pull.there))))) rfl rfl (fun hI => by have h := topen_c sysP hI (by decide) sm1 hlog1; rw [hop] at h; exact h) rfl rfl rfl ?_; rintro v w ⟨Tp, fp, rfl, hmu⟩ hS; replace hS := hS _ hmu; clear hmu)
          | (refine WL.callL (D := [dkC q mb lb (E.arm second)]) hS (by repeat (first | exact Pulls.nil | (apply Pulls.cons; focus (repeat (first | exact Pull.here | apply Pull.there))))) rfl rfl (fun hI => by have h := topen_c sysP hI (by decide) sm1 hlog1; rw [hop] at h; exact h) rfl rfl rfl ?_; rintro v w ⟨rfl, hmu⟩ hS; replace hS := hS _ hmu; clear hmu)
          | (refine WL.callL (D := [dkC q mb lb D2]) hS (by repeat (first | exact Pulls.nil | (apply Pulls.cons; focus (repeat (first | exact Pull.here | apply Pull.there))))) rfl rfl (fun hI => restart_c loss hI.head hI.headB d1 d2 d3) rfl rfl rfl ?_; rintro v w ⟨rfl, hm⟩ hS; rw [hE2] at hm; replace hS := hS _ (.of1 hm); clear hm)
          | (refine WL.callL (D := [dkC q mb lb E2]) hS (by repeat (first | exact Pulls.nil | (apply Pulls.cons; focus (repeat (first | exact Pull.here | apply Pull.there))))) rfl rfl (fun hI => by have h := topen_c sysP hI (by decide) sm3 hlog3; rw [hop3] at h; exact h) rfl rfl rfl ?_; rintro v w ⟨Tp3, fp3, rfl, hmu⟩ hS; replace hS := hS _ hmu; clear hmu)
          | (refine WL.callL (D := [tabC Tp3 q ⟨sysP, _, ⟨sysL, rs, false⟩⟩ fp3]) hS (by repeat (first | exact Pulls.nil | (apply Pulls.cons; focus (repeat (first | exact Pull.here | apply Pull.there))))) rfl rfl (fun hI => tget_c [97] hI) rfl rfl rfl ?_; rintro v w ⟨rfl, hmu⟩ hS; dsimp only; rw [ga]; replace hS := hS _ hmu; clear hmu)
          | (refine WL.callL (D := [tabC Tp3 q ⟨sysP, _, ⟨sysL, rs, false⟩⟩ fp3]) hS (by repeat (first | exact Pulls.nil | (apply Pulls.cons; focus (repeat (first | exact Pull.here | apply Pull.there))))) rfl rfl (fun hI => tget_c [98] hI) rfl rfl rfl ?_; rintro v w ⟨rfl, hmu⟩ hS; dsimp only; rw [gb]; replace hS := hS _ hmu; clear hmu)
          | (refine WL.callL (D := [tabC Tp3 q ⟨sysP, _, ⟨sysL, rs, false⟩⟩ fp3]) hS (by repeat (first | exact Pulls.nil | (apply Pulls.cons; focus (repeat (first | exact Pull.here | apply Pull.there))))) rfl rfl (fun hI => tget_c [99] hI) rfl rfl rfl ?_; rintro v w ⟨rfl, hmu⟩ hS; dsimp only; rw [gc]; replace hS := hS _ hmu; clear hmu)
          | (refine WL.callL (D := [tabC Tp3 q ⟨sysP, _, ⟨sysL, rs, false⟩⟩ fp3]) hS (by repeat (first | exact Pulls.nil | (apply Pulls.cons; focus (repeat (first | exact Pull.here | apply Pull.there))))) rfl rfl (fun hI => tkeys_c [] hI hkn) rfl rfl rfl ?_; rintro v w ⟨KA, kc, rfl, hmu⟩ hS; dsimp only at hmu ⊢; rw [hkl] at hmu ⊢; replace hS := hS _ hmu; clear hmu)
          | refine WL.skip rfl rfl rfl ?_
          | ((fail_if_success (refine WL.wanted rfl ?_)); refine WL.guard rfl rfl rfl (fun h => ?_) (fun h => ?_) <;> (try simp only [Classical.not_not, Bool.not_eq_true', Bool.not_eq_false', Bool.not_eq_eq_eq_not, Bool.not_true, Bool.not_false, beq_iff_eq, beq_eq_false_iff_ne, ne_eq, decide_eq_decide, decide_eq_true_eq, decide_eq_false_iff_not, Bool.and_eq_true, Bool.or_eq_true, Bool.and_eq_false_iff, Bool.or_eq_false_iff] at h) <;> (try (exfalso; first | omega | contradiction))))
        | (show WC _ _ _ _ _ _; first
          | refine WC.seq ?_
          | refine WC.region ?_
          | refine WC.skip ?_
          | refine WC.ret ?_
          | refine WC.condF rfl (by with_reducible rfl) ?_
          | refine WC.condF rfl (by decide) ?_)
        | refine seqQ_n ?_)
      --J
      all_goals exact fin1r rfl rfl ⟨hS.upd, vbool (by simp)⟩
    · have g1 : ∀ x, x = [97] ∨ x = [98] ∨ x = [99] → getE rows x = (v, true) := fun x hx => by
        unfold getE
        rw [ha.2 x]
        unfold Fv
        rw [if_pos hx]
        rfl
      have ga := g1 [97] (.inl rfl)
      have gb := g1 [98] (.inr (.inl rfl))
      have gc := g1 [99] (.inr (.inr rfl))
      have hk3 := Fv_keys ha
      rw [hk3] at hkl
      clear g1 ha hfw hk3
      by_cases hk0 : k = 0
      · subst hk0
        obtain ⟨hlt, hv⟩ : ∃ h : 0 < xs.length, v = xs[0] := by
          rcases hv with h | ⟨h, e⟩
          · cases h
          · exact ⟨h, by cases e; rfl⟩
        obtain ⟨rb, ro, es, rfl, hF, hrr, hes⟩ := hA.at_ hlt
        have hes : es = [str xs[0]] := hes
        subst hes
        have hrr : w0.rangeAt rb (ro + 0 * 1) [str xs[0]] := hrr
        rw [← hv] at hrr
        clear hv
        rcases ht with ⟨rfl, rfl⟩ | ⟨rfl, rfl⟩
        repeat' (first
          | (show WL _ _ _ _ _ _ _; first
            | refine WL.pure rfl rfl rfl rfl ?_
            | refine WL.nil ?_
            | (refine WL.callL (D := [dkC q mb lb D]) hS (by repeat (first | exact Pulls.nil | (apply Pulls.cons; focus (repeat (first | exact Pull.here | apply Pull.there))))) rfl rfl (fun hI => restart_c loss hI.head hI.headB c1 c2 c3) rfl rfl rfl ?_; rintro v w ⟨rfl, hm⟩ hS; rw [hE] at hm; replace hS := hS _ (.of1 hm); clear hm)
            | (refine WL.callL (D := [dkC q mb lb E]) hS (by repeat (first | exact Pulls.nil | (apply Pulls.cons; focus (repeat (first | exact Pull.here | apply Pull.there))))) rfl rfl (fun hI => arm_c second hI.head hI.headB) rfl rfl rfl ?_; rintro v w ⟨rfl, hm⟩ hS; replace hS := hS _ (.of1 hm); clear hm)
            | (refine WL.callL (D := [dkC q mb lb (E.arm second)]) hS (by repeat (first | exact Pulls.nil | (apply Pulls.cons; focus (repeat (first | exact Pull.here | apply Pull.there))))) rfl rfl (fun hI => by have h := topen_c sysP hI (by decide) sm1 hlog1; rw [hop] at h; exact h) rfl rfl rfl ?_; rintro v w ⟨Tp, fp, rfl, hmu⟩ hS; replace hS := hS _ hmu; clear hmu)
            | (refine WL.callL (D := [dkC q mb lb (E.arm second)]) hS (by repeat (first | exact Pulls.nil | (apply Pulls.cons; focus (repeat (first | exact Pull.here | apply Pull.there))))) rfl rfl (fun hI => by have h := topen_c sysP hI (by decide) sm1 hlog1; rw [hop] at h; exact h) rfl rfl rfl ?_; rintro v w ⟨rfl, hmu⟩ hS; replace hS := hS _ hmu; clear hmu)
            | (refine WL.callL (D := [dkC q mb lb D2]) hS (by repeat (first | exact Pulls.nil | (apply Pulls.cons; focus (repeat (first | exact Pull.here | apply Pull.there))))) rfl rfl (fun hI => restart_c loss hI.head hI.headB d1 d2 d3) rfl rfl rfl ?_; rintro v w ⟨rfl, hm⟩ hS; rw [hE2] at hm; replace hS := hS _ (.of1 hm); clear hm)
            | (refine WL.callL (D := [dkC q mb lb E2]) hS (by repeat (first | exact Pulls.nil | (apply Pulls.cons; focus (repeat (first | exact Pull.here | apply Pull.there))))) rfl rfl (fun hI => by have h := topen_c sysP hI (by decide) sm3 hlog3; rw [hop3] at h; exact h) rfl rfl rfl ?_; rintro v w ⟨Tp3, fp3, rfl, hmu⟩ hS; replace hS := hS _ hmu; clear hmu)
            | (refine WL.callL (D := [tabC Tp3 q ⟨sysP, _, ⟨sysL, rs, false⟩⟩ fp3]) hS (by repeat (first | exact Pulls.nil | (apply Pulls.cons; focus (repeat (first | exact Pull.here | apply Pull.there))))) rfl rfl (fun hI => tget_c [97] hI) rfl rfl rfl ?_; rintro v w ⟨rfl, hmu⟩ hS; dsimp only; rw [ga]; replace hS := hS _ hmu; clear hmu)
            | (refine WL.callL (D := [tabC Tp3 q ⟨sysP, _, ⟨sysL, rs, false⟩⟩ fp3]) hS (by repeat (first | exact Pulls.nil | (apply Pulls.cons; focus (repeat (first | exact Pull.here | apply Pull.there))))) rfl rfl (fun hI => tget_c [98] hI) rfl rfl rfl ?_; rintro v w ⟨rfl, hmu⟩ hS; dsimp only; rw [gb]; replace hS := hS _ hmu; clear hmu)
            | (refine WL.callL (D := [tabC Tp3 q ⟨sysP, _, ⟨sysL, rs, false⟩⟩ fp3]) hS (by repeat (first | exact Pulls.nil | (apply Pulls.cons; focus (repeat (first | exact Pull.here | apply Pull.there))))) rfl rfl (fun hI => tget_c [99] hI) rfl rfl rfl ?_; rintro v w ⟨rfl, hmu⟩ hS; dsimp only; rw [gc]; replace hS := hS _ hmu; clear hmu)
            | (refine WL.callL (D := [tabC Tp3 q ⟨sysP, _, ⟨sysL, rs, false⟩⟩ fp3]) hS (by repeat (first | exact Pulls.nil | (apply Pulls.cons; focus (repeat (first | exact Pull.here | apply Pull.there))))) rfl rfl (fun hI => tkeys_c [] hI hkn) rfl rfl rfl ?_; rintro v w ⟨KA, kc, rfl, hmu⟩ hS; dsimp only at hmu ⊢; rw [hkl] at hmu ⊢; replace hS := hS _ hmu; clear hmu)
            | (refine WL.load hS rfl rfl (LdOk.snap0 hF hrr (by repeat (first | exact List.Mem.head _ | apply List.Mem.tail)) rfl) rfl rfl rfl ?_)
            | refine WL.index rfl rfl rfl rfl (by first | with_reducible assumption | omega) rfl rfl rfl rfl ?_
            | refine WL.skip rfl rfl rfl ?_
            | ((fail_if_success (refine WL.wanted rfl ?_)); refine WL.guard rfl rfl rfl (fun h => ?_) (fun h => ?_) <;> (try simp only [Classical.not_not, Bool.not_eq_true', Bool.not_eq_false', Bool.not_eq_eq_eq_not, Bool.not_true, Bool.not_false, beq_iff_eq, beq_eq_false_iff_ne, ne_eq, decide_eq_decide, decide_eq_true_eq, decide_eq_false_iff_not, Bool.and_eq_true, Bool.or_eq_true, Bool.and_eq_false_iff, Bool.or_eq_false_iff] at h) <;> (try (exfalso; first | omega | contradiction))))
          | (show WC _ _ _ _ _ _; first
            | refine WC.seq ?_
            | refine WC.region ?_
            | refine WC.skip ?_
            | refine WC.ret ?_
            | refine WC.condF rfl (by with_reducible rfl) ?_
            | refine WC.condF rfl (by decide) ?_)
          | refine seqQ_n ?_)
        all_goals exact fin1r rfl rfl ⟨hS.upd, vbool (by simp)⟩
      · obtain ⟨m, hm⟩ : ∃ m, k = m + 1 := ⟨k - 1, by omega⟩
        clear hk0
        have hlm1 : m < xs.length := by omega
        have hVV : VV xs k = some xs[m] := by subst hm; exact VV_succ xs hlm1
        rw [hVV] at hv
        clear hVV
        obtain ⟨rb, ro, es, rfl, hF, hrr, hes⟩ := hA.at_ hlm1
        have hes : es = [str xs[m]] := hes
        subst hes
        have hrr : w0.rangeAt rb (ro + m * 1) [str xs[m]] := hrr
        by_cases hlt : k < xs.length
        · obtain ⟨rb2, ro2, es, hA2, hF2, hrr2, hes⟩ := hA.at_ hlt
          cases hA2
          have hes : es = [str xs[k]] := hes
          subst hes
          have hrr2 : w0.rangeAt rb (ro + k * 1) [str xs[k]] := hrr2
          have hv : v = xs[m] ∨ v = xs[k] := by
            rcases hv with h | ⟨_, h⟩ <;> cases h
            · exact .inl rfl
            · exact .inr rfl
          generalize xs[m] = x1 at *
          generalize xs[k] = x2 at *
          rcases ht with ⟨rfl, rfl⟩ | ⟨rfl, rfl⟩
          repeat' (first
            | (show WL _ _ _ _ _ _ _; first
              | refine WL.pure rfl rfl rfl rfl ?_
              | refine WL.nil ?_
              | refine WL.sub rfl rfl rfl (by omega) rfl rfl rfl ?_
              | (refine WL.callL (D := [dkC q mb lb D]) hS (by repeat (first | exact Pulls.nil | (apply Pulls.cons; focus (repeat (first | exact Pull.here | apply Pull.there))))) rfl rfl (fun hI => restart_c loss hI.head hI.headB c1 c2 c3) rfl rfl rfl ?_; rintro v w ⟨rfl, hm⟩ hS; rw [hE] at hm; replace hS := hS _ (.of1 hm); clear hm)
              | (refine WL.callL (D := [dkC q mb lb E]) hS (by repeat (first | exact Pulls.nil | (apply Pulls.cons; focus (repeat (first | exact Pull.here | apply Pull.there))))) rfl rfl (fun hI => arm_c second hI.head hI.headB) rfl rfl rfl ?_; rintro v w ⟨rfl, hm⟩ hS; replace hS := hS _ (.of1 hm); clear hm)
              | (refine WL.callL (D := [dkC q mb lb (E.arm second)]) hS (by repeat (first | exact Pulls.nil | (apply Pulls.cons; focus (repeat (first | exact Pull.here | apply Pull.there))))) rfl rfl (fun hI => by have h := topen_c sysP hI (by decide) sm1 hlog1; rw [hop] at h; exact h) rfl rfl rfl ?_; rintro v w ⟨Tp, fp, rfl, hmu⟩ hS; replace hS := hS _ hmu; clear hmu)
              | (refine WL.callL (D := [dkC q mb lb (E.arm second)]) hS (by repeat (first | exact Pulls.nil | (apply Pulls.cons; focus (repeat (first | exact Pull.here | apply Pull.there))))) rfl rfl (fun hI => by have h := topen_c sysP hI (by decide) sm1 hlog1; rw [hop] at h; exact h) rfl rfl rfl ?_; rintro v w ⟨rfl, hmu⟩ hS; replace hS := hS _ hmu; clear hmu)
              | (refine WL.callL (D := [dkC q mb lb D2]) hS (by repeat (first | exact Pulls.nil | (apply Pulls.cons; focus (repeat (first | exact Pull.here | apply Pull.there))))) rfl rfl (fun hI => restart_c loss hI.head hI.headB d1 d2 d3) rfl rfl rfl ?_; rintro v w ⟨rfl, hm⟩ hS; rw [hE2] at hm; replace hS := hS _ (.of1 hm); clear hm)
              | (refine WL.callL (D := [dkC q mb lb E2]) hS (by repeat (first | exact Pulls.nil | (apply Pulls.cons; focus (repeat (first | exact Pull.here | apply Pull.there))))) rfl rfl (fun hI => by have h := topen_c sysP hI (by decide) sm3 hlog3; rw [hop3] at h; exact h) rfl rfl rfl ?_; rintro v w ⟨Tp3, fp3, rfl, hmu⟩ hS; replace hS := hS _ hmu; clear hmu)
              | (refine WL.callL (D := [tabC Tp3 q ⟨sysP, _, ⟨sysL, rs, false⟩⟩ fp3]) hS (by repeat (first | exact Pulls.nil | (apply Pulls.cons; focus (repeat (first | exact Pull.here | apply Pull.there))))) rfl rfl (fun hI => tget_c [97] hI) rfl rfl rfl ?_; rintro v w ⟨rfl, hmu⟩ hS; dsimp only; rw [ga]; replace hS := hS _ hmu; clear hmu)
              | (refine WL.callL (D := [tabC Tp3 q ⟨sysP, _, ⟨sysL, rs, false⟩⟩ fp3]) hS (by repeat (first | exact Pulls.nil | (apply Pulls.cons; focus (repeat (first | exact Pull.here | apply Pull.there))))) rfl rfl (fun hI => tget_c [98] hI) rfl rfl rfl ?_; rintro v w ⟨rfl, hmu⟩ hS; dsimp only; rw [gb]; replace hS := hS _ hmu; clear hmu)
              | (refine WL.callL (D := [tabC Tp3 q ⟨sysP, _, ⟨sysL, rs, false⟩⟩ fp3]) hS (by repeat (first | exact Pulls.nil | (apply Pulls.cons; focus (repeat (first | exact Pull.here | apply Pull.there))))) rfl rfl (fun hI => tget_c [99] hI) rfl rfl rfl ?_; rintro v w ⟨rfl, hmu⟩ hS; dsimp only; rw [gc]; replace hS := hS _ hmu; clear hmu)
              | (refine WL.callL (D := [tabC Tp3 q ⟨sysP, _, ⟨sysL, rs, false⟩⟩ fp3]) hS (by repeat (first | exact Pulls.nil | (apply Pulls.cons; focus (repeat (first | exact Pull.here | apply Pull.there))))) rfl rfl (fun hI => tkeys_c [] hI hkn) rfl rfl rfl ?_; rintro v w ⟨KA, kc, rfl, hmu⟩ hS; dsimp only at hmu ⊢; rw [hkl] at hmu ⊢; replace hS := hS _ hmu; clear hmu)
              | (refine WL.index (j := m) rfl rfl rfl (vint (show _ = ((m : Nat) : Int) by omega)) (by omega) rfl rfl rfl rfl ?_)
              | (refine WL.load hS rfl rfl (LdOk.snap0 hF hrr (by repeat (first | exact List.Mem.head _ | apply List.Mem.tail)) rfl) rfl rfl rfl ?_)
              | (refine WL.load hS rfl rfl (LdOk.snap0 hF2 hrr2 (by repeat (first | exact List.Mem.head _ | apply List.Mem.tail)) rfl) rfl rfl rfl ?_)
              | refine WL.index rfl rfl rfl rfl (by first | with_reducible assumption | omega) rfl rfl rfl rfl ?_
              | refine WL.skip rfl rfl rfl ?_
              | ((fail_if_success (refine WL.wanted rfl ?_)); refine WL.guard rfl rfl rfl (fun h => ?_) (fun h => ?_) <;> (try simp only [Classical.not_not, Bool.not_eq_true', Bool.not_eq_false', Bool.not_eq_eq_eq_not, Bool.not_true, Bool.not_false, beq_iff_eq, beq_eq_false_iff_ne, ne_eq, decide_eq_decide, decide_eq_true_eq, decide_eq_false_iff_not, Bool.and_eq_true, Bool.or_eq_true, Bool.and_eq_false_iff, Bool.or_eq_false_iff] at h) <;> (try (exfalso; first | omega | contradiction))))
            | (show WC _ _ _ _ _ _; first
              | refine WC.seq ?_
              | refine WC.region ?_
              | refine WC.skip ?_
              | refine WC.ret ?_
              | refine WC.condF rfl (by with_reducible rfl) ?_
              | refine WC.condF rfl (by decide) ?_)
            | refine seqQ_n ?_)
          all_goals exact fin1r rfl rfl ⟨hS.upd, vbool (by rcases hv with e | e <;> first | contradiction | simp [e])⟩
        · have hv : v = xs[m] := by
            rcases hv with h | ⟨h, _⟩
            · cases h; rfl
            · omega
          rw [← hv] at hrr
          clear hv
          rcases ht with ⟨rfl, rfl⟩ | ⟨rfl, rfl⟩
          repeat' (first
            | (show WL _ _ _ _ _ _ _; first
              | refine WL.pure rfl rfl rfl rfl ?_
              | refine WL.nil ?_
              | refine WL.sub rfl rfl rfl (by omega) rfl rfl rfl ?_
              | (refine WL.callL (D := [dkC q mb lb D]) hS (by repeat (first | exact Pulls.nil | (apply Pulls.cons; focus (repeat (first | exact Pull.here | apply Pull.there))))) rfl rfl (fun hI => restart_c loss hI.head hI.headB c1 c2 c3) rfl rfl rfl ?_; rintro v w ⟨rfl, hm⟩ hS; rw [hE] at hm; replace hS := hS _ (.of1 hm); clear hm)
              | (refine WL.callL (D := [dkC q mb lb E]) hS (by repeat (first | exact Pulls.nil | (apply Pulls.cons; focus (repeat (first | exact Pull.here | apply Pull.there))))) rfl rfl (fun hI => arm_c second hI.head hI.headB) rfl rfl rfl ?_; rintro v w ⟨rfl, hm⟩ hS; replace hS := hS _ (.of1 hm); clear hm)
              | (refine WL.callL (D := [dkC q mb lb (E.arm second)]) hS (by repeat (first | exact Pulls.nil | (apply Pulls.cons; focus (repeat (first | exact Pull.here | apply Pull.there))))) rfl rfl (fun hI => by have h := topen_c sysP hI (by decide) sm1 hlog1; rw [hop] at h; exact h) rfl rfl rfl ?_; rintro v w ⟨Tp, fp, rfl, hmu⟩ hS; replace hS := hS _ hmu; clear hmu)
              | (refine WL.callL (D := [dkC q mb lb (E.arm second)]) hS (by repeat (first | exact Pulls.nil | (apply Pulls.cons; focus (repeat (first | exact Pull.here | apply Pull.there))))) rfl rfl (fun hI => by have h := topen_c sysP hI (by decide) sm1 hlog1; rw [hop] at h; exact h) rfl rfl rfl ?_; rintro v w ⟨rfl, hmu⟩ hS; replace hS := hS _ hmu; clear hmu)
              | (refine WL.callL (D := [dkC q mb lb D2]) hS (by repeat (first | exact Pulls.nil | (apply Pulls.cons; focus (repeat (first | exact Pull.here | apply Pull.there))))) rfl rfl (fun hI => restart_c loss hI.head hI.headB d1 d2 d3) rfl rfl rfl ?_; rintro v w ⟨rfl, hm⟩ hS; rw [hE2] at hm; replace hS := hS _ (.of1 hm); clear hm)
              | (refine WL.callL (D := [dkC q mb lb E2]) hS (by repeat (first | exact Pulls.nil | (apply Pulls.cons; focus (repeat (first | exact Pull.here | apply Pull.there))))) rfl rfl (fun hI => by have h := topen_c sysP hI (by decide) sm3 hlog3; rw [hop3] at h; exact h) rfl rfl rfl ?_; rintro v w ⟨Tp3, fp3, rfl, hmu⟩ hS; replace hS := hS _ hmu; clear hmu)
              | (refine WL.callL (D := [tabC Tp3 q ⟨sysP, _, ⟨sysL, rs, false⟩⟩ fp3]) hS (by repeat (first | exact Pulls.nil | (apply Pulls.cons; focus (repeat (first | exact Pull.here | apply Pull.there))))) rfl rfl (fun hI => tget_c [97] hI) rfl rfl rfl ?_; rintro v w ⟨rfl, hmu⟩ hS; dsimp only; rw [ga]; replace hS := hS _ hmu; clear hmu)
              | (refine WL.callL (D := [tabC Tp3 q ⟨sysP, _, ⟨sysL, rs, false⟩⟩ fp3]) hS (by repeat (first | exact Pulls.nil | (apply Pulls.cons; focus (repeat (first | exact Pull.here | apply Pull.there))))) rfl rfl (fun hI => tget_c [98] hI) rfl rfl rfl ?_; rintro v w ⟨rfl, hmu⟩ hS; dsimp only; rw [gb]; replace hS := hS _ hmu; clear hmu)
              | (refine WL.callL (D := [tabC Tp3 q ⟨sysP, _, ⟨sysL, rs, false⟩⟩ fp3]) hS (by repeat (first | exact Pulls.nil | (apply Pulls.cons; focus (repeat (first | exact Pull.here | apply Pull.there))))) rfl rfl (fun hI => tget_c [99] hI) rfl rfl rfl ?_; rintro v w ⟨rfl, hmu⟩ hS; dsimp only; rw [gc]; replace hS := hS _ hmu; clear hmu)
              | (refine WL.callL (D := [tabC Tp3 q ⟨sysP, _, ⟨sysL, rs, false⟩⟩ fp3]) hS (by repeat (first | exact Pulls.nil | (apply Pulls.cons; focus (repeat (first | exact Pull.here | apply Pull.there))))) rfl rfl (fun hI => tkeys_c [] hI hkn) rfl rfl rfl ?_; rintro v w ⟨KA, kc, rfl, hmu⟩ hS; dsimp only at hmu ⊢; rw [hkl] at hmu ⊢; replace hS := hS _ hmu; clear hmu)
              | (refine WL.index (j := m) rfl rfl rfl (vint (show _ = ((m : Nat) : Int) by omega)) (by omega) rfl rfl rfl rfl ?_)
              | (refine WL.load hS rfl rfl (LdOk.snap0 hF hrr (by repeat (first | exact List.Mem.head _ | apply List.Mem.tail)) rfl) rfl rfl rfl ?_)
              | refine WL.skip rfl rfl rfl ?_
              | ((fail_if_success (refine WL.wanted rfl ?_)); refine WL.guard rfl rfl rfl (fun h => ?_) (fun h => ?_) <;> (try simp only [Classical.not_not, Bool.not_eq_true', Bool.not_eq_false', Bool.not_eq_eq_eq_not, Bool.not_true, Bool.not_false, beq_iff_eq, beq_eq_false_iff_ne, ne_eq, decide_eq_decide, decide_eq_true_eq, decide_eq_false_iff_not, Bool.and_eq_true, Bool.or_eq_true, Bool.and_eq_false_iff, Bool.or_eq_false_iff] at h) <;> (try (exfalso; first | omega | contradiction))))
            | (show WC _ _ _ _ _ _; first
              | refine WC.seq ?_
              | refine WC.region ?_
              | refine WC.skip ?_
              | refine WC.ret ?_
              | refine WC.condF rfl (by with_reducible rfl) ?_
              | refine WC.condF rfl (by decide) ?_)
            | refine seqQ_n ?_)
          all_goals exact fin1r rfl rfl ⟨hS.upd, vbool (by simp)⟩
theorem tableHolds.key_tableHolds (W : World) (v0 v1 v2 v3 : Value) (y0 : List (List UInt8)) (y1 y2 y3 : Int) (b0 b1 b2 b3 : Nat) (h0 : ASl cStr W v0 y0) (h1 : AInt W v1 y1) (h2 : AInt W v2 y2) (h3 : AInt W v3 y3) (q0 : QL QStr y0 b0) (q1 : QInt y1 b1) (q2 : QInt y2 b2) (q3 : QInt y3 b3) (hb : b0 + b1 + b2 + b3 ≤ 1048576) :
    Cal Tryz.prog 8 [v0, v1, v2, v3] W (fun v W' => Upd [] W W' ∧ v = .bool true) := by
  obtain ⟨A0, c0, rfl, hc, h0⟩ := h0
  obtain rfl := h1
  obtain rfl := h2
  obtain rfl := h3
  have := ql_strs q0
  exact tableHolds_c y0 y1 y2 y3 h0 hc (by omega)
end Go.Proofs.YtmofcalcdjoicaaGreatDoor
