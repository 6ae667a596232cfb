/- What is proved: contracts and plain facts that the law leans on (texts put together). Conditions: as each names them. -/
import Derived.Test.YtlfhglcccmghlaaGreatDoorM15
set_option linter.unusedSimpArgs false
set_option linter.unusedVariables false
set_option linter.unusedSectionVars false
/- What is proved: DaemonNil answers true. Conditions: none. -/
set_option linter.unusedSimpArgs false
set_option linter.unusedVariables false
namespace Go.Proofs.YtlfhglcccmghlaaGreatDoor
open Go Go.J Go.RowKit
/-- the same value, that leads to no memory -/
def eqA : Value → Value → Bool
  | .agg ⟨l⟩, .agg ⟨m⟩ => smL smS l m
  | u, v => smS u v
theorem smL_eq {ρ : En} : ∀ {l m xs : List Value}, smL smS l m = true → Vrs ρ l xs → xs = m
  | [], [], xs, _, h => by cases h; rfl
  | u :: l, v :: m, xs, h, hv => by
    simp only [smL, Bool.and_eq_true] at h
    obtain ⟨rfl, hc⟩ := smS_spec h.1
    cases hv with
    | cons h1 h2 =>
      cases h1 with
      | same _ => rw [smL_eq h.2 h2]
      | _ => cases hc
  | [], _ :: _, _, h, _ => by cases h
  | _ :: _, [], _, h, _ => by cases h
theorem eqA_ok {ρ : En} {u v x : Value} (h : eqA u v = true) (hv : Vr ρ u x) : x = v := by
  unfold eqA at h
  split at h
  · obtain ⟨l', rfl, h1⟩ := hv.ag
    rw [smL_eq h h1]
  · obtain ⟨rfl, hc⟩ := smS_spec h
    cases hv with
    | same _ => rfl
    | _ => cases hc
def okV (v : Value) : Rs (Value × AH) → Bool
  | .ok (u, _) => eqA u v
  | .no _ => false
theorem run_c {fid : FuncId} {args args' : List Value} {v : Value} (h : okV v (evF Tryz.prog drT bkT biT xtT 3000 fid args H0) = true) (ha : Vrs (fun _ => none) args args') (w0 : World) : Cal Tryz.prog fid args' w0 (fun u w' => Upd [] w0 w' ∧ u = v) := by
  unfold okV at h
  split at h
  · rename_i u H' e
    exact ((evA_ok 3000).out e ha (rl0 w0)).mono fun v w' ⟨ρ', _, hv, hR, _⟩ => ⟨hR.upd, eqA_ok h hv⟩
  · cases h
@[reducible] def repV : Value := .agg ⟨[.int .i64 1, .int .i64 0, .slice none 0 0, .slice none 0 0, .int .i64 0, str [], .bool false, .slice none 0 0]⟩
@[reducible] def dumV : Value := .agg ⟨[.int .i64 0, .int .i64 0, .int .i64 0, .int .i64 0, .int .i64 0, .int .i64 0, .int .i64 0, .int .i64 0, .int .i64 0, .int .i64 0, .int .i64 0, .int .i64 0, .int .i64 0, .int .i64 0, .int .i64 0, .int .i64 0, .int .i64 0, .int .i64 0, .int .i64 0, .slice none 0 0, .slice none 0 0, .slice none 0 0, .slice none 0 0, .slice none 0 0]⟩
@[reducible] def setZ : Value := .agg ⟨[.int .i64 0, .int .i64 0, .int .i64 0, .int .i64 0, .int .i64 0, .int .i64 0, .int .i64 0, .int .i64 0, .int .i64 0, .int .i64 0, .int .i64 0, .int .i64 0, .int .i64 0, .int .i64 0, .int .i64 0, .int .i64 0, .int .i64 0]⟩
@[reducible] def cmdV : Value := .agg ⟨[str [115, 116, 97, 116, 117, 115], .int .i64 0, .int .i64 0, str [], str [], .int .i64 0]⟩
theorem newD_c (w0 : World) : Cal Tryz.prog 5 [] w0 (fun v w' => Upd [] w0 w' ∧ ∃ b o, v = .pointer (some ⟨b, o, none⟩)) := by
  have h : (match evF Tryz.prog drT bkT biT xtT 3000 5 [] H0 with | .ok (.pointer (some ⟨_, _, none⟩), _) => true | _ => false) = true := by kernel_rfl
  split at h
  · rename_i b o H' e
    refine ((evA_ok 3000).out e .nil (rl0 w0)).mono fun v w' ⟨ρ', _, hv, hR, _⟩ => ⟨hR.upd, ?_⟩
    obtain ⟨L, _, _, rfl⟩ := hv.ptrS
    exact ⟨_, _, rfl⟩
  · cases h
theorem lineN_c (y : List UInt8) (w0 : World) : Cal Tryz.prog 7 [.pointer none, str y] w0 (fun u w' => Upd [] w0 w' ∧ u = repV) := run_c (args := [.pointer none, unk]) (by kernel_rfl) (.cons (.same rfl) (.cons .any .nil)) w0
theorem doN_c (w0 : World) : Cal Tryz.prog 8 [.pointer none, cmdV] w0 (fun u w' => Upd [] w0 w' ∧ u = repV) := run_c (args := [.pointer none, cmdV]) (by kernel_rfl) (.cons (.same rfl) (.cons (.agg (.self (by decide))) .nil)) w0
theorem rotN_c (w0 : World) : Cal Tryz.prog 9 [.pointer none, .int .i64 1, .int .i64 0] w0 (fun u w' => Upd [] w0 w' ∧ u = .int .i64 1) := run_c (args := [.pointer none, .int .i64 1, .int .i64 0]) (by kernel_rfl) (.cons (.same rfl) (.cons (.same rfl) (.cons (.same rfl) .nil))) w0
theorem dumpN_c (w0 : World) : Cal Tryz.prog 11 [.pointer none] w0 (fun u w' => Upd [] w0 w' ∧ u = dumV) := run_c (args := [.pointer none]) (by kernel_rfl) (.cons (.same rfl) .nil) w0
theorem setN_c (w0 : World) : Cal Tryz.prog 12 [.pointer none] w0 (fun u w' => Upd [] w0 w' ∧ u = setZ) := run_c (args := [.pointer none]) (by kernel_rfl) (.cons (.same rfl) .nil) w0
theorem dumV_vr : Vr (fun _ => none) dumV dumV := .agg (.self (by decide))
theorem sameN_c (w0 : World) : Cal Tryz.prog 10 [dumV, dumV] w0 (fun u w' => Upd [] w0 w' ∧ u = .bool true) := run_c (args := [dumV, dumV]) (by kernel_rfl) (.cons dumV_vr (.cons dumV_vr .nil)) w0
/-- may a daemon have so many spokes? -/
def Bad (n : Int) : Prop := n < 1 ∨ 6 < n
theorem startB_c {n : Int} (h : Bad n) (w0 : World) : Cal Tryz.prog 13 [.int .i64 n] w0 (fun v w' => Upd [] w0 w' ∧ v = .tuple #[setV set0, .int .i64 1]) :=
  (cstart_c n w0).mono fun v w' ⟨h1, h2⟩ => ⟨h1, h2.trans (if_pos h)⟩
set_option maxHeartbeats 4000000 in
set_option maxRecDepth 100000 in
theorem bootB_c {n : Int} (h : Bad n) (b o : Nat) (w0 : World) : Cal Tryz.prog 4 [.pointer (some ⟨b, o, none⟩), .int .i64 n] w0 (fun v w' => Upd [] w0 w' ∧ v = .tuple #[.pointer none, .int .i64 1]) := by
  have hst := fun w => startB_c h w
  clear h
  refine Cal.mk' (by kernel_rfl) Tryz.func4 rfl rfl fun hS => ?_
  repeat' (first
    | (show WL _ _ _ _ _ _ _; first
      | refine WL.pure rfl rfl rfl rfl ?_
      | refine WL.nil ?_
      | (refine WL.calls hS rfl rfl (hst _) rfl rfl rfl ?_; rintro v w rfl hS)
      | (refine WL.store hS rfl rfl rfl (by repeat (first | exact StB.here rfl | apply StB.there)) rfl rfl rfl ?_; intro w hS)
      | (refine WL.alloc hS rfl rfl rfl rfl rfl rfl ?_; intro w b hS))
    | (show WC _ _ _ _ _ _; first
      | refine WC.seq ?_
      | refine WC.region ?_
      | refine WC.ret ?_
      | refine WC.condT rfl (by decide) ?_)
    | refine seqQ_n ?_
    | refine seqQ_r ?_)
  exact fin2r rfl rfl rfl ⟨hS.upd, rfl⟩
set_option maxHeartbeats 4000000 in
set_option maxRecDepth 100000 in
theorem bootN_c {n : Int} (h : Bad n) (w0 : World) : Cal Tryz.prog 4 [.pointer none, .int .i64 n] w0 (fun v w' => Upd [] w0 w' ∧ v = .tuple #[.pointer none, .int .i64 1]) := by
  have hst := fun w => startB_c h w
  clear h
  refine Cal.mk' (by kernel_rfl) Tryz.func4 rfl rfl fun hS => ?_
  repeat' (first
    | (show WL _ _ _ _ _ _ _; first
      | refine WL.pure rfl rfl rfl rfl ?_
      | refine WL.nil ?_
      | (refine WL.calls hS rfl rfl (hst _) rfl rfl rfl ?_; rintro v w rfl hS)
      | (refine WL.store hS rfl rfl rfl (by repeat (first | exact StB.here rfl | apply StB.there)) rfl rfl rfl ?_; intro w hS)
      | (refine WL.alloc hS rfl rfl rfl rfl rfl rfl ?_; intro w b hS)
      | refine WL.skip rfl rfl rfl ?_)
    | (show WC _ _ _ _ _ _; first
      | refine WC.seq ?_
      | refine WC.region ?_
      | refine WC.ret ?_
      | refine WC.condT rfl (by with_reducible rfl) ?_)
    | refine seqQ_n ?_
    | refine seqQ_r ?_)
  exact fin2r rfl rfl rfl ⟨hS.upd, rfl⟩
set_option maxHeartbeats 8000000 in
set_option maxRecDepth 100000 in
theorem daemonNilB_c {n : Int} (h : Bad n) (y : List UInt8) (w0 : World) : Cal Tryz.prog 3 [.int .i64 n, str y] w0 (fun v w' => Upd [] w0 w' ∧ v = .bool true) := by
  have hN := fun w => bootN_c h w
  have hB := fun b o w => bootB_c h b o w
  refine Cal.mk' (by kernel_rfl) Tryz.func3 rfl rfl fun hS => ?_
  by_cases h1 : n < 1
  · clear h
    repeat' (first
      | (show WL _ _ _ _ _ _ _; first
        | refine WL.pure rfl rfl rfl rfl ?_
        | refine WL.nil ?_
        | (refine WL.calls hS rfl rfl (hN _) rfl rfl rfl ?_; rintro v w rfl hS)
        | (refine WL.calls hS rfl rfl (newD_c _) rfl rfl rfl ?_; rintro v w ⟨db, od, rfl⟩ hS)
        | (refine WL.calls hS rfl rfl (hB _ _ _) rfl rfl rfl ?_; rintro v w rfl hS)
        | (refine WL.calls hS rfl rfl (awake_c _) rfl rfl rfl ?_; rintro v w rfl hS)
        | (refine WL.calls hS rfl rfl (lineN_c y _) rfl rfl rfl ?_; rintro v w rfl hS)
        | (refine WL.calls hS rfl rfl (doN_c _) rfl rfl rfl ?_; rintro v w rfl hS)
        | (refine WL.calls hS rfl rfl (rotN_c _) rfl rfl rfl ?_; rintro v w rfl hS)
        | (refine WL.calls hS rfl rfl (dumpN_c _) rfl rfl rfl ?_; rintro v w rfl hS)
        | (refine WL.calls hS rfl rfl (sameN_c _) rfl rfl rfl ?_; rintro v w rfl hS)
        | (refine WL.calls hS rfl rfl (setN_c _) rfl rfl rfl ?_; rintro v w rfl hS)
        | (refine WL.eqSA rfl rfl rfl (r := true) (by kernel_rfl) (by kernel_rfl) rfl rfl rfl ?_)
        | refine WL.skip rfl rfl rfl ?_
        | refine WL.build rfl rfl rfl rfl rfl ?_
        | ((fail_if_success (refine WL.wanted rfl ?_)); refine WL.guard rfl rfl rfl (fun h => ?_) (fun h => ?_) <;> (try simp only [Classical.not_not, Bool.not_eq_true', Bool.not_eq_false', Bool.not_eq_eq_eq_not, Bool.not_true, Bool.not_false, beq_iff_eq, beq_eq_false_iff_ne, ne_eq, decide_eq_decide, decide_eq_true_eq, decide_eq_false_iff_not, Bool.and_eq_true, Bool.or_eq_true, Bool.and_eq_false_iff, Bool.or_eq_false_iff] at h) <;> (try (exfalso; first | omega | contradiction))))
      | (show WC _ _ _ _ _ _; first
        | refine WC.seq ?_
        | refine WC.region ?_
        | refine WC.skip ?_
        | refine WC.ret ?_
        | refine WC.condF rfl (by with_reducible rfl) ?_)
      | refine seqQ_n ?_)
    exact fin1r rfl rfl ⟨hS.upd, rfl⟩
  · have h2 : 6 < n := by rcases h with h | h; exact absurd h h1; exact h
    clear h
    repeat' (first
      | (show WL _ _ _ _ _ _ _; first
        | refine WL.pure rfl rfl rfl rfl ?_
        | refine WL.nil ?_
        | (refine WL.calls hS rfl rfl (hN _) rfl rfl rfl ?_; rintro v w rfl hS)
        | (refine WL.calls hS rfl rfl (newD_c _) rfl rfl rfl ?_; rintro v w ⟨db, od, rfl⟩ hS)
        | (refine WL.calls hS rfl rfl (hB _ _ _) rfl rfl rfl ?_; rintro v w rfl hS)
        | (refine WL.calls hS rfl rfl (awake_c _) rfl rfl rfl ?_; rintro v w rfl hS)
        | (refine WL.calls hS rfl rfl (lineN_c y _) rfl rfl rfl ?_; rintro v w rfl hS)
        | (refine WL.calls hS rfl rfl (doN_c _) rfl rfl rfl ?_; rintro v w rfl hS)
        | (refine WL.calls hS rfl rfl (rotN_c _) rfl rfl rfl ?_; rintro v w rfl hS)
        | (refine WL.calls hS rfl rfl (dumpN_c _) rfl rfl rfl ?_; rintro v w rfl hS)
        | (refine WL.calls hS rfl rfl (sameN_c _) rfl rfl rfl ?_; rintro v w rfl hS)
        | (refine WL.calls hS rfl rfl (setN_c _) rfl rfl rfl ?_; rintro v w rfl hS)
        | (refine WL.eqSA rfl rfl rfl (r := true) (by kernel_rfl) (by kernel_rfl) rfl rfl rfl ?_)
        | refine WL.skip rfl rfl rfl ?_
        | refine WL.build rfl rfl rfl rfl rfl ?_
        | ((fail_if_success (refine WL.wanted rfl ?_)); refine WL.guard rfl rfl rfl (fun h => ?_) (fun h => ?_) <;> (try simp only [Classical.not_not, Bool.not_eq_true', Bool.not_eq_false', Bool.not_eq_eq_eq_not, Bool.not_true, Bool.not_false, beq_iff_eq, beq_eq_false_iff_ne, ne_eq, decide_eq_decide, decide_eq_true_eq, decide_eq_false_iff_not, Bool.and_eq_true, Bool.or_eq_true, Bool.and_eq_false_iff, Bool.or_eq_false_iff] at h) <;> (try (exfalso; first | omega | contradiction))))
      | (show WC _ _ _ _ _ _; first
        | refine WC.seq ?_
        | refine WC.region ?_
        | refine WC.skip ?_
        | refine WC.ret ?_
        | refine WC.condT rfl (by with_reducible rfl) ?_
        | refine WC.condF rfl (by with_reducible rfl) ?_)
      | refine seqQ_n ?_
      | refine seqQ_r ?_)
    all_goals first | exact fin1r rfl rfl ⟨hS.upd, rfl⟩ | (exfalso; clear hN hB; simp_all; done)
theorem daemonNil_c (n : Int) (y : List UInt8) (w0 : World) : Cal Tryz.prog 3 [.int .i64 n, str y] w0 (fun v w' => Upd [] w0 w' ∧ v = .bool true) := by
  by_cases h : Bad n
  · exact daemonNilB_c h y w0
  · have hn : n = 1 ∨ n = 2 ∨ n = 3 ∨ n = 4 ∨ n = 5 ∨ n = 6 := by unfold Bad at h; omega
    rcases hn with rfl | rfl | rfl | rfl | rfl | rfl
    · exact nilK_c nil1 _ w0
    · exact nilK_c nil2 _ w0
    · exact nilK_c nil3 _ w0
    · exact nilK_c nil4 _ w0
    · exact nilK_c nil5 _ w0
    · exact nilK_c nil6 _ w0
theorem daemonNil.key_daemonNil (W : World) (v0 v1 : Value) (y0 : Int) (y1 : List UInt8) (b0 b1 : Nat) (h0 : AInt W v0 y0) (h1 : AStr W v1 y1) (q0 : QInt y0 b0) (q1 : QStr y1 b1) (hb : b0 + b1 ≤ 1048576) :
    Cal Tryz.prog 3 [v0, v1] W (fun v W' => Upd [] W W' ∧ v = .bool true) := by
  obtain rfl := h0
  obtain rfl := h1
  exact daemonNil_c y0 y1 W
end Go.Proofs.YtlfhglcccmghlaaGreatDoor
