/- What is proved: the laws SchedPlays and SchedOrder answer true. Conditions: none. -/
import Derived.Test.YtjmdhakndlhbhaaSchedR
set_option linter.unusedSimpArgs false
set_option linter.unusedVariables false
namespace Go.Proofs.Ytjmdhakndlhbhaa
open Go Go.J Go.RowKit Go.ChangeShapes Go.WideShapes

theorem list2' {α : Type} {l : List α} (h : l.length = 2) : ∃ a b, l = [a, b] := by match l, h with | [a, b], _ => exact ⟨a, b, rfl⟩
structure Stp where
  kind : Int
  n : Int
def cStp : Cod Stp := .flat (fun s => [.int .i64 s.kind, .int .i64 s.n]) 2 fun _ => rfl

theorem stepCases (kind : Int) (U S : List Int) : (kind = 1 ∧ U.length < 32) ∨ (kind = 1 ∧ ¬ U.length < 32) ∨ (kind = 2 ∧ S.length < 32) ∨ (kind = 2 ∧ ¬ S.length < 32) ∨ (kind = 3 ∧ ∃ x u, U = x :: u) ∨ (kind = 3 ∧ U = [] ∧ ∃ x s, S = x :: s) ∨ (kind = 3 ∧ U = [] ∧ S = []) ∨ (kind ≠ 1 ∧ kind ≠ 2 ∧ kind ≠ 3) := by
  by_cases h1 : kind = 1
  · by_cases h : U.length < 32 <;> simp [h1, h]
  · by_cases h2 : kind = 2
    · by_cases h : S.length < 32 <;> simp [h2, h]
    · by_cases h3 : kind = 3
      · rcases U with _ | ⟨x, u⟩
        · rcases S with _ | ⟨y, s⟩ <;> simp [h3]
        · simp [h3]
      · simp [h1, h2, h3]
structure PSt where
  k : Nat
  u1 : List Int
  s1 : List Int
  f1 : List Nat
  u2 : List Int
  s2 : List Int
  f2 : List Nat
  g1 : List Nat
  g2 : List Nat

set_option maxHeartbeats 32000000 in
theorem schedPlays_c (l : List Stp) (A : Option Addr) (cap : Nat) (w0 : World) (hA : SlAt cStp (Old w0) w0 A l) (hb : l.length ≤ 1048576) : Cal Try.prog 8 [.slice A l.length cap] w0 (fun v w' => Upd [] w0 w' ∧ v = .bool true) := by
  refine Cal.mk' (by kernel_rfl) Try.func8 rfl rfl fun hS => ?_
  repeat' (first
    | (show WL _ _ _ _ _ _ _; first
      | refine WL.pure rfl rfl rfl rfl ?_
      | refine WL.nil ?_
      | refine WL.load hS rfl rfl (LdOk.box (by repeat (first | exact List.Mem.head _ | apply List.Mem.tail)) rfl) rfl rfl rfl ?_
      | refine WL.add rfl rfl rfl (by omega) rfl rfl rfl ?_
      | refine WL.sub rfl rfl rfl (by omega) rfl rfl rfl ?_
      | (refine WL.calls hS rfl rfl (sawake_c _) rfl rfl rfl ?_; rintro v w rfl hS)
      | (refine WL.callG rfl rfl (qnew_c _) rfl rfl rfl ?_; rintro v w ⟨hu, q, fp, rfl, hn⟩; have hS := hS.new hu hn; clear hu hn)
      | (refine WL.store hS rfl rfl rfl (by repeat (first | exact StB.here rfl | apply StB.there)) rfl rfl rfl ?_; intro w hS)
      | (refine WL.box hS rfl rfl rfl rfl rfl ?_; intro w b hS)
      | (refine WL.alloc hS rfl rfl rfl rfl rfl rfl ?_; intro w b hS)
      | refine WL.index rfl rfl rfl rfl (by first | with_reducible assumption | omega) rfl rfl rfl rfl ?_
      | refine WL.index (j := 0) rfl rfl rfl rfl (by omega) rfl rfl rfl rfl ?_
      | refine WL.indexArr rfl rfl rfl rfl (by decide) rfl rfl rfl ?_
      | refine WL.skip rfl rfl rfl ?_
      | refine WL.build rfl rfl rfl rfl rfl ?_
      | (refine WL.slit hS rfl rfl rfl rfl rfl ?_; intro w b hS)
      | refine WL.eqS rfl rfl rfl rfl (by kernel_rfl) rfl rfl rfl ?_
      | refine WL.neS rfl rfl rfl rfl (by kernel_rfl) rfl rfl rfl ?_
      | ((fail_if_success (refine WL.wanted rfl ?_)); refine WL.guard rfl rfl rfl (fun h => ?_) (fun h => ?_) <;> (try simp only [decide_eq_true_eq, decide_eq_false_iff_not] at h) <;> (try (exfalso; omega))))
    | (show WC _ _ _ _ _ _; first
      | refine WC.seq ?_
      | refine WC.region ?_
      | refine WC.block ?_
      | refine WC.skip ?_
      | refine WC.exit ?_
      | refine WC.ret ?_
      | refine WC.condT rfl (by with_reducible rfl) ?_
      | refine WC.condF rfl (by with_reducible rfl) ?_
      | refine WC.condT rfl (by decide) ?_
      | refine WC.condF rfl (by decide) ?_
      | refine WC.condT rfl (decide_eq_true (by first | with_reducible assumption | omega)) ?_
      | refine WC.condF rfl (decide_eq_false (by first | with_reducible assumption | omega)) ?_
      | refine WC.condT rfl (by first | (simp; done) | (simp; omega)) ?_
      | refine WC.condF rfl (by first | (simp; done) | (simp; omega)) ?_
      | (refine WC.cond rfl (fun h => ?_) (fun h => ?_) <;> (try simp only [Bool.not_eq_true', Bool.not_eq_false', Bool.not_eq_eq_eq_not, Bool.not_true, Bool.not_false, beq_iff_eq, beq_eq_false_iff_ne, ne_eq, decide_eq_decide, decide_eq_true_eq, decide_eq_false_iff_not, Bool.and_eq_true, Bool.or_eq_true, Bool.and_eq_false_iff, Bool.or_eq_false_iff] at h) <;> (try (exfalso; omega))))
    | (show WD _ _ _ _ _ _ _ _ _; first
      | refine WD.pure rfl rfl rfl rfl rfl ?_
      | refine WD.nil ?_
      | refine WD.load rfl rfl (LdOk.box (by repeat (first | exact List.Mem.head _ | apply List.Mem.tail)) rfl) rfl rfl rfl rfl ?_
      | refine WD.add rfl rfl rfl (by omega) rfl rfl rfl rfl ?_
      | refine WD.sub rfl rfl rfl (by omega) rfl rfl rfl rfl ?_
      | refine WD.index rfl rfl rfl rfl (by first | with_reducible assumption | omega) rfl rfl rfl rfl rfl ?_
      | refine WD.index (j := 0) rfl rfl rfl rfl (by omega) rfl rfl rfl rfl rfl ?_
      | refine WD.indexArr rfl rfl rfl rfl (by decide) rfl rfl rfl rfl ?_
      | refine WD.pass rfl rfl rfl rfl ?_
      | refine WD.build rfl rfl rfl rfl rfl rfl ?_
      | (refine WD.slit hS hM rfl rfl rfl rfl rfl rfl rfl ?_; intro w b hS hM)
      | refine WD.eqS rfl rfl rfl rfl (by kernel_rfl) rfl rfl rfl rfl ?_
      | refine WD.neS rfl rfl rfl rfl (by kernel_rfl) rfl rfl rfl rfl ?_
      | (refine WD.box hS hM rfl rfl rfl rfl rfl rfl rfl ?_; intro w b hS hM)
      | ((fail_if_success (refine WD.wanted rfl ?_)); refine WD.guard rfl rfl rfl (fun h => ?_) (fun h => ?_) <;> (try simp only [decide_eq_true_eq, decide_eq_false_iff_not] at h) <;> (try (exfalso; omega))))
    | refine seqQ_n ?_
    | refine blkQ_n ?_
    | refine seqQ_x ?_
    | refine seqQ_r ?_
    | refine blkQ_r ?_
    | refine blkQ_hit rfl ?_
    | refine blkQ_miss rfl ?_
    | refine rndQ_x ?_
    | refine rndQ_r ?_
    | refine rdQ_n ?_
    | refine rdQ_x ?_
    | refine rdQ_r ?_
    | refine cutQ_n ?_
    | refine cutQ_r ?_
    | refine cutQ_miss rfl ?_
    | refine endQ_x ?_
    | refine endQ_r ?_)
  have hS := (((hS.nilRow 3 1).nilRow 3 1).pull (.there (.there .here))).objClose (D := [_, _, _]) (φ := rqF _ [] []) ⟨none, 0, 0, none, 0, 0, rfl, rfl, rfl⟩
  have hS := ((((hS.pull (.there .here)).nilRow 3 1).nilRow 3 1).pull (.there (.there .here))).objClose (D := [_, _, _]) (φ := rqF _ [] []) ⟨none, 0, 0, none, 0, 0, rfl, rfl, rfl⟩
  refine WC.loop (σ := PSt) [0, 3, 4, 5, 6] (fun s => [(7, .int .i64 (s.k : Int))]) (fun s w => s.k ≤ l.length ∧ s.u1.length ≤ 32 ∧ s.s1.length ≤ 32 ∧ s.u2.length ≤ 32 ∧ s.s2.length ≤ 32 ∧ St w0 [] w [rqC _ s.u1 s.s1 s.g1, rqC _ s.u2 s.s2 s.g2, qC _ s.u2 s.s2 s.f2, qC _ s.u1 s.s1 s.f1] _) (fun s => l.length - s.k) ⟨0, [], [], _, [], [], _, _, _⟩ ⟨Nat.zero_le _, Nat.zero_le _, Nat.zero_le _, Nat.zero_le _, Nat.zero_le _, hS⟩ ⟨rfl, trivial⟩ ?_
  clear hS
  rintro ⟨k, u1, s1, f1, u2, s2, f2, g1, g2⟩ g w ⟨hk, lu1, ls1, lu2, ls2, hS⟩
  dsimp only at hk lu1 ls1 lu2 ls2
  show WC _ _ _ (lf _ [(7, .int .i64 (k : Int))] _ _) _ _
  by_cases hlt : k < l.length ∧ k < 400
  · obtain ⟨hlt, h400⟩ := hlt
    obtain ⟨b, o, es, rfl, hF, hr, rfl⟩ := hA.at_ hlt
    generalize hx : l[k] = x at *
    obtain ⟨kind, n⟩ := x
    change w0.rangeAt b (o + k * 2) [.int .i64 kind, .int .i64 n] at hr
    dsimp only at hS
    by_cases h5 : (k : Int) % 6 = 5
    · rcases stepCases kind u2 s2 with ⟨rfl, hroom⟩ | ⟨rfl, hroom⟩ | ⟨rfl, hroom⟩ | ⟨rfl, hroom⟩ | ⟨rfl, x, u2, rfl⟩ | ⟨rfl, rfl, x, s2, rfl⟩ | ⟨rfl, rfl, rfl⟩ | ⟨h1, h2, h3⟩
      all_goals
        try simp only [List.length_cons, List.length_nil] at lu2 ls2
        repeat' (first
          | (show WL _ _ _ _ _ _ _; first
            | refine WL.pure rfl rfl rfl rfl ?_
            | refine WL.nil ?_
            | refine WL.load hS rfl rfl (LdOk.box (by repeat (first | exact List.Mem.head _ | apply List.Mem.tail)) rfl) rfl rfl rfl ?_
            | refine WL.add rfl rfl rfl (by omega) rfl rfl rfl ?_
            | refine WL.sub rfl rfl rfl (by omega) rfl rfl rfl ?_
            | refine WL.rem rfl rfl rfl (by omega) (by omega) rfl rfl rfl ?_
            | refine WL.load hS rfl rfl (LdOk.snap0 hF hr (by repeat (first | exact List.Mem.head _ | apply List.Mem.tail)) rfl) rfl rfl rfl ?_
            | (refine WL.callG rfl rfl (qpush_t _ _ _ _ _ _ (hS.holds _ (by repeat (first | exact List.Mem.head _ | apply List.Mem.tail))) (hS.inB_of (by repeat (first | exact List.Mem.head _ | apply List.Mem.tail))) hroom) rfl rfl rfl ?_; rintro v w ⟨rfl, hm⟩; have hS := hS.mut hm (by repeat (first | exact Repl.here | apply Repl.there)); clear hm)
            | (refine WL.callG rfl rfl (rpush_t _ _ _ _ _ _ (hS.holds _ (by repeat (first | exact List.Mem.head _ | apply List.Mem.tail))) (hS.inB_of (by repeat (first | exact List.Mem.head _ | apply List.Mem.tail))) hroom) rfl rfl rfl ?_; rintro v w ⟨rfl, fp, hm⟩; have hS := hS.mut hm (by repeat (first | exact Repl.here | apply Repl.there)); clear hm)
            | (refine WL.callG rfl rfl (qpush_tf _ _ _ _ _ _ (hS.holds _ (by repeat (first | exact List.Mem.head _ | apply List.Mem.tail))) (hS.inB_of (by repeat (first | exact List.Mem.head _ | apply List.Mem.tail))) hroom) rfl rfl rfl ?_; rintro v w ⟨rfl, hm⟩; have hS := hS.mut hm (by repeat (first | exact Repl.here | apply Repl.there)); clear hm)
            | (refine WL.callG rfl rfl (rpush_tf _ _ _ _ _ _ (hS.holds _ (by repeat (first | exact List.Mem.head _ | apply List.Mem.tail))) (hS.inB_of (by repeat (first | exact List.Mem.head _ | apply List.Mem.tail))) hroom) rfl rfl rfl ?_; rintro v w ⟨rfl, fp, hm⟩; have hS := hS.mut hm (by repeat (first | exact Repl.here | apply Repl.there)); clear hm)
            | (refine WL.callG rfl rfl (qpush_f _ _ _ _ _ _ (hS.holds _ (by repeat (first | exact List.Mem.head _ | apply List.Mem.tail))) (hS.inB_of (by repeat (first | exact List.Mem.head _ | apply List.Mem.tail))) hroom) rfl rfl rfl ?_; rintro v w ⟨rfl, hm⟩; have hS := hS.mut hm (by repeat (first | exact Repl.here | apply Repl.there)); clear hm)
            | (refine WL.callG rfl rfl (rpush_f _ _ _ _ _ _ (hS.holds _ (by repeat (first | exact List.Mem.head _ | apply List.Mem.tail))) (hS.inB_of (by repeat (first | exact List.Mem.head _ | apply List.Mem.tail))) hroom) rfl rfl rfl ?_; rintro v w ⟨rfl, fp, hm⟩; have hS := hS.mut hm (by repeat (first | exact Repl.here | apply Repl.there)); clear hm)
            | (refine WL.callG rfl rfl (qpush_ff _ _ _ _ _ _ (hS.holds _ (by repeat (first | exact List.Mem.head _ | apply List.Mem.tail))) (hS.inB_of (by repeat (first | exact List.Mem.head _ | apply List.Mem.tail))) hroom) rfl rfl rfl ?_; rintro v w ⟨rfl, hm⟩; have hS := hS.mut hm (by repeat (first | exact Repl.here | apply Repl.there)); clear hm)
            | (refine WL.callG rfl rfl (rpush_ff _ _ _ _ _ _ (hS.holds _ (by repeat (first | exact List.Mem.head _ | apply List.Mem.tail))) (hS.inB_of (by repeat (first | exact List.Mem.head _ | apply List.Mem.tail))) hroom) rfl rfl rfl ?_; rintro v w ⟨rfl, fp, hm⟩; have hS := hS.mut hm (by repeat (first | exact Repl.here | apply Repl.there)); clear hm)
            | (refine WL.callG rfl rfl (qnext_c _ _ _ _ _ (hS.holds _ (by repeat (first | exact List.Mem.head _ | apply List.Mem.tail))) (hS.inB_of (by repeat (first | exact List.Mem.head _ | apply List.Mem.tail)))) rfl rfl rfl ?_; rintro v w ⟨rfl, hm⟩; have hS := hS.mut hm (by repeat (first | exact Repl.here | apply Repl.there)); clear hm)
            | (refine WL.callG rfl rfl (rnext_c _ _ _ _ _ (hS.holds _ (by repeat (first | exact List.Mem.head _ | apply List.Mem.tail))) (hS.inB_of (by repeat (first | exact List.Mem.head _ | apply List.Mem.tail)))) rfl rfl rfl ?_; rintro v w ⟨rfl, fp, hm⟩; have hS := hS.mut hm (by repeat (first | exact Repl.here | apply Repl.there)); clear hm)
            | (refine WL.store hS rfl rfl rfl (by repeat (first | exact StB.here rfl | apply StB.there)) rfl rfl rfl ?_; intro w hS)
            | (refine WL.box hS rfl rfl rfl rfl rfl ?_; intro w b hS)
            | (refine WL.alloc hS rfl rfl rfl rfl rfl rfl ?_; intro w b hS)
            | refine WL.index rfl rfl rfl rfl (by first | with_reducible assumption | omega) rfl rfl rfl rfl ?_
            | refine WL.index (j := 0) rfl rfl rfl rfl (by omega) rfl rfl rfl rfl ?_
            | refine WL.indexArr rfl rfl rfl rfl (by decide) rfl rfl rfl ?_
            | refine WL.skip rfl rfl rfl ?_
            | refine WL.build rfl rfl rfl rfl rfl ?_
            | (refine WL.slit hS rfl rfl rfl rfl rfl ?_; intro w b hS)
            | refine WL.eqS rfl rfl rfl rfl (by kernel_rfl) rfl rfl rfl ?_
            | refine WL.neS rfl rfl rfl rfl (by kernel_rfl) rfl rfl rfl ?_
            | ((fail_if_success (refine WL.wanted rfl ?_)); refine WL.guard rfl rfl rfl (fun h => ?_) (fun h => ?_) <;> (try simp only [decide_eq_true_eq, decide_eq_false_iff_not] at h) <;> (try (exfalso; omega))))
          | (show WC _ _ _ _ _ _; first
            | refine WC.seq ?_
            | refine WC.region ?_
            | refine WC.block ?_
            | refine WC.skip ?_
            | refine WC.exit ?_
            | refine WC.ret ?_
            | refine WC.condT rfl (by with_reducible rfl) ?_
            | refine WC.condF rfl (by with_reducible rfl) ?_
            | refine WC.condT rfl (by decide) ?_
            | refine WC.condF rfl (by decide) ?_
            | refine WC.condT rfl (decide_eq_true (by first | with_reducible assumption | omega)) ?_
            | refine WC.condF rfl (decide_eq_false (by first | with_reducible assumption | omega)) ?_
            | refine WC.condT rfl (by first | (simp; done) | (simp; omega)) ?_
            | refine WC.condF rfl (by first | (simp; done) | (simp; omega)) ?_
            | (refine WC.cond rfl (fun h => ?_) (fun h => ?_) <;> (try simp only [Bool.not_eq_true', Bool.not_eq_false', Bool.not_eq_eq_eq_not, Bool.not_true, Bool.not_false, beq_iff_eq, beq_eq_false_iff_ne, ne_eq, decide_eq_decide, decide_eq_true_eq, decide_eq_false_iff_not, Bool.and_eq_true, Bool.or_eq_true, Bool.and_eq_false_iff, Bool.or_eq_false_iff] at h) <;> (try (exfalso; omega))))
          | (show WD _ _ _ _ _ _ _ _ _; first
            | refine WD.pure rfl rfl rfl rfl rfl ?_
            | refine WD.nil ?_
            | refine WD.load rfl rfl (LdOk.box (by repeat (first | exact List.Mem.head _ | apply List.Mem.tail)) rfl) rfl rfl rfl rfl ?_
            | refine WD.add rfl rfl rfl (by omega) rfl rfl rfl rfl ?_
            | refine WD.sub rfl rfl rfl (by omega) rfl rfl rfl rfl ?_
            | refine WD.index rfl rfl rfl rfl (by first | with_reducible assumption | omega) rfl rfl rfl rfl rfl ?_
            | refine WD.index (j := 0) rfl rfl rfl rfl (by omega) rfl rfl rfl rfl rfl ?_
            | refine WD.indexArr rfl rfl rfl rfl (by decide) rfl rfl rfl rfl ?_
            | refine WD.pass rfl rfl rfl rfl ?_
            | refine WD.build rfl rfl rfl rfl rfl rfl ?_
            | (refine WD.slit hS hM rfl rfl rfl rfl rfl rfl rfl ?_; intro w b hS hM)
            | refine WD.eqS rfl rfl rfl rfl (by kernel_rfl) rfl rfl rfl rfl ?_
            | refine WD.neS rfl rfl rfl rfl (by kernel_rfl) rfl rfl rfl rfl ?_
            | (refine WD.box hS hM rfl rfl rfl rfl rfl rfl rfl ?_; intro w b hS hM)
            | ((fail_if_success (refine WD.wanted rfl ?_)); refine WD.guard rfl rfl rfl (fun h => ?_) (fun h => ?_) <;> (try simp only [decide_eq_true_eq, decide_eq_false_iff_not] at h) <;> (try (exfalso; omega))))
          | refine seqQ_n ?_
          | refine blkQ_n ?_
          | refine seqQ_x ?_
          | refine seqQ_r ?_
          | refine blkQ_r ?_
          | refine blkQ_hit rfl ?_
          | refine blkQ_miss rfl ?_
          | refine rndQ_x ?_
          | refine rndQ_r ?_
          | refine rdQ_n ?_
          | refine rdQ_x ?_
          | refine rdQ_r ?_
          | refine cutQ_n ?_
          | refine cutQ_r ?_
          | refine cutQ_miss rfl ?_
          | refine endQ_x ?_
          | refine endQ_r ?_)
        obtain ⟨D, ⟨Au, nu, cu, As, ns, cs, hu, hs, rfl⟩, hfp, hS⟩ := (hS.drop.pull (.there .here)).objOpen
        have hS : St _ _ _ [_, _, _, _, _, _] _ := hS
        have hu' := hu
        have hs' := hs
        try simp only [List.length_append, List.length_cons, List.length_nil, nextU, nextS] at hu'
        try simp only [List.length_append, List.length_cons, List.length_nil, nextU, nextS] at hs'
        repeat' (first
          | (show WL _ _ _ _ _ _ _; first
            | refine WL.pure rfl rfl rfl rfl ?_
            | refine WL.nil ?_
            | refine WL.load hS rfl rfl (LdOk.box (by repeat (first | exact List.Mem.head _ | apply List.Mem.tail)) rfl) rfl rfl rfl ?_
            | refine WL.add rfl rfl rfl (by omega) rfl rfl rfl ?_
            | refine WL.sub rfl rfl rfl (by omega) rfl rfl rfl ?_
            | (refine WL.store hS rfl rfl rfl (by repeat (first | exact StB.here rfl | apply StB.there)) rfl rfl rfl ?_; intro w hS)
            | (refine WL.box hS rfl rfl rfl rfl rfl ?_; intro w b hS)
            | (refine WL.alloc hS rfl rfl rfl rfl rfl rfl ?_; intro w b hS)
            | refine WL.index rfl rfl rfl rfl (by first | with_reducible assumption | omega) rfl rfl rfl rfl ?_
            | refine WL.index (j := 0) rfl rfl rfl rfl (by omega) rfl rfl rfl rfl ?_
            | refine WL.indexArr rfl rfl rfl rfl (by decide) rfl rfl rfl ?_
            | refine WL.skip rfl rfl rfl ?_
            | refine WL.build rfl rfl rfl rfl rfl ?_
            | (refine WL.slit hS rfl rfl rfl rfl rfl ?_; intro w b hS)
            | refine WL.eqS rfl rfl rfl rfl (by kernel_rfl) rfl rfl rfl ?_
            | refine WL.neS rfl rfl rfl rfl (by kernel_rfl) rfl rfl rfl ?_
            | ((fail_if_success (refine WL.wanted rfl ?_)); refine WL.guard rfl rfl rfl (fun h => ?_) (fun h => ?_) <;> (try simp only [decide_eq_true_eq, decide_eq_false_iff_not] at h) <;> (try (exfalso; omega))))
          | (show WC _ _ _ _ _ _; first
            | refine WC.seq ?_
            | refine WC.region ?_
            | refine WC.block ?_
            | refine WC.skip ?_
            | refine WC.exit ?_
            | refine WC.ret ?_
            | (refine WC.drawS hS [0,2,3,4,5,6,7,8,9,10,11,12,13] [0,2,3,4,5,6,7,8,9,10,11,12,1,13] (by kernel_rfl) (by kernel_rfl) ?_; intro w hS hM)
            | refine WC.condT rfl (by with_reducible rfl) ?_
            | refine WC.condF rfl (by with_reducible rfl) ?_
            | refine WC.condT rfl (by decide) ?_
            | refine WC.condF rfl (by decide) ?_
            | refine WC.condT rfl (decide_eq_true (by first | with_reducible assumption | omega)) ?_
            | refine WC.condF rfl (decide_eq_false (by first | with_reducible assumption | omega)) ?_
            | refine WC.condT rfl (by first | (simp; done) | (simp; omega)) ?_
            | refine WC.condF rfl (by first | (simp; done) | (simp; omega)) ?_
            | (refine WC.cond rfl (fun h => ?_) (fun h => ?_) <;> (try simp only [Bool.not_eq_true', Bool.not_eq_false', Bool.not_eq_eq_eq_not, Bool.not_true, Bool.not_false, beq_iff_eq, beq_eq_false_iff_ne, ne_eq, decide_eq_decide, decide_eq_true_eq, decide_eq_false_iff_not, Bool.and_eq_true, Bool.or_eq_true, Bool.and_eq_false_iff, Bool.or_eq_false_iff] at h) <;> (try (exfalso; omega))))
          | (show WD _ _ _ _ _ _ _ _ _; first
            | refine WD.pure rfl rfl rfl rfl rfl ?_
            | refine WD.nil ?_
            | refine WD.load rfl rfl (LdOk.box (by repeat (first | exact List.Mem.head _ | apply List.Mem.tail)) rfl) rfl rfl rfl rfl ?_
            | refine WD.add rfl rfl rfl (by omega) rfl rfl rfl rfl ?_
            | refine WD.sub rfl rfl rfl (by omega) rfl rfl rfl rfl ?_
            | (refine WD.callG rfl rfl (qlen_c _ _ _ _ _ (hS.holds _ (by repeat (first | exact List.Mem.head _ | apply List.Mem.tail))) (hS.inB_of (by repeat (first | exact List.Mem.head _ | apply List.Mem.tail))) (by omega) (by omega)) rfl rfl rfl rfl rfl ?_; rintro v w ⟨rfl, hm⟩; have hS := hS.mut hm (by repeat (first | exact Repl.here | apply Repl.there)); clear hm; refine ⟨hM.ss hS, ?_⟩)
            | refine WD.index rfl rfl rfl rfl (by first | with_reducible assumption | omega) rfl rfl rfl rfl rfl ?_
            | refine WD.index (j := 0) rfl rfl rfl rfl (by omega) rfl rfl rfl rfl rfl ?_
            | refine WD.indexArr rfl rfl rfl rfl (by decide) rfl rfl rfl rfl ?_
            | refine WD.pass rfl rfl rfl rfl ?_
            | refine WD.build rfl rfl rfl rfl rfl rfl ?_
            | (refine WD.slit hS hM rfl rfl rfl rfl rfl rfl rfl ?_; intro w b hS hM)
            | refine WD.eqS rfl rfl rfl rfl (by kernel_rfl) rfl rfl rfl rfl ?_
            | refine WD.neS rfl rfl rfl rfl (by kernel_rfl) rfl rfl rfl rfl ?_
            | (refine WD.box hS hM rfl rfl rfl rfl rfl rfl rfl ?_; intro w b hS hM)
            | ((fail_if_success (refine WD.wanted rfl ?_)); refine WD.guard rfl rfl rfl (fun h => ?_) (fun h => ?_) <;> (try simp only [decide_eq_true_eq, decide_eq_false_iff_not] at h) <;> (try (exfalso; omega))))
          | refine seqQ_n ?_
          | refine blkQ_n ?_
          | refine seqQ_x ?_
          | refine seqQ_r ?_
          | refine blkQ_r ?_
          | refine blkQ_hit rfl ?_
          | refine blkQ_miss rfl ?_
          | refine rndQ_x ?_
          | refine rndQ_r ?_
          | refine rdQ_n ?_
          | refine rdQ_x ?_
          | refine rdQ_r ?_
          | refine cutQ_n ?_
          | refine cutQ_r ?_
          | refine cutQ_miss rfl ?_
          | refine endQ_x ?_
          | refine endQ_r ?_)
        have hS := ((St.objClose (D := [_, _, _]) (φ := rqF _ _ _) hS ⟨Au, nu, cu, As, ns, cs, hu, hs, rfl⟩).unpull (.there .here))
        first
          | exact rndQ_n (⟨k + 1, _, _, _, _, _, _, _, _⟩ : PSt) ⟨by show k + 1 ≤ _; omega, lu1, ls1, by dsimp only; omega, by dsimp only; omega, hS⟩ (by show l.length - (k + 1) < l.length - k; omega) ⟨vint (by dsimp only; omega), trivial⟩ ⟨rfl, rfl, rfl, rfl, rfl, trivial⟩
    · rcases stepCases kind u1 s1 with ⟨rfl, hroom⟩ | ⟨rfl, hroom⟩ | ⟨rfl, hroom⟩ | ⟨rfl, hroom⟩ | ⟨rfl, x, u1, rfl⟩ | ⟨rfl, rfl, x, s1, rfl⟩ | ⟨rfl, rfl, rfl⟩ | ⟨h1, h2, h3⟩
      all_goals
        try simp only [List.length_cons, List.length_nil] at lu1 ls1
        repeat' (first
          | (show WL _ _ _ _ _ _ _; first
            | refine WL.pure rfl rfl rfl rfl ?_
            | refine WL.nil ?_
            | refine WL.load hS rfl rfl (LdOk.box (by repeat (first | exact List.Mem.head _ | apply List.Mem.tail)) rfl) rfl rfl rfl ?_
            | refine WL.add rfl rfl rfl (by omega) rfl rfl rfl ?_
            | refine WL.sub rfl rfl rfl (by omega) rfl rfl rfl ?_
            | refine WL.rem rfl rfl rfl (by omega) (by omega) rfl rfl rfl ?_
            | refine WL.load hS rfl rfl (LdOk.snap0 hF hr (by repeat (first | exact List.Mem.head _ | apply List.Mem.tail)) rfl) rfl rfl rfl ?_
            | (refine WL.callG rfl rfl (qpush_t _ _ _ _ _ _ (hS.holds _ (by repeat (first | exact List.Mem.head _ | apply List.Mem.tail))) (hS.inB_of (by repeat (first | exact List.Mem.head _ | apply List.Mem.tail))) hroom) rfl rfl rfl ?_; rintro v w ⟨rfl, hm⟩; have hS := hS.mut hm (by repeat (first | exact Repl.here | apply Repl.there)); clear hm)
            | (refine WL.callG rfl rfl (rpush_t _ _ _ _ _ _ (hS.holds _ (by repeat (first | exact List.Mem.head _ | apply List.Mem.tail))) (hS.inB_of (by repeat (first | exact List.Mem.head _ | apply List.Mem.tail))) hroom) rfl rfl rfl ?_; rintro v w ⟨rfl, fp, hm⟩; have hS := hS.mut hm (by repeat (first | exact Repl.here | apply Repl.there)); clear hm)
            | (refine WL.callG rfl rfl (qpush_tf _ _ _ _ _ _ (hS.holds _ (by repeat (first | exact List.Mem.head _ | apply List.Mem.tail))) (hS.inB_of (by repeat (first | exact List.Mem.head _ | apply List.Mem.tail))) hroom) rfl rfl rfl ?_; rintro v w ⟨rfl, hm⟩; have hS := hS.mut hm (by repeat (first | exact Repl.here | apply Repl.there)); clear hm)
            | (refine WL.callG rfl rfl (rpush_tf _ _ _ _ _ _ (hS.holds _ (by repeat (first | exact List.Mem.head _ | apply List.Mem.tail))) (hS.inB_of (by repeat (first | exact List.Mem.head _ | apply List.Mem.tail))) hroom) rfl rfl rfl ?_; rintro v w ⟨rfl, fp, hm⟩; have hS := hS.mut hm (by repeat (first | exact Repl.here | apply Repl.there)); clear hm)
            | (refine WL.callG rfl rfl (qpush_f _ _ _ _ _ _ (hS.holds _ (by repeat (first | exact List.Mem.head _ | apply List.Mem.tail))) (hS.inB_of (by repeat (first | exact List.Mem.head _ | apply List.Mem.tail))) hroom) rfl rfl rfl ?_; rintro v w ⟨rfl, hm⟩; have hS := hS.mut hm (by repeat (first | exact Repl.here | apply Repl.there)); clear hm)
            | (refine WL.callG rfl rfl (rpush_f _ _ _ _ _ _ (hS.holds _ (by repeat (first | exact List.Mem.head _ | apply List.Mem.tail))) (hS.inB_of (by repeat (first | exact List.Mem.head _ | apply List.Mem.tail))) hroom) rfl rfl rfl ?_; rintro v w ⟨rfl, fp, hm⟩; have hS := hS.mut hm (by repeat (first | exact Repl.here | apply Repl.there)); clear hm)
            | (refine WL.callG rfl rfl (qpush_ff _ _ _ _ _ _ (hS.holds _ (by repeat (first | exact List.Mem.head _ | apply List.Mem.tail))) (hS.inB_of (by repeat (first | exact List.Mem.head _ | apply List.Mem.tail))) hroom) rfl rfl rfl ?_; rintro v w ⟨rfl, hm⟩; have hS := hS.mut hm (by repeat (first | exact Repl.here | apply Repl.there)); clear hm)
            | (refine WL.callG rfl rfl (rpush_ff _ _ _ _ _ _ (hS.holds _ (by repeat (first | exact List.Mem.head _ | apply List.Mem.tail))) (hS.inB_of (by repeat (first | exact List.Mem.head _ | apply List.Mem.tail))) hroom) rfl rfl rfl ?_; rintro v w ⟨rfl, fp, hm⟩; have hS := hS.mut hm (by repeat (first | exact Repl.here | apply Repl.there)); clear hm)
            | (refine WL.callG rfl rfl (qnext_c _ _ _ _ _ (hS.holds _ (by repeat (first | exact List.Mem.head _ | apply List.Mem.tail))) (hS.inB_of (by repeat (first | exact List.Mem.head _ | apply List.Mem.tail)))) rfl rfl rfl ?_; rintro v w ⟨rfl, hm⟩; have hS := hS.mut hm (by repeat (first | exact Repl.here | apply Repl.there)); clear hm)
            | (refine WL.callG rfl rfl (rnext_c _ _ _ _ _ (hS.holds _ (by repeat (first | exact List.Mem.head _ | apply List.Mem.tail))) (hS.inB_of (by repeat (first | exact List.Mem.head _ | apply List.Mem.tail)))) rfl rfl rfl ?_; rintro v w ⟨rfl, fp, hm⟩; have hS := hS.mut hm (by repeat (first | exact Repl.here | apply Repl.there)); clear hm)
            | (refine WL.store hS rfl rfl rfl (by repeat (first | exact StB.here rfl | apply StB.there)) rfl rfl rfl ?_; intro w hS)
            | (refine WL.box hS rfl rfl rfl rfl rfl ?_; intro w b hS)
            | (refine WL.alloc hS rfl rfl rfl rfl rfl rfl ?_; intro w b hS)
            | refine WL.index rfl rfl rfl rfl (by first | with_reducible assumption | omega) rfl rfl rfl rfl ?_
            | refine WL.index (j := 0) rfl rfl rfl rfl (by omega) rfl rfl rfl rfl ?_
            | refine WL.indexArr rfl rfl rfl rfl (by decide) rfl rfl rfl ?_
            | refine WL.skip rfl rfl rfl ?_
            | refine WL.build rfl rfl rfl rfl rfl ?_
            | (refine WL.slit hS rfl rfl rfl rfl rfl ?_; intro w b hS)
            | refine WL.eqS rfl rfl rfl rfl (by kernel_rfl) rfl rfl rfl ?_
            | refine WL.neS rfl rfl rfl rfl (by kernel_rfl) rfl rfl rfl ?_
            | ((fail_if_success (refine WL.wanted rfl ?_)); refine WL.guard rfl rfl rfl (fun h => ?_) (fun h => ?_) <;> (try simp only [decide_eq_true_eq, decide_eq_false_iff_not] at h) <;> (try (exfalso; omega))))
          | (show WC _ _ _ _ _ _; first
            | refine WC.seq ?_
            | refine WC.region ?_
            | refine WC.block ?_
            | refine WC.skip ?_
            | refine WC.exit ?_
            | refine WC.ret ?_
            | refine WC.condT rfl (by with_reducible rfl) ?_
            | refine WC.condF rfl (by with_reducible rfl) ?_
            | refine WC.condT rfl (by decide) ?_
            | refine WC.condF rfl (by decide) ?_
            | refine WC.condT rfl (decide_eq_true (by first | with_reducible assumption | omega)) ?_
            | refine WC.condF rfl (decide_eq_false (by first | with_reducible assumption | omega)) ?_
            | refine WC.condT rfl (by first | (simp; done) | (simp; omega)) ?_
            | refine WC.condF rfl (by first | (simp; done) | (simp; omega)) ?_
            | (refine WC.cond rfl (fun h => ?_) (fun h => ?_) <;> (try simp only [Bool.not_eq_true', Bool.not_eq_false', Bool.not_eq_eq_eq_not, Bool.not_true, Bool.not_false, beq_iff_eq, beq_eq_false_iff_ne, ne_eq, decide_eq_decide, decide_eq_true_eq, decide_eq_false_iff_not, Bool.and_eq_true, Bool.or_eq_true, Bool.and_eq_false_iff, Bool.or_eq_false_iff] at h) <;> (try (exfalso; omega))))
          | (show WD _ _ _ _ _ _ _ _ _; first
            | refine WD.pure rfl rfl rfl rfl rfl ?_
            | refine WD.nil ?_
            | refine WD.load rfl rfl (LdOk.box (by repeat (first | exact List.Mem.head _ | apply List.Mem.tail)) rfl) rfl rfl rfl rfl ?_
            | refine WD.add rfl rfl rfl (by omega) rfl rfl rfl rfl ?_
            | refine WD.sub rfl rfl rfl (by omega) rfl rfl rfl rfl ?_
            | refine WD.index rfl rfl rfl rfl (by first | with_reducible assumption | omega) rfl rfl rfl rfl rfl ?_
            | refine WD.index (j := 0) rfl rfl rfl rfl (by omega) rfl rfl rfl rfl rfl ?_
            | refine WD.indexArr rfl rfl rfl rfl (by decide) rfl rfl rfl rfl ?_
            | refine WD.pass rfl rfl rfl rfl ?_
            | refine WD.build rfl rfl rfl rfl rfl rfl ?_
            | (refine WD.slit hS hM rfl rfl rfl rfl rfl rfl rfl ?_; intro w b hS hM)
            | refine WD.eqS rfl rfl rfl rfl (by kernel_rfl) rfl rfl rfl rfl ?_
            | refine WD.neS rfl rfl rfl rfl (by kernel_rfl) rfl rfl rfl rfl ?_
            | (refine WD.box hS hM rfl rfl rfl rfl rfl rfl rfl ?_; intro w b hS hM)
            | ((fail_if_success (refine WD.wanted rfl ?_)); refine WD.guard rfl rfl rfl (fun h => ?_) (fun h => ?_) <;> (try simp only [decide_eq_true_eq, decide_eq_false_iff_not] at h) <;> (try (exfalso; omega))))
          | refine seqQ_n ?_
          | refine blkQ_n ?_
          | refine seqQ_x ?_
          | refine seqQ_r ?_
          | refine blkQ_r ?_
          | refine blkQ_hit rfl ?_
          | refine blkQ_miss rfl ?_
          | refine rndQ_x ?_
          | refine rndQ_r ?_
          | refine rdQ_n ?_
          | refine rdQ_x ?_
          | refine rdQ_r ?_
          | refine cutQ_n ?_
          | refine cutQ_r ?_
          | refine cutQ_miss rfl ?_
          | refine endQ_x ?_
          | refine endQ_r ?_)
        obtain ⟨D, ⟨Au, nu, cu, As, ns, cs, hu, hs, rfl⟩, hfp, hS⟩ := (hS.drop).objOpen
        have hS : St _ _ _ [_, _, _, _, _, _] _ := hS
        have hu' := hu
        have hs' := hs
        try simp only [List.length_append, List.length_cons, List.length_nil, nextU, nextS] at hu'
        try simp only [List.length_append, List.length_cons, List.length_nil, nextU, nextS] at hs'
        repeat' (first
          | (show WL _ _ _ _ _ _ _; first
            | refine WL.pure rfl rfl rfl rfl ?_
            | refine WL.nil ?_
            | refine WL.load hS rfl rfl (LdOk.box (by repeat (first | exact List.Mem.head _ | apply List.Mem.tail)) rfl) rfl rfl rfl ?_
            | refine WL.add rfl rfl rfl (by omega) rfl rfl rfl ?_
            | refine WL.sub rfl rfl rfl (by omega) rfl rfl rfl ?_
            | (refine WL.store hS rfl rfl rfl (by repeat (first | exact StB.here rfl | apply StB.there)) rfl rfl rfl ?_; intro w hS)
            | (refine WL.box hS rfl rfl rfl rfl rfl ?_; intro w b hS)
            | (refine WL.alloc hS rfl rfl rfl rfl rfl rfl ?_; intro w b hS)
            | refine WL.index rfl rfl rfl rfl (by first | with_reducible assumption | omega) rfl rfl rfl rfl ?_
            | refine WL.index (j := 0) rfl rfl rfl rfl (by omega) rfl rfl rfl rfl ?_
            | refine WL.indexArr rfl rfl rfl rfl (by decide) rfl rfl rfl ?_
            | refine WL.skip rfl rfl rfl ?_
            | refine WL.build rfl rfl rfl rfl rfl ?_
            | (refine WL.slit hS rfl rfl rfl rfl rfl ?_; intro w b hS)
            | refine WL.eqS rfl rfl rfl rfl (by kernel_rfl) rfl rfl rfl ?_
            | refine WL.neS rfl rfl rfl rfl (by kernel_rfl) rfl rfl rfl ?_
            | ((fail_if_success (refine WL.wanted rfl ?_)); refine WL.guard rfl rfl rfl (fun h => ?_) (fun h => ?_) <;> (try simp only [decide_eq_true_eq, decide_eq_false_iff_not] at h) <;> (try (exfalso; omega))))
          | (show WC _ _ _ _ _ _; first
            | refine WC.seq ?_
            | refine WC.region ?_
            | refine WC.block ?_
            | refine WC.skip ?_
            | refine WC.exit ?_
            | refine WC.ret ?_
            | (refine WC.drawS hS [0,2,3,4,5,6,7,8,9,10,11,12,13] [0,2,3,4,5,6,7,8,9,10,11,12,1,13] (by kernel_rfl) (by kernel_rfl) ?_; intro w hS hM)
            | refine WC.condT rfl (by with_reducible rfl) ?_
            | refine WC.condF rfl (by with_reducible rfl) ?_
            | refine WC.condT rfl (by decide) ?_
            | refine WC.condF rfl (by decide) ?_
            | refine WC.condT rfl (decide_eq_true (by first | with_reducible assumption | omega)) ?_
            | refine WC.condF rfl (decide_eq_false (by first | with_reducible assumption | omega)) ?_
            | refine WC.condT rfl (by first | (simp; done) | (simp; omega)) ?_
            | refine WC.condF rfl (by first | (simp; done) | (simp; omega)) ?_
            | (refine WC.cond rfl (fun h => ?_) (fun h => ?_) <;> (try simp only [Bool.not_eq_true', Bool.not_eq_false', Bool.not_eq_eq_eq_not, Bool.not_true, Bool.not_false, beq_iff_eq, beq_eq_false_iff_ne, ne_eq, decide_eq_decide, decide_eq_true_eq, decide_eq_false_iff_not, Bool.and_eq_true, Bool.or_eq_true, Bool.and_eq_false_iff, Bool.or_eq_false_iff] at h) <;> (try (exfalso; omega))))
          | (show WD _ _ _ _ _ _ _ _ _; first
            | refine WD.pure rfl rfl rfl rfl rfl ?_
            | refine WD.nil ?_
            | refine WD.load rfl rfl (LdOk.box (by repeat (first | exact List.Mem.head _ | apply List.Mem.tail)) rfl) rfl rfl rfl rfl ?_
            | refine WD.add rfl rfl rfl (by omega) rfl rfl rfl rfl ?_
            | refine WD.sub rfl rfl rfl (by omega) rfl rfl rfl rfl ?_
            | (refine WD.callG rfl rfl (qlen_c _ _ _ _ _ (hS.holds _ (by repeat (first | exact List.Mem.head _ | apply List.Mem.tail))) (hS.inB_of (by repeat (first | exact List.Mem.head _ | apply List.Mem.tail))) (by omega) (by omega)) rfl rfl rfl rfl rfl ?_; rintro v w ⟨rfl, hm⟩; have hS := hS.mut hm (by repeat (first | exact Repl.here | apply Repl.there)); clear hm; refine ⟨hM.ss hS, ?_⟩)
            | refine WD.index rfl rfl rfl rfl (by first | with_reducible assumption | omega) rfl rfl rfl rfl rfl ?_
            | refine WD.index (j := 0) rfl rfl rfl rfl (by omega) rfl rfl rfl rfl rfl ?_
            | refine WD.indexArr rfl rfl rfl rfl (by decide) rfl rfl rfl rfl ?_
            | refine WD.pass rfl rfl rfl rfl ?_
            | refine WD.build rfl rfl rfl rfl rfl rfl ?_
            | (refine WD.slit hS hM rfl rfl rfl rfl rfl rfl rfl ?_; intro w b hS hM)
            | refine WD.eqS rfl rfl rfl rfl (by kernel_rfl) rfl rfl rfl rfl ?_
            | refine WD.neS rfl rfl rfl rfl (by kernel_rfl) rfl rfl rfl rfl ?_
            | (refine WD.box hS hM rfl rfl rfl rfl rfl rfl rfl ?_; intro w b hS hM)
            | ((fail_if_success (refine WD.wanted rfl ?_)); refine WD.guard rfl rfl rfl (fun h => ?_) (fun h => ?_) <;> (try simp only [decide_eq_true_eq, decide_eq_false_iff_not] at h) <;> (try (exfalso; omega))))
          | refine seqQ_n ?_
          | refine blkQ_n ?_
          | refine seqQ_x ?_
          | refine seqQ_r ?_
          | refine blkQ_r ?_
          | refine blkQ_hit rfl ?_
          | refine blkQ_miss rfl ?_
          | refine rndQ_x ?_
          | refine rndQ_r ?_
          | refine rdQ_n ?_
          | refine rdQ_x ?_
          | refine rdQ_r ?_
          | refine cutQ_n ?_
          | refine cutQ_r ?_
          | refine cutQ_miss rfl ?_
          | refine endQ_x ?_
          | refine endQ_r ?_)
        have hS := ((St.objClose (D := [_, _, _]) (φ := rqF _ _ _) hS ⟨Au, nu, cu, As, ns, cs, hu, hs, rfl⟩))
        first
          | exact rndQ_n (⟨k + 1, _, _, _, _, _, _, _, _⟩ : PSt) ⟨by show k + 1 ≤ _; omega, by dsimp only; omega, by dsimp only; omega, lu2, ls2, hS⟩ (by show l.length - (k + 1) < l.length - k; omega) ⟨vint (by dsimp only; omega), trivial⟩ ⟨rfl, rfl, rfl, rfl, rfl, trivial⟩
  · have hge : l.length ≤ k ∨ 400 ≤ k := by omega
    rcases hge with hge | hge
    all_goals
      repeat' (first
        | (show WL _ _ _ _ _ _ _; first
          | refine WL.pure rfl rfl rfl rfl ?_
          | refine WL.nil ?_
          | refine WL.load hS rfl rfl (LdOk.box (by repeat (first | exact List.Mem.head _ | apply List.Mem.tail)) rfl) rfl rfl rfl ?_
          | refine WL.add rfl rfl rfl (by omega) rfl rfl rfl ?_
          | refine WL.sub rfl rfl rfl (by omega) rfl rfl rfl ?_
          | (refine WL.store hS rfl rfl rfl (by repeat (first | exact StB.here rfl | apply StB.there)) rfl rfl rfl ?_; intro w hS)
          | (refine WL.box hS rfl rfl rfl rfl rfl ?_; intro w b hS)
          | (refine WL.alloc hS rfl rfl rfl rfl rfl rfl ?_; intro w b hS)
          | refine WL.index rfl rfl rfl rfl (by first | with_reducible assumption | omega) rfl rfl rfl rfl ?_
          | refine WL.index (j := 0) rfl rfl rfl rfl (by omega) rfl rfl rfl rfl ?_
          | refine WL.indexArr rfl rfl rfl rfl (by decide) rfl rfl rfl ?_
          | refine WL.skip rfl rfl rfl ?_
          | refine WL.build rfl rfl rfl rfl rfl ?_
          | (refine WL.slit hS rfl rfl rfl rfl rfl ?_; intro w b hS)
          | refine WL.eqS rfl rfl rfl rfl (by kernel_rfl) rfl rfl rfl ?_
          | refine WL.neS rfl rfl rfl rfl (by kernel_rfl) rfl rfl rfl ?_
          | ((fail_if_success (refine WL.wanted rfl ?_)); refine WL.guard rfl rfl rfl (fun h => ?_) (fun h => ?_) <;> (try simp only [decide_eq_true_eq, decide_eq_false_iff_not] at h) <;> (try (exfalso; omega))))
        | (show WC _ _ _ _ _ _; first
          | refine WC.seq ?_
          | refine WC.region ?_
          | refine WC.block ?_
          | refine WC.skip ?_
          | refine WC.exit ?_
          | refine WC.ret ?_
          | refine WC.condT rfl (by with_reducible rfl) ?_
          | refine WC.condF rfl (by with_reducible rfl) ?_
          | refine WC.condT rfl (by decide) ?_
          | refine WC.condF rfl (by decide) ?_
          | refine WC.condT rfl (decide_eq_true (by first | with_reducible assumption | omega)) ?_
          | refine WC.condF rfl (decide_eq_false (by first | with_reducible assumption | omega)) ?_
          | refine WC.condT rfl (by first | (simp; done) | (simp; omega)) ?_
          | refine WC.condF rfl (by first | (simp; done) | (simp; omega)) ?_
          | (refine WC.cond rfl (fun h => ?_) (fun h => ?_) <;> (try simp only [Bool.not_eq_true', Bool.not_eq_false', Bool.not_eq_eq_eq_not, Bool.not_true, Bool.not_false, beq_iff_eq, beq_eq_false_iff_ne, ne_eq, decide_eq_decide, decide_eq_true_eq, decide_eq_false_iff_not, Bool.and_eq_true, Bool.or_eq_true, Bool.and_eq_false_iff, Bool.or_eq_false_iff] at h) <;> (try (exfalso; omega))))
        | (show WD _ _ _ _ _ _ _ _ _; first
          | refine WD.pure rfl rfl rfl rfl rfl ?_
          | refine WD.nil ?_
          | refine WD.load rfl rfl (LdOk.box (by repeat (first | exact List.Mem.head _ | apply List.Mem.tail)) rfl) rfl rfl rfl rfl ?_
          | refine WD.add rfl rfl rfl (by omega) rfl rfl rfl rfl ?_
          | refine WD.sub rfl rfl rfl (by omega) rfl rfl rfl rfl ?_
          | refine WD.index rfl rfl rfl rfl (by first | with_reducible assumption | omega) rfl rfl rfl rfl rfl ?_
          | refine WD.index (j := 0) rfl rfl rfl rfl (by omega) rfl rfl rfl rfl rfl ?_
          | refine WD.indexArr rfl rfl rfl rfl (by decide) rfl rfl rfl rfl ?_
          | refine WD.pass rfl rfl rfl rfl ?_
          | refine WD.build rfl rfl rfl rfl rfl rfl ?_
          | (refine WD.slit hS hM rfl rfl rfl rfl rfl rfl rfl ?_; intro w b hS hM)
          | refine WD.eqS rfl rfl rfl rfl (by kernel_rfl) rfl rfl rfl rfl ?_
          | refine WD.neS rfl rfl rfl rfl (by kernel_rfl) rfl rfl rfl rfl ?_
          | (refine WD.box hS hM rfl rfl rfl rfl rfl rfl rfl ?_; intro w b hS hM)
          | ((fail_if_success (refine WD.wanted rfl ?_)); refine WD.guard rfl rfl rfl (fun h => ?_) (fun h => ?_) <;> (try simp only [decide_eq_true_eq, decide_eq_false_iff_not] at h) <;> (try (exfalso; omega))))
        | refine seqQ_n ?_
        | refine blkQ_n ?_
        | refine seqQ_x ?_
        | refine seqQ_r ?_
        | refine blkQ_r ?_
        | refine blkQ_hit rfl ?_
        | refine blkQ_miss rfl ?_
        | refine rndQ_x ?_
        | refine rndQ_r ?_
        | refine rdQ_n ?_
        | refine rdQ_x ?_
        | refine rdQ_r ?_
        | refine cutQ_n ?_
        | refine cutQ_r ?_
        | refine cutQ_miss rfl ?_
        | refine endQ_x ?_
        | refine endQ_r ?_)
      all_goals exact fin1r rfl rfl ⟨hS.upd, rfl⟩

theorem open_stp : Opens Try.prog 45 cStp (fun _ b => 1 ≤ b) := by
  intro H enc W fuel cs x h
  obtain ⟨xs, n, _, rfl, hlen, hxl, hf⟩ := DataW.trod_struct Try.underlying45 h
  obtain ⟨x0, x1, rfl⟩ := list2' hxl
  obtain ⟨c0, c1, rfl⟩ := list2' (hlen.trans (by kernel_rfl))
  obtain ⟨n0, e0⟩ := open_int1 (show DataW.trod enc Try.prog W 0 _ true n 3 [c0] = some x0 from hf 0 _ rfl)
  obtain ⟨n1, e1⟩ := open_int1 (show DataW.trod enc Try.prog W 0 _ true n 3 [c1] = some x1 from hf 1 _ rfl)
  simp only [List.cons.injEq, and_true] at e0 e1
  subst e0 e1
  exact ⟨⟨n0, n1⟩, rfl, by simp [Rows.uptoBulk]⟩
instance : Inhabited Stp := ⟨⟨0, 0⟩⟩
theorem ql_len {α : Type} {Q : α → Nat → Prop} (hQ : ∀ y b, Q y b → 1 ≤ b) {ys : List α} {b : Nat} (h : QL Q ys b) : ys.length + 1 ≤ b := by
  obtain ⟨bs, hl, hq, hs⟩ := h
  have : bs.length ≤ bs.sum := by
    have hall : ∀ i (h : i < bs.length), 1 ≤ bs[i] := fun i hi => hQ _ _ (hq i (by omega) hi)
    clear hs hq hl
    induction bs with
    | nil => simp
    | cons a bs ih =>
      have h0 := hall 0 (by simp)
      simp only [List.getElem_cons_zero] at h0
      have := ih fun i hi => by have := hall (i + 1) (by simpa using hi); simpa using this
      simp only [List.length_cons, List.sum_cons]; omega
  omega
theorem arg_steps26 : Arg Try.prog 38 (ASl cStp) (QL fun _ b => 1 ≤ b) := Arg.slice Try.underlying38 (Opens.slice Try.underlying38 (by kernel_rfl) (by decide) open_stp)
theorem arg_ints : Arg Try.prog 33 (ASl cInt) (QL fun n b => -9223372036854775808 ≤ n ∧ n ≤ 9223372036854775807 ∧ 1 ≤ b) := Arg.slice Try.underlying33 (Opens.slice Try.underlying33 (by kernel_rfl) (by decide) (Opens.int Try.underlying3))
theorem schedPlays.key_schedPlays (W : World) (v0 : Value) (y0 : List Stp) (b0 : Nat) (h0 : ASl cStp W v0 y0) (q0 : QL (fun _ b => 1 ≤ b) y0 b0) (hb : b0 ≤ 1048576) :
    Cal Try.prog 8 [v0] W (fun v W' => Upd [] W W' ∧ v = .bool true) := by
  obtain ⟨A, cap, rfl, hcap, hsl⟩ := h0
  exact schedPlays_c y0 A cap W hsl (by have := ql_len (fun _ _ h => h) q0; omega)
end Go.Proofs.Ytjmdhakndlhbhaa
