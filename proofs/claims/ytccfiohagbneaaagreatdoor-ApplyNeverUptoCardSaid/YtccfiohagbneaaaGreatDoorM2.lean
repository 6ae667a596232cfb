/- What is proved: contracts and plain facts that the law leans on (texts put together). Conditions: as each names them. -/
import Derived.Test.YtccfiohagbneaaaGreatDoorM1
import Derived.Test.YtccfiohagbneaaaGreatDoorRows
import Derived.Laws.IdiomStrings
import Derived.Laws.IdiomCopy
import Derived.Lib.AppendStr
import Derived.ProofKit
import Derived.ChangeSame
import Derived.OpenShut
import Derived.Deep.Slices
import Derived.JoinedCond
import Derived.Lib.Bytealg
import Derived.Lib.AppendZerosOnto
import Derived.Lib.Overlaps
import Derived.Recover
set_option linter.unusedSimpArgs false
set_option linter.unusedVariables false
set_option linter.unusedSectionVars false
/- What is proved: what the program's and the reference's functions on paths answer. Conditions: texts of bounded length. -/
namespace Go.Proofs.YtccfiohagbneaaaGreatDoor
open Go Go.J Go.RowKit
set_option maxHeartbeats 8000000 in
set_option maxRecDepth 100000 in
theorem rsplit_c (s : List UInt8) (w0 : World) (hl : s.length ≤ 4611686018427) : Cal Tryz.prog 125 [str s] w0
    (fun v w' => Upd [] w0 w' ∧ ∃ A cap, v = .slice A (splitL s).length cap ∧ New w0 w' (.own (.slice A (splitL s).length cap) 9 1 (splitL s).length (strs (splitL s)))) := by
  refine Cal.mk' (by kernel_rfl) Tryz.func125 rfl rfl fun hS => ?_
  have hlen := splitA_len s []
  have hcl : s.count 47 ≤ s.length := List.count_le_length
  repeat' (first | (show WL _ _ _ _ _ _ _; first | refine WL.pure rfl rfl rfl rfl ?_ | refine WL.nil ?_) | (show WC _ _ _ _ _ _; first | refine WC.seq ?_ | refine WC.region ?_ | refine WC.block ?_) | refine seqQ_n ?_)
  have hS := hS.nilRow 9 1
  refine WC.loop (σ := Nat × List (List UInt8) × List UInt8 × Nat × List Value × Option Addr × Nat) [0] (fun (k, done, one, n, xs, A, cap) => [(3, .slice A n cap), (4, str one), (5, .int .i64 (k : Int))])
    (fun (k, done, one, n, xs, A, cap) w => k ≤ s.length ∧ n = done.length ∧ n ≤ k ∧ one.length ≤ k ∧ xs = strs done ∧ splitL s = done ++ splitA one (s.drop k) ∧ St w0 [] w [.own (.slice A n cap) 9 1 n xs] _)
    (fun (k, _) => s.length - k) (0, [], [], 0, [], none, 0) ⟨Nat.zero_le _, rfl, Nat.zero_le _, Nat.zero_le _, rfl, rfl, hS⟩ ⟨rfl, rfl, rfl, trivial⟩ ?_
  clear hS
  rintro ⟨k, done, one, n, xs, A, cap⟩ g w ⟨hk, hn, hnk, hok, hx, hsp, hS⟩
  by_cases hlt : k < s.length
  · have hc : s[k]? = some s[k] := List.getElem?_eq_getElem hlt
    have hd : s.drop k = s[k] :: s.drop (k + 1) := List.drop_eq_getElem_cons hlt
    have htd : (s.take (k + 1)).drop k = [s[k]] := by rw [List.take_succ_eq_append_getElem hlt, List.drop_append, List.drop_of_length_le (by simp; omega)]; simp; rw [Nat.min_eq_left (by omega)]; simp
    rw [hd] at hsp
    generalize s[k] = c at *
    by_cases h47 : c = 47
    · subst h47
      have h47' : (((47 : UInt8).toNat : Nat) : Int) = 47 := rfl
      repeat' (first | (show WL _ _ _ _ _ _ _; first | refine WL.pure rfl rfl rfl rfl ?_ | refine WL.nil ?_ | refine WL.add rfl rfl rfl (by omega) rfl rfl rfl ?_ | (refine WL.app hS rfl rfl rfl rfl (RdOk.box Mm) rfl rfl (fun A cap => Rp) (by omega) rfl rfl rfl ?_; intro A cap w hS) | refine WL.idxS rfl rfl rfl rfl (by with_reducible assumption) rfl rfl rfl ?_ | (refine WL.slit hS rfl rfl rfl rfl rfl ?_; intro w b hS)) | (show WC _ _ _ _ _ _; first | refine WC.seq ?_ | refine WC.region ?_ | refine WC.block ?_ | refine WC.skip ?_ | refine WC.exit ?_ | refine WC.condT rfl (by decide) ?_ | refine WC.condT rfl (decide_eq_true (by first | with_reducible assumption | omega)) ?_) | refine seqQ_n ?_ | refine seqQ_x ?_ | refine blkQ_hit rfl ?_)
      exact rndQ_n (k + 1, done ++ [one], [], n + 1, xs ++ [str one], _, _) ⟨by omega, by simp [hn], by omega, by simp, by rw [hx, strs_snoc], by rw [hsp]; simp [splitA], hS.drop⟩ (by show s.length - (k + 1) < s.length - k; omega) ⟨rfl, rfl, vint (by omega), trivial⟩ ⟨rfl, trivial⟩
    · have h47' : ¬ (c.toNat : Int) = 47 := fun e => h47 (UInt8.toNat_inj.1 (by show c.toNat = 47; omega))
      have hl1 : ([c] : List UInt8).length = 1 := rfl
      repeat' (first | (show WL _ _ _ _ _ _ _; first | refine WL.pure rfl rfl rfl rfl ?_ | refine WL.nil ?_ | refine WL.add rfl rfl rfl (by omega) rfl rfl rfl ?_ | (refine WL.midS (j := k + 1) rfl rfl rfl rfl rfl (by omega) (by omega) rfl rfl rfl ?_; rw [htd]) | refine WL.cat rfl rfl rfl (by omega) rfl rfl rfl ?_ | refine WL.idxS rfl rfl rfl rfl (by with_reducible assumption) rfl rfl rfl ?_) | (show WC _ _ _ _ _ _; first | refine WC.seq ?_ | refine WC.region ?_ | refine WC.block ?_ | refine WC.skip ?_ | refine WC.condT rfl (decide_eq_true (by first | with_reducible assumption | omega)) ?_ | refine WC.condF rfl (decide_eq_false (by first | with_reducible assumption | omega)) ?_) | refine seqQ_n ?_ | refine blkQ_n ?_)
      exact rndQ_n (k + 1, done, one ++ [c], n, xs, _, _) ⟨by omega, hn, by omega, by simp; omega, hx, by rw [hsp]; simp [splitA, h47], hS⟩ (by show s.length - (k + 1) < s.length - k; omega) ⟨rfl, rfl, vint (by omega), trivial⟩ ⟨rfl, trivial⟩
  · have hke : s.drop k = [] := List.drop_of_length_le (by omega)
    rw [hke] at hsp
    have hsp : splitL s = done ++ [one] := hsp
    have hle : (splitL s).length = n + 1 := by rw [hsp, hn]; simp
    rw [hle, hsp]
    repeat' (first | (show WL _ _ _ _ _ _ _; first | refine WL.pure rfl rfl rfl rfl ?_ | refine WL.nil ?_ | (refine WL.app hS rfl rfl rfl rfl (RdOk.box Mm) rfl rfl (fun A cap => Rp) (by omega) rfl rfl rfl ?_; intro A cap w hS) | (refine WL.slit hS rfl rfl rfl rfl rfl ?_; intro w b hS)) | (show WC _ _ _ _ _ _; first | refine WC.seq ?_ | refine WC.region ?_ | refine WC.exit ?_ | refine WC.ret ?_ | refine WC.condF rfl (decide_eq_false (by first | with_reducible assumption | omega)) ?_) | refine seqQ_n ?_ | refine seqQ_x ?_ | refine blkQ_hit rfl ?_ | refine rndQ_x ?_)
    have hS2 : St w0 [] w [.own (.slice A (n + 1) cap) 9 1 (n + 1) (strs (done ++ [one]))] [⟨w0, Old w0⟩] := by rw [← strs_snoc, ← hx]; exact hS.drop
    exact fin1r rfl rfl ⟨hS2.upd, _, _, rfl, hS2.newOf (List.Mem.head _)⟩
theorem okC_cases (c : UInt8) : (okC c = true ∧ (97 ≤ c.toNat ∧ c.toNat ≤ 122)) ∨ (okC c = true ∧ (48 ≤ c.toNat ∧ c.toNat ≤ 57)) ∨ (okC c = true ∧ c.toNat = 95) ∨ (okC c = false ∧ ¬ (97 ≤ c.toNat ∧ c.toNat ≤ 122) ∧ ¬ (48 ≤ c.toNat ∧ c.toNat ≤ 57) ∧ c.toNat ≠ 95) := by
  unfold okC
  by_cases h1 : 97 ≤ c.toNat ∧ c.toNat ≤ 122
  · exact .inl ⟨decide_eq_true (.inl h1), h1⟩
  · by_cases h2 : 48 ≤ c.toNat ∧ c.toNat ≤ 57
    · exact .inr (.inl ⟨decide_eq_true (.inr (.inl h2)), h2⟩)
    · by_cases h3 : c.toNat = 95
      · exact .inr (.inr (.inl ⟨decide_eq_true (.inr (.inr h3)), h3⟩))
      · exact .inr (.inr (.inr ⟨decide_eq_false (fun h => by rcases h with h | h | h <;> contradiction), h1, h2, h3⟩))
set_option maxHeartbeats 8000000 in
set_option maxRecDepth 100000 in
theorem rname_c (s : List UInt8) (w0 : World) (hl : s.length ≤ 4611686018427) : Cal Tryz.prog 173 [str s] w0 (fun v w' => Upd [] w0 w' ∧ v = .bool (nameB s)) := by
  refine Cal.mk' (by kernel_rfl) Tryz.func173 rfl rfl fun hS => ?_
  by_cases hb : 1 ≤ s.length ∧ s.length ≤ 12
  · repeat' (first | (show WL _ _ _ _ _ _ _; first | refine WL.pure rfl rfl rfl rfl ?_ | refine WL.nil ?_ | ((fail_if_success (refine WL.wanted rfl ?_)); refine WL.guard rfl rfl rfl (fun h => ?_) (fun h => ?_) <;> (try simp only [ZZ0, ZZ1, ZZ2, ZZ3, ZZ4, ZZ5, ZZ6, ZZ7, ZZ8, ZZ9, ZZ10, ZZ11, ZZ12, ZZ13, ZZ14, ZZ15] at h) <;> (try (exfalso; first | omega | contradiction)))) | (show WC _ _ _ _ _ _; first | refine WC.seq ?_ | refine WC.region ?_ | refine WC.block ?_ | refine WC.skip ?_ | refine WC.condF rfl (decide_eq_false (by first | with_reducible assumption | omega)) ?_) | refine seqQ_n ?_)
    refine WC.loop (σ := Nat) [0] (fun k => [(3, .int .i64 (k : Int))]) (fun k w => k ≤ s.length ∧ (∀ j (h : j < s.length), j < k → okC s[j] = true) ∧ St w0 [] w _ _) (fun k => s.length - k) 0 ⟨Nat.zero_le _, fun j h hj => absurd hj (Nat.not_lt_zero _), hS⟩ ⟨rfl, trivial⟩ ?_
    clear hS
    rintro k g w ⟨hk, hall, hS⟩
    obtain ⟨Hall, rfl⟩ : ∃ h : (∀ j (h : j < s.length), j < k → okC s[j] = true), h = hall := ⟨_, rfl⟩
    by_cases hlt : k < s.length
    · have hc : s[k]? = some s[k] := List.getElem?_eq_getElem hlt
      have hno := nameB_no s k hlt
      have hnx : okC s[k] = true → ∀ j (h : j < s.length), j < k + 1 → okC s[j] = true := fun ho j h hj => if e : j = k then (by subst e; exact ho) else Hall j h (by omega)
      clear Hall
      generalize s[k] = c at *
      rcases okC_cases c with ⟨ho, h1, h2⟩ | ⟨ho, h1, h2⟩ | ⟨ho, h1⟩ | ⟨ho, h1, h2, h3⟩
      case' inr.inr.inr => rw [hno ho]
      all_goals
        clear hno
        repeat' (first | (show WL _ _ _ _ _ _ _; first | refine WL.pure rfl rfl rfl rfl ?_ | refine WL.nil ?_ | refine WL.add rfl rfl rfl (by omega) rfl rfl rfl ?_ | refine WL.idxS rfl rfl rfl rfl (by with_reducible assumption) rfl rfl rfl ?_ | refine WL.skip rfl rfl rfl ?_ | ((fail_if_success (refine WL.wanted rfl ?_)); refine WL.guard rfl rfl rfl (fun h => ?_) (fun h => ?_) <;> (try simp only [ZZ0, ZZ1, ZZ2, ZZ3, ZZ4, ZZ5, ZZ6, ZZ7, ZZ8, ZZ9, ZZ10, ZZ11, ZZ12, ZZ13, ZZ14, ZZ15] at h) <;> (try (exfalso; first | omega | contradiction)))) | (show WC _ _ _ _ _ _; first | refine WC.seq ?_ | refine WC.region ?_ | refine WC.block ?_ | refine WC.skip ?_ | refine WC.ret ?_ | refine WC.condF rfl (by decide) ?_ | refine WC.condT rfl (decide_eq_true (by first | with_reducible assumption | omega)) ?_ | refine WC.condT rfl (by first | (simp; done) | (simp; omega)) ?_ | refine WC.condF rfl (by first | (simp; done) | (simp; omega)) ?_) | refine seqQ_n ?_ | refine blkQ_n ?_ | refine seqQ_r ?_ | refine blkQ_r ?_ | refine rndQ_r ?_)
        all_goals first
          | exact rndQ_n (k + 1) ⟨by omega, hnx ho, hS⟩ (by omega) ⟨vint (by omega), trivial⟩ ⟨rfl, trivial⟩
          | exact fin1r rfl rfl ⟨hS.upd, rfl⟩
    · have hke : k = s.length := by omega
      subst hke
      rw [nameB_yes s hb fun j h => Hall j h h]
      clear Hall
      repeat' (first | (show WL _ _ _ _ _ _ _; first | refine WL.pure rfl rfl rfl rfl ?_ | refine WL.nil ?_) | (show WC _ _ _ _ _ _; first | refine WC.seq ?_ | refine WC.region ?_ | refine WC.exit ?_ | refine WC.ret ?_ | refine WC.condF rfl (decide_eq_false (by first | with_reducible assumption | omega)) ?_) | refine seqQ_n ?_ | refine seqQ_x ?_ | refine blkQ_hit rfl ?_ | refine rndQ_x ?_)
      exact fin1r rfl rfl ⟨hS.upd, rfl⟩
  · rw [nameB_len s hb]
    repeat' (first | (show WL _ _ _ _ _ _ _; first | refine WL.pure rfl rfl rfl rfl ?_ | refine WL.nil ?_ | refine WL.skip rfl rfl rfl ?_ | ((fail_if_success (refine WL.wanted rfl ?_)); refine WL.guard rfl rfl rfl (fun h => ?_) (fun h => ?_) <;> (try simp only [ZZ0, ZZ1, ZZ2, ZZ3, ZZ4, ZZ5, ZZ6, ZZ7, ZZ8, ZZ9, ZZ10, ZZ11, ZZ12, ZZ13, ZZ14, ZZ15] at h) <;> (try (exfalso; first | omega | contradiction)))) | (show WC _ _ _ _ _ _; first | refine WC.seq ?_ | refine WC.region ?_ | refine WC.ret ?_ | refine WC.condT rfl (by with_reducible rfl) ?_ | refine WC.condT rfl (decide_eq_true (by first | with_reducible assumption | omega)) ?_) | refine seqQ_n ?_ | refine seqQ_r ?_)
    all_goals exact fin1r rfl rfl ⟨hS.upd, rfl⟩
set_option maxHeartbeats 8000000 in
set_option maxRecDepth 100000 in
theorem pname_c (s : List UInt8) (w0 : World) (hl : s.length ≤ 4611686018427) : Cal Tryz.prog 196 [str s] w0 (fun v w' => Upd [] w0 w' ∧ v = .bool (nameB s)) := by
  refine Cal.mk' (by kernel_rfl) Tryz.func196 rfl rfl fun hS => ?_
  by_cases hb : 1 ≤ s.length ∧ s.length ≤ 12
  · have hne : ¬ s = [] := by rintro rfl; simp at hb
    repeat' (first | (show WL _ _ _ _ _ _ _; first | refine WL.pure rfl rfl rfl rfl ?_ | refine WL.nil ?_ | (refine WL.rangeS hS rfl rfl rfl rfl rfl rfl ?_; intro w b hS) | ((fail_if_success (refine WL.wanted rfl ?_)); refine WL.guard rfl rfl rfl (fun h => ?_) (fun h => ?_) <;> (try simp only [ZZ0, ZZ1, ZZ2, ZZ3, ZZ4, ZZ5, ZZ6, ZZ7, ZZ8, ZZ9, ZZ10, ZZ11, ZZ12, ZZ13, ZZ14, ZZ15] at h) <;> (try (exfalso; first | omega | contradiction)))) | (show WC _ _ _ _ _ _; first | refine WC.seq ?_ | refine WC.region ?_ | refine WC.block ?_ | refine WC.skip ?_ | refine WC.condF rfl (decide_eq_false (by first | with_reducible assumption | omega)) ?_) | refine seqQ_n ?_)
    refine WC.loop (σ := Nat) [13] (fun k => []) (fun k w => k ≤ s.length ∧ (∀ j (h : j < s.length), j < k → okC s[j] = true) ∧ St w0 [] w [itC _ s k] _) (fun k => s.length - k) 0 ⟨Nat.zero_le _, fun j h hj => absurd hj (Nat.not_lt_zero _), hS⟩ trivial ?_
    clear hS
    rintro k g w ⟨hk, hall, hS⟩
    obtain ⟨Hall, rfl⟩ : ∃ h : (∀ j (h : j < s.length), j < k → okC s[j] = true), h = hall := ⟨_, rfl⟩
    by_cases hlt : k < s.length
    · have hno := nameB_no s k hlt
      have hnx : okC s[k] = true → ∀ j (h : j < s.length), j < k + 1 → okC s[j] = true := fun ho j h hj => if e : j = k then (by subst e; exact ho) else Hall j h (by omega)
      clear Hall
      by_cases h8 : s[k].toNat < 128
      · have hdec := decode_small s k hlt h8
        generalize s[k] = c at *
        rcases okC_cases c with ⟨ho, h1, h2⟩ | ⟨ho, h1, h2⟩ | ⟨ho, h1⟩ | ⟨ho, h1, h2, h3⟩
        case' inr.inr.inr => rw [hno ho]
        all_goals
          clear hno
          repeat' (first | (show WL _ _ _ _ _ _ _; first | refine WL.pure rfl rfl rfl rfl ?_ | refine WL.nil ?_ | (refine WL.nextS hS rfl rfl Rp hlt hdec rfl rfl rfl ?_; intro w hS) | refine WL.skip rfl rfl rfl ?_ | ((fail_if_success (refine WL.wanted rfl ?_)); refine WL.guard rfl rfl rfl (fun h => ?_) (fun h => ?_) <;> (try simp only [ZZ0, ZZ1, ZZ2, ZZ3, ZZ4, ZZ5, ZZ6, ZZ7, ZZ8, ZZ9, ZZ10, ZZ11, ZZ12, ZZ13, ZZ14, ZZ15] at h) <;> (try (exfalso; first | omega | contradiction)))) | (show WC _ _ _ _ _ _; first | refine WC.seq ?_ | refine WC.region ?_ | refine WC.block ?_ | refine WC.skip ?_ | refine WC.ret ?_ | refine WC.condT rfl (by with_reducible rfl) ?_ | refine WC.condF rfl (by with_reducible rfl) ?_ | refine WC.condT rfl (decide_eq_true (by first | with_reducible assumption | omega)) ?_ | refine WC.condF rfl (decide_eq_false (by first | with_reducible assumption | omega)) ?_) | refine seqQ_n ?_ | refine blkQ_n ?_ | refine seqQ_r ?_ | refine blkQ_r ?_ | refine rndQ_r ?_)
          all_goals first
            | exact rndQ_n (k + 1) ⟨by omega, hnx ho, hS⟩ (by omega) trivial ⟨rfl, trivial⟩
            | exact fin1r rfl rfl ⟨hS.upd, rfl⟩
      · have hdec := decode_big s k hlt h8
        have ho : okC s[k] = false := by unfold okC; exact decide_eq_false (by omega)
        rw [hno ho]
        rcases hde : Utf8.decode ⟨⟨s⟩⟩ k with ⟨c, width⟩
        rw [hde] at hdec
        obtain ⟨hd1, hd2⟩ := hdec
        dsimp only at hd1 hd2
        clear hno hnx ho
        repeat' (first | (show WL _ _ _ _ _ _ _; first | refine WL.pure rfl rfl rfl rfl ?_ | refine WL.nil ?_ | (refine WL.nextS hS rfl rfl Rp hlt hde rfl rfl rfl ?_; intro w hS) | ((fail_if_success (refine WL.wanted rfl ?_)); refine WL.guard rfl rfl rfl (fun h => ?_) (fun h => ?_) <;> (try simp only [ZZ0, ZZ1, ZZ2, ZZ3, ZZ4, ZZ5, ZZ6, ZZ7, ZZ8, ZZ9, ZZ10, ZZ11, ZZ12, ZZ13, ZZ14, ZZ15] at h) <;> (try (exfalso; first | omega | contradiction)))) | (show WC _ _ _ _ _ _; first | refine WC.seq ?_ | refine WC.region ?_ | refine WC.block ?_ | refine WC.skip ?_ | refine WC.ret ?_ | refine WC.condT rfl (by with_reducible rfl) ?_ | refine WC.condT rfl (decide_eq_true (by first | with_reducible assumption | omega)) ?_) | refine seqQ_n ?_ | refine seqQ_r ?_ | refine blkQ_r ?_ | refine rndQ_r ?_)
        all_goals exact fin1r rfl rfl ⟨hS.upd, rfl⟩
    · have hke : k = s.length := by omega
      subst hke
      rw [nameB_yes s hb fun j h => Hall j h h]
      clear Hall
      repeat' (first | (show WL _ _ _ _ _ _ _; first | refine WL.pure rfl rfl rfl rfl ?_ | refine WL.nil ?_ | refine WL.nextS_end hS rfl rfl Mm (Nat.le_refl _) rfl rfl rfl ?_) | (show WC _ _ _ _ _ _; first | refine WC.seq ?_ | refine WC.region ?_ | refine WC.exit ?_ | refine WC.ret ?_ | refine WC.condF rfl (by with_reducible rfl) ?_) | refine seqQ_n ?_ | refine seqQ_x ?_ | refine blkQ_hit rfl ?_ | refine rndQ_x ?_)
      exact fin1r rfl rfl ⟨hS.upd, rfl⟩
  · rw [nameB_len s hb]
    have hcase : s = [] ∨ (¬ s = [] ∧ 12 < s.length) := by
      rcases s with _ | ⟨a, s⟩
      · exact .inl rfl
      · refine .inr ⟨by simp, ?_⟩
        simp only [List.length_cons] at hb ⊢
        omega
    rcases hcase with rfl | ⟨hne, h12⟩
    all_goals
      repeat' (first | (show WL _ _ _ _ _ _ _; first | refine WL.pure rfl rfl rfl rfl ?_ | refine WL.nil ?_ | refine WL.skip rfl rfl rfl ?_ | ((fail_if_success (refine WL.wanted rfl ?_)); refine WL.guard rfl rfl rfl (fun h => ?_) (fun h => ?_) <;> (try simp only [ZZ0, ZZ1, ZZ2, ZZ3, ZZ4, ZZ5, ZZ6, ZZ7, ZZ8, ZZ9, ZZ10, ZZ11, ZZ12, ZZ13, ZZ14, ZZ15] at h) <;> (try (exfalso; first | omega | contradiction)))) | (show WC _ _ _ _ _ _; first | refine WC.seq ?_ | refine WC.region ?_ | refine WC.ret ?_ | refine WC.condT rfl (by with_reducible rfl) ?_ | refine WC.condT rfl (decide_eq_true (by first | with_reducible assumption | omega)) ?_) | refine seqQ_n ?_ | refine seqQ_r ?_)
      all_goals exact fin1r rfl rfl ⟨hS.upd, rfl⟩
theorem strs_at {l : List (List UInt8)} {k : Nat} (h : k < l.length) : (strs l)[k]? = some (str l[k]) := by
  induction l generalizing k with
  | nil => simp at h
  | cons a l ih =>
    cases k with
    | zero => rfl
    | succ k => simpa [strs] using ih (by simpa using h)
theorem splitA_max (s : List UInt8) : ∀ one x, x ∈ splitA one s → x.length ≤ one.length + s.length := by
  induction s with
  | nil => intro one x h; simp [splitA] at h; subst h; simp
  | cons c s ih =>
    intro one x h
    simp only [splitA] at h
    split at h
    · rcases List.mem_cons.1 h with rfl | h
      · simp
      · have := ih [] x h; simp at this ⊢; omega
    · have := ih _ x h; simp at this ⊢; omega
theorem splitL_max (s : List UInt8) (k : Nat) (h : k < (splitL s).length) : (splitL s)[k].length ≤ s.length := by
  have := splitA_max s [] _ (List.getElem_mem h)
  simpa using this
set_option maxHeartbeats 8000000 in
set_option maxRecDepth 100000 in
theorem rcheck_c (p : List UInt8) (deep : Int) (w0 : World) (hl : p.length ≤ 4611686018) : Cal Tryz.prog 124 [str p, .int .i64 deep] w0 (fun v w' => Upd [] w0 w' ∧ v = .int .i64 (checkE p deep)) := by
  refine Cal.mk' (by kernel_rfl) Tryz.func124 rfl rfl fun hS => ?_
  have hsl := splitA_len p []
  have hcl : p.count 47 ≤ p.length := List.count_le_length
  change (splitL p).length = _ at hsl
  by_cases hd : deep < ((splitL p).length : Int)
  · rw [checkE_deep p deep hd]
    repeat' (first | (show WL _ _ _ _ _ _ _; first | refine WL.pure rfl rfl rfl rfl ?_ | refine WL.nil ?_ | (refine WL.callG rfl rfl (rsplit_c p _ (by omega)) rfl rfl rfl ?_; rintro v w ⟨hu, A, cap, rfl, hn⟩; have hS := hS.new hu hn; clear hu hn)) | (show WC _ _ _ _ _ _; first | refine WC.seq ?_ | refine WC.region ?_ | refine WC.ret ?_ | refine WC.condT rfl (decide_eq_true (by first | with_reducible assumption | omega)) ?_) | refine seqQ_n ?_ | refine seqQ_r ?_)
    exact fin1r rfl rfl ⟨hS.upd, rfl⟩
  · repeat' (first | (show WL _ _ _ _ _ _ _; first | refine WL.pure rfl rfl rfl rfl ?_ | refine WL.nil ?_ | (refine WL.callG rfl rfl (rsplit_c p _ (by omega)) rfl rfl rfl ?_; rintro v w ⟨hu, A, cap, rfl, hn⟩; have hS := hS.new hu hn; clear hu hn)) | (show WC _ _ _ _ _ _; first | refine WC.seq ?_ | refine WC.region ?_ | refine WC.block ?_ | refine WC.skip ?_ | refine WC.condF rfl (decide_eq_false (by first | with_reducible assumption | omega)) ?_) | refine seqQ_n ?_)
    refine WC.loop (σ := Nat) [5] (fun k => [(6, .int .i64 (k : Int))]) (fun k w => k ≤ (splitL p).length ∧ (∀ j (h : j < (splitL p).length), j < k → nameB (splitL p)[j] = true) ∧ St w0 [] w [_] _) (fun k => (splitL p).length - k) 0 ⟨Nat.zero_le _, fun j h hj => absurd hj (Nat.not_lt_zero _), hS⟩ ⟨rfl, trivial⟩ ?_
    clear hS
    rintro k g w ⟨hk, hall, hS⟩
    obtain ⟨Hall, rfl⟩ : ∃ h : (∀ j (h : j < (splitL p).length), j < k → nameB (splitL p)[j] = true), h = hall := ⟨_, rfl⟩
    by_cases hlt : k < (splitL p).length
    · obtain ⟨ga, oa, rfl⟩ := hS.own_addr (List.Mem.head _) (by omega)
      have hx : (strs (splitL p))[k * 1]? = some (str (splitL p)[k]) := by rw [Nat.mul_one]; exact strs_at hlt
      have hno := checkE_no p deep k hlt
      have hmx := splitL_max p k hlt
      have hnx : nameB (splitL p)[k] = true → ∀ j (h : j < (splitL p).length), j < k + 1 → nameB (splitL p)[j] = true := fun ho j h hj => if e : j = k then (by subst e; exact ho) else Hall j h (by omega)
      clear Hall
      generalize (splitL p)[k] = c at *
      rcases hn : nameB c
      · rw [hno hn]
        clear hno hnx
        repeat' (first | (show WL _ _ _ _ _ _ _; first | refine WL.pure rfl rfl rfl rfl ?_ | refine WL.nil ?_ | refine WL.load hS rfl rfl (LdOk.ownAt Mm rfl ⟨_, rfl⟩ hx rfl) rfl rfl rfl ?_ | (refine WL.calls hS rfl rfl (rname_c c _ (by omega)) rfl rfl rfl ?_; rintro v w rfl hS; rw [hn]) | refine WL.index rfl rfl rfl rfl (by first | with_reducible assumption | omega) rfl rfl rfl rfl ?_) | (show WC _ _ _ _ _ _; first | refine WC.seq ?_ | refine WC.region ?_ | refine WC.block ?_ | refine WC.skip ?_ | refine WC.ret ?_ | refine WC.condT rfl (by decide) ?_ | refine WC.condT rfl (decide_eq_true (by first | with_reducible assumption | omega)) ?_) | refine seqQ_n ?_ | refine seqQ_r ?_ | refine blkQ_r ?_ | refine rndQ_r ?_)
        exact fin1r rfl rfl ⟨hS.upd, rfl⟩
      · clear hno
        repeat' (first | (show WL _ _ _ _ _ _ _; first | refine WL.pure rfl rfl rfl rfl ?_ | refine WL.nil ?_ | refine WL.add rfl rfl rfl (by omega) rfl rfl rfl ?_ | refine WL.load hS rfl rfl (LdOk.ownAt Mm rfl ⟨_, rfl⟩ hx rfl) rfl rfl rfl ?_ | (refine WL.calls hS rfl rfl (rname_c c _ (by omega)) rfl rfl rfl ?_; rintro v w rfl hS; rw [hn]) | refine WL.index rfl rfl rfl rfl (by first | with_reducible assumption | omega) rfl rfl rfl rfl ?_) | (show WC _ _ _ _ _ _; first | refine WC.seq ?_ | refine WC.region ?_ | refine WC.block ?_ | refine WC.skip ?_ | refine WC.condF rfl (by decide) ?_ | refine WC.condT rfl (decide_eq_true (by first | with_reducible assumption | omega)) ?_) | refine seqQ_n ?_ | refine blkQ_n ?_)
        exact rndQ_n (k + 1) ⟨by omega, hnx hn, hS⟩ (by omega) ⟨vint (by omega), trivial⟩ ⟨rfl, trivial⟩
    · rw [checkE_yes p deep hd fun j h => Hall j h (by omega)]
      clear Hall
      repeat' (first | (show WL _ _ _ _ _ _ _; first | refine WL.pure rfl rfl rfl rfl ?_ | refine WL.nil ?_) | (show WC _ _ _ _ _ _; first | refine WC.seq ?_ | refine WC.region ?_ | refine WC.exit ?_ | refine WC.ret ?_ | refine WC.condF rfl (decide_eq_false (by first | with_reducible assumption | omega)) ?_) | refine seqQ_n ?_ | refine seqQ_x ?_ | refine blkQ_hit rfl ?_ | refine rndQ_x ?_)
      exact fin1r rfl rfl ⟨hS.upd, rfl⟩
set_option maxHeartbeats 8000000 in
set_option maxRecDepth 100000 in
theorem pcheck_c (p : List UInt8) (deep : Int) (w0 : World) (hl : p.length ≤ 4611686018) : Cal Tryz.prog 166 [str p, .int .i64 deep] w0 (fun v w' => Upd [] w0 w' ∧ v = .int .i64 (checkE p deep)) := by
  refine Cal.mk' (by kernel_rfl) Tryz.func166 rfl rfl fun hS => ?_
  have hsl := splitA_len p []
  have hcl : p.count 47 ≤ p.length := List.count_le_length
  change (splitL p).length = _ at hsl
  by_cases hp : p = []
  · subst hp
    rw [checkE_empty]
    repeat' (first | (show WL _ _ _ _ _ _ _; first | refine WL.pure rfl rfl rfl rfl ?_ | refine WL.nil ?_ | refine WL.skip rfl rfl rfl ?_) | (show WC _ _ _ _ _ _; first | refine WC.seq ?_ | refine WC.region ?_ | refine WC.ret ?_ | refine WC.condT rfl (by with_reducible rfl) ?_) | refine seqQ_n ?_ | refine seqQ_r ?_)
    exact fin1r rfl rfl ⟨hS.upd, rfl⟩
  · by_cases hd : deep < ((splitL p).length : Int)
    · rw [checkE_deep p deep hd]
      repeat' (first | (show WL _ _ _ _ _ _ _; first | refine WL.pure rfl rfl rfl rfl ?_ | refine WL.nil ?_ | (refine WL.callG rfl rfl (split_c p _ (by omega)) rfl rfl rfl ?_; rintro v w ⟨hu, A, cap, rfl, hn⟩; have hS := hS.new hu hn; clear hu hn) | ((fail_if_success (refine WL.wanted rfl ?_)); refine WL.guard rfl rfl rfl (fun h => ?_) (fun h => ?_) <;> (try simp only [ZZ0, ZZ1, ZZ2, ZZ3, ZZ4, ZZ5, ZZ6, ZZ7, ZZ8, ZZ9, ZZ10, ZZ11, ZZ12, ZZ13, ZZ14, ZZ15] at h) <;> (try (exfalso; first | omega | contradiction)))) | (show WC _ _ _ _ _ _; first | refine WC.seq ?_ | refine WC.region ?_ | refine WC.skip ?_ | refine WC.ret ?_ | refine WC.condT rfl (decide_eq_true (by first | with_reducible assumption | omega)) ?_ | (refine WC.cond rfl (fun h => ?_) (fun h => ?_) <;> (try simp only [ZZ0, ZZ1, ZZ2, ZZ3, ZZ4, ZZ5, ZZ6, ZZ7, ZZ8, ZZ9, ZZ10, ZZ11, ZZ12, ZZ13, ZZ14, ZZ15] at h) <;> (try (exfalso; first | omega | contradiction)))) | refine seqQ_n ?_ | refine seqQ_r ?_)
      all_goals exact fin1r rfl rfl ⟨hS.upd, rfl⟩
    · repeat' (first | (show WL _ _ _ _ _ _ _; first | refine WL.pure rfl rfl rfl rfl ?_ | refine WL.nil ?_ | (refine WL.callG rfl rfl (split_c p _ (by omega)) rfl rfl rfl ?_; rintro v w ⟨hu, A, cap, rfl, hn⟩; have hS := hS.new hu hn; clear hu hn) | ((fail_if_success (refine WL.wanted rfl ?_)); refine WL.guard rfl rfl rfl (fun h => ?_) (fun h => ?_) <;> (try simp only [ZZ0, ZZ1, ZZ2, ZZ3, ZZ4, ZZ5, ZZ6, ZZ7, ZZ8, ZZ9, ZZ10, ZZ11, ZZ12, ZZ13, ZZ14, ZZ15] at h) <;> (try (exfalso; first | omega | contradiction)))) | (show WC _ _ _ _ _ _; first | refine WC.seq ?_ | refine WC.region ?_ | refine WC.block ?_ | refine WC.skip ?_ | refine WC.condF rfl (decide_eq_false (by first | with_reducible assumption | omega)) ?_) | refine seqQ_n ?_)
      refine WC.loop (σ := Nat) [20, 21] (fun k => [(22, .int .i64 (k : Int))]) (fun k w => k ≤ (splitL p).length ∧ (∀ j (h : j < (splitL p).length), j < k → nameB (splitL p)[j] = true) ∧ St w0 [] w [_] _) (fun k => (splitL p).length - k) 0 ⟨Nat.zero_le _, fun j h hj => absurd hj (Nat.not_lt_zero _), hS⟩ ⟨rfl, trivial⟩ ?_
      clear hS
      rintro k g w ⟨hk, hall, hS⟩
      obtain ⟨Hall, rfl⟩ : ∃ h : (∀ j (h : j < (splitL p).length), j < k → nameB (splitL p)[j] = true), h = hall := ⟨_, rfl⟩
      by_cases hlt : k < (splitL p).length
      · obtain ⟨ga, oa, rfl⟩ := hS.own_addr (List.Mem.head _) (by omega)
        have hx : (strs (splitL p))[k * 1]? = some (str (splitL p)[k]) := by rw [Nat.mul_one]; exact strs_at hlt
        have hno := checkE_no p deep k hlt
        have hmx := splitL_max p k hlt
        have hnx : nameB (splitL p)[k] = true → ∀ j (h : j < (splitL p).length), j < k + 1 → nameB (splitL p)[j] = true := fun ho j h hj => if e : j = k then (by subst e; exact ho) else Hall j h (by omega)
        clear Hall
        generalize (splitL p)[k] = c at *
        rcases hn : nameB c
        · rw [hno hn]
          clear hno hnx
          repeat' (first | (show WL _ _ _ _ _ _ _; first | refine WL.pure rfl rfl rfl rfl ?_ | refine WL.nil ?_ | refine WL.load hS rfl rfl (LdOk.ownAt Mm rfl ⟨_, rfl⟩ hx rfl) rfl rfl rfl ?_ | (refine WL.calls hS rfl rfl (pname_c c _ (by omega)) rfl rfl rfl ?_; rintro v w rfl hS; rw [hn]) | refine WL.index rfl rfl rfl rfl (by first | with_reducible assumption | omega) rfl rfl rfl rfl ?_) | (show WC _ _ _ _ _ _; first | refine WC.seq ?_ | refine WC.region ?_ | refine WC.block ?_ | refine WC.skip ?_ | refine WC.ret ?_ | refine WC.condT rfl (by decide) ?_ | refine WC.condT rfl (decide_eq_true (by first | with_reducible assumption | omega)) ?_) | refine seqQ_n ?_ | refine seqQ_r ?_ | refine blkQ_r ?_ | refine rndQ_r ?_)
          exact fin1r rfl rfl ⟨hS.upd, rfl⟩
        · clear hno
          repeat' (first | (show WL _ _ _ _ _ _ _; first | refine WL.pure rfl rfl rfl rfl ?_ | refine WL.nil ?_ | refine WL.add rfl rfl rfl (by omega) rfl rfl rfl ?_ | refine WL.load hS rfl rfl (LdOk.ownAt Mm rfl ⟨_, rfl⟩ hx rfl) rfl rfl rfl ?_ | (refine WL.calls hS rfl rfl (pname_c c _ (by omega)) rfl rfl rfl ?_; rintro v w rfl hS; rw [hn]) | refine WL.index rfl rfl rfl rfl (by first | with_reducible assumption | omega) rfl rfl rfl rfl ?_) | (show WC _ _ _ _ _ _; first | refine WC.seq ?_ | refine WC.region ?_ | refine WC.block ?_ | refine WC.skip ?_ | refine WC.condF rfl (by decide) ?_ | refine WC.condT rfl (decide_eq_true (by first | with_reducible assumption | omega)) ?_) | refine seqQ_n ?_ | refine blkQ_n ?_)
          exact rndQ_n (k + 1) ⟨by omega, hnx hn, hS⟩ (by omega) ⟨vint (by omega), trivial⟩ ⟨rfl, rfl, trivial⟩
      · rw [checkE_yes p deep hd fun j h => Hall j h (by omega)]
        clear Hall
        repeat' (first | (show WL _ _ _ _ _ _ _; first | refine WL.pure rfl rfl rfl rfl ?_ | refine WL.nil ?_) | (show WC _ _ _ _ _ _; first | refine WC.seq ?_ | refine WC.region ?_ | refine WC.exit ?_ | refine WC.ret ?_ | refine WC.condF rfl (decide_eq_false (by first | with_reducible assumption | omega)) ?_) | refine seqQ_n ?_ | refine seqQ_x ?_ | refine blkQ_hit rfl ?_ | refine rndQ_x ?_)
        exact fin1r rfl rfl ⟨hS.upd, rfl⟩
end Go.Proofs.YtccfiohagbneaaaGreatDoor

/- What is proved: what Parent, Base, Join, Under and Deep answer, the program's and the reference's. Conditions: texts of bounded length. -/
namespace Go.Proofs.YtccfiohagbneaaaGreatDoor
open Go Go.J Go.RowKit
set_option maxHeartbeats 4000000 in
set_option maxRecDepth 100000 in
theorem rlast_c (s : List UInt8) (w0 : World) (hl : s.length ≤ 4611686018427) : Cal Tryz.prog 174 [str s] w0 (fun v w' => Upd [] w0 w' ∧ v = .int .i64 (lastE s)) := by
  refine Cal.mk' (by kernel_rfl) Tryz.func174 rfl rfl fun hS => ?_
  repeat' (first | (show WL _ _ _ _ _ _ _; first | refine WL.pure rfl rfl rfl rfl ?_ | refine WL.nil ?_) | (show WC _ _ _ _ _ _; first | refine WC.seq ?_ | refine WC.region ?_ | refine WC.block ?_) | refine seqQ_n ?_)
  refine WC.loop (σ := Nat) [0] (fun k => [(3, .int .i64 (lastL s k)), (4, .int .i64 (k : Int))]) (fun k w => k ≤ s.length ∧ St w0 [] w _ _) (fun k => s.length - k) 0 ⟨Nat.zero_le _, hS⟩ ⟨rfl, rfl, trivial⟩ ?_
  clear hS
  rintro k g w ⟨hk, hS⟩
  by_cases hlt : k < s.length
  · have hc : s[k]? = some s[k] := List.getElem?_eq_getElem hlt
    have hst := lastL_stop s k
    have hgo := lastL_go s k
    rw [hc] at hst hgo
    generalize s[k] = c at *
    by_cases h47 : c = 47
    · have hst := hst (by rw [h47])
      have h47' : (c.toNat : Int) = 47 := by rw [h47]; rfl
      repeat' (first | (show WL _ _ _ _ _ _ _; first | refine WL.pure rfl rfl rfl rfl ?_ | refine WL.nil ?_ | refine WL.add rfl rfl rfl (by omega) rfl rfl rfl ?_ | refine WL.idxS rfl rfl rfl rfl (by with_reducible assumption) rfl rfl rfl ?_) | (show WC _ _ _ _ _ _; first | refine WC.seq ?_ | refine WC.region ?_ | refine WC.block ?_ | refine WC.skip ?_ | refine WC.condT rfl (decide_eq_true (by first | with_reducible assumption | omega)) ?_) | refine seqQ_n ?_ | refine blkQ_n ?_)
      exact rndQ_n (k + 1) ⟨by omega, hS⟩ (by omega) ⟨vint hst.symm, vint (by omega), trivial⟩ ⟨rfl, trivial⟩
    · have h47' : ¬ (c.toNat : Int) = 47 := fun e => h47 (UInt8.toNat_inj.1 (by show c.toNat = 47; omega))
      have hgo := hgo (by simpa using h47)
      repeat' (first | (show WL _ _ _ _ _ _ _; first | refine WL.pure rfl rfl rfl rfl ?_ | refine WL.nil ?_ | refine WL.add rfl rfl rfl (by omega) rfl rfl rfl ?_ | refine WL.idxS rfl rfl rfl rfl (by with_reducible assumption) rfl rfl rfl ?_) | (show WC _ _ _ _ _ _; first | refine WC.seq ?_ | refine WC.region ?_ | refine WC.block ?_ | refine WC.skip ?_ | refine WC.condT rfl (decide_eq_true (by first | with_reducible assumption | omega)) ?_ | refine WC.condF rfl (decide_eq_false (by first | with_reducible assumption | omega)) ?_) | refine seqQ_n ?_ | refine blkQ_n ?_)
      exact rndQ_n (k + 1) ⟨by omega, hS⟩ (by omega) ⟨vint hgo.symm, vint (by omega), trivial⟩ ⟨rfl, trivial⟩
  · have hke : k = s.length := by omega
    subst hke
    repeat' (first | (show WL _ _ _ _ _ _ _; first | refine WL.pure rfl rfl rfl rfl ?_ | refine WL.nil ?_) | (show WC _ _ _ _ _ _; first | refine WC.seq ?_ | refine WC.region ?_ | refine WC.exit ?_ | refine WC.ret ?_ | refine WC.condF rfl (decide_eq_false (by first | with_reducible assumption | omega)) ?_) | refine seqQ_n ?_ | refine seqQ_x ?_ | refine blkQ_hit rfl ?_ | refine rndQ_x ?_)
    exact fin1r rfl rfl ⟨hS.upd, rfl⟩
section
variable (p : List UInt8) (w0 : World) (hl : p.length ≤ 4611686018427)
include hl
set_option maxHeartbeats 4000000 in
set_option maxRecDepth 100000 in
theorem pparent_c : Cal Tryz.prog 172 [str p] w0 (fun v w' => Upd [] w0 w' ∧ v = str (parentE p)) := by
  have hg := lastE_ge p
  have hm : max (0 : Int) (lastE p) = (((lastE p).toNat : Nat) : Int) := by omega
  unfold parentE
  generalize (lastE p).toNat = m at *
  refine Cal.mk' (by kernel_rfl) Tryz.func172 rfl rfl fun hS => ?_
  repeat' (first | (show WL _ _ _ _ _ _ _; first | refine WL.pure rfl rfl rfl rfl ?_ | refine WL.nil ?_ | (refine WL.calls hS rfl rfl (lastIndexByte_c p _ (by omega)) rfl rfl rfl ?_; rintro v w rfl hS) | (refine WL.maxI rfl rfl rfl rfl rfl rfl ?_; rw [hm]) | refine WL.highS rfl rfl rfl rfl (by omega) rfl rfl rfl ?_) | (show WC _ _ _ _ _ _; first | refine WC.seq ?_ | refine WC.region ?_ | refine WC.ret ?_) | refine seqQ_n ?_)
  exact fin1r rfl rfl ⟨hS.upd, rfl⟩
set_option maxHeartbeats 4000000 in
set_option maxRecDepth 100000 in
theorem rparent_c : Cal Tryz.prog 126 [str p] w0 (fun v w' => Upd [] w0 w' ∧ v = str (parentE p)) := by
  have hg := lastE_ge p
  unfold parentE
  refine Cal.mk' (by kernel_rfl) Tryz.func126 rfl rfl fun hS => ?_
  by_cases h0 : lastE p < 0
  · have e : (lastE p).toNat = 0 := by omega
    rw [e, List.take_zero]
    repeat' (first | (show WL _ _ _ _ _ _ _; first | refine WL.pure rfl rfl rfl rfl ?_ | refine WL.nil ?_ | (refine WL.calls hS rfl rfl (rlast_c p _ (by omega)) rfl rfl rfl ?_; rintro v w rfl hS)) | (show WC _ _ _ _ _ _; first | refine WC.seq ?_ | refine WC.region ?_ | refine WC.ret ?_ | refine WC.condT rfl (decide_eq_true (by first | with_reducible assumption | omega)) ?_) | refine seqQ_n ?_ | refine seqQ_r ?_)
    exact fin1r rfl rfl ⟨hS.upd, rfl⟩
  · obtain ⟨m, hm⟩ := Int.eq_ofNat_of_zero_le (show 0 ≤ lastE p by omega)
    rw [hm] at h0 hg
    have e : (lastE p).toNat = m := by rw [hm]; rfl
    rw [e]
    repeat' (first | (show WL _ _ _ _ _ _ _; first | refine WL.pure rfl rfl rfl rfl ?_ | refine WL.nil ?_ | (refine WL.calls hS rfl rfl (rlast_c p _ (by omega)) rfl rfl rfl ?_; rintro v w rfl hS; rw [hm]) | refine WL.highS rfl rfl rfl rfl (by omega) rfl rfl rfl ?_) | (show WC _ _ _ _ _ _; first | refine WC.seq ?_ | refine WC.region ?_ | refine WC.skip ?_ | refine WC.ret ?_ | refine WC.condF rfl (decide_eq_false (by first | with_reducible assumption | omega)) ?_) | refine seqQ_n ?_)
    exact fin1r rfl rfl ⟨hS.upd, rfl⟩
set_option maxHeartbeats 4000000 in
set_option maxRecDepth 100000 in
theorem pdeep_c : Cal Tryz.prog 171 [str p] w0 (fun v w' => Upd [] w0 w' ∧ v = .int .i64 (deepE p)) := by
  have hcl : p.count 47 ≤ p.length := List.count_le_length
  unfold deepE
  refine Cal.mk' (by kernel_rfl) Tryz.func171 rfl rfl fun hS => ?_
  by_cases hp : p = []
  · rw [if_pos hp]
    repeat' (first | (show WL _ _ _ _ _ _ _; first | refine WL.pure rfl rfl rfl rfl ?_ | refine WL.nil ?_) | (show WC _ _ _ _ _ _; first | refine WC.seq ?_ | refine WC.region ?_ | refine WC.ret ?_ | refine WC.condT rfl (decide_eq_true (by first | with_reducible assumption | omega)) ?_) | refine seqQ_n ?_ | refine seqQ_r ?_)
    exact fin1r rfl rfl ⟨hS.upd, rfl⟩
  · rw [if_neg hp]
    repeat' (first | (show WL _ _ _ _ _ _ _; first | refine WL.pure rfl rfl rfl rfl ?_ | refine WL.nil ?_ | refine WL.add rfl rfl rfl (by omega) rfl rfl rfl ?_ | (refine WL.calls hS rfl rfl (count_c p 47 _) rfl rfl rfl ?_; rintro v w rfl hS)) | (show WC _ _ _ _ _ _; first | refine WC.seq ?_ | refine WC.region ?_ | refine WC.skip ?_ | refine WC.ret ?_ | refine WC.condF rfl (decide_eq_false (by first | with_reducible assumption | omega)) ?_) | refine seqQ_n ?_)
    exact fin1r rfl rfl ⟨hS.upd, rfl⟩
end
section
variable (a b : List UInt8) (w0 : World) (hla : a.length ≤ 4611686018427) (hlb : b.length ≤ 4611686018427)
include hla hlb
end
end Go.Proofs.YtccfiohagbneaaaGreatDoor

/- What is proved: plain facts on joined paths and on the order of paths as texts. Conditions: none. -/
namespace Go.J
open Go
theorem splitA_app (q : List UInt8) : ∀ (p one : List UInt8), splitA one (p ++ 47 :: q) = splitA one p ++ splitA [] q
  | [], one => by simp [splitA]
  | c :: p, one => by
    by_cases h : c = 47
    · subst h; simp [splitA, splitA_app q p]
    · simp [splitA, h, splitA_app q p]
theorem checkE_iff (p : List UInt8) (d : Int) : checkE p d = 0 ↔ ((splitL p).length : Int) ≤ d ∧ (splitL p).all nameB = true := by
  unfold checkE
  by_cases h : d < ((splitL p).length : Int)
  · rw [if_pos h]; constructor
    · intro h; cases h
    · intro h2; omega
  · rw [if_neg h]
    by_cases h2 : (splitL p).all nameB = true
    · rw [if_pos h2]; exact ⟨fun _ => ⟨by omega, h2⟩, fun _ => rfl⟩
    · rw [if_neg h2]; constructor
      · intro h; cases h
      · intro h3; exact absurd h3.2 h2
theorem checkE_ten (p : List UInt8) (d : Int) (h : checkE p d ≠ 0) : checkE p d = 10 := by
  unfold checkE at *
  split
  · rfl
  · rename_i h1
    rw [if_neg h1] at h
    split
    · rename_i h2; rw [if_pos h2] at h; exact absurd rfl h
    · rfl
theorem names_ne {p : List UInt8} (h : (splitL p).all nameB = true) : p ≠ [] := by
  rintro rfl
  simp [splitL, splitA, nameB] at h
theorem splitL_app (p q : List UInt8) : splitL (p ++ [47] ++ q) = splitL p ++ splitL q := by
  unfold splitL; rw [List.append_assoc]; exact splitA_app q p []
theorem lastL_no (s : List UInt8) : ∀ (k : Nat), k ≤ s.length → ∀ i : Nat, lastL s k < (i : Int) → i < k → s[i]? ≠ some 47
  | 0, _, i, _, hi => absurd hi (Nat.not_lt_zero _)
  | k + 1, hk, i, h, hi => by
    simp only [lastL] at h
    split at h
    · omega
    · rename_i hne
      by_cases e : i = k
      · subst e; exact hne
      · exact lastL_no s k (by omega) i h (by omega)
theorem lastL_at (s : List UInt8) : ∀ (k m : Nat), lastL s k = (m : Int) → s[m]? = some 47
  | 0, m, h => by simp only [lastL] at h; omega
  | k + 1, m, h => by
    simp only [lastL] at h
    split at h
    · rename_i h2; have : k = m := by omega
      subst this; exact h2
    · exact lastL_at s k m h
theorem count_none (s : List UInt8) (h : ∀ i, i < s.length → s[i]? ≠ some 47) : s.count 47 = 0 := by
  rw [List.count_eq_zero]
  intro hm
  obtain ⟨i, hi, he⟩ := List.mem_iff_getElem.1 hm
  exact h i hi (by rw [List.getElem?_eq_getElem hi, he])
theorem parts (p : List UInt8) (h : (splitL p).all nameB = true) : joinE (parentE p) (baseE p) = p ∧ nameB (baseE p) = true ∧ underB p (parentE p) = true := by
  have hg := lastE_ge p
  by_cases h0 : lastE p < 0
  · have e1 : lastE p = -1 := by omega
    have e2 : parentE p = [] := by unfold parentE; rw [e1]; rfl
    have e3 : baseE p = p := by unfold baseE; rw [e1]; rfl
    have hn : p.count 47 = 0 := count_none p fun i hi => lastL_no p p.length (Nat.le_refl _) i (by show lastE p < _; omega) hi
    rw [e2, e3]
    refine ⟨by simp [joinE], ?_, by simp [underB]⟩
    unfold splitL at h
    rw [splitA_none p hn] at h
    simpa using h
  · obtain ⟨m, hm⟩ := Int.eq_ofNat_of_zero_le (show 0 ≤ lastE p by omega)
    have hat := lastL_at p p.length m hm
    have hlt : m < p.length := (List.getElem?_eq_some_iff.1 hat).1
    have hpm : p[m] = 47 := (List.getElem?_eq_some_iff.1 hat).2
    have e2 : parentE p = p.take m := by unfold parentE; rw [hm]; rfl
    have e3 : baseE p = p.drop (m + 1) := by unfold baseE; rw [hm]; rfl
    have hp : p = p.take m ++ [47] ++ p.drop (m + 1) := by
      rw [List.append_assoc]
      show p = p.take m ++ 47 :: p.drop (m + 1)
      rw [← hpm, ← List.drop_eq_getElem_cons hlt]; exact (List.take_append_drop m p).symm
    have hn : (p.drop (m + 1)).count 47 = 0 := count_none _ fun i hi => by
      rw [List.getElem?_drop]
      simp only [List.length_drop] at hi
      exact lastL_no p p.length (Nat.le_refl _) (m + 1 + i) (by show lastE p < _; omega) (by omega)
    have hs : splitL p = splitL (p.take m) ++ [p.drop (m + 1)] := by
      conv => lhs; rw [hp]
      rw [splitL_app]
      congr 1
      unfold splitL
      rw [splitA_none _ hn]; rfl
    rw [hs, List.all_append, Bool.and_eq_true] at h
    have hne := names_ne h.1
    have hb : nameB (p.drop (m + 1)) = true := by simpa using h.2
    have hbn : p.drop (m + 1) ≠ [] := by intro e; rw [e] at hb; simp [nameB] at hb
    rw [e2, e3]
    refine ⟨?_, hb, ?_⟩
    · unfold joinE
      rw [if_neg hne, if_neg hbn]; exact hp.symm
    · unfold underB
      have hl : (p.take m).length = m := by simp; omega
      have : p.take ((p.take m).length + 1) = p.take m ++ [47] := by rw [hl, List.take_succ_eq_append_getElem hlt, hpm]
      rw [decide_eq_true this, Bool.or_true]
theorem joinE_ne {p q : List UInt8} (hp : p ≠ []) (hq : q ≠ []) : joinE p q = p ++ [47] ++ q := by unfold joinE; rw [if_neg hp, if_neg hq]
theorem deep_join {p q : List UInt8} (hp : p ≠ []) (hq : q ≠ []) : deepE (joinE p q) = deepE p + deepE q := by
  rw [joinE_ne hp hq]
  unfold deepE
  rw [if_neg hp, if_neg hq, if_neg (by simp)]
  rw [List.count_append, List.count_append]
  simp
  omega
theorem deep_len {p : List UInt8} (hp : p ≠ []) : deepE p = ((splitL p).length : Int) := by
  unfold deepE splitL
  rw [if_neg hp, splitA_len]; omega
theorem less_app (b r : List UInt8) (c : UInt8) (top : List UInt8) : Op.bytesLess top (top ++ c :: r) = true := by
  induction top with
  | nil => rfl
  | cons a t ih => simp [Op.bytesLess, ih]
end Go.J

/- What is proved: what the program's disk answers and holds. Conditions: as each names them. -/
namespace Go.Proofs.YtccfiohagbneaaaGreatDoor
open Go Go.J Go.RowKit
structure It where
  dir : Bool
  data : List UInt8
  kept : List UInt8
  loose : Bool
  anew : Bool
  stamp : Int
def It0 : It := ⟨false, [], [], false, false, 0⟩
@[reducible] def encIt (x : It) : Value := .agg ⟨[.bool x.dir, str x.data, str x.kept, .bool x.loose, .bool x.anew, .int .i64 x.stamp]⟩
@[reducible] def encI (n : Int) : Value := .int .i64 n
structure Dk where
  items : List (List UInt8 × It)
  limits : List (List UInt8 × Int)
  steps : Int
  stamps : Int
  armed : Int
  down : Bool
abbrev dkCells (mb lb : Nat) (D : Dk) : List Value := [.map (some mb), .map (some lb), .int .i64 D.steps, .int .i64 D.stamps, .int .i64 D.armed, .bool D.down]
def DkIs (b mb lb : Nat) (D : Dk) (w : World) : Prop := b ≠ mb ∧ b ≠ lb ∧ mb ≠ lb ∧ w.heap[b]? = some (.cells ⟨dkCells mb lb D⟩ 122 (0, 0)) ∧ MapIs mb (mmap encIt D.items) w ∧ MapIs lb (mmap encI D.limits) w
theorem DkIs.local {b mb lb : Nat} {D : Dk} : Local [b, mb, lb] (DkIs b mb lb D) := fun w w' h ⟨h1, h2, h3, hb, hm, hl⟩ =>
  ⟨h1, h2, h3, (h b (by simp)).trans hb, MapIs.local w w' (fun b hb => h b (by simp at hb; simp [hb])) hm, MapIs.local w w' (fun b hb => h b (by simp at hb; simp [hb])) hl⟩
abbrev dkC (b mb lb : Nat) (D : Dk) : Chunk := .obj [b, mb, lb] (DkIs b mb lb D)
theorem St.dkOpen {w0 w : World} {M : List Nat} {H : List Chunk} {Z : List Snap} {b mb lb : Nat} {D : Dk} (hS : St w0 M w (dkC b mb lb D :: H) Z) :
    b ≠ mb ∧ b ≠ lb ∧ mb ≠ lb ∧ St w0 M w (.box b 122 (dkCells mb lb D) :: mapC mb (mmap encIt D.items) :: mapC lb (mmap encI D.limits) :: H) Z := by
  obtain ⟨h1, h2, h3, hb, hm, hl⟩ := (hS.holds _ (List.Mem.head _)).1
  refine ⟨h1, h2, h3, hS.opens (D := [.box b 122 (dkCells mb lb D), mapC mb (mmap encIt D.items), mapC lb (mmap encI D.limits)]) ?_ ?_ ?_⟩
  · simp [Chunk.holds, hb]; exact ⟨⟨hm, MapIs.local⟩, hl, MapIs.local⟩
  · simp [Chunk.apart, Chunk.fp, h1, h2, h3]
  · simp [Chunk.fp]
theorem St.dkClose {w0 w : World} {M : List Nat} {H : List Chunk} {Z : List Snap} {b mb lb : Nat} (D : Dk) (h1 : b ≠ mb) (h2 : b ≠ lb) (h3 : mb ≠ lb) (hS : St w0 M w (.box b 122 (dkCells mb lb D) :: mapC mb (mmap encIt D.items) :: mapC lb (mmap encI D.limits) :: H) Z) : St w0 M w (dkC b mb lb D :: H) Z := by
  refine hS.closes (D := [.box b 122 (dkCells mb lb D), mapC mb (mmap encIt D.items), mapC lb (mmap encI D.limits)]) ⟨⟨h1, h2, h3, hS.holds _ (List.Mem.head _), (hS.holds (mapC mb (mmap encIt D.items)) (by simp)).1, (hS.holds (mapC lb (mmap encI D.limits)) (by simp)).1⟩, DkIs.local⟩ ?_
  simp [Chunk.fp]
theorem look_it (m : List (List UInt8 × It)) (k : List UInt8) : lookV (encIt It0) (mmap encIt m) k false = encIt ((mget m k).getD It0) := by
  simp only [lookV, mget_map]; cases mget m k <;> rfl
theorem look_it2 (m : List (List UInt8 × It)) (k : List UInt8) : lookV (encIt It0) (mmap encIt m) k true = .tuple #[encIt ((mget m k).getD It0), .bool (mget m k).isSome] := by
  simp only [lookV, mget_map]; cases mget m k <;> rfl
def Dk.at (D : Dk) (p : List UInt8) : It := (mget D.items p).getD It0
def Dk.has (D : Dk) (p : List UInt8) : Bool := (mget D.items p).isSome
def Dk.may (D : Dk) (p : List UInt8) (names : Int) : Int := if D.down then 14 else if checkE p 6 ≠ 0 then 10 else if deepE p ≤ names then 10 else 0
set_option maxHeartbeats 4000000 in
set_option maxRecDepth 100000 in
theorem may_c {b mb lb : Nat} {D : Dk} (p : List UInt8) (names : Int) {w0 : World} (h : DkIs b mb lb D w0) (hl : p.length ≤ 1099511627) : Cal Tryz.prog 122 [.pointer (some ⟨b, 0, none⟩), str p, .int .i64 names] w0
    (fun v w' => Upd [] w0 w' ∧ v = .int .i64 (D.may p names)) := by
  refine Cal.mk' (by kernel_rfl) Tryz.func122 rfl rfl fun hS => ?_
  obtain ⟨_, _, _, hb, hm, hlm⟩ := h
  have hb : w0.heap[b]? = some (.cells ⟨[.map (some mb), .map (some lb), .int .i64 D.steps, .int .i64 D.stamps, .int .i64 D.armed, .bool D.down]⟩ 122 (0, 0)) := hb
  unfold Dk.may
  generalize D.down = dn at *
  cases dn with
  | true =>
    repeat' (first | (show WL _ _ _ _ _ _ _; first | refine WL.pure rfl rfl rfl rfl ?_ | refine WL.nil ?_ | (refine WL.load hS rfl rfl (LdOk.old hb Mm rfl) rfl rfl rfl ?_)) | (show WC _ _ _ _ _ _; first | refine WC.seq ?_ | refine WC.region ?_ | refine WC.block ?_ | refine WC.ret ?_ | refine WC.condT rfl (by with_reducible rfl) ?_ | refine WC.condF rfl (by with_reducible rfl) ?_) | refine seqQ_n ?_ | refine seqQ_r ?_ | refine blkQ_r ?_)
    exact fin1r rfl rfl ⟨hS.upd, rfl⟩
  | false =>
    rw [if_neg (by decide)]
    by_cases hc : checkE p 6 = 0
    · rw [if_neg (by simp [hc])]
      by_cases hd : deepE p ≤ names
      case' pos => rw [if_pos hd]
      case' neg => rw [if_neg hd]
      all_goals
        repeat' (first | (show WL _ _ _ _ _ _ _; first | refine WL.pure rfl rfl rfl rfl ?_ | refine WL.nil ?_ | (refine WL.load hS rfl rfl (LdOk.old hb Mm rfl) rfl rfl rfl ?_) | (refine WL.calls hS rfl rfl (pcheck_c p 6 _ (by omega)) rfl rfl rfl ?_; rintro v w rfl hS; rw [hc]) | (refine WL.calls hS rfl rfl (pdeep_c p _ (by omega)) rfl rfl rfl ?_; rintro v w rfl hS)) | (show WC _ _ _ _ _ _; first | refine WC.seq ?_ | refine WC.region ?_ | refine WC.block ?_ | refine WC.skip ?_ | refine WC.ret ?_ | refine WC.condF rfl (by with_reducible rfl) ?_ | refine WC.condT rfl (decide_eq_true (by first | with_reducible assumption | omega)) ?_ | refine WC.condF rfl (decide_eq_false (by first | with_reducible assumption | omega)) ?_) | refine seqQ_n ?_ | refine blkQ_n ?_ | refine seqQ_r ?_ | refine blkQ_r ?_)
        exact fin1r rfl rfl ⟨hS.upd, rfl⟩
    · rw [if_pos hc]
      have hc := checkE_ten p 6 hc
      repeat' (first | (show WL _ _ _ _ _ _ _; first | refine WL.pure rfl rfl rfl rfl ?_ | refine WL.nil ?_ | (refine WL.load hS rfl rfl (LdOk.old hb Mm rfl) rfl rfl rfl ?_) | (refine WL.calls hS rfl rfl (pcheck_c p 6 _ (by omega)) rfl rfl rfl ?_; rintro v w rfl hS; rw [hc]) | refine WL.skip rfl rfl rfl ?_) | (show WC _ _ _ _ _ _; first | refine WC.seq ?_ | refine WC.region ?_ | refine WC.block ?_ | refine WC.ret ?_ | refine WC.condT rfl (by with_reducible rfl) ?_ | refine WC.condF rfl (by with_reducible rfl) ?_) | refine seqQ_n ?_ | refine seqQ_r ?_ | refine blkQ_r ?_)
      exact fin1r rfl rfl ⟨hS.upd, rfl⟩
def Dk.under (D : Dk) (p : List UInt8) : Bool := if deepE p = 1 then true else (D.at (parentE p)).dir
set_option maxHeartbeats 4000000 in
set_option maxRecDepth 100000 in
theorem dunder_c {b mb lb : Nat} {D : Dk} (p : List UInt8) {w0 : World} (h : DkIs b mb lb D w0) (hl : p.length ≤ 1099511627) : Cal Tryz.prog 123 [.pointer (some ⟨b, 0, none⟩), str p] w0
    (fun v w' => Upd [] w0 w' ∧ v = .bool (D.under p)) := by
  refine Cal.mk' (by kernel_rfl) Tryz.func123 rfl rfl fun hS => ?_
  obtain ⟨_, _, _, hb, hm, hlm⟩ := h
  have hb : w0.heap[b]? = some (.cells ⟨[.map (some mb), .map (some lb), .int .i64 D.steps, .int .i64 D.stamps, .int .i64 D.armed, .bool D.down]⟩ 122 (0, 0)) := hb
  unfold Dk.under
  by_cases hd : deepE p = 1
  case' pos => rw [if_pos hd]
  case' neg => rw [if_neg hd]
  all_goals
    repeat' (first | (show WL _ _ _ _ _ _ _; first | refine WL.pure rfl rfl rfl rfl ?_ | refine WL.nil ?_) | (show WC _ _ _ _ _ _; first | refine WC.seq ?_ | refine WC.region ?_ | refine WC.ret ?_ | (show WC _ _ (Code.region _ (List.toArray [_, _, _, _, _, _, _, _, _, _, _, _, _, _]) true) _ _ _; refine WC.drawS hS [0,2,3,4,5,6,7,8,10,11,12,13] [0,1,2,3,4,5,6,7,8,9,10,11,12,13] (by kernel_rfl) (by kernel_rfl) ?_; clear hS; intro w hS hM)) | (show WD _ _ _ _ _ _ _ _ _; first | refine WD.pure rfl rfl rfl rfl rfl ?_ | refine WD.nil ?_ | (refine WD.load rfl rfl (LdOk.old hb Mm rfl) rfl rfl rfl rfl ?_) | (refine WD.mget rfl rfl rfl rfl (MapOk.old hm Mm) (look_it _ _) rfl rfl rfl rfl ?_) | (refine WD.calls hS hM rfl rfl (pdeep_c p _ (by omega)) rfl rfl rfl rfl rfl ?_; clear hS; rintro v w rfl hS) | (refine WD.calls hS hM rfl rfl (pparent_c p _ (by omega)) rfl rfl rfl rfl rfl ?_; clear hS; rintro v w rfl hS) | refine WD.pass rfl rfl rfl rfl ?_ | refine WD.skip rfl rfl rfl rfl rfl (hM.ss hS) ?_ | ((fail_if_success (refine WD.wanted rfl ?_)); refine WD.guard rfl rfl rfl (fun h => ?_) (fun h => ?_) <;> (try simp only [ZZ0, ZZ1, ZZ2, ZZ3, ZZ4, ZZ5, ZZ6, ZZ7, ZZ8, ZZ9, ZZ10, ZZ11, ZZ12, ZZ13, ZZ14, ZZ15] at h) <;> (try (exfalso; first | omega | contradiction)))) | refine seqQ_n ?_)
    exact fin1r rfl rfl ⟨hS.upd, rfl⟩
def Dk.stepE (D : Dk) : Int := if D.armed = 0 then 14 else 0
def Dk.step (D : Dk) : Dk := if D.armed = 0 then { D with armed := -1, down := true } else { D with armed := if 0 < D.armed then IntKind.i64.wrap (D.armed - 1) else D.armed, steps := IntKind.i64.wrap (D.steps + 1) }
set_option maxHeartbeats 4000000 in
set_option maxRecDepth 100000 in
theorem step_c {b mb lb : Nat} {D : Dk} {w0 : World} (hc : (dkC b mb lb D).holds w0) (hi : inB (dkC b mb lb D) w0) : Cal Tryz.prog 87 [.pointer (some ⟨b, 0, none⟩)] w0
    (fun v w' => v = .int .i64 D.stepE ∧ Mut w0 w' (dkC b mb lb D) (dkC b mb lb D.step)) := by
  refine Cal.mkM hc hi (by kernel_rfl) Tryz.func87 rfl rfl fun hS => ?_
  obtain ⟨h1, h2, h3, hS⟩ := St.dkOpen hS
  replace hS : St w0 (dkC b mb lb D).fp w0 [.box b 122 [.map (some mb), .map (some lb), .int .i64 D.steps, .int .i64 D.stamps, .int .i64 D.armed, .bool D.down], mapC mb (mmap encIt D.items), mapC lb (mmap encI D.limits)] _ := hS
  unfold Dk.stepE
  by_cases h0 : D.armed = 0
  · rw [if_pos h0]
    have hD : D.step = { D with armed := -1, down := true } := by unfold Dk.step; rw [if_pos h0]
    rw [hD]
    repeat' (first | (show WL _ _ _ _ _ _ _; first | refine WL.pure rfl rfl rfl rfl ?_ | refine WL.nil ?_ | refine WL.load hS rfl rfl (LdOk.box Mm rfl) rfl rfl rfl ?_ | (refine WL.store hS rfl rfl rfl Sb rfl rfl rfl ?_; intro w hS)) | (show WC _ _ _ _ _ _; first | refine WC.seq ?_ | refine WC.region ?_ | refine WC.ret ?_ | refine WC.condT rfl (decide_eq_true (by first | with_reducible assumption | omega)) ?_) | refine seqQ_n ?_ | refine seqQ_r ?_)
    exact fin1r rfl rfl ⟨rfl, (St.dkClose { D with armed := -1, down := true } h1 h2 h3 hS).mutOf (List.Mem.head _)⟩
  · rw [if_neg h0]
    by_cases hp : 0 < D.armed
    · have hD : D.step = { D with armed := IntKind.i64.wrap (D.armed - 1), steps := IntKind.i64.wrap (D.steps + 1) } := by unfold Dk.step; rw [if_neg h0, if_pos hp]
      rw [hD]
      repeat' (first | (show WL _ _ _ _ _ _ _; first | refine WL.pure rfl rfl rfl rfl ?_ | refine WL.nil ?_ | refine WL.load hS rfl rfl (LdOk.box Mm rfl) rfl rfl rfl ?_ | (refine WL.addW rfl rfl rfl rfl rfl rfl ?_) | (refine WL.subW rfl rfl rfl rfl rfl rfl ?_) | (refine WL.store hS rfl rfl rfl Sb rfl rfl rfl ?_; intro w hS)) | (show WC _ _ _ _ _ _; first | refine WC.seq ?_ | refine WC.region ?_ | refine WC.skip ?_ | refine WC.ret ?_ | refine WC.condT rfl (decide_eq_true (by first | with_reducible assumption | omega)) ?_ | refine WC.condF rfl (decide_eq_false (by first | with_reducible assumption | omega)) ?_) | refine seqQ_n ?_)
      exact fin1r rfl rfl ⟨rfl, (St.dkClose { D with armed := IntKind.i64.wrap (D.armed - 1), steps := IntKind.i64.wrap (D.steps + 1) } h1 h2 h3 hS).mutOf (List.Mem.head _)⟩
    · have hD : D.step = { D with steps := IntKind.i64.wrap (D.steps + 1) } := by unfold Dk.step; rw [if_neg h0, if_neg hp]
      rw [hD]
      repeat' (first | (show WL _ _ _ _ _ _ _; first | refine WL.pure rfl rfl rfl rfl ?_ | refine WL.nil ?_ | refine WL.load hS rfl rfl (LdOk.box Mm rfl) rfl rfl rfl ?_ | (refine WL.addW rfl rfl rfl rfl rfl rfl ?_) | (refine WL.store hS rfl rfl rfl Sb rfl rfl rfl ?_; intro w hS)) | (show WC _ _ _ _ _ _; first | refine WC.seq ?_ | refine WC.region ?_ | refine WC.skip ?_ | refine WC.ret ?_ | refine WC.condF rfl (decide_eq_false (by first | with_reducible assumption | omega)) ?_) | refine seqQ_n ?_)
      exact fin1r rfl rfl ⟨rfl, (St.dkClose { D with steps := IntKind.i64.wrap (D.steps + 1) } h1 h2 h3 hS).mutOf (List.Mem.head _)⟩
def Dk.set (D : Dk) (p : List UInt8) (x : It) : Dk := { D with stamps := IntKind.i64.wrap (D.stamps + 1), items := mset D.items p { x with stamp := IntKind.i64.wrap (D.stamps + 1) } }
theorem St.dkSet {w0 w : World} {M : List Nat} {H : List Chunk} {Z : List Snap} {b mb lb : Nat} {D : Dk} {p : List UInt8} {x : It} (h1 : b ≠ mb) (h2 : b ≠ lb) (h3 : mb ≠ lb)
    (hS : St w0 M w (.box b 122 [.map (some mb), .map (some lb), .int .i64 D.steps, .int .i64 (IntKind.i64.wrap (D.stamps + 1)), .int .i64 D.armed, .bool D.down] :: mapC mb (mset (mmap encIt D.items) p (encIt { x with stamp := IntKind.i64.wrap (D.stamps + 1) })) :: mapC lb (mmap encI D.limits) :: H) Z) : St w0 M w (dkC b mb lb (D.set p x) :: H) Z := by
  rw [mset_map] at hS
  exact St.dkClose (D.set p x) h1 h2 h3 hS
set_option maxHeartbeats 4000000 in
set_option maxRecDepth 100000 in
theorem dset_c {b mb lb : Nat} {D : Dk} (p : List UInt8) (x : It) {w0 : World} (hc : (dkC b mb lb D).holds w0) (hi : inB (dkC b mb lb D) w0) : Cal Tryz.prog 78 [.pointer (some ⟨b, 0, none⟩), str p, encIt x] w0
    (fun v w' => v = .tuple #[] ∧ Mut w0 w' (dkC b mb lb D) (dkC b mb lb (D.set p x))) := by
  refine Cal.mkM hc hi (by kernel_rfl) Tryz.func78 rfl rfl fun hS => ?_
  obtain ⟨h1, h2, h3, hS⟩ := St.dkOpen hS
  replace hS : St w0 (dkC b mb lb D).fp w0 [.box b 122 [.map (some mb), .map (some lb), .int .i64 D.steps, .int .i64 D.stamps, .int .i64 D.armed, .bool D.down], mapC mb (mmap encIt D.items), mapC lb (mmap encI D.limits)] _ := hS
  repeat' (first | (show WL _ _ _ _ _ _ _; first | refine WL.pure rfl rfl rfl rfl ?_ | refine WL.nil ?_ | refine WL.load hS rfl rfl (LdOk.box Mm rfl) rfl rfl rfl ?_ | (refine WL.addW rfl rfl rfl rfl rfl rfl ?_) | (refine WL.store hS rfl rfl rfl Sb rfl rfl rfl ?_; intro w hS) | (refine WL.box hS rfl rfl rfl rfl rfl ?_; intro w b hS)) | (show WC _ _ _ _ _ _; first | refine WC.seq ?_ | refine WC.region ?_) | refine seqQ_n ?_)
  have hS := St.pull (c := mapC mb (mmap encIt D.items)) hS Pl1
  refine WC.drawC hS [0,1,2,3,4,5] [0,1,2,3,4,5,6] (by kernel_rfl) (by kernel_rfl) ?_
  clear hS
  intro w hS hM
  repeat' (first | (show WD _ _ _ _ _ _ _ _ _; first | refine WD.pure rfl rfl rfl rfl rfl ?_ | refine WD.nil ?_ | refine WD.load rfl rfl (LdOk.box Mm rfl) rfl rfl rfl rfl ?_ | (refine WD.msetC hS (More.refl _ _) (.inl rfl) rfl rfl rfl rfl rfl rfl rfl rfl ?_; clear hS; intro w hS)) | fail)
  have hS := (hS.perm (.swap _ _ _)).drop.perm (.swap _ _ _)
  exact fin0n rfl ⟨rfl, (St.dkSet h1 h2 h3 hS).mutOf (List.Mem.head _)⟩
def volE (p : List UInt8) : List UInt8 := if Lib.indexByte p 47 < 0 then p else p.take (Lib.indexByte p 47).toNat
theorem indexByte_le (s : List UInt8) (c : UInt8) : -1 ≤ Lib.indexByte s c ∧ Lib.indexByte s c < s.length := by
  by_cases h : 0 < s.count c
  · obtain ⟨j, h1, h2, _⟩ := indexByte_spec s c h
    rw [h1]; omega
  · have h : s.count c = 0 := by omega
    induction s with
    | nil => simp [Lib.indexByte]
    | cons a s ih =>
      rw [List.count_cons] at h
      have ha : (a == c) = false := by
        cases hac : a == c with
        | false => rfl
        | true => rw [hac] at h; simp at h
      have := ih (by omega)
      unfold Lib.indexByte
      rw [ha]
      simp only [Bool.false_eq_true, if_false, List.length_cons]
      split <;> omega
set_option maxHeartbeats 4000000 in
set_option maxRecDepth 100000 in
theorem scut_c (s : List UInt8) (c : UInt8) (w0 : World) (hl : s.length ≤ 1099511627776) : Cal Tryz.prog 213 [str s, str [c]] w0 (fun v w' => Upd [] w0 w' ∧ ∃ after found, v = .tuple #[str (if Lib.indexByte s c < 0 then s else s.take (Lib.indexByte s c).toNat), str after, .bool found]) := by
  refine Cal.mk' (by kernel_rfl) Tryz.func213 rfl rfl fun hS => ?_
  have hle := indexByte_le s c
  by_cases hn : Lib.indexByte s c < 0
  · rw [if_pos hn]
    repeat' (first | (show WL _ _ _ _ _ _ _; first | refine WL.pure rfl rfl rfl rfl ?_ | refine WL.nil ?_ | (refine WL.calls hS rfl rfl (sindex_c s c _) rfl rfl rfl ?_; rintro v w rfl hS)) | (show WC _ _ _ _ _ _; first | refine WC.seq ?_ | refine WC.region ?_ | refine WC.skip ?_ | refine WC.ret ?_ | refine WC.condF rfl (decide_eq_false (by first | with_reducible assumption | omega)) ?_) | refine seqQ_n ?_)
    exact fin3r rfl rfl rfl rfl ⟨hS.upd, _, _, rfl⟩
  · rw [if_neg hn]
    obtain ⟨j, hj⟩ := Int.eq_ofNat_of_zero_le (show 0 ≤ Lib.indexByte s c by omega)
    rw [hj] at hle ⊢
    have hj1 : Int.ofNat j + (([c] : List UInt8).length : Int) = Int.ofNat (j + 1) := rfl
    have hlc : ([c] : List UInt8).length = 1 := rfl
    repeat' (first | (show WL _ _ _ _ _ _ _; first | refine WL.pure rfl rfl rfl rfl ?_ | refine WL.nil ?_ | (refine WL.calls hS rfl rfl (sindex_c s c _) rfl rfl rfl ?_; rintro v w rfl hS; rw [hj])) | (show WC _ _ _ _ _ _; first | refine WC.seq ?_ | refine WC.region ?_ | refine WC.ret ?_ | (show WC _ _ (Code.region _ (List.toArray [_, _, _, _, _, _, _, _, _, _, _, _]) true) _ _ _; refine WC.drawS hS [0, 1, 2, 3, 4, 5, 6, 7, 8, 9, 10, 11] [0, 1, 2, 3, 4, 5, 6, 7, 8, 9, 10, 11] (by kernel_rfl) (by kernel_rfl) ?_; clear hS; intro w hS hM) | refine WC.condT rfl (decide_eq_true (by first | with_reducible assumption | omega)) ?_) | (show WD _ _ _ _ _ _ _ _ _; first | refine WD.pure rfl rfl rfl rfl rfl ?_ | refine WD.nil ?_ | refine WD.add rfl rfl rfl (by omega) rfl rfl rfl rfl ?_ | (refine WD.highS (j := j) rfl rfl rfl rfl (by omega) rfl rfl rfl rfl ?_) | (refine WD.lowS (j := j + 1) rfl rfl rfl (congrArg (Value.int .i64) hj1) (by omega) rfl rfl rfl rfl ?_)) | refine seqQ_n ?_ | refine seqQ_r ?_)
    exact fin3r rfl rfl rfl rfl ⟨hS.upd, _, _, rfl⟩
set_option maxHeartbeats 4000000 in
set_option maxRecDepth 100000 in
theorem cut_c (s : List UInt8) (c : UInt8) (w0 : World) (hl : s.length ≤ 1099511627776) : Cal Tryz.prog 182 [str s, str [c]] w0 (fun v w' => Upd [] w0 w' ∧ ∃ after found, v = .tuple #[str (if Lib.indexByte s c < 0 then s else s.take (Lib.indexByte s c).toNat), str after, .bool found]) := by
  refine Cal.mk' (by kernel_rfl) Tryz.func182 rfl rfl fun hS => ?_
  repeat' (first | (show WL _ _ _ _ _ _ _; first | refine WL.pure rfl rfl rfl rfl ?_ | refine WL.nil ?_ | (refine WL.calls hS rfl rfl (scut_c s c _ hl) rfl rfl rfl ?_; rintro v w ⟨after, found, rfl⟩ hS)) | (show WC _ _ _ _ _ _; first | refine WC.seq ?_ | refine WC.region ?_ | refine WC.ret ?_) | refine seqQ_n ?_)
  exact fin3r rfl rfl rfl rfl ⟨hS.upd, _, _, rfl⟩
set_option maxHeartbeats 4000000 in
set_option maxRecDepth 100000 in
theorem volume_c (p : List UInt8) (w0 : World) (hl : p.length ≤ 1099511627776) : Cal Tryz.prog 140 [str p] w0 (fun v w' => Upd [] w0 w' ∧ v = str (volE p)) := by
  refine Cal.mk' (by kernel_rfl) Tryz.func140 rfl rfl fun hS => ?_
  repeat' (first | (show WL _ _ _ _ _ _ _; first | refine WL.pure rfl rfl rfl rfl ?_ | refine WL.nil ?_ | (refine WL.calls hS rfl rfl (cut_c p 47 _ hl) rfl rfl rfl ?_; rintro v w ⟨after, found, rfl⟩ hS)) | (show WC _ _ _ _ _ _; first | refine WC.seq ?_ | refine WC.region ?_ | refine WC.ret ?_) | refine seqQ_n ?_)
  exact fin1r rfl rfl ⟨hS.upd, rfl⟩
end Go.Proofs.YtccfiohagbneaaaGreatDoor

/- What is proved: what the program's disk answers and holds: made, asked, a folder made. Conditions: as each names them. -/
namespace Go.Proofs.YtccfiohagbneaaaGreatDoor
open Go Go.J Go.RowKit
def Dk0 : Dk := ⟨[], [], 0, 0, -1, false⟩
set_option maxHeartbeats 4000000 in
set_option maxRecDepth 100000 in
theorem dnew_c (w0 : World) : Cal Tryz.prog 34 [] w0 (fun v w' => Upd [] w0 w' ∧ ∃ b mb lb, v = .pointer (some ⟨b, 0, none⟩) ∧ New w0 w' (dkC b mb lb Dk0)) := by
  refine Cal.mk' (by kernel_rfl) Tryz.func34 rfl rfl fun hS => ?_
  repeat' (first | (show WL _ _ _ _ _ _ _; first | refine WL.pure rfl rfl rfl rfl ?_ | refine WL.nil ?_ | (refine WL.mmake hS rfl rfl rfl rfl rfl ?_; intro w b hS) | (refine WL.box hS rfl rfl rfl rfl rfl ?_; intro w b hS) | refine WL.build rfl rfl rfl rfl rfl ?_) | (show WC _ _ _ _ _ _; first | refine WC.seq ?_ | refine WC.region ?_ | refine WC.ret ?_) | refine seqQ_n ?_)
  have hd := (List.pairwise_cons.1 hS.disj)
  have hd1 := hd.1 _ (List.Mem.head _)
  have hd2 := hd.1 _ (List.Mem.tail _ (List.Mem.head _))
  have hd3 := (List.pairwise_cons.1 hd.2).1 _ (List.Mem.head _)
  simp [Chunk.apart, Chunk.fp] at hd1 hd2 hd3
  have hS := hS.perm ((List.Perm.swap _ _ _).cons _)
  exact fin1r rfl rfl ⟨hS.upd, _, _, _, rfl, (St.dkClose Dk0 hd2 hd1 (Ne.symm hd3) hS).newOf (List.Mem.head _)⟩
def Dk.kind (D : Dk) (p : List UInt8) : Int := if D.has p then (if (D.at p).dir then 1 else 2) else 0
set_option maxHeartbeats 4000000 in
set_option maxRecDepth 100000 in
theorem dkind_c {b mb lb : Nat} {D : Dk} (p : List UInt8) {w0 : World} (h : DkIs b mb lb D w0) : Cal Tryz.prog 66 [.pointer (some ⟨b, 0, none⟩), str p] w0
    (fun v w' => Upd [] w0 w' ∧ v = .int .i64 (D.kind p)) := by
  refine Cal.mk' (by kernel_rfl) Tryz.func66 rfl rfl fun hS => ?_
  obtain ⟨_, _, _, hb, hm, hlm⟩ := h
  have hb : w0.heap[b]? = some (.cells ⟨[.map (some mb), .map (some lb), .int .i64 D.steps, .int .i64 D.stamps, .int .i64 D.armed, .bool D.down]⟩ 122 (0, 0)) := hb
  unfold Dk.kind Dk.has Dk.at
  have hlk := look_it2 D.items p
  generalize (mget D.items p).isSome = has at *
  generalize (mget D.items p).getD It0 = it at *
  obtain ⟨dir, data, kept, loose, anew, stamp⟩ := it
  cases has with
  | false =>
    repeat' (first | (show WL _ _ _ _ _ _ _; first | refine WL.pure rfl rfl rfl rfl ?_ | refine WL.nil ?_ | (refine WL.load hS rfl rfl (LdOk.old hb Mm rfl) rfl rfl rfl ?_) | (refine WL.mget hS rfl rfl rfl rfl (MapOk.old hm Mm) hlk rfl rfl rfl ?_) | (refine WL.store hS rfl rfl rfl Sb rfl rfl rfl ?_; intro w hS) | (refine WL.alloc hS rfl rfl rfl rfl rfl rfl ?_; intro w b hS)) | (show WC _ _ _ _ _ _; first | refine WC.seq ?_ | refine WC.region ?_ | refine WC.block ?_ | refine WC.skip ?_ | refine WC.ret ?_ | refine WC.condF rfl (by with_reducible rfl) ?_ | refine WC.condT rfl (by decide) ?_) | refine seqQ_n ?_ | refine seqQ_r ?_ | refine blkQ_r ?_)
    exact fin1r rfl rfl ⟨hS.upd, rfl⟩
  | true =>
    cases dir with
    | true =>
      repeat' (first | (show WL _ _ _ _ _ _ _; first | refine WL.pure rfl rfl rfl rfl ?_ | refine WL.nil ?_ | refine WL.load hS rfl rfl (LdOk.box Mm rfl) rfl rfl rfl ?_ | (refine WL.load hS rfl rfl (LdOk.old hb Mm rfl) rfl rfl rfl ?_) | (refine WL.mget hS rfl rfl rfl rfl (MapOk.old hm Mm) hlk rfl rfl rfl ?_) | (refine WL.store hS rfl rfl rfl Sb rfl rfl rfl ?_; intro w hS) | (refine WL.alloc hS rfl rfl rfl rfl rfl rfl ?_; intro w b hS)) | (show WC _ _ _ _ _ _; first | refine WC.seq ?_ | refine WC.region ?_ | refine WC.block ?_ | refine WC.skip ?_ | refine WC.ret ?_ | refine WC.condT rfl (by with_reducible rfl) ?_ | refine WC.condF rfl (by with_reducible rfl) ?_ | refine WC.condF rfl (by decide) ?_) | refine seqQ_n ?_ | refine seqQ_r ?_ | refine blkQ_r ?_)
      exact fin1r rfl rfl ⟨hS.upd, rfl⟩
    | false =>
      repeat' (first | (show WL _ _ _ _ _ _ _; first | refine WL.pure rfl rfl rfl rfl ?_ | refine WL.nil ?_ | refine WL.load hS rfl rfl (LdOk.box Mm rfl) rfl rfl rfl ?_ | (refine WL.load hS rfl rfl (LdOk.old hb Mm rfl) rfl rfl rfl ?_) | (refine WL.mget hS rfl rfl rfl rfl (MapOk.old hm Mm) hlk rfl rfl rfl ?_) | (refine WL.store hS rfl rfl rfl Sb rfl rfl rfl ?_; intro w hS) | (refine WL.alloc hS rfl rfl rfl rfl rfl rfl ?_; intro w b hS)) | (show WC _ _ _ _ _ _; first | refine WC.seq ?_ | refine WC.region ?_ | refine WC.block ?_ | refine WC.skip ?_ | refine WC.ret ?_ | refine WC.condF rfl (by with_reducible rfl) ?_ | refine WC.condF rfl (by decide) ?_) | refine seqQ_n ?_ | refine blkQ_n ?_)
      exact fin1r rfl rfl ⟨hS.upd, rfl⟩
def Dk.file (D : Dk) (p : List UInt8) : Int := if D.may p 1 ≠ 0 then D.may p 1 else if D.has p then (if (D.at p).dir then 12 else 0) else 11
set_option maxHeartbeats 4000000 in
set_option maxRecDepth 100000 in
theorem dfile_c {b mb lb : Nat} {D : Dk} (p : List UInt8) {w0 : World} (h : DkIs b mb lb D w0) (hl : p.length ≤ 1099511627) : Cal Tryz.prog 81 [.pointer (some ⟨b, 0, none⟩), str p] w0
    (fun v w' => Upd [] w0 w' ∧ v = .int .i64 (D.file p)) := by
  have hmay := fun (w : World) (h : DkIs b mb lb D w) => may_c p 1 h hl
  refine Cal.mk' (by kernel_rfl) Tryz.func81 rfl rfl fun hS => ?_
  have h' := h
  obtain ⟨_, _, _, hb, hm, hlm⟩ := h
  have hb : w0.heap[b]? = some (.cells ⟨[.map (some mb), .map (some lb), .int .i64 D.steps, .int .i64 D.stamps, .int .i64 D.armed, .bool D.down]⟩ 122 (0, 0)) := hb
  unfold Dk.file Dk.has Dk.at
  have hlk := look_it2 D.items p
  by_cases he : D.may p 1 = 0
  · rw [if_neg (by simp [he])]
    generalize (mget D.items p).isSome = has at *
    generalize (mget D.items p).getD It0 = it at *
    obtain ⟨dir, data, kept, loose, anew, stamp⟩ := it
    have hcase : has = false ∨ (has = true ∧ dir = true) ∨ (has = true ∧ dir = false) := by cases has <;> cases dir <;> simp
    rcases hcase with rfl | ⟨rfl, rfl⟩ | ⟨rfl, rfl⟩
    all_goals
      repeat' (first | (show WL _ _ _ _ _ _ _; first | refine WL.pure rfl rfl rfl rfl ?_ | refine WL.nil ?_ | refine WL.load hS rfl rfl (LdOk.box Mm rfl) rfl rfl rfl ?_ | (refine WL.calls hS rfl rfl (hmay _ h') rfl rfl rfl ?_; rintro v w rfl hS; rw [he]) | (refine WL.load hS rfl rfl (LdOk.old hb Mm rfl) rfl rfl rfl ?_) | (refine WL.mget hS rfl rfl rfl rfl (MapOk.old hm Mm) hlk rfl rfl rfl ?_) | (refine WL.store hS rfl rfl rfl Sb rfl rfl rfl ?_; intro w hS) | (refine WL.alloc hS rfl rfl rfl rfl rfl rfl ?_; intro w b hS)) | (show WC _ _ _ _ _ _; first | refine WC.seq ?_ | refine WC.region ?_ | refine WC.block ?_ | refine WC.skip ?_ | refine WC.ret ?_ | refine WC.condT rfl (by with_reducible rfl) ?_ | refine WC.condF rfl (by with_reducible rfl) ?_ | refine WC.condT rfl (by decide) ?_ | refine WC.condF rfl (by decide) ?_) | refine seqQ_n ?_ | refine blkQ_n ?_ | refine seqQ_r ?_ | refine blkQ_r ?_)
      exact fin1r rfl rfl ⟨hS.upd, rfl⟩
  · rw [if_pos he]
    repeat' (first | (show WL _ _ _ _ _ _ _; first | refine WL.pure rfl rfl rfl rfl ?_ | refine WL.nil ?_ | (refine WL.calls hS rfl rfl (hmay _ h') rfl rfl rfl ?_; rintro v w rfl hS)) | (show WC _ _ _ _ _ _; first | refine WC.seq ?_ | refine WC.region ?_ | refine WC.ret ?_ | refine WC.condT rfl (decide_eq_true (by first | with_reducible assumption | omega)) ?_) | refine seqQ_n ?_ | refine seqQ_r ?_)
    exact fin1r rfl rfl ⟨hS.upd, rfl⟩
theorem LdOk.dk {P : Program} {H : List Chunk} {Z : List Snap} {ty : TypeId} {v : Value} {b mb lb off : Nat} {D : Dk} (hm : dkC b mb lb D ∈ H) (hv : getV P ty [.map (some mb), .map (some lb), .int .i64 D.steps, .int .i64 D.stamps, .int .i64 D.armed, .bool D.down] off = some v) : LdOk P H Z ty ⟨b, off, none⟩ v := by
  refine ⟨fun w0 M w Hn Zn hS => ?_⟩
  have hb := (hS.holds _ (List.mem_append_right _ hm)).1.2.2.2.1
  have := run_loadVar_cells (o := 0) hv (cell_box hb)
  rwa [Nat.zero_add] at this
theorem MapOk.dk {H : List Chunk} {Z : List Snap} {b mb lb : Nat} {D : Dk} (hm : dkC b mb lb D ∈ H) : MapOk H Z mb (mmap encIt D.items) := ⟨fun w0 M w Hn Zn hS => (hS.holds _ (List.mem_append_right _ hm)).1.2.2.2.2.1⟩
theorem St.dkPut {w0 w : World} {M : List Nat} {H : List Chunk} {Z : List Snap} {b mb lb : Nat} {D : Dk} {p : List UInt8} {x : It} (h1 : b ≠ mb) (h2 : b ≠ lb) (h3 : mb ≠ lb)
    (hS : St w0 M w (.box b 122 [.map (some mb), .map (some lb), .int .i64 D.steps, .int .i64 D.stamps, .int .i64 D.armed, .bool D.down] :: mapC mb (mset (mmap encIt D.items) p (encIt x)) :: mapC lb (mmap encI D.limits) :: H) Z) : St w0 M w (dkC b mb lb { D with items := mset D.items p x } :: H) Z := by
  rw [mset_map] at hS
  exact St.dkClose { D with items := mset D.items p x } h1 h2 h3 hS
def Dk.mkdir (D : Dk) (p : List UInt8) : Int × Dk := if D.may p 0 ≠ 0 then (D.may p 0, D) else if D.under p = false then (11, D) else if D.has p = true ∧ (D.at p).dir = false then (12, D) else if D.stepE ≠ 0 then (D.stepE, D.step) else (0, { D.step with items := mset D.step.items p { It0 with dir := true } })
set_option maxHeartbeats 8000000 in
set_option maxRecDepth 100000 in
theorem mkdir_c {q mb lb : Nat} {D : Dk} (p : List UInt8) {w0 : World} (hc : (dkC q mb lb D).holds w0) (hi : inB (dkC q mb lb D) w0) (hl : p.length ≤ 1099511627) : Cal Tryz.prog 60 [.pointer (some ⟨q, 0, none⟩), str p] w0
    (fun v w' => v = .int .i64 (D.mkdir p).1 ∧ Mut w0 w' (dkC q mb lb D) (dkC q mb lb (D.mkdir p).2)) := by
  refine Cal.mkM hc hi (by kernel_rfl) Tryz.func60 rfl rfl fun hS => ?_
  by_cases he : D.may p 0 = 0
  · have hlk := look_it2 D.items p
    have hhas : D.has p = (mget D.items p).isSome := rfl
    have hat : D.at p = (mget D.items p).getD It0 := rfl
    rw [← hhas, ← hat] at hlk
    clear hhas hat
    by_cases hu : D.under p = false
    · have hR : D.mkdir p = (11, D) := by unfold Dk.mkdir; rw [if_neg (by simp [he]), if_pos hu]
      rw [hR]
      repeat' (first | (show WL _ _ _ _ _ _ _; first | refine WL.pure rfl rfl rfl rfl ?_ | refine WL.nil ?_ | (refine WL.calls hS rfl rfl (may_c p 0 (hS.holds (dkC q mb lb D) Mm).1 hl) rfl rfl rfl ?_; rintro v w rfl hS; rw [he]) | (refine WL.load hS rfl rfl (LdOk.dk Mm rfl) rfl rfl rfl ?_) | (refine WL.mget hS rfl rfl rfl rfl (MapOk.dk Mm) hlk rfl rfl rfl ?_) | (refine WL.calls hS rfl rfl (dunder_c p (D := D) (hS.holds (dkC q mb lb D) Mm).1 hl) rfl rfl rfl ?_; rintro v w rfl hS; rw [hu]) | (refine WL.store hS rfl rfl rfl Sb rfl rfl rfl ?_; intro w hS) | (refine WL.alloc hS rfl rfl rfl rfl rfl rfl ?_; intro w b hS)) | (show WC _ _ _ _ _ _; first | refine WC.seq ?_ | refine WC.region ?_ | refine WC.block ?_ | refine WC.skip ?_ | refine WC.ret ?_ | refine WC.condT rfl (by decide) ?_ | refine WC.condF rfl (by decide) ?_) | refine seqQ_n ?_ | refine seqQ_r ?_ | refine blkQ_r ?_)
      exact fin1r rfl rfl ⟨rfl, hS.mutOf Mm⟩
    · have hu' : D.under p = true := by simpa using hu
      by_cases hd : D.has p = true ∧ (D.at p).dir = false
      · have hR : D.mkdir p = (12, D) := by unfold Dk.mkdir; rw [if_neg (by simp [he]), if_neg hu, if_pos hd]
        rw [hR]
        generalize D.has p = has at *
        generalize D.at p = it at *
        obtain ⟨dir, data, kept, loose, anew, stamp⟩ := it
        obtain ⟨rfl, hd2⟩ := hd
        dsimp only at hd2
        subst hd2
        repeat' (first | (show WL _ _ _ _ _ _ _; first | refine WL.pure rfl rfl rfl rfl ?_ | refine WL.nil ?_ | refine WL.load hS rfl rfl (LdOk.box Mm rfl) rfl rfl rfl ?_ | (refine WL.calls hS rfl rfl (may_c p 0 (hS.holds (dkC q mb lb D) Mm).1 hl) rfl rfl rfl ?_; rintro v w rfl hS; rw [he]) | (refine WL.load hS rfl rfl (LdOk.dk Mm rfl) rfl rfl rfl ?_) | (refine WL.mget hS rfl rfl rfl rfl (MapOk.dk Mm) hlk rfl rfl rfl ?_) | (refine WL.calls hS rfl rfl (dunder_c p (D := D) (hS.holds (dkC q mb lb D) Mm).1 hl) rfl rfl rfl ?_; rintro v w rfl hS; rw [hu']) | (refine WL.store hS rfl rfl rfl Sb rfl rfl rfl ?_; intro w hS) | (refine WL.alloc hS rfl rfl rfl rfl rfl rfl ?_; intro w b hS)) | (show WC _ _ _ _ _ _; first | refine WC.seq ?_ | refine WC.region ?_ | refine WC.block ?_ | refine WC.skip ?_ | refine WC.ret ?_ | refine WC.condF rfl (by decide) ?_ | refine WC.condT rfl (by first | (simp; done) | (simp; omega)) ?_) | refine seqQ_n ?_ | refine seqQ_r ?_ | refine blkQ_r ?_)
        exact fin1r rfl rfl ⟨rfl, hS.mutOf Mm⟩
      · have hcase : (D.has p = false) ∨ (D.has p = true ∧ (D.at p).dir = true) := by
          cases h1 : D.has p
          · exact .inl rfl
          · refine .inr ⟨rfl, ?_⟩
            cases h2 : (D.at p).dir
            · exact absurd ⟨h1, h2⟩ hd
            · rfl
        by_cases hs : D.stepE = 0
        · have hR : D.mkdir p = (0, { D.step with items := mset D.step.items p { It0 with dir := true } }) := by unfold Dk.mkdir; rw [if_neg (by simp [he]), if_neg hu, if_neg hd, if_neg (by simp [hs])]
          rw [hR]
          clear hR hd hu
          generalize D.has p = has at *
          generalize D.at p = it at *
          obtain ⟨dir, data, kept, loose, anew, stamp⟩ := it
          rcases hcase with rfl | ⟨rfl, hd2⟩
          case' inr => (dsimp only at hd2; subst hd2)
          all_goals
            repeat' (first | (show WL _ _ _ _ _ _ _; first | refine WL.pure rfl rfl rfl rfl ?_ | refine WL.nil ?_ | refine WL.load hS rfl rfl (LdOk.box Mm rfl) rfl rfl rfl ?_ | (refine WL.calls hS rfl rfl (may_c p 0 (hS.holds (dkC q mb lb D) Mm).1 hl) rfl rfl rfl ?_; rintro v w rfl hS; rw [he]) | (refine WL.load hS rfl rfl (LdOk.dk Mm rfl) rfl rfl rfl ?_) | (refine WL.mget hS rfl rfl rfl rfl (MapOk.dk Mm) hlk rfl rfl rfl ?_) | (refine WL.calls hS rfl rfl (dunder_c p (D := D) (hS.holds (dkC q mb lb D) Mm).1 hl) rfl rfl rfl ?_; rintro v w rfl hS; rw [hu']) | (refine WL.callG rfl rfl (step_c (D := D) (hS.holds (dkC q mb lb D) Mm) (hS.inB_of Mm)) rfl rfl rfl ?_; rintro v w ⟨rfl, hmut⟩; have hS := hS.mut hmut Rp; clear hmut; rw [hs]) | (obtain ⟨h1, h2, h3, hS⟩ := St.dkOpen (St.pull (c := dkC q mb lb D.step) hS Pl1); refine WL.mset hS (.inl rfl) rfl rfl rfl rfl Rp rfl rfl ?_; clear hS; intro w hS) | (refine WL.store hS rfl rfl rfl Sb rfl rfl rfl ?_; intro w hS) | (refine WL.alloc hS rfl rfl rfl rfl rfl rfl ?_; intro w b hS) | refine WL.skip rfl rfl rfl ?_ | refine WL.build rfl rfl rfl rfl rfl ?_) | (show WC _ _ _ _ _ _; first | refine WC.seq ?_ | refine WC.region ?_ | refine WC.block ?_ | refine WC.skip ?_ | refine WC.ret ?_ | refine WC.condF rfl (by with_reducible rfl) ?_ | refine WC.condF rfl (by decide) ?_ | refine WC.condF rfl (by first | (simp; done) | (simp; omega)) ?_) | refine seqQ_n ?_ | refine blkQ_n ?_)
            exact fin1r rfl rfl ⟨rfl, (St.dkPut h1 h2 h3 hS).mutOf (List.Mem.head _)⟩
        · have hs2 : D.stepE = 14 := by unfold Dk.stepE at hs ⊢; split at hs <;> simp_all
          have hR : D.mkdir p = (14, D.step) := by unfold Dk.mkdir; rw [if_neg (by simp [he]), if_neg hu, if_neg hd, if_pos hs, hs2]
          rw [hR]
          clear hR hd hu hs
          have hs := hs2
          generalize D.has p = has at *
          generalize D.at p = it at *
          obtain ⟨dir, data, kept, loose, anew, stamp⟩ := it
          rcases hcase with rfl | ⟨rfl, hd2⟩
          case' inr => (dsimp only at hd2; subst hd2)
          all_goals
            repeat' (first | (show WL _ _ _ _ _ _ _; first | refine WL.pure rfl rfl rfl rfl ?_ | refine WL.nil ?_ | refine WL.load hS rfl rfl (LdOk.box Mm rfl) rfl rfl rfl ?_ | (refine WL.calls hS rfl rfl (may_c p 0 (hS.holds (dkC q mb lb D) Mm).1 hl) rfl rfl rfl ?_; rintro v w rfl hS; rw [he]) | (refine WL.load hS rfl rfl (LdOk.dk Mm rfl) rfl rfl rfl ?_) | (refine WL.mget hS rfl rfl rfl rfl (MapOk.dk Mm) hlk rfl rfl rfl ?_) | (refine WL.calls hS rfl rfl (dunder_c p (D := D) (hS.holds (dkC q mb lb D) Mm).1 hl) rfl rfl rfl ?_; rintro v w rfl hS; rw [hu']) | (refine WL.callG rfl rfl (step_c (D := D) (hS.holds (dkC q mb lb D) Mm) (hS.inB_of Mm)) rfl rfl rfl ?_; rintro v w ⟨rfl, hmut⟩; have hS := hS.mut hmut Rp; clear hmut; rw [hs]) | (refine WL.store hS rfl rfl rfl Sb rfl rfl rfl ?_; intro w hS) | (refine WL.alloc hS rfl rfl rfl rfl rfl rfl ?_; intro w b hS) | refine WL.skip rfl rfl rfl ?_) | (show WC _ _ _ _ _ _; first | refine WC.seq ?_ | refine WC.region ?_ | refine WC.block ?_ | refine WC.skip ?_ | refine WC.ret ?_ | refine WC.condF rfl (by with_reducible rfl) ?_ | refine WC.condT rfl (by decide) ?_ | refine WC.condF rfl (by decide) ?_ | refine WC.condF rfl (by first | (simp; done) | (simp; omega)) ?_) | refine seqQ_n ?_ | refine blkQ_n ?_ | refine seqQ_r ?_)
            exact fin1r rfl rfl ⟨rfl, hS.mutOf Mm⟩
  · have hR : D.mkdir p = (D.may p 0, D) := by unfold Dk.mkdir; rw [if_pos he]
    rw [hR]
    repeat' (first | (show WL _ _ _ _ _ _ _; first | refine WL.pure rfl rfl rfl rfl ?_ | refine WL.nil ?_ | (refine WL.calls hS rfl rfl (may_c p 0 (hS.holds (dkC q mb lb D) Mm).1 hl) rfl rfl rfl ?_; rintro v w rfl hS)) | (show WC _ _ _ _ _ _; first | refine WC.seq ?_ | refine WC.region ?_ | refine WC.ret ?_ | refine WC.condT rfl (decide_eq_true (by first | with_reducible assumption | omega)) ?_) | refine seqQ_n ?_ | refine seqQ_r ?_)
    exact fin1r rfl rfl ⟨rfl, hS.mutOf Mm⟩
end Go.Proofs.YtccfiohagbneaaaGreatDoor

/- What is proved: what the program's disk answers and holds: room, texts read, written, grown, made sure of, renamed. Conditions: no limit at the volume. -/
namespace Go.Proofs.YtccfiohagbneaaaGreatDoor
open Go Go.J Go.RowKit
theorem look_int (m : List (List UInt8 × Int)) (k : List UInt8) : lookV (encI 0) (mmap encI m) k true = .tuple #[.int .i64 ((mget m k).getD 0), .bool (mget m k).isSome] := by
  simp only [lookV, mget_map]; cases mget m k <;> rfl
set_option maxHeartbeats 4000000 in
set_option maxRecDepth 100000 in
theorem room_c {b mb lb : Nat} {D : Dk} (p : List UInt8) (more : Int) {w0 : World} (h : DkIs b mb lb D w0) (hl : p.length ≤ 1099511627) (hno : mget D.limits (volE p) = none) : Cal Tryz.prog 86 [.pointer (some ⟨b, 0, none⟩), str p, .int .i64 more] w0
    (fun v w' => Upd [] w0 w' ∧ v = .bool true) := by
  refine Cal.mk' (by kernel_rfl) Tryz.func86 rfl rfl fun hS => ?_
  obtain ⟨_, _, _, hb, hm, hlm⟩ := h
  have hb : w0.heap[b]? = some (.cells ⟨[.map (some mb), .map (some lb), .int .i64 D.steps, .int .i64 D.stamps, .int .i64 D.armed, .bool D.down]⟩ 122 (0, 0)) := hb
  have hlk := look_int D.limits (volE p)
  rw [hno] at hlk
  repeat' (first | (show WL _ _ _ _ _ _ _; first | refine WL.pure rfl rfl rfl rfl ?_ | refine WL.nil ?_ | refine WL.skip rfl rfl rfl ?_) | (show WC _ _ _ _ _ _; first | refine WC.seq ?_ | refine WC.region ?_ | refine WC.ret ?_ | (show WC _ _ (Code.region _ (List.toArray [_, _, _, _, _, _, _, _, _, _, _, _]) true) _ _ _; refine WC.drawS hS [0,1,2,3,4,6,7,8,9,10,11] [0,1,2,3,4,5,6,7,8,9,10,11] (by kernel_rfl) (by kernel_rfl) ?_; clear hS; intro w hS hM)) | (show WD _ _ _ _ _ _ _ _ _; first | refine WD.pure rfl rfl rfl rfl rfl ?_ | refine WD.nil ?_ | (refine WD.load rfl rfl (LdOk.old hb Mm rfl) rfl rfl rfl rfl ?_) | (refine WD.mget rfl rfl rfl rfl (MapOk.old hlm Mm) hlk rfl rfl rfl rfl ?_) | (refine WD.calls hS hM rfl rfl (volume_c p _ (by omega)) rfl rfl rfl rfl rfl ?_; clear hS; rintro v w rfl hS)) | refine seqQ_n ?_)
  exact fin1r rfl rfl ⟨hS.upd, rfl⟩
def Dk.append (D : Dk) (p data : List UInt8) : Int × Dk := if D.file p ≠ 0 then (D.file p, D) else if D.stepE ≠ 0 then (D.stepE, D.step) else (0, D.step.set p { D.step.at p with data := (D.step.at p).data ++ data, loose := true })
end Go.Proofs.YtccfiohagbneaaaGreatDoor

/- What is proved: what the program's disk answers and holds: bytes made sure of. Conditions: none. -/
namespace Go.Proofs.YtccfiohagbneaaaGreatDoor
open Go Go.J Go.RowKit
def Dk.sync (D : Dk) (p : List UInt8) : Int × Dk := if D.file p ≠ 0 then (D.file p, D) else if D.stepE ≠ 0 then (D.stepE, D.step) else (0, { D.step with items := mset D.step.items p { D.step.at p with kept := (D.step.at p).data, loose := false, anew := false } })
set_option maxHeartbeats 8000000 in
set_option maxRecDepth 100000 in
theorem sync_c {q mb lb : Nat} {D : Dk} (p : List UInt8) {w0 : World} (hc : (dkC q mb lb D).holds w0) (hi : inB (dkC q mb lb D) w0) (hl : p.length ≤ 1099511627) : Cal Tryz.prog 72 [.pointer (some ⟨q, 0, none⟩), str p] w0
    (fun v w' => v = .int .i64 (D.sync p).1 ∧ Mut w0 w' (dkC q mb lb D) (dkC q mb lb (D.sync p).2)) := by
  refine Cal.mkM hc hi (by kernel_rfl) Tryz.func72 rfl rfl fun hS => ?_
  by_cases he : D.file p = 0
  · by_cases hs : D.stepE = 0
    · have hR : D.sync p = (0, { D.step with items := mset D.step.items p { D.step.at p with kept := (D.step.at p).data, loose := false, anew := false } }) := by unfold Dk.sync; rw [if_neg (by simp [he]), if_neg (by simp [hs])]
      rw [hR]
      have hlk := look_it D.step.items p
      have hat : D.step.at p = (mget D.step.items p).getD It0 := rfl
      rw [← hat] at hlk
      clear hat hR
      generalize D.step.at p = it at *
      obtain ⟨dir, dat, kept, loose, anew, stamp⟩ := it
      dsimp only
      repeat' (first | (show WL _ _ _ _ _ _ _; first | refine WL.pure rfl rfl rfl rfl ?_ | refine WL.nil ?_ | refine WL.load hS rfl rfl (LdOk.box Mm rfl) rfl rfl rfl ?_ | (refine WL.calls hS rfl rfl (dfile_c p (hS.holds (dkC q mb lb D) Mm).1 hl) rfl rfl rfl ?_; rintro v w rfl hS; rw [he]) | (refine WL.callG rfl rfl (step_c (D := D) (hS.holds (dkC q mb lb D) Mm) (hS.inB_of Mm)) rfl rfl rfl ?_; rintro v w ⟨rfl, hmut⟩; have hS := hS.mut hmut Rp; clear hmut; rw [hs]) | (refine WL.load hS rfl rfl (LdOk.dk (D := D.step) Mm rfl) rfl rfl rfl ?_) | (refine WL.mget hS rfl rfl rfl rfl (MapOk.dk (D := D.step) Mm) hlk rfl rfl rfl ?_) | (refine WL.store hS rfl rfl rfl Sb rfl rfl rfl ?_; intro w hS) | (refine WL.alloc hS rfl rfl rfl rfl rfl rfl ?_; intro w b hS)) | (show WC _ _ _ _ _ _; first | refine WC.seq ?_ | refine WC.region ?_ | refine WC.skip ?_ | refine WC.condF rfl (by decide) ?_) | refine seqQ_n ?_)
      obtain ⟨h1, h2, h3, hS⟩ := St.dkOpen (St.pull (c := dkC q mb lb D.step) hS Pl1)
      have hS := St.pull (c := mapC mb (mmap encIt D.step.items)) hS Pl1
      refine WC.drawC hS [0,1,2,3,4,5] [0,1,2,3,4,5,6] (by kernel_rfl) (by kernel_rfl) ?_
      clear hS
      intro w hS hM
      repeat' (first | (show WL _ _ _ _ _ _ _; first | refine WL.pure rfl rfl rfl rfl ?_ | refine WL.nil ?_) | (show WC _ _ _ _ _ _; first | refine WC.seq ?_ | refine WC.region ?_ | refine WC.ret ?_) | (show WD _ _ _ _ _ _ _ _ _; first | refine WD.pure rfl rfl rfl rfl rfl ?_ | refine WD.nil ?_ | refine WD.load rfl rfl (LdOk.box Mm rfl) rfl rfl rfl rfl ?_ | (refine WD.msetC hS (More.refl _ _) (.inl rfl) rfl rfl rfl rfl rfl rfl rfl rfl ?_; clear hS; intro w hS)) | refine seqQ_n ?_)
      exact fin1r rfl rfl ⟨rfl, (St.dkPut (x := ⟨dir, dat, dat, false, false, stamp⟩) h1 h2 h3 (hS.perm (.swap _ _ _))).mutOf (List.Mem.head _)⟩
    · have hs2 : D.stepE = 14 := by unfold Dk.stepE at hs ⊢; split at hs <;> simp_all
      have hR : D.sync p = (14, D.step) := by unfold Dk.sync; rw [if_neg (by simp [he]), if_pos hs, hs2]
      rw [hR]
      clear hR hs
      have hs := hs2
      repeat' (first | (show WL _ _ _ _ _ _ _; first | refine WL.pure rfl rfl rfl rfl ?_ | refine WL.nil ?_ | (refine WL.calls hS rfl rfl (dfile_c p (hS.holds (dkC q mb lb D) Mm).1 hl) rfl rfl rfl ?_; rintro v w rfl hS; rw [he]) | (refine WL.callG rfl rfl (step_c (D := D) (hS.holds (dkC q mb lb D) Mm) (hS.inB_of Mm)) rfl rfl rfl ?_; rintro v w ⟨rfl, hmut⟩; have hS := hS.mut hmut Rp; clear hmut; rw [hs])) | (show WC _ _ _ _ _ _; first | refine WC.seq ?_ | refine WC.region ?_ | refine WC.skip ?_ | refine WC.ret ?_ | refine WC.condT rfl (by decide) ?_ | refine WC.condF rfl (by decide) ?_) | refine seqQ_n ?_ | refine seqQ_r ?_)
      exact fin1r rfl rfl ⟨rfl, hS.mutOf Mm⟩
  · have hR : D.sync p = (D.file p, D) := by unfold Dk.sync; rw [if_pos he]
    rw [hR]
    repeat' (first | (show WL _ _ _ _ _ _ _; first | refine WL.pure rfl rfl rfl rfl ?_ | refine WL.nil ?_ | (refine WL.calls hS rfl rfl (dfile_c p (hS.holds (dkC q mb lb D) Mm).1 hl) rfl rfl rfl ?_; rintro v w rfl hS)) | (show WC _ _ _ _ _ _; first | refine WC.seq ?_ | refine WC.region ?_ | refine WC.ret ?_ | refine WC.condT rfl (decide_eq_true (by first | with_reducible assumption | omega)) ?_) | refine seqQ_n ?_ | refine seqQ_r ?_)
    exact fin1r rfl rfl ⟨rfl, hS.mutOf Mm⟩
end Go.Proofs.YtccfiohagbneaaaGreatDoor

/- What is proved: what the program's disk answers and holds: a text written. Conditions: no limit at the volume. -/
namespace Go.Proofs.YtccfiohagbneaaaGreatDoor
open Go Go.J Go.RowKit
def Dk.write (D : Dk) (p data : List UInt8) : Int × Dk := if D.may p 1 ≠ 0 then (D.may p 1, D) else if D.under p = false then (11, D) else if (D.at p).dir = true then (12, D) else if D.stepE ≠ 0 then (D.stepE, D.step) else (0, D.step.set p { D.at p with data := data, loose := true, anew := true })
set_option maxHeartbeats 8000000 in
set_option maxRecDepth 100000 in
theorem write_c {q mb lb : Nat} {D : Dk} (p data : List UInt8) {w0 : World} (hc : (dkC q mb lb D).holds w0) (hi : inB (dkC q mb lb D) w0) (hl : p.length ≤ 1099511627) (hno : mget D.limits (volE p) = none) (hdl : data.length ≤ 1099511627776) (hal : (D.at p).data.length ≤ 1099511627776) : Cal Tryz.prog 99 [.pointer (some ⟨q, 0, none⟩), str p, str data] w0
    (fun v w' => v = .int .i64 (D.write p data).1 ∧ Mut w0 w' (dkC q mb lb D) (dkC q mb lb (D.write p data).2)) := by
  refine Cal.mkM hc hi (by kernel_rfl) Tryz.func99 rfl rfl fun hS => ?_
  by_cases he : D.may p 1 = 0
  · have hlk := look_it D.items p
    have hat : D.at p = (mget D.items p).getD It0 := rfl
    rw [← hat] at hlk
    clear hat
    have hs2 : ¬ D.stepE = 0 → D.stepE = 14 := by intro hs; unfold Dk.stepE at hs ⊢; split at hs <;> simp_all
    by_cases hu : D.under p = false
    · have hR : D.write p data = (11, D) := by unfold Dk.write; rw [if_neg (by simp [he]), if_pos hu]
      rw [hR]
      clear hR hs2
      repeat' (first | (show WL _ _ _ _ _ _ _; first | refine WL.pure rfl rfl rfl rfl ?_ | refine WL.nil ?_ | (refine WL.calls hS rfl rfl (may_c p 1 (hS.holds (dkC q mb lb D) Mm).1 hl) rfl rfl rfl ?_; rintro v w rfl hS; rw [he]) | (refine WL.load hS rfl rfl (LdOk.dk (D := D) Mm rfl) rfl rfl rfl ?_) | (refine WL.mget hS rfl rfl rfl rfl (MapOk.dk (D := D) Mm) hlk rfl rfl rfl ?_) | (refine WL.calls hS rfl rfl (dunder_c p (D := D) (hS.holds (dkC q mb lb D) Mm).1 hl) rfl rfl rfl ?_; rintro v w rfl hS; rw [hu]) | (refine WL.store hS rfl rfl rfl Sb rfl rfl rfl ?_; intro w hS) | (refine WL.alloc hS rfl rfl rfl rfl rfl rfl ?_; intro w b hS)) | (show WC _ _ _ _ _ _; first | refine WC.seq ?_ | refine WC.region ?_ | refine WC.block ?_ | refine WC.skip ?_ | refine WC.ret ?_ | refine WC.condT rfl (by decide) ?_ | refine WC.condF rfl (by decide) ?_) | refine seqQ_n ?_ | refine seqQ_r ?_ | refine blkQ_r ?_)
      exact fin1r rfl rfl ⟨rfl, hS.mutOf Mm⟩
    · have hu2 : D.under p = true := by simpa using hu
      by_cases hd : (D.at p).dir = true
      · have hR : D.write p data = (12, D) := by unfold Dk.write; rw [if_neg (by simp [he]), if_neg hu, if_pos hd]
        rw [hR]
        have hu := hu2
        clear hR hs2
        generalize D.at p = it at *
        obtain ⟨dir, dat, kept, loose, anew, stamp⟩ := it
        dsimp only at hd
        subst hd
        repeat' (first | (show WL _ _ _ _ _ _ _; first | refine WL.pure rfl rfl rfl rfl ?_ | refine WL.nil ?_ | refine WL.load hS rfl rfl (LdOk.box Mm rfl) rfl rfl rfl ?_ | (refine WL.calls hS rfl rfl (may_c p 1 (hS.holds (dkC q mb lb D) Mm).1 hl) rfl rfl rfl ?_; rintro v w rfl hS; rw [he]) | (refine WL.load hS rfl rfl (LdOk.dk (D := D) Mm rfl) rfl rfl rfl ?_) | (refine WL.mget hS rfl rfl rfl rfl (MapOk.dk (D := D) Mm) hlk rfl rfl rfl ?_) | (refine WL.calls hS rfl rfl (dunder_c p (D := D) (hS.holds (dkC q mb lb D) Mm).1 hl) rfl rfl rfl ?_; rintro v w rfl hS; rw [hu]) | (refine WL.store hS rfl rfl rfl Sb rfl rfl rfl ?_; intro w hS) | (refine WL.alloc hS rfl rfl rfl rfl rfl rfl ?_; intro w b hS)) | (show WC _ _ _ _ _ _; first | refine WC.seq ?_ | refine WC.region ?_ | refine WC.block ?_ | refine WC.skip ?_ | refine WC.ret ?_ | refine WC.condT rfl (by with_reducible rfl) ?_ | refine WC.condF rfl (by decide) ?_) | refine seqQ_n ?_ | refine seqQ_r ?_ | refine blkQ_r ?_)
        exact fin1r rfl rfl ⟨rfl, hS.mutOf Mm⟩
      · have hd2 : (D.at p).dir = false := by simpa using hd
        by_cases hs : D.stepE = 0
        · have hR : D.write p data = (0, D.step.set p { D.at p with data := data, loose := true, anew := true }) := by unfold Dk.write; rw [if_neg (by simp [he]), if_neg hu, if_neg hd, if_neg (by simp [hs])]
          rw [hR]
          have hu := hu2
          clear hR hs2 hd
          generalize D.at p = it at *
          obtain ⟨dir, dat, kept, loose, anew, stamp⟩ := it
          dsimp only at hd2 hal
          subst hd2
          repeat' (first | (show WL _ _ _ _ _ _ _; first | refine WL.sub (a := (data.length : Int)) (b := (dat.length : Int)) rfl rfl rfl (by omega) rfl rfl rfl ?_ | refine WL.pure rfl rfl rfl rfl ?_ | refine WL.nil ?_ | refine WL.load hS rfl rfl (LdOk.box Mm rfl) rfl rfl rfl ?_ | (refine WL.calls hS rfl rfl (may_c p 1 (hS.holds (dkC q mb lb D) Mm).1 hl) rfl rfl rfl ?_; rintro v w rfl hS; rw [he]) | (refine WL.load hS rfl rfl (LdOk.dk (D := D) Mm rfl) rfl rfl rfl ?_) | (refine WL.mget hS rfl rfl rfl rfl (MapOk.dk (D := D) Mm) hlk rfl rfl rfl ?_) | (refine WL.calls hS rfl rfl (dunder_c p (D := D) (hS.holds (dkC q mb lb D) Mm).1 hl) rfl rfl rfl ?_; rintro v w rfl hS; rw [hu]) | (refine WL.calls hS rfl rfl (room_c p _ (hS.holds (dkC q mb lb D) Mm).1 hl hno) rfl rfl rfl ?_; rintro v w rfl hS) | (refine WL.callG rfl rfl (step_c (D := D) (hS.holds (dkC q mb lb D) Mm) (hS.inB_of Mm)) rfl rfl rfl ?_; rintro v w ⟨rfl, hmut⟩; have hS := hS.mut hmut Rp; clear hmut; rw [hs]) | (refine WL.callG rfl rfl (dset_c p ⟨false, data, kept, true, true, stamp⟩ (D := D.step) (hS.holds (dkC q mb lb D.step) Mm) (hS.inB_of Mm)) rfl rfl rfl ?_; rintro v w ⟨rfl, hmut⟩; have hS := hS.mut hmut Rp; clear hmut) | (refine WL.store hS rfl rfl rfl Sb rfl rfl rfl ?_; intro w hS) | (refine WL.alloc hS rfl rfl rfl rfl rfl rfl ?_; intro w b hS)) | (show WC _ _ _ _ _ _; first | refine WC.seq ?_ | refine WC.region ?_ | refine WC.block ?_ | refine WC.skip ?_ | refine WC.ret ?_ | refine WC.condF rfl (by with_reducible rfl) ?_ | refine WC.condF rfl (by decide) ?_) | refine seqQ_n ?_ | refine blkQ_n ?_)
          exact fin1r rfl rfl ⟨rfl, hS.mutOf Mm⟩
        · have hR : D.write p data = (14, D.step) := by unfold Dk.write; rw [if_neg (by simp [he]), if_neg hu, if_neg hd, if_pos hs, hs2 hs]
          rw [hR]
          have hu := hu2
          have hs := hs2 hs
          clear hR hs2 hd
          generalize D.at p = it at *
          obtain ⟨dir, dat, kept, loose, anew, stamp⟩ := it
          dsimp only at hd2 hal
          subst hd2
          repeat' (first | (show WL _ _ _ _ _ _ _; first | refine WL.sub (a := (data.length : Int)) (b := (dat.length : Int)) rfl rfl rfl (by omega) rfl rfl rfl ?_ | refine WL.pure rfl rfl rfl rfl ?_ | refine WL.nil ?_ | refine WL.load hS rfl rfl (LdOk.box Mm rfl) rfl rfl rfl ?_ | (refine WL.calls hS rfl rfl (may_c p 1 (hS.holds (dkC q mb lb D) Mm).1 hl) rfl rfl rfl ?_; rintro v w rfl hS; rw [he]) | (refine WL.load hS rfl rfl (LdOk.dk (D := D) Mm rfl) rfl rfl rfl ?_) | (refine WL.mget hS rfl rfl rfl rfl (MapOk.dk (D := D) Mm) hlk rfl rfl rfl ?_) | (refine WL.calls hS rfl rfl (dunder_c p (D := D) (hS.holds (dkC q mb lb D) Mm).1 hl) rfl rfl rfl ?_; rintro v w rfl hS; rw [hu]) | (refine WL.calls hS rfl rfl (room_c p _ (hS.holds (dkC q mb lb D) Mm).1 hl hno) rfl rfl rfl ?_; rintro v w rfl hS) | (refine WL.callG rfl rfl (step_c (D := D) (hS.holds (dkC q mb lb D) Mm) (hS.inB_of Mm)) rfl rfl rfl ?_; rintro v w ⟨rfl, hmut⟩; have hS := hS.mut hmut Rp; clear hmut; rw [hs]) | (refine WL.store hS rfl rfl rfl Sb rfl rfl rfl ?_; intro w hS) | (refine WL.alloc hS rfl rfl rfl rfl rfl rfl ?_; intro w b hS)) | (show WC _ _ _ _ _ _; first | refine WC.seq ?_ | refine WC.region ?_ | refine WC.block ?_ | refine WC.skip ?_ | refine WC.ret ?_ | refine WC.condF rfl (by with_reducible rfl) ?_ | refine WC.condT rfl (by decide) ?_ | refine WC.condF rfl (by decide) ?_) | refine seqQ_n ?_ | refine blkQ_n ?_ | refine seqQ_r ?_)
          exact fin1r rfl rfl ⟨rfl, hS.mutOf Mm⟩
  · have hR : D.write p data = (D.may p 1, D) := by unfold Dk.write; rw [if_pos he]
    rw [hR]
    repeat' (first | (show WL _ _ _ _ _ _ _; first | refine WL.pure rfl rfl rfl rfl ?_ | refine WL.nil ?_ | (refine WL.calls hS rfl rfl (may_c p 1 (hS.holds (dkC q mb lb D) Mm).1 hl) rfl rfl rfl ?_; rintro v w rfl hS)) | (show WC _ _ _ _ _ _; first | refine WC.seq ?_ | refine WC.region ?_ | refine WC.ret ?_ | refine WC.condT rfl (decide_eq_true (by first | with_reducible assumption | omega)) ?_) | refine seqQ_n ?_ | refine seqQ_r ?_)
    exact fin1r rfl rfl ⟨rfl, hS.mutOf Mm⟩
end Go.Proofs.YtccfiohagbneaaaGreatDoor

/- What is proved: what the program's disk answers: a text read. Conditions: none. -/
namespace Go.Proofs.YtccfiohagbneaaaGreatDoor
open Go Go.J Go.RowKit
def Dk.read (D : Dk) (p : List UInt8) : List UInt8 × Int := if D.down = true then ([], 14) else if D.has p = false then ([], 11) else if (D.at p).dir = true then ([], 12) else ((D.at p).data, 0)
set_option maxHeartbeats 8000000 in
set_option maxRecDepth 100000 in
theorem dread_c {b mb lb : Nat} {D : Dk} (p : List UInt8) {w0 : World} (h : DkIs b mb lb D w0) : Cal Tryz.prog 27 [.pointer (some ⟨b, 0, none⟩), str p] w0
    (fun v w' => Upd [] w0 w' ∧ v = .tuple #[str (D.read p).1, .int .i64 (D.read p).2]) := by
  refine Cal.mk' (by kernel_rfl) Tryz.func27 rfl rfl fun hS => ?_
  obtain ⟨_, _, _, hb, hm, hlm⟩ := h
  have hb : w0.heap[b]? = some (.cells ⟨[.map (some mb), .map (some lb), .int .i64 D.steps, .int .i64 D.stamps, .int .i64 D.armed, .bool D.down]⟩ 122 (0, 0)) := hb
  unfold Dk.read Dk.has Dk.at
  have hlk := look_it2 D.items p
  generalize (mget D.items p).isSome = has at *
  generalize (mget D.items p).getD It0 = it at *
  generalize D.down = dn at *
  obtain ⟨dir, data, kept, loose, anew, stamp⟩ := it
  cases dn <;> cases has <;> cases dir
  all_goals
    repeat' (first | (show WL _ _ _ _ _ _ _; first | refine WL.pure rfl rfl rfl rfl ?_ | refine WL.nil ?_ | refine WL.load hS rfl rfl (LdOk.box Mm rfl) rfl rfl rfl ?_ | (refine WL.load hS rfl rfl (LdOk.old hb Mm rfl) rfl rfl rfl ?_) | (refine WL.mget hS rfl rfl rfl rfl (MapOk.old hm Mm) hlk rfl rfl rfl ?_) | (refine WL.store hS rfl rfl rfl Sb rfl rfl rfl ?_; intro w hS) | (refine WL.alloc hS rfl rfl rfl rfl rfl rfl ?_; intro w b hS)) | (show WC _ _ _ _ _ _; first | refine WC.seq ?_ | refine WC.region ?_ | refine WC.block ?_ | refine WC.skip ?_ | refine WC.ret ?_ | refine WC.condT rfl (by with_reducible rfl) ?_ | refine WC.condF rfl (by with_reducible rfl) ?_ | refine WC.condT rfl (by decide) ?_ | refine WC.condF rfl (by decide) ?_) | refine seqQ_n ?_ | refine blkQ_n ?_ | refine seqQ_r ?_ | refine blkQ_r ?_)
    exact fin2r rfl rfl rfl ⟨hS.upd, rfl⟩
end Go.Proofs.YtccfiohagbneaaaGreatDoor

/- What is proved: the walk's rule for a value that goes nowhere, and for a key struck from a map so. Conditions: as each rule names them. -/
namespace Go.J
open Go Go.RowKit
section
variable {P : Program} {N : Fz} {f : Fr} {w w0 : World} {Q : Post} {ops l : List Oper} {o : Oper} {M : List Nat} {H H' : List Chunk} {Z : List Snap}
theorem WL.val0 (hg : wants ops f o = true) (hd : o.dst = none) {v : Value} {w' : World} (hr : (execOp (ev f) o).run P w = .ok (.value v) w')
    (h : WL P N ops l f w' Q) : WL P N ops (o :: l) f w Q := by
  refine ⟨fun a ha => wpList_step fun K hK => ?_⟩
  rw [if_pos ((wanted_eq ha o).trans hg)]
  simp only [Oper.wp, ha.eval, hr, Oper.upon]
  exact hK _ _ (h.out _ (by rw [hd]; exact ha))
theorem WL.mdel0 {t k t2 : TypeId} {z : Value} {x i : Operand} {b : Nat} {m : KV} {s : List UInt8} (hS : St w0 M w H Z) (ho : o.op = .call ⟨.builtin .delete, ⟨[x, i]⟩, ⟨[t, t2]⟩⟩) (ht : mapOf P t = some (k, z)) (hx : ev f x = .map (some b)) (hi : ev f i = str s)
    (hr : Repl (mapC b m) (mapC b (Go.J.mdel m s)) H H') (hg : wants ops f o = true) (hd : o.dst = none) (h : ∀ w', St w0 M w' H' Z → WL P N ops l f w' Q) : WL P N ops (o :: l) f w Q := by
  obtain ⟨ob, h1, h2⟩ := run_delete (t2 := t2) (ty := o.type) (s := s) ht (hS.holds _ hr.mem).1
  have hrun : (execOp (ev f) o).run P w = .ok (.value (.tuple #[])) { w with heap := w.heap.setIfInBounds b ob } := by
    simp [execOp, ho, resolve, invoke, builtin, hx, hi, Sem.run_bind, h1]
  exact .val0 hg hd hrun (h _ (hS.setMap hr h2))
end
end Go.J

/- What is proved: what the program's disk answers and holds: a file in another one's place. Conditions: no limit at the volume. -/
namespace Go.Proofs.YtccfiohagbneaaaGreatDoor
open Go Go.J Go.RowKit
def Dk.del (D : Dk) (p : List UInt8) : Dk := { D with items := mdel D.items p }
def Dk.rename (D : Dk) (p r : List UInt8) : Int × Dk :=
  if D.may p 1 ≠ 0 then (D.may p 1, D) else if D.may r 1 ≠ 0 then (D.may r 1, D) else if D.has p = false ∨ D.under r = false then (11, D)
  else if (D.at p).dir = true ∨ (D.at r).dir = true then (12, D) else if D.stepE ≠ 0 then (D.stepE, D.step) else (0, (D.step.del p).set r (D.at p))
theorem St.dkDel {w0 w : World} {M : List Nat} {H : List Chunk} {Z : List Snap} {b mb lb : Nat} {D : Dk} {p : List UInt8} (h1 : b ≠ mb) (h2 : b ≠ lb) (h3 : mb ≠ lb)
    (hS : St w0 M w (.box b 122 [.map (some mb), .map (some lb), .int .i64 D.steps, .int .i64 D.stamps, .int .i64 D.armed, .bool D.down] :: mapC mb (mdel (mmap encIt D.items) p) :: mapC lb (mmap encI D.limits) :: H) Z) : St w0 M w (dkC b mb lb (D.del p) :: H) Z := by
  rw [mdel_map] at hS
  exact St.dkClose (D.del p) h1 h2 h3 hS
set_option maxHeartbeats 8000000 in
set_option maxRecDepth 100000 in
theorem rename_c {q mb lb : Nat} {D : Dk} (p r : List UInt8) {w0 : World} (hc : (dkC q mb lb D).holds w0) (hi : inB (dkC q mb lb D) w0) (hl : p.length ≤ 1099511627) (hl2 : r.length ≤ 1099511627) (hno : mget D.limits (volE r) = none) (hal : (D.at p).data.length ≤ 1099511627776) (hal2 : (D.at r).data.length ≤ 1099511627776) : Cal Tryz.prog 100 [.pointer (some ⟨q, 0, none⟩), str p, str r] w0
    (fun v w' => v = .int .i64 (D.rename p r).1 ∧ Mut w0 w' (dkC q mb lb D) (dkC q mb lb (D.rename p r).2)) := by
  refine Cal.mkM hc hi (by kernel_rfl) Tryz.func100 rfl rfl fun hS => ?_
  by_cases he : D.may p 1 = 0
  · by_cases he2 : D.may r 1 = 0
    · have hlk := look_it2 D.items p
      have hlk2 := look_it D.items r
      have hhas : D.has p = (mget D.items p).isSome := rfl
      have hat : D.at p = (mget D.items p).getD It0 := rfl
      have hat2 : D.at r = (mget D.items r).getD It0 := rfl
      rw [← hhas, ← hat] at hlk
      rw [← hat2] at hlk2
      clear hhas hat hat2
      by_cases h11 : D.has p = false ∨ D.under r = false
      · have hR : D.rename p r = (11, D) := by unfold Dk.rename; rw [if_neg (by simp [he]), if_neg (by simp [he2]), if_pos h11]
        rw [hR]
        have hcase : (D.has p = false) ∨ (D.has p = true ∧ D.under r = false) := by
          cases h1 : D.has p
          · exact .inl rfl
          · rcases h11 with h2 | h2
            · rw [h1] at h2; cases h2
            · exact .inr ⟨rfl, h2⟩
        clear hR h11
        generalize D.has p = has at *
        generalize D.at p = it at *
        generalize D.at r = it2 at *
        obtain ⟨dir, dat, kept, loose, anew, stamp⟩ := it
        obtain ⟨dir2, dat2, kept2, loose2, anew2, stamp2⟩ := it2
        dsimp only at hal hal2
        rcases hcase with rfl | ⟨rfl, hu⟩
        case' inl => have hu : D.under r = D.under r := rfl
        all_goals
          repeat' (first | (show WL _ _ _ _ _ _ _; first | refine WL.sub (a := (dat.length : Int)) (b := (dat2.length : Int)) rfl rfl rfl (by omega) rfl rfl rfl ?_ | refine WL.pure rfl rfl rfl rfl ?_ | refine WL.nil ?_ | refine WL.load hS rfl rfl (LdOk.box Mm rfl) rfl rfl rfl ?_ | (refine WL.calls hS rfl rfl (may_c p 1 (hS.holds (dkC q mb lb D) Mm).1 hl) rfl rfl rfl ?_; rintro v w rfl hS; rw [he]) | (refine WL.calls hS rfl rfl (may_c r 1 (hS.holds (dkC q mb lb D) Mm).1 hl2) rfl rfl rfl ?_; rintro v w rfl hS; rw [he2]) | (refine WL.load hS rfl rfl (LdOk.dk (D := D) Mm rfl) rfl rfl rfl ?_) | (refine WL.mget hS rfl rfl rfl rfl (MapOk.dk (D := D) Mm) hlk rfl rfl rfl ?_) | (refine WL.mget hS rfl rfl rfl rfl (MapOk.dk (D := D) Mm) hlk2 rfl rfl rfl ?_) | (refine WL.calls hS rfl rfl (volume_c p _ (by omega)) rfl rfl rfl ?_; rintro v w rfl hS) | (refine WL.calls hS rfl rfl (volume_c r _ (by omega)) rfl rfl rfl ?_; rintro v w rfl hS) | (refine WL.calls hS rfl rfl (dunder_c r (D := D) (hS.holds (dkC q mb lb D) Mm).1 hl2) rfl rfl rfl ?_; rintro v w rfl hS; rw [hu]) | (refine WL.store hS rfl rfl rfl Sb rfl rfl rfl ?_; intro w hS) | (refine WL.alloc hS rfl rfl rfl rfl rfl rfl ?_; intro w b hS) | refine WL.skip rfl rfl rfl ?_) | (show WC _ _ _ _ _ _; first | refine WC.seq ?_ | refine WC.region ?_ | refine WC.block ?_ | refine WC.skip ?_ | refine WC.ret ?_ | refine WC.condT rfl (by with_reducible rfl) ?_ | refine WC.condT rfl (by decide) ?_ | refine WC.condF rfl (by decide) ?_ | (refine WC.cond rfl (fun h => ?_) (fun h => ?_) <;> (try simp only [ZZ0, ZZ1, ZZ2, ZZ3, ZZ4, ZZ5, ZZ6, ZZ7, ZZ8, ZZ9, ZZ10, ZZ11, ZZ12, ZZ13, ZZ14, ZZ15] at h) <;> (try (exfalso; first | omega | contradiction)))) | refine seqQ_n ?_ | refine seqQ_r ?_ | refine blkQ_r ?_)
          all_goals exact fin1r rfl rfl ⟨rfl, hS.mutOf Mm⟩
      · have hh : D.has p = true := by
          cases h1 : D.has p
          · exact absurd (.inl h1) h11
          · rfl
        have hu : D.under r = true := by
          cases h1 : D.under r
          · exact absurd (.inr h1) h11
          · rfl
        by_cases h12 : (D.at p).dir = true ∨ (D.at r).dir = true
        · have hR : D.rename p r = (12, D) := by unfold Dk.rename; rw [if_neg (by simp [he]), if_neg (by simp [he2]), if_neg h11, if_pos h12]
          rw [hR]
          clear hR h11
          generalize D.has p = has at *
          generalize D.at p = it at *
          generalize D.at r = it2 at *
          obtain ⟨dir, dat, kept, loose, anew, stamp⟩ := it
          obtain ⟨dir2, dat2, kept2, loose2, anew2, stamp2⟩ := it2
          dsimp only at hal hal2 h12
          subst hh
          cases dir <;> cases dir2 <;> (first | (exfalso; simp at h12; done) | skip)
          all_goals
            clear h12
            repeat' (first | (show WL _ _ _ _ _ _ _; first | refine WL.sub (a := (dat.length : Int)) (b := (dat2.length : Int)) rfl rfl rfl (by omega) rfl rfl rfl ?_ | refine WL.pure rfl rfl rfl rfl ?_ | refine WL.nil ?_ | refine WL.load hS rfl rfl (LdOk.box Mm rfl) rfl rfl rfl ?_ | (refine WL.calls hS rfl rfl (may_c p 1 (hS.holds (dkC q mb lb D) Mm).1 hl) rfl rfl rfl ?_; rintro v w rfl hS; rw [he]) | (refine WL.calls hS rfl rfl (may_c r 1 (hS.holds (dkC q mb lb D) Mm).1 hl2) rfl rfl rfl ?_; rintro v w rfl hS; rw [he2]) | (refine WL.load hS rfl rfl (LdOk.dk (D := D) Mm rfl) rfl rfl rfl ?_) | (refine WL.mget hS rfl rfl rfl rfl (MapOk.dk (D := D) Mm) hlk rfl rfl rfl ?_) | (refine WL.mget hS rfl rfl rfl rfl (MapOk.dk (D := D) Mm) hlk2 rfl rfl rfl ?_) | (refine WL.calls hS rfl rfl (volume_c p _ (by omega)) rfl rfl rfl ?_; rintro v w rfl hS) | (refine WL.calls hS rfl rfl (volume_c r _ (by omega)) rfl rfl rfl ?_; rintro v w rfl hS) | (refine WL.calls hS rfl rfl (dunder_c r (D := D) (hS.holds (dkC q mb lb D) Mm).1 hl2) rfl rfl rfl ?_; rintro v w rfl hS; rw [hu]) | (refine WL.store hS rfl rfl rfl Sb rfl rfl rfl ?_; intro w hS) | (refine WL.alloc hS rfl rfl rfl rfl rfl rfl ?_; intro w b hS) | refine WL.skip rfl rfl rfl ?_) | (show WC _ _ _ _ _ _; first | refine WC.seq ?_ | refine WC.region ?_ | refine WC.block ?_ | refine WC.skip ?_ | refine WC.ret ?_ | refine WC.condT rfl (by with_reducible rfl) ?_ | refine WC.condT rfl (by decide) ?_ | refine WC.condF rfl (by decide) ?_ | (refine WC.cond rfl (fun h => ?_) (fun h => ?_) <;> (try simp only [ZZ0, ZZ1, ZZ2, ZZ3, ZZ4, ZZ5, ZZ6, ZZ7, ZZ8, ZZ9, ZZ10, ZZ11, ZZ12, ZZ13, ZZ14, ZZ15] at h) <;> (try (exfalso; first | omega | contradiction)))) | refine seqQ_n ?_ | refine seqQ_r ?_ | refine blkQ_r ?_)
            all_goals exact fin1r rfl rfl ⟨rfl, hS.mutOf Mm⟩
        · have hd1 : (D.at p).dir = false := by
            cases h1 : (D.at p).dir
            · rfl
            · exact absurd (.inl h1) h12
          have hd2 : (D.at r).dir = false := by
            cases h1 : (D.at r).dir
            · rfl
            · exact absurd (.inr h1) h12
          by_cases hs : D.stepE = 0
          · have hR : D.rename p r = (0, (D.step.del p).set r (D.at p)) := by unfold Dk.rename; rw [if_neg (by simp [he]), if_neg (by simp [he2]), if_neg h11, if_neg h12, if_neg (by simp [hs])]
            rw [hR]
            clear hR h11 h12
            generalize D.has p = has at *
            generalize D.at p = it at *
            generalize D.at r = it2 at *
            obtain ⟨dir, dat, kept, loose, anew, stamp⟩ := it
            obtain ⟨dir2, dat2, kept2, loose2, anew2, stamp2⟩ := it2
            dsimp only at hal hal2 hd1 hd2
            subst hh hd1 hd2
            repeat' (first | (show WL _ _ _ _ _ _ _; first | refine WL.sub (a := (dat.length : Int)) (b := (dat2.length : Int)) rfl rfl rfl (by omega) rfl rfl rfl ?_ | refine WL.pure rfl rfl rfl rfl ?_ | refine WL.nil ?_ | refine WL.load hS rfl rfl (LdOk.box Mm rfl) rfl rfl rfl ?_ | (refine WL.calls hS rfl rfl (may_c p 1 (hS.holds (dkC q mb lb D) Mm).1 hl) rfl rfl rfl ?_; rintro v w rfl hS; rw [he]) | (refine WL.calls hS rfl rfl (may_c r 1 (hS.holds (dkC q mb lb D) Mm).1 hl2) rfl rfl rfl ?_; rintro v w rfl hS; rw [he2]) | (refine WL.load hS rfl rfl (LdOk.dk (D := D) Mm rfl) rfl rfl rfl ?_) | (refine WL.load hS rfl rfl (LdOk.dk (D := D.step) Mm rfl) rfl rfl rfl ?_) | (refine WL.mget hS rfl rfl rfl rfl (MapOk.dk (D := D) Mm) hlk rfl rfl rfl ?_) | (refine WL.mget hS rfl rfl rfl rfl (MapOk.dk (D := D) Mm) hlk2 rfl rfl rfl ?_) | (refine WL.calls hS rfl rfl (volume_c p _ (by omega)) rfl rfl rfl ?_; rintro v w rfl hS) | (refine WL.calls hS rfl rfl (volume_c r _ (by omega)) rfl rfl rfl ?_; rintro v w rfl hS) | (refine WL.calls hS rfl rfl (dunder_c r (D := D) (hS.holds (dkC q mb lb D) Mm).1 hl2) rfl rfl rfl ?_; rintro v w rfl hS; rw [hu]) | (refine WL.calls hS rfl rfl (room_c r _ (hS.holds (dkC q mb lb D) Mm).1 hl2 hno) rfl rfl rfl ?_; rintro v w rfl hS) | (refine WL.callG rfl rfl (step_c (D := D) (hS.holds (dkC q mb lb D) Mm) (hS.inB_of Mm)) rfl rfl rfl ?_; rintro v w ⟨rfl, hmut⟩; have hS := hS.mut hmut Rp; clear hmut; rw [hs]) | (obtain ⟨h1, h2, h3, hS⟩ := St.dkOpen (St.pull (c := dkC q mb lb D.step) hS Pl1); refine WL.mdel0 hS rfl rfl rfl rfl Rp rfl rfl ?_; clear hS; intro w hS; have hS := St.dkDel h1 h2 h3 hS) | (refine WL.callG rfl rfl (dset_c r ⟨false, dat, kept, loose, anew, stamp⟩ (D := D.step.del p) (hS.holds (dkC q mb lb (D.step.del p)) Mm) (hS.inB_of Mm)) rfl rfl rfl ?_; rintro v w ⟨rfl, hmut⟩; have hS := hS.mut hmut Rp; clear hmut) | (refine WL.store hS rfl rfl rfl Sb rfl rfl rfl ?_; intro w hS) | (refine WL.alloc hS rfl rfl rfl rfl rfl rfl ?_; intro w b hS) | refine WL.skip rfl rfl rfl ?_ | ((fail_if_success (refine WL.wanted rfl ?_)); refine WL.guard rfl rfl rfl (fun h => ?_) (fun h => ?_) <;> (try simp only [ZZ0, ZZ1, ZZ2, ZZ3, ZZ4, ZZ5, ZZ6, ZZ7, ZZ8, ZZ9, ZZ10, ZZ11, ZZ12, ZZ13, ZZ14, ZZ15] at h) <;> (try (exfalso; first | omega | contradiction)))) | (show WC _ _ _ _ _ _; first | refine WC.seq ?_ | refine WC.region ?_ | refine WC.block ?_ | refine WC.skip ?_ | refine WC.ret ?_ | refine WC.condF rfl (by with_reducible rfl) ?_ | refine WC.condT rfl (by decide) ?_ | refine WC.condF rfl (by decide) ?_ | (refine WC.cond rfl (fun h => ?_) (fun h => ?_) <;> (try simp only [ZZ0, ZZ1, ZZ2, ZZ3, ZZ4, ZZ5, ZZ6, ZZ7, ZZ8, ZZ9, ZZ10, ZZ11, ZZ12, ZZ13, ZZ14, ZZ15] at h) <;> (try (exfalso; first | omega | contradiction)))) | refine seqQ_n ?_ | refine blkQ_n ?_)
            all_goals exact fin1r rfl rfl ⟨rfl, hS.mutOf Mm⟩
          · have hs2 : D.stepE = 14 := by unfold Dk.stepE at hs ⊢; split at hs <;> simp_all
            have hR : D.rename p r = (14, D.step) := by unfold Dk.rename; rw [if_neg (by simp [he]), if_neg (by simp [he2]), if_neg h11, if_neg h12, if_pos hs, hs2]
            rw [hR]
            clear hR h11 h12 hs
            have hs := hs2
            generalize D.has p = has at *
            generalize D.at p = it at *
            generalize D.at r = it2 at *
            obtain ⟨dir, dat, kept, loose, anew, stamp⟩ := it
            obtain ⟨dir2, dat2, kept2, loose2, anew2, stamp2⟩ := it2
            dsimp only at hal hal2 hd1 hd2
            subst hh hd1 hd2
            repeat' (first | (show WL _ _ _ _ _ _ _; first | refine WL.sub (a := (dat.length : Int)) (b := (dat2.length : Int)) rfl rfl rfl (by omega) rfl rfl rfl ?_ | refine WL.pure rfl rfl rfl rfl ?_ | refine WL.nil ?_ | refine WL.load hS rfl rfl (LdOk.box Mm rfl) rfl rfl rfl ?_ | (refine WL.calls hS rfl rfl (may_c p 1 (hS.holds (dkC q mb lb D) Mm).1 hl) rfl rfl rfl ?_; rintro v w rfl hS; rw [he]) | (refine WL.calls hS rfl rfl (may_c r 1 (hS.holds (dkC q mb lb D) Mm).1 hl2) rfl rfl rfl ?_; rintro v w rfl hS; rw [he2]) | (refine WL.load hS rfl rfl (LdOk.dk (D := D) Mm rfl) rfl rfl rfl ?_) | (refine WL.mget hS rfl rfl rfl rfl (MapOk.dk (D := D) Mm) hlk rfl rfl rfl ?_) | (refine WL.mget hS rfl rfl rfl rfl (MapOk.dk (D := D) Mm) hlk2 rfl rfl rfl ?_) | (refine WL.calls hS rfl rfl (volume_c p _ (by omega)) rfl rfl rfl ?_; rintro v w rfl hS) | (refine WL.calls hS rfl rfl (volume_c r _ (by omega)) rfl rfl rfl ?_; rintro v w rfl hS) | (refine WL.calls hS rfl rfl (dunder_c r (D := D) (hS.holds (dkC q mb lb D) Mm).1 hl2) rfl rfl rfl ?_; rintro v w rfl hS; rw [hu]) | (refine WL.calls hS rfl rfl (room_c r _ (hS.holds (dkC q mb lb D) Mm).1 hl2 hno) rfl rfl rfl ?_; rintro v w rfl hS) | (refine WL.callG rfl rfl (step_c (D := D) (hS.holds (dkC q mb lb D) Mm) (hS.inB_of Mm)) rfl rfl rfl ?_; rintro v w ⟨rfl, hmut⟩; have hS := hS.mut hmut Rp; clear hmut; rw [hs]) | (refine WL.store hS rfl rfl rfl Sb rfl rfl rfl ?_; intro w hS) | (refine WL.alloc hS rfl rfl rfl rfl rfl rfl ?_; intro w b hS) | refine WL.skip rfl rfl rfl ?_ | ((fail_if_success (refine WL.wanted rfl ?_)); refine WL.guard rfl rfl rfl (fun h => ?_) (fun h => ?_) <;> (try simp only [ZZ0, ZZ1, ZZ2, ZZ3, ZZ4, ZZ5, ZZ6, ZZ7, ZZ8, ZZ9, ZZ10, ZZ11, ZZ12, ZZ13, ZZ14, ZZ15] at h) <;> (try (exfalso; first | omega | contradiction)))) | (show WC _ _ _ _ _ _; first | refine WC.seq ?_ | refine WC.region ?_ | refine WC.block ?_ | refine WC.skip ?_ | refine WC.ret ?_ | refine WC.condF rfl (by with_reducible rfl) ?_ | refine WC.condT rfl (by decide) ?_ | refine WC.condF rfl (by decide) ?_ | (refine WC.cond rfl (fun h => ?_) (fun h => ?_) <;> (try simp only [ZZ0, ZZ1, ZZ2, ZZ3, ZZ4, ZZ5, ZZ6, ZZ7, ZZ8, ZZ9, ZZ10, ZZ11, ZZ12, ZZ13, ZZ14, ZZ15] at h) <;> (try (exfalso; first | omega | contradiction)))) | refine seqQ_n ?_ | refine blkQ_n ?_ | refine seqQ_r ?_)
            all_goals exact fin1r rfl rfl ⟨rfl, hS.mutOf Mm⟩
    · have hR : D.rename p r = (D.may r 1, D) := by unfold Dk.rename; rw [if_neg (by simp [he]), if_pos he2]
      rw [hR]
      repeat' (first | (show WL _ _ _ _ _ _ _; first | refine WL.pure rfl rfl rfl rfl ?_ | refine WL.nil ?_ | (refine WL.calls hS rfl rfl (may_c p 1 (hS.holds (dkC q mb lb D) Mm).1 hl) rfl rfl rfl ?_; rintro v w rfl hS; rw [he]) | (refine WL.calls hS rfl rfl (may_c r 1 (hS.holds (dkC q mb lb D) Mm).1 hl2) rfl rfl rfl ?_; rintro v w rfl hS)) | (show WC _ _ _ _ _ _; first | refine WC.seq ?_ | refine WC.region ?_ | refine WC.ret ?_ | refine WC.condT rfl (by decide) ?_ | refine WC.condT rfl (decide_eq_true (by first | with_reducible assumption | omega)) ?_) | refine seqQ_n ?_ | refine seqQ_r ?_)
      exact fin1r rfl rfl ⟨rfl, hS.mutOf Mm⟩
  · have hR : D.rename p r = (D.may p 1, D) := by unfold Dk.rename; rw [if_pos he]
    rw [hR]
    repeat' (first | (show WL _ _ _ _ _ _ _; first | refine WL.pure rfl rfl rfl rfl ?_ | refine WL.nil ?_ | (refine WL.calls hS rfl rfl (may_c p 1 (hS.holds (dkC q mb lb D) Mm).1 hl) rfl rfl rfl ?_; rintro v w rfl hS)) | (show WC _ _ _ _ _ _; first | refine WC.seq ?_ | refine WC.region ?_ | refine WC.skip ?_ | refine WC.ret ?_ | refine WC.condT rfl (decide_eq_true (by first | with_reducible assumption | omega)) ?_ | refine WC.condF rfl (decide_eq_false (by first | with_reducible assumption | omega)) ?_) | refine seqQ_n ?_ | refine seqQ_r ?_)
    exact fin1r rfl rfl ⟨rfl, hS.mutOf Mm⟩
end Go.Proofs.YtccfiohagbneaaaGreatDoor

/- What is proved: what a builder of texts (strings.Builder) does. Conditions: no more than 2^40 bytes. -/
namespace Go.Proofs.YtccfiohagbneaaaGreatDoor
open Go Go.J Go.RowKit
def sbD (b : Nat) (p A : Option Addr) (n cap : Nat) (s : List UInt8) : List Chunk := [.box b 199 [.pointer p, .slice A n cap], .own (.slice A n cap) 5 1 n (byteC s)]
def sbU (b : Nat) (s : List UInt8) (D : List Chunk) : Prop := ∃ A n cap, D = sbD b (some ⟨b, 0, none⟩) A n cap s ∧ (A = none ∨ cap ≠ 0)
def sbφ (b : Nat) (s : List UInt8) (D : List Chunk) : Prop := (D = sbD b none none 0 0 [] ∧ s = []) ∨ sbU b s D
abbrev sbC (b : Nat) (s : List UInt8) (fp : List Nat) : Chunk := objC (sbφ b s) fp
abbrev sbK (b : Nat) (s : List UInt8) (fp : List Nat) : Chunk := objC (sbU b s) fp
end Go.Proofs.YtccfiohagbneaaaGreatDoor

/- What is proved: plain facts on numbers and texts as bytes. Conditions: none. -/
namespace Go.J
open Go
def putN (n : Nat) : List UInt8 := if h : n < 128 then [UInt8.ofNat n] else UInt8.ofNat (n % 128 + 128) :: putN (n / 128)
termination_by n
decreasing_by omega
theorem putN_small {n : Nat} (h : n < 128) : putN n = [UInt8.ofNat n] := by rw [putN, dif_pos h]
theorem putN_big {n : Nat} (h : ¬ n < 128) : putN n = UInt8.ofNat (n % 128 + 128) :: putN (n / 128) := by rw [putN, dif_neg h]
theorem putN_ne (n : Nat) : putN n ≠ [] := by
  by_cases h : n < 128
  · rw [putN_small h]; simp
  · rw [putN_big h]; simp
theorem putN_len : ∀ (k n : Nat), n < 128 ^ (k + 1) → (putN n).length ≤ k + 1
  | k, n, h => by
    by_cases hn : n < 128
    · rw [putN_small hn]; simp
    · rw [putN_big hn]
      cases k with
      | zero => simp at h; omega
      | succ k =>
        have := putN_len k (n / 128) (by
          rw [Nat.div_lt_iff_lt_mul (by omega)]
          rwa [Nat.pow_succ] at h)
        simp only [List.length_cons]; omega
theorem putN_len10 {n : Nat} (h : n < 18446744073709551616) : (putN n).length ≤ 10 := putN_len 9 n (by
  have : (128 : Nat) ^ (9 + 1) = 1180591620717411303424 := by decide
  omega)
def textE (s : List UInt8) : List UInt8 := putN s.length ++ s
theorem ofNat_toNat {n : Nat} (h : n < 256) : (UInt8.ofNat n).toNat = n := by simp; omega
theorem shrI_nat (k : IntKind) (n m : Nat) (h : m ≤ k.bits) : shrI k (n : Int) (m : Int) = ((n / 2 ^ m : Nat) : Int) := by
  unfold shrI
  have : min ((m : Int).toNat) k.bits = m := by simp; omega
  rw [this, Int.fdiv_eq_ediv_of_nonneg _ (by exact Int.le_of_lt (Int.pow_pos (by decide)))]
  rw [Int.natCast_ediv, Int.natCast_pow]; rfl
def varE : List UInt8 → Nat → Nat → Nat × Nat × Int
  | [], _, _ => (0, 0, 2)
  | c :: t, i, x => if i = 9 ∧ 1 < c.toNat then (0, 0, 3)
    else if 128 ≤ c.toNat then varE t (i + 1) (x + c.toNat % 128 * 128 ^ i)
    else if c.toNat = 0 ∧ 0 < i then (0, 0, 3)
    else (x + c.toNat % 128 * 128 ^ i, i + 1, 0)
theorem pow128_9 : 128 ^ 9 = 9223372036854775808 := by decide
theorem varE_put : ∀ (k m : Nat), m ≤ k → ∀ (i x : Nat) (t : List UInt8), (m ≠ 0 ∨ i = 0) → i ≤ 9 → m * 128 ^ i < 18446744073709551616 → varE (putN m ++ t) i x = (x + m * 128 ^ i, i + (putN m).length, 0)
  | k, m, hk, i, x, t, h0, hi, hm => by
    have h9 : i = 9 → m ≤ 1 := by
      rintro rfl
      rw [pow128_9] at hm; omega
    by_cases h : m < 128
    · rw [putN_small h]
      simp only [List.singleton_append, varE, ofNat_toNat (show m < 256 by omega)]
      rw [if_neg (by omega), if_neg (by omega), if_neg (by omega), Nat.mod_eq_of_lt h]
      rfl
    · have hm0 : m / 128 < m := by omega
      cases k with
      | zero => omega
      | succ k =>
        rw [putN_big h]
        simp only [List.cons_append, varE, ofNat_toNat (show m % 128 + 128 < 256 by omega)]
        have hi9 : i ≠ 9 := fun e => by have := h9 e; omega
        rw [if_neg (by omega), if_pos (by omega)]
        have e1 : m / 128 * 128 ^ (i + 1) ≤ m * 128 ^ i := by
          rw [Nat.pow_succ, Nat.mul_comm (128 ^ i) 128, ← Nat.mul_assoc]
          exact Nat.mul_le_mul_right _ (by omega)
        rw [varE_put k (m / 128) (by omega) (i + 1) _ t (.inl (by omega)) (by omega) (by omega)]
        have e2 : (m % 128 + 128) % 128 = m % 128 := by omega
        have e3 : m % 128 * 128 ^ i + m / 128 * 128 ^ (i + 1) = m * 128 ^ i := by
          rw [Nat.pow_succ, Nat.mul_comm (128 ^ i) 128, ← Nat.mul_assoc, ← Nat.add_mul]
          congr 1; omega
        simp only [List.length_cons, Prod.mk.injEq, and_true]
        refine ⟨by rw [e2, Nat.add_assoc, e3], by omega⟩
end Go.J

/- What is proved: what the package wire writes. Conditions: as each names them. -/
namespace Go.Proofs.YtccfiohagbneaaaGreatDoor
open Go Go.J Go.RowKit
end Go.Proofs.YtccfiohagbneaaaGreatDoor

/- What is proved: what a reader of the package wire reads. Conditions: no more than 2^40 bytes. -/
namespace Go.Proofs.YtccfiohagbneaaaGreatDoor
open Go Go.J Go.RowKit
abbrev rdCells (s : List UInt8) (p : Nat) : List Value := [str s, .int .i64 (p : Int)]
def RdAt (r : Nat) (s : List UInt8) (p : Nat) (w : World) : Prop := w.heap[r]? = some (.cells ⟨rdCells s p⟩ 243 (0, 0))
def varV (p : Nat) (r : Nat × Nat × Int) : Value := if r.2.2 = 0 then .tuple #[.int .u64 (r.1 : Int), .int .i64 ((p + r.2.1 : Nat) : Int), .int .i64 0] else .tuple #[.int .u64 0, .int .i64 0, .int .i64 r.2.2]
def uintE (t : List UInt8) : Nat × Nat × Int := if (varE t 0 0).2.2 = 0 then (if (varE t 0 0).1 < 9223372036854775808 then varE t 0 0 else (0, 0, 3)) else (0, 0, (varE t 0 0).2.2)
def rtextE (t : List UInt8) : List UInt8 × Nat × Int := if (uintE t).2.2 = 0 then (if (uintE t).1 + (uintE t).2.1 ≤ t.length then ((t.drop (uintE t).2.1).take (uintE t).1, (uintE t).1 + (uintE t).2.1, 0) else ([], 0, 2)) else ([], 0, (uintE t).2.2)
abbrev rdC (r : Nat) (s : List UInt8) (p : Nat) : Chunk := .box r 243 (rdCells s p)
end Go.Proofs.YtccfiohagbneaaaGreatDoor

/- What is proved: what a reader of the package wire reads as a text. Conditions: no more than 2^40 bytes. -/
namespace Go.Proofs.YtccfiohagbneaaaGreatDoor
open Go Go.J Go.RowKit
end Go.Proofs.YtccfiohagbneaaaGreatDoor

/- What is proved: plain facts on checksums. Conditions: none. -/
namespace Go.J
open Go
def crcS (c : Nat) : Nat := (c / 2) ^^^ (if c % 2 = 1 then 3988292384 else 0)
def crcN : Nat → Nat → Nat
  | 0, c => c
  | j + 1, c => crcN j (crcS c)
def crcB (c : Nat) (x : UInt8) : Nat := crcN 8 (c ^^^ x.toNat)
def crcL (c : Nat) (s : List UInt8) : Nat := s.foldl crcB c
def sumE (s : List UInt8) : Nat := 4294967295 ^^^ crcL 4294967295 s
def le4 (n : Nat) : List UInt8 := [UInt8.ofNat (n % 256), UInt8.ofNat (n / 256 % 256), UInt8.ofNat (n / 65536 % 256), UInt8.ofNat (n / 16777216 % 256)]
def packE (s : List UInt8) : List UInt8 := textE s ++ le4 (sumE s)
end Go.J

/- What is proved: what the package frame reckons and writes. Conditions: as each names them. -/
namespace Go.Proofs.YtccfiohagbneaaaGreatDoor
open Go Go.J Go.RowKit
end Go.Proofs.YtccfiohagbneaaaGreatDoor

/- What is proved: what the package frame reads. Conditions: no more than 2^40 bytes. -/
namespace Go.Proofs.YtccfiohagbneaaaGreatDoor
open Go Go.J Go.RowKit
def readE (t : List UInt8) : List UInt8 × Nat × Int :=
  if (rtextE t).2.2 = 0 then (if t.length < (rtextE t).2.1 + 4 then ([], 0, 2) else if packE (rtextE t).1 = t.take ((rtextE t).2.1 + 4) then ((rtextE t).1, (rtextE t).2.1 + 4, 0) else ([], 0, 6)) else ([], 0, (rtextE t).2.2)
def frV (p : Nat) (r : List UInt8 × Nat × Int) : Value := if r.2.2 = 0 then .tuple #[str r.1, .int .i64 ((p + r.2.1 : Nat) : Int), .int .i64 0] else .tuple #[str [], .int .i64 0, .int .i64 r.2.2]
theorem rtextE_le (t : List UInt8) (h : (rtextE t).2.2 = 0) : (rtextE t).2.1 ≤ t.length ∧ (rtextE t).1.length ≤ t.length := by
  unfold rtextE at *
  by_cases h1 : (uintE t).2.2 = 0
  · rw [if_pos h1] at h ⊢
    by_cases h2 : (uintE t).1 + (uintE t).2.1 ≤ t.length
    · rw [if_pos h2]; exact ⟨h2, by simp; omega⟩
    · rw [if_neg h2] at h; simp at h
  · rw [if_neg h1] at h; exact absurd h h1
end Go.Proofs.YtccfiohagbneaaaGreatDoor

/- What is proved: what the package frame's scan tells. Conditions: no more than 2^40 bytes. -/
namespace Go.Proofs.YtccfiohagbneaaaGreatDoor
open Go Go.J Go.RowKit
def scanF : Nat → List UInt8 → List (List UInt8) × Nat × Int
  | 0, _ => ([], 0, 0)
  | k + 1, t => if t = [] then ([], 0, 0) else if (readE t).2.2 = 0 then ((readE t).1 :: (scanF k (t.drop (readE t).2.1)).1, (readE t).2.1 + (scanF k (t.drop (readE t).2.1)).2.1, (scanF k (t.drop (readE t).2.1)).2.2) else ([], 0, (readE t).2.2)
def scanE (t : List UInt8) : List (List UInt8) × Nat × Int := scanF t.length t
theorem readE_le (t : List UInt8) (h : (readE t).2.2 = 0) : 4 ≤ (readE t).2.1 ∧ (readE t).2.1 ≤ t.length ∧ (readE t).1.length ≤ t.length := by
  have hr := rtextE_le t
  unfold readE at *
  by_cases h1 : (rtextE t).2.2 = 0
  · rw [if_pos h1] at h ⊢
    by_cases h2 : t.length < (rtextE t).2.1 + 4
    · rw [if_pos h2] at h; simp at h
    · rw [if_neg h2] at h ⊢
      split at h
      · rename_i h3
        rw [if_pos h3]
        have := (hr h1).2
        refine ⟨by show 4 ≤ (rtextE t).2.1 + 4; omega, by show (rtextE t).2.1 + 4 ≤ _; omega, this⟩
      · simp at h
  · rw [if_neg h1] at h; exact absurd h h1
def scV (A : Option Addr) (n cap g : Nat) (e : Int) : Value := .tuple #[.slice A n cap, .int .i64 (g : Int), .int .i64 e]
end Go.Proofs.YtccfiohagbneaaaGreatDoor

/- What is proved: functions that change several chunks at once. Conditions: as each rule names them. -/
namespace Go.J
open Go Go.RowKit
def fps (D : List Chunk) : List Nat := D.flatMap Chunk.fp
theorem mem_fps {D : List Chunk} {b : Nat} : b ∈ fps D ↔ ∃ c ∈ D, b ∈ c.fp := by simp [fps]
structure MutL (w w' : World) (D D' : List Chunk) : Prop where
  upd : Upd (fps D) w w'
  holds : ∀ c ∈ D', c.holds w'
  fp : ∀ c ∈ D', ∀ b ∈ c.fp, b ∈ fps D ∨ (w.heap.size ≤ b ∧ b < w'.heap.size)
  disj : D'.Pairwise Chunk.apart
structure InL (w : World) (D : List Chunk) : Prop where
  holds : ∀ c ∈ D, c.holds w
  inb : ∀ c ∈ D, inB c w
  disj : D.Pairwise Chunk.apart
inductive Pulls : List Chunk → List Chunk → List Chunk → Prop where
  | nil {H : List Chunk} : Pulls [] H H
  | cons {c : Chunk} {D H H1 H2 : List Chunk} : Pull c H H1 → Pulls D H1 H2 → Pulls (c :: D) H H2
theorem Pulls.perm {D H H' : List Chunk} (h : Pulls D H H') : H.Perm (D ++ H') := by
  induction h with
  | nil => exact .refl _
  | cons h _ ih => exact h.perm.trans (.cons _ ih)
section
variable {w0 w w' : World} {M : List Nat} {H H' D D' : List Chunk} {Z : List Snap} {c c' : Chunk}
theorem St.pulls (hS : St w0 M w H Z) (h : Pulls D H H') : St w0 M w (D ++ H') Z := hS.perm h.perm
theorem St.inL (hS : St w0 M w (D ++ H) Z) : InL w D :=
  ⟨fun c hc => hS.holds c (List.mem_append_left _ hc), fun c hc b hb => (hS.inb c (List.mem_append_left _ hc) b hb).1, (List.pairwise_append.1 hS.disj).1⟩
theorem St.mutL (hS : St w0 M w (D ++ H) Z) (hm : MutL w w' D D') : St w0 M w' (D' ++ H) Z := by
  have hin : ∀ b ∈ fps D, b < w.heap.size ∧ (w0.heap.size ≤ b ∨ b ∈ M) := fun b hb => by
    obtain ⟨c, hc, hb⟩ := mem_fps.1 hb
    exact hS.inb c (List.mem_append_left _ hc) b hb
  have hap : ∀ d ∈ H, ∀ b ∈ d.fp, b ∉ fps D := fun d hd b hb hbD => by
    obtain ⟨c, hc, hb2⟩ := mem_fps.1 hbD
    exact (List.pairwise_append.1 hS.disj).2.2 c hc d hd b hb2 hb
  refine ⟨?_, ?_, ?_, ?_, ?_⟩
  · exact ⟨hm.upd.os.trans hS.upd.os, hm.upd.tape.trans hS.upd.tape, hm.upd.output.trans hS.upd.output, Nat.le_trans hS.upd.size hm.upd.size, fun b hb hn => by
      have hn' : b ∉ fps D := fun h => by
        rcases (hin b h).2 with h1 | h1
        · omega
        · exact hn h1
      exact (hm.upd.block b (Nat.lt_of_lt_of_le hb hS.upd.size) hn').trans (hS.upd.block b hb hn)⟩
  · intro d hd
    rcases List.mem_append.1 hd with h | h
    · exact hm.holds d h
    · exact Chunk.keep (hS.holds d (List.mem_append_right _ h)) fun b hb => hm.upd.block b (hS.inb d (List.mem_append_right _ h) b hb).1 (hap d h b hb)
  · intro d hd b hb
    rcases List.mem_append.1 hd with h | h
    · rcases hm.fp d h b hb with h1 | h1
      · exact ⟨Nat.lt_of_lt_of_le (hin b h1).1 hm.upd.size, (hin b h1).2⟩
      · exact ⟨h1.2, .inl (Nat.le_trans hS.upd.size h1.1)⟩
    · have := hS.inb d (List.mem_append_right _ h) b hb
      exact ⟨Nat.lt_of_lt_of_le this.1 hm.upd.size, this.2⟩
  · refine List.pairwise_append.2 ⟨hm.disj, (List.pairwise_append.1 hS.disj).2.1, fun c hc d hd b hb hbd => ?_⟩
    rcases hm.fp c hc b hb with h1 | h1
    · exact hap d hd b hbd h1
    · have := (hS.inb d (List.mem_append_right _ hd) b hbd).1; omega
  · intro z hz b hb
    obtain ⟨h1, h2, h3⟩ := hS.snap z hz b hb
    have hn : b ∉ fps D := fun h => by
      obtain ⟨c, hc, hb2⟩ := mem_fps.1 h
      exact h3 c (List.mem_append_left _ hc) hb2
    refine ⟨Nat.lt_of_lt_of_le h1 hm.upd.size, (hm.upd.block b h1 hn).trans h2, fun d hd hbd => ?_⟩
    rcases List.mem_append.1 hd with h | h
    · rcases hm.fp d h b hbd with h4 | h4
      · exact hn h4
      · omega
    · exact h3 d (List.mem_append_right _ h) hbd
theorem St.initL (h : InL w D) : St w (fps D) w D [⟨w, fun b => b < w.heap.size ∧ b ∉ fps D⟩] :=
  ⟨.refl _ _, h.holds, fun c hc b hb => ⟨h.inb c hc b hb, .inr (mem_fps.2 ⟨c, hc, hb⟩)⟩, h.disj, fun z hz b hbz => by
    simp at hz; subst hz; exact ⟨hbz.1, rfl, fun d hd hbd => hbz.2 (mem_fps.2 ⟨d, hd, hbd⟩)⟩⟩
theorem St.mutLOf (hS : St w0 (fps D) w (D' ++ H) Z) : MutL w0 w D D' :=
  ⟨hS.upd, fun c hc => hS.holds c (List.mem_append_left _ hc), fun c hc b hb => by
    have h := hS.inb c (List.mem_append_left _ hc) b hb
    rcases h.2 with h2 | h2
    · exact .inr ⟨h2, h.1⟩
    · exact .inl h2, (List.pairwise_append.1 hS.disj).1⟩
theorem St.mutLp (hS : St w0 (fps D) w H Z) (hp : Pulls D' H H') : MutL w0 w D D' := (hS.pulls hp).mutLOf
theorem MutL.of1 (h : Mut w w' c c') : MutL w w' [c] [c'] :=
  ⟨by simpa [fps] using h.upd, by simpa using h.holds, by simpa [fps] using h.fp, by simp⟩
theorem InL.of1 (h : c.holds w) (hi : inB c w) : InL w [c] := ⟨by simpa using h, by simpa using hi, by simp⟩
theorem InL.head (h : InL w (c :: D)) : c.holds w := h.holds c (List.mem_cons_self ..)
theorem InL.headB (h : InL w (c :: D)) : inB c w := h.inb c (List.mem_cons_self ..)
theorem InL.sub (h : InL w D) (hp : Pulls D' D H) : InL w D' := by
  have hp := hp.perm
  refine ⟨fun c hc => h.holds c (hp.mem_iff.2 (List.mem_append_left _ hc)), fun c hc => h.inb c (hp.mem_iff.2 (List.mem_append_left _ hc)), ?_⟩
  exact (List.pairwise_append.1 ((hp.pairwise_iff (fun {a b} h => Chunk.apart_symm h)).1 h.disj)).1
theorem MutL.refl (h : InL w D) : MutL w w D D :=
  ⟨.refl _ _, h.holds, fun c hc b hb => .inl (mem_fps.2 ⟨c, hc, hb⟩), h.disj⟩
theorem MutL.drop (h : MutL w w' D (c :: D')) : MutL w w' D D' :=
  ⟨h.upd, fun d hd => h.holds d (List.mem_cons_of_mem _ hd), fun d hd => h.fp d (List.mem_cons_of_mem _ hd), (List.pairwise_cons.1 h.disj).2⟩
theorem St.droplast2 {D H' : List Chunk} (hS : St w0 M w H Z) (hp : Pulls D H H') : St w0 M w D Z := by
  have h := hS.pulls hp
  exact ⟨h.upd, fun c hc => h.holds c (List.mem_append_left _ hc), fun c hc => h.inb c (List.mem_append_left _ hc), (List.pairwise_append.1 h.disj).1, fun z hz b hb => by
    obtain ⟨h1, h2, h3⟩ := h.snap z hz b hb
    exact ⟨h1, h2, fun d hd => h3 d (List.mem_append_left _ hd)⟩⟩
end
theorem Cal.mkL {P : Program} {fid : FuncId} {fn : Func} {c : Code} {args : List Value} {w : World} {R : Value → World → Prop} {D : List Chunk} (hi : InL w D) (hk : callOk P fid = true)
    (hf : P.funcs[fid]? = some fn) (hb : fn.body = some c) (hn : Nat.ble args.length fn.ntmps = true)
    (h : St w (fps D) w D [⟨w, fun b => b < w.heap.size ∧ b ∉ fps D⟩] → WC P fn.ntmps c (fr0 args) w (funQ P fn.results fn (Ret R))) : Cal P fid args w R :=
  ⟨hk, J.calls hf hb hn (h (St.initL hi))⟩
section
variable {P : Program} {N : Fz} {f : Fr} {w w0 : World} {Q : Post} {ops l : List Oper} {o : Oper} {M : List Nat} {H H' D : List Chunk} {Z : List Snap}
def evN (ρ : Operand → Value) : List Operand → Option (List Value)
  | [] => some []
  | x :: xs => match nfv (ρ x) with
    | some v => match evN ρ xs with
      | some r => some (v :: r)
      | none => none
    | none => none
theorem run_app0 {ρ : Operand → Value} {s x : Operand} {t e : TypeId} {size bytes n cap c : Nat} {A : Option Addr} (ho : o.op = .call ⟨.builtin .append, ⟨[s, x]⟩, ⟨[t, t]⟩⟩) (hi : appOf P t = some (e, size, bytes))
    (hs : ρ s = .slice A n cap) (hx : ρ x = .slice none 0 c) (hc : n ≤ cap) : (execOp ρ o).run P w = .ok (.value (.slice A n cap)) w := by
  obtain ⟨i, z, hu, hinfo, hz, rfl, rfl, hzs, h0, h0b⟩ := appOf_spec hi
  have hr : (Builtin.append_ #[t, t] o.type #[.slice A n cap, .slice none 0 c]).run P w = .ok (.slice A n cap) w := by
    cases A with
    | none => simp [Builtin.append_, run_underlying hu, sizeOf, typeInfo, hinfo, Builtin.lenOf, Builtin.firstCells, hc]
    | some a => simp [Builtin.append_, run_underlying hu, sizeOf, typeInfo, hinfo, Builtin.lenOf, Builtin.firstCells, hc, storeCells]
  unfold execOp
  simp only [ho, resolve, invoke, builtin, Sem.run_bind, Sem.run_pure, Result.andThen_ok, List.map_toArray, List.map_cons, List.map_nil, hs, hx, hr]
def RdSl (H : List Chunk) (Z : List Snap) (B : Option Addr) (m : Nat) (news : List Value) : Prop := (B = none ∧ m = 0 ∧ news = []) ∨ ∃ b off, B = some ⟨b, off, none⟩ ∧ RdOk H Z b off news
theorem RdSl.own {A : Option Addr} {n cap n' : Nat} {e : TypeId} {size : Nat} {xs : List Value} (hS : St w0 M w H Z) (hm : Chunk.own (.slice A n cap) e size n' xs ∈ H) : RdSl H Z A n xs := by
  have h := hS.holds _ hm
  rcases h.2 with ⟨h2, rfl⟩ | ⟨g, off, cap', cur, h2, _⟩
  · simp only [Value.slice.injEq] at h2
    obtain ⟨rfl, rfl, rfl⟩ := h2
    exact .inl ⟨rfl, rfl, List.eq_nil_of_length_eq_zero (by rw [h.1, Nat.zero_mul])⟩
  · simp only [Value.slice.injEq] at h2
    obtain ⟨rfl, rfl, rfl⟩ := h2
    exact .inr ⟨g, off, rfl, .own0 hm⟩
theorem WL.appS {s x : Operand} {t e : TypeId} {size bytes n m cap c : Nat} {A B : Option Addr} {xs news : List Value} {H' : Option Addr → Nat → List Chunk} (hS : St w0 M w H Z) (ho : o.op = .call ⟨.builtin .append, ⟨[s, x]⟩, ⟨[t, t]⟩⟩) (hi : appOf P t = some (e, size, bytes))
    (hs : ev f s = .slice A n cap) (hx : ev f x = .slice B m c) (hnews : RdSl H Z B m news) (hl : news.length = m * size) (h1 : one news = true)
    (hr : ∀ A' cap', Repl (.own (.slice A n cap) e size n xs) (.own (.slice A' (n + m) cap') e size (n + m) (xs ++ news)) H (H' A' cap')) (hb : (n + m) * bytes ≤ 140737488355328)
    (hg : wants ops f o = true) {d : Nat} (hd : o.dst = some d) (hn : N.ok d = true)
    (h : ∀ A' cap' w', St w0 M w' (H' A' cap') Z → WL P N ops l (up f d (.slice A' (n + m) cap')) w' Q) : WL P N ops (o :: l) f w Q := by
  rcases hnews with ⟨rfl, rfl, rfl⟩ | ⟨b, off, rfl, hnews⟩
  · have hc := (hS.own_len (hr none 0).mem).2.2
    have h' := h A cap w (hS.recast (hr A cap) (fun h => by simpa using h) (fun b hb => hb))
    exact .val hg hd hn (run_app0 ho hi hs hx hc) h'
  · exact .app hS ho hi hs hx hnews hl h1 hr hb hg hd hn h
theorem WL.callL {fid : FuncId} {xs : List Operand} {ts : Array TypeId} {args : List Value} {R : Value → World → Prop} (hS : St w0 M w H Z) (hp : Pulls D H H') (ho : o.op = .call ⟨.value (.func fid), ⟨xs⟩, ts⟩) (ha : xs.map (ev f) = args) (hc : InL w D → Cal P fid args w R)
    (hg : wants ops f o = true) {d : Nat} (hd : o.dst = some d) (hn : N.ok d = true) (h : ∀ v w', R v w' → (∀ D', MutL w w' D D' → St w0 M w' (D' ++ H') Z) → WL P N ops l (up f d v) w' Q) : WL P N ops (o :: l) f w Q :=
  have hS' := hS.pulls hp
  .callG ho ha (hc hS'.inL) hg hd hn fun v w' hR => h v w' hR fun D' hm => hS'.mutL hm
end
section
variable {P : Program} {N : Fz} {f : Fr} {w w0 : World} {Q : Post} {ops : List Oper} {M : List Nat} {H0 H H' D : List Chunk} {Z0 Z : List Snap} {q : Qs} {l : List Nat} {i : Nat}
theorem More.app {D' : List Chunk} (h : More H0 Z0 H Z) : More H0 Z0 (D' ++ H) Z := by
  obtain ⟨a, b, h1, h2⟩ := h; exact ⟨D' ++ a, b, by rw [h1, List.append_assoc], h2⟩
theorem WC.drawL {id : Nat} (D : List Chunk) (hS : St w0 M w H Z) (hp : Pulls D H H') (q l : List Nat) (hm : P.follows .mixedOrders = true)
    (hk : (Region.noSelect ops.toArray && ordOk ops.toArray ⟨q, .nil⟩ (Array.replicate ops.toArray.size false) l && Nat.beq l.length ops.length) = true)
    (h : ∀ w', St w0 M w' (D ++ H') Z → More H' Z (D ++ H') Z → WD P N (SS w0 M H' Z) ops ⟨q, .nil⟩ l f w' Q) (hok : okR N ops = true := by rfl) : WC P N (.region id ops.toArray true) f w Q := by
  have hS' := hS.pulls hp
  simp only [Bool.and_eq_true] at hk
  exact WC.draw (SS w0 M H' Z) ⟨q, .nil⟩ l hm hk.1.1 hk.1.2 hk.2 ((More.app (.refl _ _)).ss hS'.drew) (h _ hS'.drew (More.app (.refl _ _))) hok
theorem WD.callL {fid : FuncId} {xs : List Operand} {ts : Array TypeId} {args : List Value} {R : Value → World → Prop} (hS : St w0 M w H Z) (hp : Pulls D H H') (hM : More H0 Z0 H' Z) (ho : (ix ops i).op = .call ⟨.value (.func fid), ⟨xs⟩, ts⟩) (ha : xs.map (ev f) = args)
    (hc : InL w D → Cal P fid args w R) (hq : q.contains i = false) (hi : Nat.blt i ops.length = true) (hg : wants ops f (ix ops i) = true) {d : Nat} (hd : (ix ops i).dst = some d) (hn : N.ok d = true)
    (h : ∀ v w', R v w' → ∃ D', MutL w w' D D' ∧ (St w0 M w' (D' ++ H') Z → More H0 Z0 (D' ++ H') Z → WD P N (SS w0 M H0 Z0) ops q l (up f d v) w' Q)) : WD P N (SS w0 M H0 Z0) ops q (i :: l) f w Q :=
  have hS' := hS.pulls hp
  .enter hq hi hg hd hn (run_callOp ho ha (hc hS'.inL).ok) (hc hS'.inL).calls fun v w' hR => by
    obtain ⟨D', hm, hk⟩ := h v w' hR
    have hS2 := hS'.mutL hm
    exact ⟨(More.app hM).ss hS2, hk hS2 (More.app hM)⟩
theorem WC.drawV {id : Nat} (hS : St w0 M w H Z) (q l : List Nat) (i : Nat) (l2 : List Nat) (hm : P.follows .mixedOrders = true)
    (hk : (Region.noSelect ops.toArray && ordOk ops.toArray ⟨q, .piv i l2⟩ (Array.replicate ops.toArray.size false) l && Nat.beq (l.length + (l2.length + 1)) ops.length) = true)
    (h : ∀ w', St w0 M w' H Z → More H Z H Z → WD P N (SS w0 M H Z) ops ⟨q, .piv i l2⟩ l f w' Q) (hok : okR N ops = true := by rfl) : WC P N (.region id ops.toArray true) f w Q := by
  simp only [Bool.and_eq_true] at hk
  exact WC.draw (SS w0 M H Z) ⟨q, .piv i l2⟩ l hm hk.1.1 hk.1.2 hk.2 ((More.refl H Z).ss hS.drew) (h _ hS.drew (.refl _ _)) hok
theorem SS.any (hS : St w0 M w H Z) : SS w0 M [] [] w := ⟨H, Z, by simpa using hS⟩
theorem More.none : More [] [] H Z := ⟨H, Z, by simp, by simp⟩
theorem WD.pivStore {qs : List Nat} {ty : TypeId} {x y : Operand} {b off : Nat} {vs : List Value} {S : World → Prop} (hS : St w0 M w H Z) (ho : (ix ops i).op = .store ty x y) (hx : ev f x = .pointer (some ⟨b, off, none⟩)) (hy : cellsO (ev f y) = some vs) (hr : StB b off vs H H') (hn : tySize P ty = some vs.length)
    (hi : Nat.blt i ops.length = true) (hg : wants ops f (ix ops i) = true) (hd : (ix ops i).dst = none) (h : ∀ w', St w0 M w' H' Z → More [] [] H' Z → WD P N (SS w0 M [] []) ops ⟨qs, .nil⟩ l f w' Q) : WD P N S ops ⟨qs, .piv i l⟩ [] f w Q := by
  refine .piv (S2 := SS w0 M [] []) ?_
  obtain ⟨t, cs, cs', hrp, hs⟩ := hr.repl
  have hy' := cellsO_eq hy
  have hb := hS.holds _ hrp.mem
  have hrun := run_storeBox (P := P) ho hx hb (by rw [hy']; exact hs) (by rw [hy']; exact hn)
  have hS' := hS.setBox hrp
  exact .unit0 hi hg hd hrun (SS.any hS') (h _ hS' .none)
end
theorem Pu {p : Prop} (h : p := by repeat (first | exact Pulls.nil | (apply Pulls.cons; focus (repeat (first | exact Pull.here | apply Pull.there))))) : p := h
end Go.J

/- What is proved: plain facts on frames: what was packed is read, and a turned bit is told. Conditions: texts of bounded length. -/
namespace Go.J
open Go
theorem le4_len (n : Nat) : (le4 n).length = 4 := rfl
end Go.J
namespace Go.Proofs.YtccfiohagbneaaaGreatDoor
open Go Go.J Go.RowKit
theorem uintE_put (n : Nat) (hn : n < 9223372036854775808) (t : List UInt8) : uintE (putN n ++ t) = (n, (putN n).length, 0) := by
  have h := varE_put n n (Nat.le_refl _) 0 0 t (.inr rfl) (by omega) (by simp; omega)
  simp only [Nat.pow_zero, Nat.mul_one, Nat.zero_add] at h
  unfold uintE
  rw [h]
  simp [hn]
theorem rtextE_text (s t : List UInt8) (h : s.length < 9223372036854775808) : rtextE (putN s.length ++ (s ++ t)) = (s, s.length + (putN s.length).length, 0) := by
  unfold rtextE
  rw [uintE_put _ h]
  simp only [if_true, List.length_append]
  rw [if_pos (by omega)]
  simp
theorem readE_pack (s t : List UInt8) (h : s.length < 9223372036854775808) : readE (packE s ++ t) = (s, (packE s).length, 0) := by
  have e : packE s ++ t = putN s.length ++ (s ++ (le4 (sumE s) ++ t)) := by simp [packE, textE]
  have hl : (packE s).length = s.length + (putN s.length).length + 4 := by simp [packE, textE, le4_len]; omega
  unfold readE
  rw [e, rtextE_text s _ h, ← e]
  simp only [if_true]
  rw [if_neg (by simp [hl]), if_pos (by rw [← hl]; simp), ← hl]
end Go.Proofs.YtccfiohagbneaaaGreatDoor

/- What is proved: plain facts on a file of frames: what is read of it whole, torn, or rotten. Conditions: texts of bounded length. -/
namespace Go.Proofs.YtccfiohagbneaaaGreatDoor
open Go Go.J Go.RowKit
def frames (l : List (List UInt8)) : List UInt8 := l.flatMap packE
theorem frames_app (a b : List (List UInt8)) : frames (a ++ b) = frames a ++ frames b := List.flatMap_append
theorem frames_one (s : List UInt8) : frames [s] = packE s := by simp [frames]
theorem packE_len (s : List UInt8) : (packE s).length = (putN s.length).length + s.length + 4 := by simp [packE, textE, le4_len]; omega
theorem putN_pos (n : Nat) : 0 < (putN n).length := by
  rcases Nat.eq_zero_or_pos (putN n).length with h | h
  · exact absurd (List.eq_nil_of_length_eq_zero h) (putN_ne n)
  · exact h
theorem scanF_fuel : ∀ (k k' : Nat) (t : List UInt8), t.length ≤ k → t.length ≤ k' → scanF k t = scanF k' t
  | 0, k', t, h, h' => by
    obtain rfl : t = [] := List.eq_nil_of_length_eq_zero (by omega)
    cases k' with
    | zero => rfl
    | succ k' => simp [scanF]
  | k + 1, 0, t, h, h' => by
    obtain rfl : t = [] := List.eq_nil_of_length_eq_zero (by omega)
    simp [scanF]
  | k + 1, k' + 1, t, h, h' => by
    unfold scanF
    by_cases h0 : t = []
    · rw [if_pos h0, if_pos h0]
    · rw [if_neg h0, if_neg h0]
      by_cases he : (readE t).2.2 = 0
      · rw [if_pos he, if_pos he]
        have := readE_le t he
        have hd : (t.drop (readE t).2.1).length ≤ k ∧ (t.drop (readE t).2.1).length ≤ k' := by rw [List.length_drop]; omega
        rw [scanF_fuel k k' _ hd.1 hd.2]
      · rw [if_neg he, if_neg he]
theorem scanE_nil : scanE [] = ([], 0, 0) := rfl
theorem scanE_cons (s t : List UInt8) (h : s.length < 9223372036854775808) : scanE (packE s ++ t) = (s :: (scanE t).1, (packE s).length + (scanE t).2.1, (scanE t).2.2) := by
  have hr := readE_pack s t h
  have hl := packE_len s
  have hp := putN_pos s.length
  unfold scanE
  obtain ⟨k, hk⟩ : ∃ k, (packE s ++ t).length = k + 1 := ⟨(packE s ++ t).length - 1, by rw [List.length_append]; omega⟩
  rw [hk]
  have hne : packE s ++ t ≠ [] := fun hh => by rw [hh] at hk; simp at hk
  conv => lhs; unfold scanF
  rw [if_neg hne, hr]
  simp only [if_true]
  have hd : (packE s ++ t).drop (packE s).length = t := by simp
  rw [hd, scanF_fuel k t.length t (by rw [List.length_append] at hk; omega) (Nat.le_refl _)]
theorem scanE_frames : ∀ (l : List (List UInt8)) (t : List UInt8), (∀ s ∈ l, s.length < 9223372036854775808) → scanE (frames l ++ t) = (l ++ (scanE t).1, (frames l).length + (scanE t).2.1, (scanE t).2.2)
  | [], t, _ => by simp [frames]
  | s :: l, t, h => by
    have e : frames (s :: l) ++ t = packE s ++ (frames l ++ t) := by simp [frames]
    have e2 : (frames (s :: l)).length = (packE s).length + (frames l).length := by simp [frames]
    rw [e, scanE_cons s _ (h s (by simp)), scanE_frames l t (fun u hu => h u (by simp [hu])), e2]
    simp [Nat.add_assoc]
theorem scanE_whole (l : List (List UInt8)) (h : ∀ s ∈ l, s.length < 9223372036854775808) : scanE (frames l) = (l, (frames l).length, 0) := by
  have := scanE_frames l [] h
  simpa [scanE_nil] using this
end Go.Proofs.YtccfiohagbneaaaGreatDoor

/- What is proved: what the journal does to its file and to itself. Conditions: no limit at the disk, texts of bounded length. -/
namespace Go.Proofs.YtccfiohagbneaaaGreatDoor
open Go Go.J Go.RowKit
def Dk.Sm (D : Dk) (B : Nat) : Prop := D.limits = [] ∧ ∀ x ∈ D.items, x.2.data.length ≤ B
theorem mget_mem {β : Type} {m : List (List UInt8 × β)} {x : List UInt8} {v : β} (h : mget m x = some v) : (x, v) ∈ m := by
  induction m with
  | nil => simp [mget] at h
  | cons p r ih =>
    obtain ⟨k, u⟩ := p
    unfold mget at h
    by_cases e : x = k
    · rw [if_pos e] at h; simp only [Option.some.injEq] at h; subst e; subst h; exact List.mem_cons_self ..
    · rw [if_neg e] at h; exact List.mem_cons_of_mem _ (ih h)
theorem mem_mset {β : Type} {m : List (List UInt8 × β)} {x : List UInt8} {v : β} {y : List UInt8 × β} (h : y ∈ mset m x v) : y ∈ m ∨ y.2 = v := by
  induction m with
  | nil => simp [mset] at h; exact .inr (by rw [h])
  | cons p r ih =>
    obtain ⟨k, u⟩ := p
    unfold mset at h
    by_cases e : x = k
    · rw [if_pos e] at h
      rcases List.mem_cons.1 h with rfl | h
      · exact .inr rfl
      · exact .inl (List.mem_cons_of_mem _ h)
    · rw [if_neg e] at h
      rcases List.mem_cons.1 h with rfl | h
      · exact .inl (List.mem_cons_self ..)
      · rcases ih h with h | h
        · exact .inl (List.mem_cons_of_mem _ h)
        · exact .inr h
theorem Dk.Sm.at_ {D : Dk} {B : Nat} (h : D.Sm B) (p : List UInt8) : (D.at p).data.length ≤ B := by
  unfold Dk.at
  cases e : mget D.items p with
  | none => exact Nat.zero_le _
  | some x => exact h.2 _ (mget_mem e)
theorem Dk.Sm.no {D : Dk} {B : Nat} (h : D.Sm B) (p : List UInt8) : mget D.limits p = none := by rw [h.1]; rfl
theorem Dk.step_items (D : Dk) : D.step.items = D.items := by unfold Dk.step; split <;> rfl
theorem Dk.step_limits (D : Dk) : D.step.limits = D.limits := by unfold Dk.step; split <;> rfl
theorem Dk.step_at (D : Dk) (p : List UInt8) : D.step.at p = D.at p := by unfold Dk.at; rw [Dk.step_items]
theorem Dk.Sm.step {D : Dk} {B : Nat} (h : D.Sm B) : D.step.Sm B := ⟨by rw [Dk.step_limits]; exact h.1, by rw [Dk.step_items]; exact h.2⟩
theorem Dk.Sm.set {D : Dk} {B : Nat} (h : D.Sm B) {p : List UInt8} {x : It} (hx : x.data.length ≤ B) : (D.set p x).Sm B :=
  ⟨h.1, fun y hy => by
    rcases mem_mset hy with h1 | h1
    · exact h.2 y h1
    · rw [h1]; exact hx⟩
theorem Dk.Sm.put {D : Dk} {B : Nat} (h : D.Sm B) {p : List UInt8} {x : It} (hx : x.data.length ≤ B) : Dk.Sm { D with items := mset D.items p x } B :=
  ⟨h.1, fun y hy => by
    rcases mem_mset hy with h1 | h1
    · exact h.2 y h1
    · rw [h1]; exact hx⟩
theorem Dk.Sm.del {D : Dk} {B : Nat} (h : D.Sm B) {p : List UInt8} : (D.del p).Sm B := ⟨h.1, fun y hy => h.2 y ((mdel_sub _ _).mem hy)⟩
theorem Dk.Sm.write {D : Dk} {B : Nat} (h : D.Sm B) {p s : List UInt8} (hs : s.length ≤ B) : (D.write p s).2.Sm B := by
  unfold Dk.write
  repeat' split
  all_goals first | exact h | exact h.step | exact h.step.set hs
theorem Dk.Sm.sync {D : Dk} {B : Nat} (h : D.Sm B) {p : List UInt8} : (D.sync p).2.Sm B := by
  unfold Dk.sync
  repeat' split
  all_goals first | exact h | exact h.step | exact h.step.put (h.step.at_ p)
theorem Dk.Sm.rename {D : Dk} {B : Nat} (h : D.Sm B) {p r : List UInt8} : (D.rename p r).2.Sm B := by
  unfold Dk.rename
  repeat' split
  all_goals first | exact h | exact h.step | exact h.step.del.set (h.at_ p)
def Dk.fill (D : Dk) (p s : List UInt8) : Int × Dk :=
  if (D.write (p ++ [95, 116]) s).1 ≠ 0 then D.write (p ++ [95, 116]) s
  else if ((D.write (p ++ [95, 116]) s).2.sync (p ++ [95, 116])).1 ≠ 0 then (D.write (p ++ [95, 116]) s).2.sync (p ++ [95, 116])
  else ((D.write (p ++ [95, 116]) s).2.sync (p ++ [95, 116])).2.rename (p ++ [95, 116]) p
theorem Dk.Sm.fill {D : Dk} {B : Nat} (h : D.Sm B) {p s : List UInt8} (hs : s.length ≤ B) : (D.fill p s).2.Sm B := by
  unfold Dk.fill
  repeat' split
  all_goals first | exact h.write hs | exact (h.write hs).sync | exact (h.write hs).sync.rename
abbrev lgCells (q : Nat) (p : List UInt8) (A : Option Addr) (n cap : Nat) (dmg : Bool) : List Value := [.pointer (some ⟨q, 0, none⟩), str p, .slice A n cap, .bool dmg]
abbrev fillD (L q mb lb x1 x2 x3 : Nat) (D : Dk) (p t s : List UInt8) (A : Option Addr) (n cap : Nat) (dmg : Bool) : List Chunk :=
  [.box x1 29 [.pointer (some ⟨L, 0, none⟩)], .box x2 9 [str t], .box x3 9 [str s], .box L 112 [.pointer (some ⟨q, 0, none⟩), str p, .slice A n cap, .bool dmg], dkC q mb lb D]
section
variable {L q mb lb x1 x2 x3 : Nat} {D D' : Dk} {p t s : List UInt8} {A : Option Addr} {n cap : Nat} {dmg : Bool} {w0 : World} {e : Int}
end
structure Lg where
  p : List UInt8
  recs : List (List UInt8)
  dmg : Bool
def lgφ (L q : Nat) (G : Lg) (D : List Chunk) : Prop := ∃ A cap, D = [.box L 112 [.pointer (some ⟨q, 0, none⟩), str G.p, .slice A G.recs.length cap, .bool G.dmg], .own (.slice A G.recs.length cap) 9 1 G.recs.length (strs G.recs)]
abbrev lgC (L q : Nat) (G : Lg) (fp : List Nat) : Chunk := objC (lgφ L q G) fp
def Lg.reset (G : Lg) (e : Int) : Lg := if e = 0 then { G with recs := [] } else G
def Lg.push (G : Lg) (r : List UInt8) : Lg := { G with recs := G.recs ++ [r] }
def walAdd (G : Lg) (D : Dk) (r : List UInt8) : Int × Lg × Dk :=
  if (D.append G.p (packE r)).1 ≠ 0 then ((D.append G.p (packE r)).1, G, (D.append G.p (packE r)).2)
  else if ((D.append G.p (packE r)).2.sync G.p).1 ≠ 0 then (((D.append G.p (packE r)).2.sync G.p).1, G, ((D.append G.p (packE r)).2.sync G.p).2)
  else (0, G.push r, ((D.append G.p (packE r)).2.sync G.p).2)
end Go.Proofs.YtccfiohagbneaaaGreatDoor

/- What is proved: what opening a journal answers. Conditions: no limit at the disk, texts of bounded length. -/
namespace Go.Proofs.YtccfiohagbneaaaGreatDoor
open Go Go.J Go.RowKit
def walOpen (D : Dk) (p : List UInt8) : Int × Option Lg × Dk :=
  if D.kind p = 0 then (if (D.fill p []).1 ≠ 0 then ((D.fill p []).1, none, (D.fill p []).2) else (0, some ⟨p, [], false⟩, (D.fill p []).2))
  else if (D.read p).2 ≠ 0 then ((D.read p).2, none, D)
  else if (scanE (D.read p).1).2.2 ≠ 0 then
    (if (D.fill p ((D.read p).1.take (scanE (D.read p).1).2.1)).1 ≠ 0 then ((D.fill p ((D.read p).1.take (scanE (D.read p).1).2.1)).1, none, (D.fill p ((D.read p).1.take (scanE (D.read p).1).2.1)).2)
      else (0, some ⟨p, (scanE (D.read p).1).1, decide ((scanE (D.read p).1).2.2 = 6 ∨ (scanE (D.read p).1).2.2 = 3)⟩, (D.fill p ((D.read p).1.take (scanE (D.read p).1).2.1)).2))
  else (0, some ⟨p, (scanE (D.read p).1).1, decide ((scanE (D.read p).1).2.2 = 6 ∨ (scanE (D.read p).1).2.2 = 3)⟩, D)
def openR (q mb lb : Nat) (D : Dk) (w0 : World) (r : Int × Option Lg × Dk) (v : Value) (w' : World) : Prop :=
  match r with
  | (e, none, D') => v = .tuple #[.pointer none, .int .i64 e] ∧ MutL w0 w' [dkC q mb lb D] [dkC q mb lb D']
  | (e, some G, D') => ∃ L fp, v = .tuple #[.pointer (some ⟨L, 0, none⟩), .int .i64 e] ∧ MutL w0 w' [dkC q mb lb D] [lgC L q G fp, dkC q mb lb D']
end Go.Proofs.YtccfiohagbneaaaGreatDoor

/- What is proved: rules for the bytes of a text ('[]byte(s)'), and remainders of any sign. Conditions: as each rule names them. -/
namespace Go.J
open Go Go.RowKit
def BsIs (b : Nat) (e : TypeId) (s : List UInt8) (w : World) : Prop := ∃ cs lo, w.heap[b]? = some (.cells ⟨byteC s ++ cs⟩ e (lo, lo + 1)) ∧ (byteC s ++ cs).length ≤ lo
theorem BsIs.local {b : Nat} {e : TypeId} {s : List UInt8} : Local [b] (BsIs b e s) := fun w w' h ⟨cs, lo, h1, h2⟩ => ⟨cs, lo, (h b (by simp)).trans h1, h2⟩
abbrev bsC (b : Nat) (e : TypeId) (s : List UInt8) : Chunk := .obj [b] (BsIs b e s)
theorem byteC_get {s : List UInt8} {j : Nat} {c : UInt8} (h : s[j]? = some c) : (byteC s)[j]? = some (.int .u8 (c.toNat : Int)) := by simp [byteC, h]
theorem BsIs.cell {b : Nat} {e : TypeId} {s : List UInt8} {w : World} (h : BsIs b e s w) : ∀ j u, (byteC s)[j]? = some u → w.cell? ⟨b, 0 + j, none⟩ = some u := by
  obtain ⟨cs, lo, h1, h2⟩ := h
  intro j u hj
  rw [Nat.zero_add, cell_of_row w b j _ e _ h1]
  have hlt := (List.getElem?_eq_some_iff.1 hj).1
  simp only [List.getElem?_toArray]
  rw [List.getElem?_append_left hlt]
  exact hj
section
variable {P : Program} {N : Fz} {f : Fr} {w w0 : World} {Q : Post} {ops l : List Oper} {o : Oper} {M : List Nat} {H H' : List Chunk} {Z : List Snap} {ρ : Operand → Value}
theorem LdOk.bs {b j : Nat} {e ty : TypeId} {s : List UInt8} {c : UInt8} (hm : bsC b e s ∈ H) (hj : s[j]? = some c) (h0 : tyAgg P ty = some false) (h1 : ∃ n, tySize P ty = some n) : LdOk P H Z ty ⟨b, 0 + j * 1, none⟩ (.int .u8 (c.toNat : Int)) :=
  ⟨fun w0 M w Hn Zn hS => run_loadVar_cells (getV_at h0 h1 (byteC_get (by rwa [Nat.mul_one])) rfl) (BsIs.cell (hS.holds _ (List.mem_append_right _ hm)).1)⟩
end
section
variable {P : Program} {N : Fz} {f : Fr} {w w0 : World} {Q : Post} {ops : List Oper} {M : List Nat} {H0 H H' : List Chunk} {Z0 Z : List Snap} {q : Qs} {l : List Nat} {i : Nat}
theorem WD.rem {S : World → Prop} {ty ty' : TypeId} {x y : Operand} {a b : Int} (ho : (ix ops i).op = .binOp .rem ty x y ty') (hx : ev f x = .int .i64 a) (hy : ev f y = .int .i64 b) (ha : 0 ≤ a) (hb : 0 < b)
    (hq : q.contains i = true) (hg : wants ops f (ix ops i) = true) {d : Nat} (hd : (ix ops i).dst = some d) (hn : N.ok d = true) (h : WD P N S ops q l (up f d (.int .i64 (a % b))) w Q) : WD P N S ops q (i :: l) f w Q :=
  .take hq hd hn (.inl ⟨hg, fun _ _ => run_rem ho hx hy ha hb⟩) h
end
end Go.J

/- What is proved: the walk's rule for a text's bytes put behind a row of bytes of the call's own. Conditions: as the rule names them. -/
namespace Go.J
open Go Go.RowKit
section
variable {P : Program} {N : Fz} {f : Fr} {w w0 : World} {Q : Post} {ops l : List Oper} {o : Oper} {M : List Nat} {H H' : List Chunk} {Z : List Snap} {ρ : Operand → Value}
abbrev ZL (w0 : World) (D : List Chunk) : List Snap := [⟨w0, fun b => b < w0.heap.size ∧ b ∉ fps D⟩]
theorem flat_at {α : Type} {enc : α → List Value} {sz : Nat} (hsz : ∀ x, (enc x).length = sz) : ∀ (l : List α) {k : Nat} (h : k < l.length), ((l.flatMap enc).drop (k * sz)).take sz = enc l[k]
  | [], _, h => by simp at h
  | o :: l, 0, h => by
    simp only [List.flatMap_cons, Nat.zero_mul, List.drop_zero, List.getElem_cons_zero]
    rw [List.take_append_of_le_length (by rw [hsz]; exact Nat.le_refl _), List.take_of_length_le (by rw [hsz]; exact Nat.le_refl _)]
  | o :: l, k + 1, h => by
    simp only [List.flatMap_cons, List.getElem_cons_succ]
    rw [List.drop_append, hsz, List.drop_of_length_le (by rw [hsz, Nat.add_mul]; omega), List.nil_append, show (k + 1) * sz - sz = k * sz by rw [Nat.add_mul]; omega]
    exact flat_at hsz l (by simpa using h)
theorem getV_part {ty : TypeId} {cs es : List Value} {off n : Nat} (h0 : tyAgg P ty = some true) (hn : tySize P ty = some n) (hle : off + n ≤ cs.length) (he : (cs.drop off).take n = es) : getV P ty cs off = some (.agg ⟨es⟩) := by
  unfold getV getV0
  rw [h0, hn]
  simp only
  rw [Nat.ble_eq_true_of_le hle]
  simp only [he, nfo, nfv]
theorem LdOk.ownElem {α : Type} {enc : α → List Value} {sz g off n cap n' k : Nat} {e ty : TypeId} {l : List α} (hsz : ∀ x, (enc x).length = sz) (hm : Chunk.own (.slice (some ⟨g, off, none⟩) n cap) e sz n' (l.flatMap enc) ∈ H) (hk : k < l.length) (h0 : tyAgg P ty = some true) (hn : tySize P ty = some sz) :
    LdOk P H Z ty ⟨g, off + k * sz, none⟩ (.agg ⟨enc l[k]⟩) :=
  LdOk.own hm (getV_part h0 hn (by
    rw [flat_len hsz]
    have := Nat.mul_le_mul_right sz (Nat.succ_le_of_lt hk)
    rw [Nat.succ_mul] at this
    exact this) (flat_at hsz l hk))
theorem LdOk.ownElemE {α : Type} {enc : α → List Value} {sz g off n cap n' k : Nat} {e ty : TypeId} {l : List α} {o : α} (hsz : ∀ x, (enc x).length = sz) (hm : Chunk.own (.slice (some ⟨g, off, none⟩) n cap) e sz n' (l.flatMap enc) ∈ H) (hk : l[k]? = some o) (h0 : tyAgg P ty = some true) (hn : tySize P ty = some sz) :
    LdOk P H Z ty ⟨g, off + k * sz, none⟩ (.agg ⟨enc o⟩) := by
  obtain ⟨h1, rfl⟩ := List.getElem?_eq_some_iff.1 hk
  exact LdOk.ownElem hsz hm h1 h0 hn
end
section
variable {P : Program} {N : Fz} {f : Fr} {w w0 : World} {Q : Post} {ops : List Oper} {M : List Nat} {H0 H H' : List Chunk} {Z0 Z : List Snap} {q : Qs} {l : List Nat} {i : Nat}
theorem WD.app {s x : Operand} {t e : TypeId} {size bytes n m cap c b off : Nat} {A : Option Addr} {xs news : List Value} (hS : St w0 M w H Z) (hp : Pull (.own (.slice A n cap) e size n xs) H H') (hM : More H0 Z0 H' Z) (ho : (ix ops i).op = .call ⟨.builtin .append, ⟨[s, x]⟩, ⟨[t, t]⟩⟩) (hi0 : appOf P t = some (e, size, bytes))
    (hs : ev f s = .slice A n cap) (hx : ev f x = .slice (some ⟨b, off, none⟩) m c) (hnews : RdOk H Z b off news) (hl : news.length = m * size) (h1 : one news = true) (hb : (n + m) * bytes ≤ 140737488355328)
    (hq : q.contains i = false) (hi : Nat.blt i ops.length = true) (hg : wants ops f (ix ops i) = true) {d : Nat} (hd : (ix ops i).dst = some d) (hn : N.ok d = true)
    (h : ∀ A' cap' w', St w0 M w' (.own (.slice A' (n + m) cap') e size (n + m) (xs ++ news) :: H') Z → More H0 Z0 (.own (.slice A' (n + m) cap') e size (n + m) (xs ++ news) :: H') Z → WD P N (SS w0 M H0 Z0) ops q l (up f d (.slice A' (n + m) cap')) w' Q) : WD P N (SS w0 M H0 Z0) ops q (i :: l) f w Q := by
  have hS' := hS.pull hp
  obtain ⟨A', cap', w', hrun, hown', hgr, hat⟩ := run_appOp (P := P) (w := w) ho hi0 hs hx (hS'.holds _ (List.Mem.head _)) (hnews.out w0 M w [] [] hS) hl h1 hb
  have hS2 := hS'.app (.here) hown' hgr hat
  exact .val hq hi hg hd hn hrun ((hM.chunk _).ss hS2) (h A' cap' w' hS2 (hM.chunk _))
end
end Go.J

/- What is proved: plain facts on changes as bytes. Conditions: none. -/
namespace Go.Proofs.YtccfiohagbneaaaGreatDoor
open Go Go.J Go.RowKit
structure Chg where
  key : List UInt8
  val : List UInt8
  gone : Bool
def Chg0 : Chg := ⟨[], [], false⟩
def cellsChg (o : Chg) : List Value := [str o.key, str o.val, .bool o.gone]
@[reducible] def encChg (o : Chg) : Value := .agg ⟨[str o.key, str o.val, .bool o.gone]⟩
def chgs (l : List Chg) : List Value := l.flatMap cellsChg
def recO (o : Chg) : List UInt8 := if o.gone then 0 :: textE o.key else 1 :: (textE o.key ++ textE o.val)
def recordE (l : List Chg) : List UInt8 := putN l.length ++ l.flatMap recO
def opE (t : List UInt8) : Chg × Nat × Int :=
  if (uintE t).2.2 ≠ 0 then (Chg0, 0, (uintE t).2.2)
  else if 1 < (uintE t).1 then (Chg0, 0, 3)
  else if (rtextE (t.drop (uintE t).2.1)).2.2 ≠ 0 then (Chg0, 0, (rtextE (t.drop (uintE t).2.1)).2.2)
  else if (uintE t).1 = 0 then (⟨(rtextE (t.drop (uintE t).2.1)).1, [], true⟩, (uintE t).2.1 + (rtextE (t.drop (uintE t).2.1)).2.1, 0)
  else if (rtextE (t.drop ((uintE t).2.1 + (rtextE (t.drop (uintE t).2.1)).2.1))).2.2 ≠ 0 then (Chg0, 0, (rtextE (t.drop ((uintE t).2.1 + (rtextE (t.drop (uintE t).2.1)).2.1))).2.2)
  else (⟨(rtextE (t.drop (uintE t).2.1)).1, (rtextE (t.drop ((uintE t).2.1 + (rtextE (t.drop (uintE t).2.1)).2.1))).1, false⟩, (uintE t).2.1 + (rtextE (t.drop (uintE t).2.1)).2.1 + (rtextE (t.drop ((uintE t).2.1 + (rtextE (t.drop (uintE t).2.1)).2.1))).2.1, 0)
def opsF : Nat → List UInt8 → List Chg × Nat × Int
  | 0, _ => ([], 0, 0)
  | n + 1, t => if (opE t).2.2 ≠ 0 then ([], 0, (opE t).2.2)
    else if (opsF n (t.drop (opE t).2.1)).2.2 ≠ 0 then ([], 0, (opsF n (t.drop (opE t).2.1)).2.2)
    else ((opE t).1 :: (opsF n (t.drop (opE t).2.1)).1, (opE t).2.1 + (opsF n (t.drop (opE t).2.1)).2.1, 0)
def opsE (s : List UInt8) : List Chg × Int :=
  if (uintE s).2.2 ≠ 0 then ([], (uintE s).2.2)
  else if (opsF (uintE s).1 (s.drop (uintE s).2.1)).2.2 ≠ 0 then ([], (opsF (uintE s).1 (s.drop (uintE s).2.1)).2.2)
  else if (uintE s).2.1 + (opsF (uintE s).1 (s.drop (uintE s).2.1)).2.1 < s.length then ([], 5)
  else ((opsF (uintE s).1 (s.drop (uintE s).2.1)).1, 0)
theorem opE_gone {t x : List UInt8} {u v : Nat} (h : uintE t = (0, u, 0)) (h2 : rtextE (t.drop u) = (x, v, 0)) : opE t = (⟨x, [], true⟩, u + v, 0) := by
  unfold opE; rw [h, if_neg (fun h => h rfl), if_neg (show ¬ 1 < 0 by decide)]; dsimp only; rw [h2, if_neg (fun h => h rfl), if_pos rfl]
theorem opE_put {t x y : List UInt8} {u v z : Nat} (h : uintE t = (1, u, 0)) (h2 : rtextE (t.drop u) = (x, v, 0)) (h3 : rtextE (t.drop (u + v)) = (y, z, 0)) : opE t = (⟨x, y, false⟩, u + v + z, 0) := by
  unfold opE; rw [h, if_neg (fun h => h rfl), if_neg (show ¬ 1 < 1 by decide)]; dsimp only; rw [h2, if_neg (fun h => h rfl), if_neg (show ¬ 1 = 0 by decide)]; dsimp only; rw [h3, if_neg (fun h => h rfl)]
def opsFin (s : List UInt8) (l : List Chg) (p : Nat) (r : List Chg × Nat × Int) : List Chg × Int := if r.2.2 ≠ 0 then ([], r.2.2) else if p + r.2.1 < s.length then ([], 5) else (l ++ r.1, 0)
theorem opsF_s (n : Nat) (t : List UInt8) : opsF (n + 1) t = if (opE t).2.2 ≠ 0 then ([], 0, (opE t).2.2)
    else if (opsF n (t.drop (opE t).2.1)).2.2 ≠ 0 then ([], 0, (opsF n (t.drop (opE t).2.1)).2.2)
    else ((opE t).1 :: (opsF n (t.drop (opE t).2.1)).1, (opE t).2.1 + (opsF n (t.drop (opE t).2.1)).2.1, 0) := rfl
theorem opsE_of {s : List UInt8} {n u : Nat} (h : uintE s = (n, u, 0)) : opsE s = opsFin s [] u (opsF n (s.drop u)) := by
  unfold opsE opsFin
  rw [h, if_neg (fun h => h rfl)]
  dsimp only
  rw [List.nil_append]
def applyE (rows : List (List UInt8 × List UInt8)) (l : List Chg) : List (List UInt8 × List UInt8) := l.foldl (fun m o => if o.gone then mdel m o.key else mset m o.key o.val) rows
end Go.Proofs.YtccfiohagbneaaaGreatDoor

/- What is proved: what Record and Ops of the package table answer. Conditions: texts of bounded length. -/
namespace Go.Proofs.YtccfiohagbneaaaGreatDoor
open Go Go.J Go.RowKit
def cChg : Cod Chg := .flat cellsChg 3 fun _ => rfl
def opsR (w0 : World) (r : List Chg × Int) (v : Value) (w' : World) : Prop := Upd [] w0 w' ∧ ∃ A cap, v = .tuple #[.slice A r.1.length cap, .int .i64 r.2] ∧ New w0 w' (.own (.slice A r.1.length cap) 79 3 r.1.length (chgs r.1))
end Go.Proofs.YtccfiohagbneaaaGreatDoor

/- What is proved: a table: changes applied, the base read, the table opened. Conditions: no limit at the disk, texts of bounded length. -/
namespace Go.Proofs.YtccfiohagbneaaaGreatDoor
open Go Go.J Go.RowKit
abbrev Rws := List (List UInt8 × List UInt8)
@[reducible] def encRow (s : List UInt8) : Value := .agg ⟨[str s]⟩
abbrev tbB (T : Nat) (dp : Option Addr) (dir : List UInt8) (lp : Option Addr) (m : Nat) : Chunk := .box T 139 [.pointer dp, str dir, .pointer lp, .map (some m)]
abbrev rowsC (m : Nat) (rows : Rws) : Chunk := mapC m (mmap encRow rows)
abbrev chgC (A : Option Addr) (cap : Nat) (l : List Chg) : Chunk := .own (.slice A l.length cap) 79 3 l.length (chgs l)
theorem applyE_cons (rows : Rws) (o : Chg) (l : List Chg) : applyE rows (o :: l) = applyE (if o.gone then mdel rows o.key else mset rows o.key o.val) l := rfl
abbrev baseP (dir : List UInt8) : List UInt8 := dir ++ [47, 98, 97, 115, 101]
abbrev logP (dir : List UInt8) : List UInt8 := dir ++ [47, 108, 111, 103]
def tabLoad (D : Dk) (dir : List UInt8) : Int × Rws :=
  if (D.read (baseP dir)).2 ≠ 0 then ((D.read (baseP dir)).2, [])
  else if (readE (D.read (baseP dir)).1).2.2 ≠ 0 then ((readE (D.read (baseP dir)).1).2.2, [])
  else if (readE (D.read (baseP dir)).1).2.1 < (D.read (baseP dir)).1.length then (5, [])
  else if (opsE (readE (D.read (baseP dir)).1).1).2 ≠ 0 then ((opsE (readE (D.read (baseP dir)).1).1).2, [])
  else (0, applyE [] (opsE (readE (D.read (baseP dir)).1).1).1)
end Go.Proofs.YtccfiohagbneaaaGreatDoor

/- What is proved: what opening a table answers. Conditions: no limit at the disk, texts of bounded length. -/
namespace Go.Proofs.YtccfiohagbneaaaGreatDoor
open Go Go.J Go.RowKit
structure Tb where
  dir : List UInt8
  rows : Rws
  log : Lg
def tabφ (Tp q : Nat) (T : Tb) (D : List Chunk) : Prop := ∃ m L fp, D = [tbB Tp (some ⟨q, 0, none⟩) T.dir (some ⟨L, 0, none⟩) m, rowsC m T.rows, lgC L q T.log fp]
abbrev tabC (Tp q : Nat) (T : Tb) (fp : List Nat) : Chunk := objC (tabφ Tp q T) fp
def replay : Rws → List (List UInt8) → Int × Rws
  | rows, [] => (0, rows)
  | rows, r :: rs => if (opsE r).2 ≠ 0 then ((opsE r).2, []) else replay (applyE rows (opsE r).1) rs
theorem replay_cons (rows : Rws) (r : List UInt8) (rs : List (List UInt8)) : replay rows (r :: rs) = if (opsE r).2 ≠ 0 then ((opsE r).2, []) else replay (applyE rows (opsE r).1) rs := rfl
def tabMk (D : Dk) (dir : List UInt8) : Int × Dk := if D.kind dir = 0 then D.mkdir dir else (0, D)
def tabBase (D : Dk) (dir : List UInt8) : Int × Rws := if D.kind (baseP dir) = 0 then (0, []) else tabLoad D dir
def tabLog (dir : List UInt8) (rows : Rws) : Int × Option Lg × Dk → Int × Option Tb × Dk
  | (e, none, D) => (e, none, D)
  | (_, some G, D) => if (replay rows G.recs).1 ≠ 0 then ((replay rows G.recs).1, none, D) else (0, some ⟨dir, (replay rows G.recs).2, G⟩, D)
def tabOpen (D : Dk) (dir : List UInt8) : Int × Option Tb × Dk :=
  if (tabMk D dir).1 ≠ 0 then ((tabMk D dir).1, none, (tabMk D dir).2)
  else if (tabBase (tabMk D dir).2 dir).1 ≠ 0 then ((tabBase (tabMk D dir).2 dir).1, none, (tabMk D dir).2)
  else tabLog dir (tabBase (tabMk D dir).2 dir).2 (walOpen (tabMk D dir).2 (logP dir))
def topenR (q mb lb : Nat) (D : Dk) (w0 : World) (r : Int × Option Tb × Dk) (v : Value) (w' : World) : Prop :=
  match r with
  | (e, none, D') => v = .tuple #[.pointer none, .int .i64 e] ∧ MutL w0 w' [dkC q mb lb D] [dkC q mb lb D']
  | (e, some T, D') => ∃ Tp fp, v = .tuple #[.pointer (some ⟨Tp, 0, none⟩), .int .i64 e] ∧ MutL w0 w' [dkC q mb lb D] [tabC Tp q T fp, dkC q mb lb D']
theorem Dk.Sm.mkdir {D : Dk} {B : Nat} (h : D.Sm B) {p : List UInt8} : (D.mkdir p).2.Sm B := by
  unfold Dk.mkdir
  repeat' split
  all_goals first | exact h | exact h.step | exact h.step.put (Nat.zero_le _)
end Go.Proofs.YtccfiohagbneaaaGreatDoor

/- What is proved: batches of a table: begun, changed, asked. Conditions: texts and lists of bounded length. -/
namespace Go.Proofs.YtccfiohagbneaaaGreatDoor
open Go Go.J Go.RowKit
abbrev Bch := List (List UInt8 × Chg)
def bchφ (B : Nat) (tp : Option Addr) (m : Bch) (D : List Chunk) : Prop := ∃ A cap mb, D = [.box B 153 [.pointer tp, .slice A m.length cap, .map (some mb)], .own (.slice A m.length cap) 9 1 m.length (strs (m.map Prod.fst)), mapC mb (mmap encChg m)]
abbrev bchC (B : Nat) (tp : Option Addr) (m : Bch) (fp : List Nat) : Chunk := objC (bchφ B tp m) fp
def noteE (m : Bch) (o : Chg) : Bch := mset m o.key o
end Go.Proofs.YtccfiohagbneaaaGreatDoor

/- What is proved: what a table and a batch answer of a key. Conditions: none. -/
namespace Go.Proofs.YtccfiohagbneaaaGreatDoor
open Go Go.J Go.RowKit
def getE (rows : Rws) (k : List UInt8) : List UInt8 × Bool := ((mget rows k).getD [], (mget rows k).isSome)
def bgetE (rows : Rws) (m : Bch) (k : List UInt8) : List UInt8 × Bool := match mget m k with
  | some o => (o.val, !o.gone)
  | none => getE rows k
end Go.Proofs.YtccfiohagbneaaaGreatDoor

/- What is proved: an argument that the form reads as data reads as plain data through the codecs, and how its bulk bounds it. Conditions: none. -/
namespace Go.Proofs.YtccfiohagbneaaaGreatDoor
open Go Go.J Go.RowKit Go.ChangeShapes Go.WideShapes Go.Deep
def Opens {α : Type} (P : Program) (t : TypeId) (c : Cod α) (Q : α → Nat → Prop) : Prop :=
  ∀ {H : Type} (enc : TypeId × Value → H) (W : World) (fuel : Nat) (cs : List Value) (x : DataW H × List MemPlace), DataW.trod enc P W 0 (fun _ => true) true fuel t cs = some x → ∃ y, c.rd (Old W) W cs y ∧ Q y (Rows.uptoBulk x.1)
def QL {α : Type} (Q : α → Nat → Prop) (ys : List α) (b : Nat) : Prop := ∃ bs : List Nat, bs.length = ys.length ∧ (∀ i (h : i < ys.length) (h' : i < bs.length), Q ys[i] bs[i]) ∧ bs.sum + 1 ≤ b
theorem bulkAll_sum {H : Type} (l : List (DataW H)) : Rows.uptoBulkAll l = (l.map Rows.uptoBulk).sum := by
  induction l with
  | nil => simp [Rows.uptoBulkAll]
  | cons d l ih => simp [Rows.uptoBulkAll, ih]
theorem Opens.int {P : Program} {t : TypeId} (ht : P.underlying t = some (.int .i64)) : Opens P t cInt (fun n b => -9223372036854775808 ≤ n ∧ n ≤ 9223372036854775807 ∧ 1 ≤ b) := by
  intro H enc W fuel cs x h
  obtain ⟨n, rfl, rfl, hw⟩ := DataW.trod_int ht h
  refine ⟨n, rfl, ?_⟩
  have h1 := bounds_i64 hw
  exact ⟨h1.1, h1.2, by simp [Rows.uptoBulk]⟩
theorem Opens.str {P : Program} {t : TypeId} (ht : P.underlying t = some .string) : Opens P t cStr (fun s b => s.length + 1 ≤ b) := by
  intro H enc W fuel cs x h
  obtain ⟨s, rfl, rfl, hw⟩ := DataW.trod_string ht h
  exact ⟨s.data.toList, rfl, by simp [Rows.uptoBulk]⟩
theorem Opens.slice {α : Type} [Inhabited α] {P : Program} {t e : TypeId} {c : Cod α} {Q : α → Nat → Prop} (ht : P.underlying t = some (.slice e)) (he : P.cellsOf e = c.sz) (hs : 0 < c.sz) (ho : Opens P e c Q) : Opens P t (cSl c) (QL Q) := by
  intro H enc W fuel cs x h
  rcases open_slice ht h with ⟨rfl, rfl⟩ | ⟨a, len, cap, m, n, D, Pl, rfl, hb, hl, hm, hmm, rfl, hx⟩
  · exact ⟨[], ⟨none, 0, rfl, Nat.le_refl _, fun k hk => absurd hk (by simp)⟩, [], rfl, fun i h => absurd h (by simp), by simp [Rows.uptoBulk]⟩
  · have hml : len ≤ m := by rw [hmm]; simp; omega
    have key : ∀ i, i < len → ∃ y : α, (∃ es, c.rd (Old W) W es y ∧ (a.add (i * c.sz)).block < W.heap.size ∧ (∀ j v, es[j]? = some v → W.cell? ((a.add (i * c.sz)).add j) = some v)) ∧ Q y (Rows.uptoBulk (D i)) := by
      intro i hi
      obtain ⟨cs', hc, htr⟩ := hx i (by omega)
      rw [he] at hc
      obtain ⟨y, hy, hq⟩ := ho enc W n cs' _ htr
      obtain ⟨_, hlen, hat⟩ := World.cells?_some hc
      refine ⟨y, ⟨cs', hy, ?_, fun j v hv => ?_⟩, hq⟩
      · have h0 := hat 0 hs
        have hlt : 0 < cs'.length := by omega
        rw [List.getElem?_eq_getElem hlt] at h0
        have hlt' := World.block_lt_of_cell? W _ h0
        have e0 : ((a.add (i * c.sz)).add 0).block = (a.add (i * c.sz)).block := by simp [Addr.add]
        rwa [e0] at hlt'
      · have hj : j < cs'.length := (List.getElem?_eq_some_iff.1 hv).1
        rw [hat j (by omega)]; exact hv
    obtain ⟨Y, hY⟩ := choose_lt key
    have hspot : 0 < len → a.spot = none := fun h0 => by
      obtain ⟨es, hrd, hbl, hc⟩ := (hY 0 h0).1
      have hl := c.len hrd
      have h1 := hc 0 es[0] (List.getElem?_eq_getElem (by omega))
      have e : (a.add (0 * c.sz)).add 0 = a := by simp [Addr.add]
      rw [e] at h1
      unfold World.cell? at h1
      cases hsp : a.spot with
      | none => rfl
      | some s => simp [hsp] at h1; split at h1 <;> simp at h1
    refine ⟨(List.range len).map Y, ⟨some a, cap, by simp, by simpa using hl, fun k hk => ?_⟩, (List.range len).map fun i => Rows.uptoBulk (D i), by simp, fun i h h' => ?_, ?_⟩
    · have hk' : k < len := by simpa using hk
      obtain ⟨es, hrd, hbl, hc⟩ := (hY k hk').1
      have ha : a = ⟨a.block, a.off, none⟩ := by rw [← hspot (by omega)]
      refine ⟨a.block, a.off, es, by rw [← ha], ?_, fun j v hv => ?_, by simpa using hrd⟩
      · have : (a.add (k * c.sz)).block = a.block := by unfold Addr.add; split <;> rfl
        rw [this] at hbl; exact hbl
      · have := hc j v hv
        rw [Go.Deep.add_add, ha, Addr.add_mid] at this
        rw [← Nat.add_assoc] at this
        exact this
    · have hi : i < len := by simpa using h
      simpa using (hY i hi).2
    · simp only [Rows.uptoBulk, bulkAll_sum, List.map_map]
      have : ((List.range len).map (Rows.uptoBulk ∘ D)) = (List.range len).map fun i => Rows.uptoBulk (D i) := rfl
      rw [this]
      omega
section
variable {H : Type} {enc : TypeId × Value → H} {P : Program}
theorem post_of_below {f : Func} {s : ChangeSpec} {apart fresh handsOn again : Bool} {W W' : World} {args : Array Value} {v : Value} {ds gs : List (DataW H)} {before pa pv : List MemPlace}
    (hW : DataW.Whole enc P f.params.toList s.vars apart W args.toList ds gs before)
    (hres : ∀ (b : Nat) (sp : Nat → Bool) (hd : Bool), DataW.TrodAll enc P W' b sp hd f.resultTypes.toList (v.resultList f.resultTypes.size) (s.fn H (ds ++ gs)).results [])
    (hargs : ∀ sp : Nat → Bool, (∀ p ∈ before, sp p.block = true) → DataW.TrodAll enc P W' 0 sp true f.params.toList args.toList (s.fn H (ds ++ gs)).args pa)
    (hvars : ∀ sp : Nat → Bool, (∀ p ∈ before, sp p.block = true) → DataW.TrodVars enc P W' sp s.vars (s.fn H (ds ++ gs)).vars pv)
    (hps : before = pa ++ pv) (hb : Below W.heap.size W W')
    (hok : ∀ (j : Nat) (t : TypeId) (r : Value), f.resultTypes[j]? = some t → (v.resultList f.resultTypes.size)[j]? = some r → Value.okWide P W' .any 0 t r) :
    s.post enc P f apart fresh handsOn again W args v W' := by
  have hlt : ∀ p ∈ before, p.block < W.heap.size := fun p hp => hW.lt p hp
  have hold : ∀ p ∈ before, (fun b => decide (b < W.heap.size)) p.block = true := fun p hp => by simpa using hlt p hp
  refine ⟨ds, gs, before, [], pa, pv, hW, hres _ _ _, hargs _ hold, hvars _ hold, World.keptBut_mono (fun p hp => ⟨hp, ?_⟩) (hb.frame (· ∈ before)), fun _ => ?_⟩
  · rw [hps, List.mem_append] at hp
    exact Or.inr hp
  · obtain ⟨_, _, _, _, _, hz, hn⟩ := hW
    refine ⟨hok, _, _, ([] ++ pa) ++ pv, ⟨[] ++ pa, pv, trodAll_append (hargs _ (fun _ _ => rfl)) (hres _ _ _), hvars _ (fun _ _ => rfl), rfl, ?_, ?_⟩, ?_⟩
    · intro b off hp
      have hin : MemPlace.cell b off ∈ before := by rw [hps]; simpa using hp
      rw [hb.frozen (hlt _ hin)]
      exact hz b off hin
    · intro ha
      have := hn ha
      rw [hps] at this
      simpa using this
    · intro p hp _
      rw [hps]
      simpa using hp
end
end Go.Proofs.YtccfiohagbneaaaGreatDoor

/- What is proved: how a statement's arguments open to plain data, and that a call which answers true and leaves old memory alone meets the law's form. Conditions: none. -/
namespace Go.Proofs.YtccfiohagbneaaaGreatDoor
open Go Go.J Go.RowKit Go.ChangeShapes Go.WideShapes Go.ChangeAt Go.Deep
def Arg {α : Type} (P : Program) (t : TypeId) (A : World → Value → α → Prop) (Q : α → Nat → Prop) : Prop :=
  ∀ {H : Type} (enc : TypeId × Value → H) (W : World) (base : Nat) (v : Value) (d : DataW H) (p : List MemPlace), Value.okWide P W .any base t v → DataW.Trod enc P W 0 (fun _ => true) true t v d p → ∃ y, A W v y ∧ Q y (Rows.uptoBulk d)
def AInt (_ : World) (v : Value) (n : Int) : Prop := v = .int .i64 n
def QInt (n : Int) (b : Nat) : Prop := -9223372036854775808 ≤ n ∧ n ≤ 9223372036854775807 ∧ 1 ≤ b
def AStr (_ : World) (v : Value) (s : List UInt8) : Prop := v = str s
def QStr (s : List UInt8) (b : Nat) : Prop := s.length + 1 ≤ b
def ASl {α : Type} (c : Cod α) (W : World) (v : Value) (xs : List α) : Prop := ∃ A cap, v = .slice A xs.length cap ∧ xs.length ≤ cap ∧ SlAt c (Old W) W A xs
def AAgg {α : Type} (c : Cod α) (W : World) (v : Value) (y : α) : Prop := ∃ cs, v = .agg ⟨cs⟩ ∧ c.rd (Old W) W cs y
theorem Arg.int {P : Program} {t : TypeId} (ht : P.underlying t = some (.int .i64)) : Arg P t AInt QInt := by
  intro H enc W base v d p hk hd
  obtain ⟨n, rfl⟩ := okWide_int ht hk
  obtain ⟨fuel, hf⟩ := hd
  obtain ⟨y, hy, hq⟩ := Opens.int ht enc W fuel _ _ hf
  have hy' : [Value.int .i64 n] = [.int .i64 y] := hy
  simp only [List.cons.injEq, Value.int.injEq, true_and, and_true] at hy'
  exact ⟨y, by rw [hy']; rfl, hq⟩
theorem Arg.str {P : Program} {t : TypeId} (ht : P.underlying t = some .string) : Arg P t AStr QStr := by
  intro H enc W base v d p hk hd
  obtain ⟨s, rfl⟩ := okWide_string ht hk
  obtain ⟨fuel, hf⟩ := hd
  obtain ⟨y, hy, hq⟩ := Opens.str ht enc W fuel _ _ hf
  have hy' : [Value.string s] = [Go.J.str y] := hy
  exact ⟨y, by show Value.string s = Go.J.str y; simpa using hy', hq⟩
theorem Arg.slice {α : Type} {P : Program} {t e : TypeId} {c : Cod α} {Q : List α → Nat → Prop} (ht : P.underlying t = some (.slice e)) (ho : Opens P t (cSl c) Q) : Arg P t (ASl c) Q := by
  intro H enc W base v d p hk hd
  obtain ⟨a, len, cap, rfl⟩ := okWide_slice ht hk
  obtain ⟨fuel, hf⟩ := hd
  obtain ⟨y, ⟨A, cap', e0, hcap, hsl⟩, hq⟩ := ho enc W fuel _ _ hf
  have e0' : [Value.slice a len cap] = [.slice A y.length cap'] := e0
  exact ⟨y, ⟨A, cap', by simpa using e0', hcap, hsl⟩, hq⟩
theorem Arg.agg {α : Type} {P : Program} {t : TypeId} {fs : Array Field} {c : Cod α} {Q : α → Nat → Prop} (ht : P.underlying t = some (.struct fs)) (ho : Opens P t c Q) : Arg P t (AAgg c) Q := by
  intro H enc W base v d p hk hd
  obtain ⟨cs, rfl, _⟩ := okWide_struct ht hk
  obtain ⟨fuel, hf⟩ := hd
  obtain ⟨y, hy, hq⟩ := ho enc W fuel _ _ hf
  exact ⟨y, ⟨cs.toList, by cases cs; rfl, hy⟩, hq⟩
theorem own : ownKnob Tryz.prog.godebug = none := by kernel_rfl
theorem laid : laidOutB Tryz.prog = true := by kernel_rfl
theorem all_stays {H : Type} {enc : TypeId × Value → H} {P : Program} (hl : laidOutB P = true) {W W' : World} (hu : Upd [] W W') {sp : Nat → Bool} : ∀ {ts : List TypeId} {vs : List Value} {ds : List (DataW H)} {p : List MemPlace}, (ts.all fun t => P.readableRec t && decide (t < P.types.size)) = true →
    DataW.TrodAll enc P W 0 (fun _ => true) true ts vs ds p → (∀ x ∈ p, x.block < W.heap.size) → (∀ x ∈ p, sp x.block = true) → DataW.TrodAll enc P W' 0 sp true ts vs ds p
  | [], [], [], p, _, h, _, _ => h
  | t :: ts, vs, ds, p, hr, h, hlt, hsp => by
    obtain ⟨v, vs', d, ds', p1, q1, rfl, rfl, rfl, h1, h2⟩ := trodAll_cons h
    simp only [List.all_cons, Bool.and_eq_true] at hr
    refine trodAll_cons_mk ?_ (all_stays hl hu (by simpa using hr.2) h2 (fun x hx => hlt x (by simp [hx])) fun x hx => hsp x (by simp [hx]))
    exact WideElems.Trod_stays hl hr.1.1 (of_decide_eq_true hr.1.2) h1 (fun x hx => hu.below.same (hlt x (by simp [hx]))) (fun x hx => hsp x (by simp [hx]))
  | [], [], _ :: _, _, _, h, _, _ => by simp [DataW.TrodAll] at h
  | [], _ :: _, _, _, _, h, _, _ => by simp [DataW.TrodAll] at h
theorem all_len {H : Type} {enc : TypeId × Value → H} {P : Program} {W : World} {sp : Nat → Bool} : ∀ {ts : List TypeId} {vs : List Value} {ds : List (DataW H)} {p : List MemPlace}, DataW.TrodAll enc P W 0 sp true ts vs ds p → ds.length = ts.length
  | [], [], [], _, _ => rfl
  | t :: ts, vs, ds, p, h => by
    obtain ⟨v, vs', d, ds', p1, q1, rfl, rfl, rfl, h1, h2⟩ := trodAll_cons h
    simp [all_len h2]
  | [], [], _ :: _, _, h => by simp [DataW.TrodAll] at h
  | [], _ :: _, _, _, h => by simp [DataW.TrodAll] at h
theorem law_post {H : Type} {enc : TypeId × Value → H} {P : Program} (hl : laidOutB P = true) {f : Func} {s : ChangeSpec} {tb : TypeId} {W W' : World} {args : Array Value} {ds gs : List (DataW H)} {before : List MemPlace}
    (hb : P.underlying tb = some .bool) (hrt : f.resultTypes = #[tb]) (hread : (f.params.toList.all fun t => P.readableRec t && decide (t < P.types.size)) = true) (hv : s.vars = [])
    (hs : ∀ ds : List (DataW H), ds.length = f.params.toList.length → (s.fn H ds).results = [.lit (.bool true)] ∧ (s.fn H ds).args = ds ∧ (s.fn H ds).vars = [])
    (hW : DataW.Whole enc P f.params.toList s.vars false W args.toList ds gs before) (hu : Upd [] W W') : s.post enc P f false true false false W args (.bool true) W' := by
  obtain ⟨p, q, hA, hV, rfl, hfz, hnd⟩ := id hW
  have hV' := hV
  rw [hv] at hV'
  obtain ⟨rfl, rfl⟩ := trodVars_none hV'
  have hlen := all_len hA
  obtain ⟨h1, h2, h3⟩ := hs ds hlen
  have hlt : ∀ x ∈ p, x.block < W.heap.size := fun x hx => hW.lt x (by simp [hx])
  refine post_of_below (pa := p) (pv := []) hW (fun _ _ _ => ?_) (fun sp hsp => ?_) (fun sp hsp => ?_) rfl hu.below (fun j t r hj hr => ?_)
  · rw [hrt, List.append_nil, h1]
    exact trodAll_cons_mk (shut_bool hb _) trodAll_mk0
  · rw [List.append_nil, h2]
    exact all_stays hl hu hread hA hlt fun x hx => hsp x (by simp [hx])
  · rw [hv, List.append_nil, h3]
    exact rfl
  · exact ok_one hrt rfl (okWide_bool_mk hb _) j t r hj hr
end Go.Proofs.YtccfiohagbneaaaGreatDoor

/- What is proved: lists of entries, in plain lists: when they are trees. Conditions: none. -/
namespace Go.J
open Go
theorem cmp_lt : ∀ a b : List UInt8, (Lib.compareBytes a b < 0 ↔ Op.bytesLess a b = true)
  | [], [] => by simp [Lib.compareBytes, Op.bytesLess]
  | [], _ :: _ => by simp [Lib.compareBytes, Op.bytesLess]
  | _ :: _, [] => by simp [Lib.compareBytes, Op.bytesLess]
  | a :: x, b :: y => by
    have ih := cmp_lt x y
    unfold Lib.compareBytes Op.bytesLess
    by_cases h1 : a < b
    · simp [h1]
    · rw [if_neg h1]
      by_cases h2 : b < a
      · have h3 : ¬ a = b := fun e => by subst e; exact h1 h2
        rw [if_pos h2]
        simp [h1, h3]
      · have h3 : a = b := by
          apply UInt8.toNat_inj.1
          have h1 : ¬ a.toNat < b.toNat := h1
          have h2 : ¬ b.toNat < a.toNat := h2
          omega
        rw [if_neg h2, ih]
        simp [h1, h3]
theorem cmp_eq : ∀ a b : List UInt8, (Lib.compareBytes a b = 0 ↔ a = b)
  | [], [] => by simp [Lib.compareBytes]
  | [], _ :: _ => by simp [Lib.compareBytes]
  | _ :: _, [] => by simp [Lib.compareBytes]
  | a :: x, b :: y => by
    have ih := cmp_eq x y
    unfold Lib.compareBytes
    by_cases h1 : a < b
    · rw [if_pos h1]
      constructor
      · intro h; omega
      · intro h
        rw [List.cons.injEq] at h
        rw [h.1] at h1
        exact absurd h1 (by simp)
    · rw [if_neg h1]
      by_cases h2 : b < a
      · rw [if_pos h2]
        constructor
        · intro h; omega
        · intro h
          rw [List.cons.injEq] at h
          rw [h.1] at h2
          exact absurd h2 (by simp)
      · have h3 : a = b := by
          apply UInt8.toNat_inj.1
          have h1 : ¬ a.toNat < b.toNat := h1
          have h2 : ¬ b.toNat < a.toNat := h2
          omega
        rw [if_neg h2, ih, h3]
        simp
theorem less_irr (a : List UInt8) : Op.bytesLess a a = false := by
  cases h : Op.bytesLess a a with
  | false => rfl
  | true =>
    have := (cmp_lt a a).2 h
    rw [(cmp_eq a a).2 rfl] at this
    omega
theorem less_trans : ∀ {a b c : List UInt8}, Op.bytesLess a b = true → Op.bytesLess b c = true → Op.bytesLess a c = true
  | _, _, [], _, h => by simp [Op.bytesLess] at h
  | _, [], _ :: _, h, _ => by simp [Op.bytesLess] at h
  | [], _ :: _, _ :: _, _, _ => by simp [Op.bytesLess]
  | x :: a, y :: b, z :: c, h1, h2 => by
    unfold Op.bytesLess at *
    simp only [Bool.or_eq_true, decide_eq_true_eq, Bool.and_eq_true, beq_iff_eq] at *
    rcases h1 with h1 | ⟨h1, h1'⟩ <;> rcases h2 with h2 | ⟨h2, h2'⟩
    · exact .inl (UInt8.lt_trans h1 h2)
    · subst h2; exact .inl h1
    · subst h1; exact .inl h2
    · subst h1 h2; exact .inr ⟨rfl, less_trans h1' h2'⟩
theorem less_asym {a b : List UInt8} (h : Op.bytesLess a b = true) : Op.bytesLess b a = false := by
  cases h2 : Op.bytesLess b a with
  | false => rfl
  | true => have := less_trans h h2; rw [less_irr] at this; cases this
theorem less_tri (a b : List UInt8) : Op.bytesLess a b = true ∨ a = b ∨ Op.bytesLess b a = true := by
  rcases Int.lt_trichotomy (Lib.compareBytes a b) 0 with h | h | h
  · exact .inl ((cmp_lt a b).1 h)
  · exact .inr (.inl ((cmp_eq a b).1 h))
  · refine .inr (.inr ?_)
    induction a generalizing b with
    | nil => cases b <;> simp [Lib.compareBytes] at h
    | cons x a ih =>
      cases b with
      | nil => simp [Op.bytesLess]
      | cons y b =>
        unfold Lib.compareBytes at h
        unfold Op.bytesLess
        split at h
        · omega
        · rename_i h1
          split at h
          · rename_i h2; simp [h2]
          · rename_i h2
            have h3 : x = y := by
              apply UInt8.toNat_inj.1
              have h1 : ¬ x.toNat < y.toNat := h1
              have h2 : ¬ y.toNat < x.toNat := h2
              omega
            subst h3
            simp [ih b h]
structure Ent where
  path : List UInt8
  kind : Int
  data : List UInt8
instance : Inhabited Ent := ⟨⟨[], 0, []⟩⟩
def encEnt (e : Ent) : List Value := [str e.path, .int .i64 e.kind, str e.data]
def cEnt : Cod Ent := .flat encEnt 3 fun _ => rfl
def wholeE (kind : Int) (data : List UInt8) : Bool := if kind = 0 ∨ kind = 1 then decide (data = []) else if kind = 2 then decide (data.length ≤ 4096) else false
structure EntOk (t : List Ent) (i : Nat) (h : i < t.length) : Prop where
  path : checkE t[i].path 5 = 0
  whole : wholeE t[i].kind t[i].data = true
  kind : t[i].kind ≠ 0
  ord : ∀ j (hj : j + 1 = i), Op.bytesLess (t[j]'(by omega)).path t[i].path = true
  up : parentE t[i].path ≠ [] → ∃ j, ∃ hj : j < i, (t[j]'(by omega)).path = parentE t[i].path ∧ (t[j]'(by omega)).kind = 1
def TreeOk (t : List Ent) : Prop := ∀ i (h : i < t.length), EntOk t i h
open Classical in
noncomputable def checkT (t : List Ent) : Int := if 200 < t.length then 4 else if TreeOk t then 0 else 3
def Rise (t : List Ent) (n : Nat) : Prop := ∀ i j (hi : i < j) (hj : j < t.length), j < n → Op.bytesLess (t[i]'(by omega)).path t[j].path = true
theorem Rise.of {t : List Ent} {n : Nat} (h : ∀ i (h : i < t.length), i < n → ∀ j (hj : j + 1 = i), Op.bytesLess (t[j]'(by omega)).path t[i].path = true) : Rise t n := by
  intro i j hi hj hn
  induction j with
  | zero => omega
  | succ j ih =>
    have h1 := h (j + 1) hj hn j rfl
    by_cases e : i = j
    · subst e; exact h1
    · exact less_trans (ih (by omega) (by omega) (by omega)) h1
theorem TreeOk.rise {t : List Ent} (h : TreeOk t) : Rise t t.length := Rise.of fun i hi _ j hj => (h i hi).ord j hj
def getT (t : List Ent) (p : List UInt8) : Ent := (t.find? fun e => decide (e.path = p)).getD ⟨[], 0, []⟩
theorem getT_at {t : List Ent} (hr : Rise t t.length) {i : Nat} (hi : i < t.length) : getT t t[i].path = t[i] := by
  unfold getT
  cases hf : t.find? fun e => decide (e.path = t[i].path) with
  | none => exact absurd (decide_eq_true rfl) (List.find?_eq_none.1 hf t[i] (List.getElem_mem hi))
  | some e =>
    have h1 := List.find?_some hf
    have h1 : e.path = t[i].path := by simpa using h1
    obtain ⟨j, hj, rfl⟩ := List.getElem_of_mem (List.mem_of_find?_eq_some hf)
    have : j = i := by
      rcases Nat.lt_trichotomy j i with h | h | h
      · have := hr j i h hi hi; rw [h1, less_irr] at this; cases this
      · exact h
      · have := hr i j h hj hj; rw [h1, less_irr] at this; cases this
    subst this
    rfl
theorem getT_no {t : List Ent} {p : List UInt8} (h : ∀ e ∈ t, e.path ≠ p) : getT t p = ⟨[], 0, []⟩ := by
  unfold getT
  rw [List.find?_eq_none.2 fun e he => by simpa using h e he]
  rfl
end Go.J

/- What is proved: lists in the order of their keys: what is put in its place, what is taken away, what is found. Conditions: a strict order of the keys. -/
namespace Go.J
open Go
structure StrictO {κ : Type} (lt : κ → κ → Bool) : Prop where
  irr : ∀ a, lt a a = false
  trans : ∀ {a b c}, lt a b = true → lt b c = true → lt a c = true
  tri : ∀ a b, lt a b = true ∨ a = b ∨ lt b a = true
theorem bytesO : StrictO Op.bytesLess := ⟨less_irr, fun h k => less_trans h k, less_tri⟩
section
variable {α κ : Type} [DecidableEq κ] (key : α → κ) (lt : κ → κ → Bool)
def findG (l : List α) (k : κ) : Option α := l.find? fun x => decide (key x = k)
def RiseG (l : List α) : Prop := l.Pairwise fun x y => lt (key x) (key y) = true
def putG (l : List α) (x : α) : List α := l.takeWhile (fun y => lt (key y) (key x)) ++ x :: ((l.dropWhile fun y => lt (key y) (key x)).filter fun y => decide (key y ≠ key x))
def dropG (l : List α) (k : κ) : List α := l.filter fun y => decide (key y ≠ k)
end
section
variable {α κ : Type} [DecidableEq κ] {key : α → κ} {lt : κ → κ → Bool} (O : StrictO lt) {l : List α} {x y z : α} {k q : κ}
theorem findG_cons : findG key (x :: l) k = if key x = k then some x else findG key l k := by
  unfold findG
  rw [List.find?_cons]
  by_cases h : key x = k
  · rw [if_pos h]; simp [h]
  · rw [if_neg h]; simp [h]
theorem findG_some (h : findG key l k = some x) : x ∈ l ∧ key x = k := ⟨List.mem_of_find?_eq_some h, by have := List.find?_some h; simpa using this⟩
include O
theorem findG_mem (hr : RiseG key lt l) (hx : x ∈ l) : findG key l (key x) = some x := by
  induction l with
  | nil => cases hx
  | cons y l ih =>
    rw [findG_cons]
    have hr1 := List.pairwise_cons.1 hr
    rcases List.mem_cons.1 hx with rfl | hx
    · rw [if_pos rfl]
    · rw [if_neg]
      · exact ih hr1.2 hx
      · intro e
        have := hr1.1 x hx
        rw [e, O.irr] at this
        cases this
omit O in
theorem findG_drop : findG key (dropG key l k) q = if q = k then none else findG key l q := by
  induction l with
  | nil => unfold dropG findG; simp
  | cons x l ih =>
    have e : dropG key (x :: l) k = if key x = k then dropG key l k else x :: dropG key l k := by
      unfold dropG
      rw [List.filter_cons]
      by_cases h : key x = k <;> simp [h]
    rw [e]
    by_cases h : key x = k
    · rw [if_pos h, ih]
      by_cases hq : q = k
      · rw [if_pos hq, if_pos hq]
      · rw [if_neg hq, if_neg hq, findG_cons, if_neg (by rw [h]; exact fun e => hq e.symm)]
    · rw [if_neg h, findG_cons, findG_cons, ih]
      by_cases hq : q = k
      · rw [if_pos hq, if_neg (by rw [hq]; exact h), if_pos hq]
      · rw [if_neg hq, if_neg hq]
omit O in
theorem putG_cons : putG key lt (y :: l) x = if lt (key y) (key x) then y :: putG key lt l x else x :: (y :: l).filter fun z => decide (key z ≠ key x) := by
  unfold putG
  rw [List.takeWhile_cons, List.dropWhile_cons]
  cases lt (key y) (key x) <;> rfl
theorem mem_putG (h : z ∈ putG key lt l x) : z = x ∨ (z ∈ l ∧ key z ≠ key x) := by
  induction l with
  | nil => unfold putG at h; simp at h; exact .inl h
  | cons y l ih =>
    rw [putG_cons] at h
    split at h
    · rename_i hl
      rcases List.mem_cons.1 h with rfl | h
      · refine .inr ⟨List.mem_cons_self .., fun e => ?_⟩
        rw [e, O.irr] at hl
        cases hl
      · rcases ih h with h | ⟨h1, h2⟩
        · exact .inl h
        · exact .inr ⟨List.mem_cons_of_mem _ h1, h2⟩
    · rcases List.mem_cons.1 h with rfl | h
      · exact .inl rfl
      · obtain ⟨h1, h2⟩ := List.mem_filter.1 h
        exact .inr ⟨h1, of_decide_eq_true h2⟩
theorem findG_put : findG key (putG key lt l x) q = if q = key x then some x else findG key l q := by
  induction l with
  | nil =>
    have e : putG key lt [] x = [x] := rfl
    rw [e, findG_cons]
    by_cases h : key x = q
    · rw [if_pos h, if_pos h.symm]
    · rw [if_neg h, if_neg (fun e => h e.symm)]
  | cons y l ih =>
    rw [putG_cons]
    split
    · rename_i hl
      rw [findG_cons, findG_cons, ih]
      by_cases hq : q = key x
      · rw [if_pos hq, if_pos hq, if_neg]
        intro e
        rw [e, hq, O.irr] at hl
        cases hl
      · rw [if_neg hq, if_neg hq]
    · rw [findG_cons]
      by_cases hq : q = key x
      · rw [if_pos hq, if_pos hq.symm]
      · rw [if_neg hq, if_neg (fun e => hq e.symm)]
        have := findG_drop (key := key) (l := y :: l) (k := key x) (q := q)
        rw [if_neg hq] at this
        exact this
theorem putG_rise (hr : RiseG key lt l) : RiseG key lt (putG key lt l x) := by
  induction l with
  | nil => exact List.pairwise_singleton _ _
  | cons y l ih =>
    have hr1 := List.pairwise_cons.1 hr
    rw [putG_cons]
    split
    · rename_i hl
      refine List.pairwise_cons.2 ⟨fun z hz => ?_, ih hr1.2⟩
      rcases mem_putG O hz with rfl | ⟨hz, _⟩
      · exact hl
      · exact hr1.1 z hz
    · rename_i hl
      refine List.pairwise_cons.2 ⟨fun z hz => ?_, List.Pairwise.sublist List.filter_sublist hr⟩
      obtain ⟨hz, hne⟩ := List.mem_filter.1 hz
      have hne : key z ≠ key x := of_decide_eq_true hne
      have hyx : lt (key x) (key y) = true ∨ key x = key y := by
        rcases O.tri (key x) (key y) with h | h | h
        · exact .inl h
        · exact .inr h
        · exact absurd h hl
      rcases List.mem_cons.1 hz with rfl | hz
      · rcases hyx with h | h
        · exact h
        · exact absurd h.symm hne
      · have h2 := hr1.1 z hz
        rcases hyx with h | h
        · exact O.trans h h2
        · rw [h]; exact h2
theorem filter_gt (hx : ∀ z ∈ l, lt (key x) (key z) = true) : (l.filter fun z => decide (key z ≠ key x)) = l := List.filter_eq_self.2 fun z hz => decide_eq_true fun e => by
  have := hx z hz
  rw [e, O.irr] at this; cases this
theorem putG_eq (hr : RiseG key lt l) {k : Nat} (hk : k < l.length) (h1 : ∀ j (h : j < l.length), j < k → lt (key l[j]) (key x) = true) (h2 : key l[k] = key x) : putG key lt l x = l.take k ++ x :: l.drop (k + 1) := by
  induction l generalizing k with
  | nil => exact absurd hk (Nat.not_lt_zero _)
  | cons y l ih =>
    have hr1 := List.pairwise_cons.1 hr
    rw [putG_cons]
    cases k with
    | zero =>
      have h2 : key y = key x := h2
      rw [if_neg (by rw [h2, O.irr]; decide), List.filter_cons, if_neg (by simp [h2]), filter_gt O fun z hz => by rw [← h2]; exact hr1.1 z hz]
      rfl
    | succ k =>
      have h0 : lt (key y) (key x) = true := h1 0 (by simp) (Nat.succ_pos _)
      rw [if_pos h0, ih hr1.2 (by simpa using hk) (fun j h hj => h1 (j + 1) (by simpa using h) (by omega)) h2]
      rfl
theorem putG_ne (hr : RiseG key lt l) {k : Nat} (hk : k ≤ l.length) (h1 : ∀ j (h : j < l.length), j < k → lt (key l[j]) (key x) = true) (h2 : ∀ h : k < l.length, lt (key l[k]) (key x) = false ∧ key l[k] ≠ key x) : putG key lt l x = l.take k ++ x :: l.drop k := by
  induction l generalizing k with
  | nil =>
    have : k = 0 := by simpa using hk
    subst this; rfl
  | cons y l ih =>
    have hr1 := List.pairwise_cons.1 hr
    rw [putG_cons]
    cases k with
    | zero =>
      obtain ⟨h3, h4⟩ := h2 (Nat.succ_pos _)
      have h3 : lt (key y) (key x) = false := h3
      have h4 : key y ≠ key x := h4
      have h5 : lt (key x) (key y) = true := by
        rcases O.tri (key x) (key y) with h | h | h
        · exact h
        · exact absurd h.symm h4
        · rw [h] at h3; cases h3
      rw [if_neg (by rw [h3]; decide), filter_gt O fun z hz => by
        rcases List.mem_cons.1 hz with rfl | hz
        · exact h5
        · exact O.trans h5 (hr1.1 z hz)]
      rfl
    | succ k =>
      have h0 : lt (key y) (key x) = true := h1 0 (by simp) (Nat.succ_pos _)
      rw [if_pos h0, ih hr1.2 (by simpa using hk) (fun j h hj => h1 (j + 1) (by simpa using h) (by omega)) (fun h => h2 (by simpa using h))]
      rfl
theorem rise_ext {l' : List α} (hr : RiseG key lt l) (hr' : RiseG key lt l') (h : ∀ x, x ∈ l ↔ x ∈ l') : l = l' := by
  induction l generalizing l' with
  | nil =>
    cases l' with
    | nil => rfl
    | cons y l' => exact absurd ((h y).2 (List.mem_cons_self ..)) (by simp)
  | cons x l ih =>
    cases l' with
    | nil => exact absurd ((h x).1 (List.mem_cons_self ..)) (by simp)
    | cons y l' =>
      have h1 := List.pairwise_cons.1 hr
      have h2 := List.pairwise_cons.1 hr'
      have hasym : ∀ a b, lt a b = true → lt b a = true → False := fun a b p q => by have := O.trans p q; rw [O.irr] at this; cases this
      have hxy : x = y := by
        rcases List.mem_cons.1 ((h x).1 (List.mem_cons_self ..)) with e | e
        · exact e
        · rcases List.mem_cons.1 ((h y).2 (List.mem_cons_self ..)) with e2 | e2
          · exact e2.symm
          · exact (hasym _ _ (h2.1 x e) (h1.1 y e2)).elim
      subst hxy
      refine congrArg _ (ih h1.2 h2.2 fun z => ?_)
      have hne : ∀ {m : List α}, (∀ w ∈ m, lt (key x) (key w) = true) → ∀ w ∈ m, w ≠ x := fun hm w hw e => by
        have := hm w hw
        rw [e, O.irr] at this; cases this
      constructor
      · intro hz
        rcases List.mem_cons.1 ((h z).1 (List.mem_cons_of_mem _ hz)) with e | e
        · exact absurd e (hne h1.1 z hz)
        · exact e
      · intro hz
        rcases List.mem_cons.1 ((h z).2 (List.mem_cons_of_mem _ hz)) with e | e
        · exact absurd e (hne h2.1 z hz)
        · exact e
end
end Go.J

/- What is proved: two ways to tell whether a list of entries is a tree. Conditions: none. -/
namespace Go.J
open Go
theorem parent_less {p : List UInt8} (h : parentE p ≠ []) : Op.bytesLess (parentE p) p = true := by
  have hl := lastE_ge p
  have hlt : (lastE p).toNat < p.length := by
    apply Classical.byContradiction
    intro hn
    have : p = [] := by
      cases p with
      | nil => rfl
      | cons a l => simp at hn hl; omega
    subst this
    exact h (by unfold parentE; simp)
  unfold parentE
  have e := List.take_append_drop (lastE p).toNat p
  cases hd : p.drop (lastE p).toNat with
  | nil =>
    have := congrArg List.length hd
    rw [List.length_drop] at this
    simp at this
    omega
  | cons c r =>
    rw [hd] at e
    have h2 := less_app [] r c (p.take (lastE p).toNat)
    rw [e] at h2
    exact h2
theorem getT_kind {t : List Ent} (hr : Rise t t.length) {q : List UInt8} : (getT t q).kind = 1 ↔ ∃ j, ∃ h : j < t.length, t[j].path = q ∧ t[j].kind = 1 := by
  constructor
  · intro hk
    unfold getT at hk
    cases hf : t.find? fun e => decide (e.path = q) with
    | none => rw [hf] at hk; exact absurd hk (by decide)
    | some e =>
      rw [hf] at hk
      have h1 := List.find?_some hf
      have h1 : e.path = q := by simpa using h1
      obtain ⟨j, hj, rfl⟩ := List.getElem_of_mem (List.mem_of_find?_eq_some hf)
      exact ⟨j, hj, h1, hk⟩
  · rintro ⟨j, hj, rfl, hk⟩
    rw [getT_at hr hj]
    exact hk
structure RefOk (t : List Ent) (i : Nat) (h : i < t.length) : Prop where
  path : checkE t[i].path 5 = 0
  whole : wholeE t[i].kind t[i].data = true
  kind : t[i].kind ≠ 0
  ord : ∀ j (hj : j + 1 = i), Op.bytesLess (t[j]'(by omega)).path t[i].path = true
  up : parentE t[i].path ≠ [] → (getT t (parentE t[i].path)).kind = 1
theorem refOk_tree {t : List Ent} (h : ∀ i (h : i < t.length), RefOk t i h) : TreeOk t := by
  have hr : Rise t t.length := Rise.of fun i hi _ j hj => (h i hi).ord j hj
  refine fun i hi => ⟨(h i hi).path, (h i hi).whole, (h i hi).kind, (h i hi).ord, fun hne => ?_⟩
  obtain ⟨j, hj, e1, e2⟩ := (getT_kind hr).1 ((h i hi).up hne)
  have hpl := parent_less hne
  rw [← e1] at hpl
  refine ⟨j, ?_, e1, e2⟩
  rcases Nat.lt_trichotomy j i with h4 | h4 | h4
  · exact h4
  · subst h4; rw [less_irr] at hpl; cases hpl
  · have := hr i j h4 hj hj
    rw [less_asym hpl] at this
    cases this
theorem tree_refOk {t : List Ent} (h : TreeOk t) : ∀ i (h : i < t.length), RefOk t i h := fun i hi =>
  ⟨(h i hi).path, (h i hi).whole, (h i hi).kind, (h i hi).ord, fun hne => by
    obtain ⟨j, hj, e1, e2⟩ := (h i hi).up hne
    exact (getT_kind h.rise).2 ⟨j, by omega, e1, e2⟩⟩
def TreeTo (t : List Ent) (n : Nat) : Prop := ∀ i (h : i < t.length), i < n → EntOk t i h
theorem TreeTo.rise {t : List Ent} {n : Nat} (h : TreeTo t n) : Rise t n := Rise.of fun i hi hn j hj => (h i hi hn).ord j hj
theorem Rise.take {t : List Ent} {n : Nat} (h : Rise t n) (hn : n ≤ t.length) : Rise (t.take n) (t.take n).length := by
  intro i j hi hj _
  rw [List.length_take] at hj
  rw [List.getElem_take, List.getElem_take]
  exact h i j hi (by omega) (by omega)
theorem up_take {t : List Ent} {n : Nat} (h : Rise t n) (hn : n ≤ t.length) {q : List UInt8} : (getT (t.take n) q).kind = 1 ↔ ∃ j, ∃ hj : j < n, (t[j]'(by omega)).path = q ∧ (t[j]'(by omega)).kind = 1 := by
  rw [getT_kind (h.take hn)]
  constructor
  · rintro ⟨j, hj, e1, e2⟩
    rw [List.length_take] at hj
    rw [List.getElem_take] at e1 e2
    exact ⟨j, by omega, e1, e2⟩
  · rintro ⟨j, hj, e1, e2⟩
    refine ⟨j, by rw [List.length_take]; omega, ?_, ?_⟩ <;> rw [List.getElem_take]
    · exact e1
    · exact e2
end Go.J

/- What is proved: the walk's rules for appending nothing, for a slice cut to another length, and for lists of the caller's put behind a row. Conditions: as each rule names them. -/
namespace Go.J
open Go Go.RowKit
section
variable {P : Program} {N : Fz} {f : Fr} {w w0 : World} {Q : Post} {ops l : List Oper} {o : Oper} {M : List Nat} {H H' : List Chunk} {Z : List Snap} {ρ : Operand → Value}
theorem SlAt.pre {α : Type} {c : Cod α} {F : Nat → Prop} {w : World} {A : Option Addr} {xs ys : List α} (h : SlAt c F w A (xs ++ ys)) : SlAt c F w A xs := fun k hk => by
  obtain ⟨b, o, es, h1, h2, h3, h4⟩ := h k (by rw [List.length_append]; omega)
  exact ⟨b, o, es, h1, h2, h3, by rwa [List.getElem_append_left hk] at h4⟩
end
end Go.J

/- What is proved: parts of rows, cut in a region that draws its order. Conditions: none beyond the rules' own. -/
namespace Go.J
open Go Go.RowKit
section
variable {P : Program} {N : Fz} {f : Fr} {w w0 : World} {Q : Post} {ops : List Oper} {q : List Nat} {l : List Nat} {i : Nat} {S : World → Prop}
variable {M : List Nat} {H0 H : List Chunk} {Z0 Z : List Snap}
end
section
variable {P : Program} {N : Fz} {f : Fr} {w : World} {Q : Post} {ops l : List Oper} {o : Oper}
theorem wrapU64 {a : Int} (h : 0 ≤ a ∧ a < 18446744073709551616) : IntKind.u64.wrap a = a := by rw [IntKind.wrap_u64]; omega
def intoU64 (P : Program) (s d : TypeId) : Bool := match P.underlying s, P.underlying d with
  | some (.int _), some (.int .u64) => true
  | _, _ => false
theorem WL.cvU {s d' : TypeId} {x : Operand} {k : IntKind} {a : Int} (ho : o.op = .convert s d' x) (ht : intoU64 P s d' = true) (hx : ev f x = .int k a) (hr : 0 ≤ a ∧ a < 18446744073709551616)
    (hg : wants ops f o = true) {d : Nat} (hd : o.dst = some d) (hn : N.ok d = true) (h : WL P N ops l (up f d (.int .u64 a)) w Q) : WL P N ops (o :: l) f w Q := by
  refine .pure (v := .int .u64 a) ?_ hg hd hn h
  unfold intoU64 at ht
  split at ht
  · rename_i k1 h1 h2
    unfold pureV
    rw [ho]
    simp only [pureOp, h1, h2, hx, wrapU64 hr]
    rfl
  · cases ht
end
end Go.J

/- What is proved: the walk's rules for results that lie in variables, and elements of array values. Conditions: as each rule names them. -/
namespace Go.J
open Go Go.RowKit
section
variable {P : Program} {fn : Func} {rs : Array ResultVar} {R : Value → World → Prop} {f : Fr} {w w0 : World} {M : List Nat} {H : List Chunk} {Z : List Snap}
theorem St.loads (hS : St w0 M w H Z) {ty : TypeId} {a : Addr} {v : Value} (hl : LdOk P H Z ty a v) : (loadVar ty a).run P w = .ok v w := hl.out w0 M w [] [] hS
theorem resC1 {t : Tmp} {ty : TypeId} {a : Addr} {v : Value} (hS : St w0 M w H Z) (h : fn.results = #[.cell t ty]) (hx : f t = .pointer (some a)) (hl : LdOk P H Z ty a v) : ∀ b, Is b fn.ntmps f → (results fn b.tmps).run P w = .ok v w := fun b hb => by
  have h1 := hb.get t
  rw [hx] at h1
  have h2 := hS.loads hl
  simp only [Array.getD_eq_getD_getElem?] at h1
  simp [results, h, h1, h2, asAddr, Sem.run_bind]
theorem finC1r {t : Tmp} {ty : TypeId} {a : Addr} {v : Value} (hS : St w0 M w H Z) (h : fn.results = #[.cell t ty]) (hx : f t = .pointer (some a)) (hl : LdOk P H Z ty a v) (hR : R v w) : funQ P rs fn (Ret R) .ret f w := by unfold funQ; exact ⟨v, ⟨v, rfl, hR⟩, resC1 hS h hx hl⟩
end
section
variable {P : Program} {N : Fz} {f : Fr} {w w0 : World} {Q : Post} {ops l : List Oper} {o : Oper} {M : List Nat} {H H' : List Chunk} {Z : List Snap} {ρ : Operand → Value}
end
end Go.J

/- What is proved: steps as plain data: their order, what stands behind all of them. Conditions: none. -/
namespace Go.Proofs.YtccfiohagbneaaaGreatDoor
open Go Go.J Go.RowKit
structure Ac where
  root : Int
  path : List UInt8
  kind : Int
  data : List UInt8
instance : Inhabited Ac := ⟨⟨0, [], 0, []⟩⟩
def encAc (a : Ac) : List Value := [.int .i64 a.root, str a.path, .int .i64 a.kind, str a.data]
def cAc : Cod Ac := .flat encAc 4 fun _ => rfl
theorem encAc_len (a : Ac) : (encAc a).length = 4 := rfl
abbrev keyA (a : Ac) : Int × List UInt8 := (a.root, a.path)
def ltA (x y : Int × List UInt8) : Bool := if x.1 = y.1 then Op.bytesLess x.2 y.2 else decide (x.1 < y.1)
theorem actO : StrictO ltA where
  irr a := by unfold ltA; rw [if_pos rfl]; exact less_irr _
  trans {a b c} h k := by
    unfold ltA at *
    by_cases h1 : a.1 = b.1
    · rw [if_pos h1] at h
      by_cases h2 : b.1 = c.1
      · rw [if_pos h2] at k
        rw [if_pos (h1.trans h2)]
        exact less_trans h k
      · rw [if_neg h2] at k
        rw [if_neg (by rw [h1]; exact h2), h1]; exact k
    · rw [if_neg h1] at h
      have h := of_decide_eq_true h
      by_cases h2 : b.1 = c.1
      · rw [if_neg (by rw [← h2]; exact h1), ← h2]; exact decide_eq_true h
      · rw [if_neg h2] at k
        have k := of_decide_eq_true k
        rw [if_neg (by omega)]; exact decide_eq_true (by omega)
  tri a b := by
    unfold ltA
    by_cases h : a.1 = b.1
    · rw [if_pos h, if_pos h.symm]
      rcases less_tri a.2 b.2 with h1 | h1 | h1
      · exact .inl h1
      · exact .inr (.inl (Prod.ext h h1))
      · exact .inr (.inr h1)
    · rw [if_neg h, if_neg (fun e => h e.symm)]
      rcases Int.lt_or_gt_of_ne h with h1 | h1
      · exact .inl (decide_eq_true h1)
      · exact .inr (.inr (decide_eq_true h1))
def finalE (l : List Ac) : List Ac := l.foldl (putG keyA ltA) []
theorem final_rise (l : List Ac) : RiseG keyA ltA (finalE l) := by
  unfold finalE
  have : ∀ (l : List Ac) (r : List Ac), RiseG keyA ltA r → RiseG keyA ltA (l.foldl (putG keyA ltA) r) := by
    intro l
    induction l with
    | nil => exact fun r hr => hr
    | cons a l ih => exact fun r hr => ih _ (putG_rise actO hr)
  exact this l [] List.Pairwise.nil
theorem final_len (l : List Ac) : (finalE l).length ≤ l.length := by
  unfold finalE
  have : ∀ (l : List Ac) (r : List Ac), (l.foldl (putG keyA ltA) r).length ≤ r.length + l.length := by
    intro l
    induction l with
    | nil => exact fun r => Nat.le_refl _
    | cons a l ih =>
      intro r
      refine Nat.le_trans (ih _) ?_
      have : (putG keyA ltA r a).length ≤ r.length + 1 := by
        unfold putG
        rw [List.length_append, List.length_cons]
        have h1 := List.length_filter_le (fun y => decide (keyA y ≠ keyA a)) (r.dropWhile fun y => ltA (keyA y) (keyA a))
        have h2 := congrArg List.length (List.takeWhile_append_dropWhile (p := fun y => ltA (keyA y) (keyA a)) (l := r))
        rw [List.length_append] at h2
        omega
      rw [List.length_cons]; omega
  simpa using this l []
def lastA (l : List Ac) (k : Int × List UInt8) : Option Ac := l.foldl (fun o a => if keyA a = k then some a else o) none
theorem final_find (l : List Ac) (k : Int × List UInt8) : findG keyA (finalE l) k = lastA l k := by
  unfold finalE lastA
  have : ∀ (l : List Ac) (r : List Ac), findG keyA (l.foldl (putG keyA ltA) r) k = l.foldl (fun o a => if keyA a = k then some a else o) (findG keyA r k) := by
    intro l
    induction l with
    | nil => exact fun r => rfl
    | cons a l ih =>
      intro r
      rw [List.foldl_cons, List.foldl_cons, ih, findG_put actO]
      by_cases h : keyA a = k
      · rw [if_pos h, if_pos h.symm]
      · rw [if_neg h, if_neg (fun e => h e.symm)]
  exact this l []
end Go.Proofs.YtccfiohagbneaaaGreatDoor

/- What is proved: the walk's rules for what slices.Insert does to rows: a slice that reaches into its row's room, zeros appended where there is none, a copy into a row, two rows that don't overlap. Conditions: as each rule names them. -/
namespace Go.J
open Go Go.RowKit
section
variable {P : Program} {N : Fz} {f : Fr} {w w0 : World} {Q : Post} {ops l : List Oper} {o : Oper} {M : List Nat} {H H' : List Chunk} {Z : List Snap} {ρ : Operand → Value}
theorem WL.highAt {t e : TypeId} {size g off n cap j : Nat} {x y : Operand} {k : IntKind} (ho : o.op = .slice t x none (some y) none) (he : elemOf P t = some (e, size)) (hx : ev f x = .slice (some ⟨g, off, none⟩) n cap) (hy : ev f y = .int k (Int.ofNat j)) (hj : j ≤ cap)
    (hg : wants ops f o = true) {d : Nat} (hd : o.dst = some d) (hn : N.ok d = true) (h : WL P N ops l (up f d (.slice (some ⟨g, off, none⟩) j cap)) w Q) : WL P N ops (o :: l) f w Q :=
  .val hg hd hn (run_sliceHigh ho he hx hy hj) h
theorem low_add {g off cap j size : Nat} (hc : j < cap) : (if cap = j then some (⟨g, off, none⟩ : Addr) else (some (⟨g, off, none⟩ : Addr)).map (·.add (j * size))) = some ⟨g, off + j * size, none⟩ := by
  rw [if_neg (by omega), Option.map_some, Addr.add_mid]
theorem WL.lowAt {t e : TypeId} {size g off n cap j m c : Nat} {x y : Operand} {k : IntKind} (ho : o.op = .slice t x (some y) none none) (he : elemOf P t = some (e, size)) (hx : ev f x = .slice (some ⟨g, off, none⟩) n cap) (hy : ev f y = .int k (Int.ofNat j)) (hj : j ≤ n) (hc : j < cap) (hm : n - j = m) (hcc : cap - j = c)
    (hg : wants ops f o = true) {d : Nat} (hd : o.dst = some d) (hn : N.ok d = true) (h : WL P N ops l (up f d (.slice (some ⟨g, off + j * size, none⟩) m c)) w Q) : WL P N ops (o :: l) f w Q := by
  subst hm hcc
  refine .val hg hd hn (run_sliceLow ho he hx hy hj) ?_
  rw [low_add hc]
  exact h
theorem WL.capB {x : Operand} {t : TypeId} {n cap : Nat} {A : Option Addr} {ee : TypeId} (ho : o.op = .call ⟨.builtin .cap, ⟨[x]⟩, ⟨[t]⟩⟩) (ht : P.underlying t = some (.slice ee)) (hx : ev f x = .slice A n cap)
    (hg : wants ops f o = true) {d : Nat} (hd : o.dst = some d) (hn : N.ok d = true) (h : WL P N ops l (up f d (.int .i64 (cap : Int))) w Q) : WL P N ops (o :: l) f w Q := by
  refine .val hg hd hn (v := .int .i64 (cap : Int)) (w' := w) ?_ h
  have hr : (Builtin.cap_ #[t] o.type #[.slice A n cap]).run P w = .ok (goInt cap) w := by
    simp [Builtin.cap_, run_underlying ht]
  unfold execOp
  simp only [ho, resolve, invoke, builtin, Sem.run_bind, Sem.run_pure, Result.andThen_ok, List.map_toArray, List.map_cons, List.map_nil, hx, hr]
  rfl
theorem RowAt.ext {e : TypeId} {size n cap j g off : Nat} {xs : List Value} (h : RowAt w e size (.slice (some ⟨g, off, none⟩) n cap) n xs) (hj : n ≤ j) (hc : j ≤ cap) : ∃ ys, ys.length = (j - n) * size ∧ RowAt w e size (.slice (some ⟨g, off, none⟩) j cap) j (xs ++ ys) := by
  obtain ⟨h1, h2⟩ := h
  rcases h2 with ⟨h2, h3⟩ | ⟨g', og, cap', cur, h2, hh, hnc, hcm, hcs, htake⟩
  · simp at h2
  · simp only [Value.slice.injEq, Option.some.injEq, Addr.mk.injEq, and_true] at h2
    obtain ⟨⟨rfl, rfl⟩, _, rfl⟩ := h2
    have e1 : j * size = n * size + (j - n) * size := by rw [← Nat.add_mul]; congr 1; omega
    have hle : j * size ≤ cap * size := Nat.mul_le_mul_right _ hc
    have e2 : ((cur.drop off).take (j * size)) = xs ++ (((cur.drop off).drop (n * size)).take ((j - n) * size)) := by
      rw [e1, List.take_add, htake]
    refine ⟨((cur.drop off).drop (n * size)).take ((j - n) * size), by simp only [List.length_take, List.length_drop]; omega, ?_, .inr ⟨g, off, cap, cur, rfl, hh, hc, hcm, hcs, e2⟩⟩
    rw [List.length_append, h1, List.length_take, List.length_drop, List.length_drop]
    omega
theorem St.ext {e : TypeId} {size n cap j g off : Nat} {xs : List Value} (hS : St w0 M w (.own (.slice (some ⟨g, off, none⟩) n cap) e size n xs :: H) Z) (hj : n ≤ j) (hc : j ≤ cap) :
    ∃ ys, ys.length = (j - n) * size ∧ St w0 M w (.own (.slice (some ⟨g, off, none⟩) j cap) e size j (xs ++ ys) :: H) Z := by
  obtain ⟨ys, h1, h2⟩ := RowAt.ext (hS.holds _ (List.mem_cons_self ..)) hj hc
  exact ⟨ys, h1, hS.recast (.here) (fun _ => h2) fun b hb => hb⟩
theorem run_copyOp {x y : Operand} {t e : TypeId} {size bytes a dl dc m c b so g off n cap : Nat} {xs cs : List Value} (ho : o.op = .call ⟨.builtin .copy, ⟨[x, y]⟩, ⟨[t, t]⟩⟩) (hi : appOf P t = some (e, size, bytes))
    (hx : ρ x = .slice (some ⟨g, off + a * size, none⟩) dl dc) (hy : ρ y = .slice (some ⟨b, so, none⟩) m c) (hown : RowAt w e size (.slice (some ⟨g, off, none⟩) n cap) n xs) (hfit : a + dl ≤ n) (hl : cs.length = Nat.min m dl * size) (hcs : ∀ j u, cs[j]? = some u → w.cell? ⟨b, so + j, none⟩ = some u) (h1 : one cs = true) :
    ∃ cur', (execOp ρ o).run P w = .ok (.value (goInt (Nat.min m dl))) (w.setRow g ⟨cur'⟩) ∧ RowAt (w.setRow g ⟨cur'⟩) e size (.slice (some ⟨g, off, none⟩) n cap) n (xs.take (a * size) ++ cs ++ xs.drop (a * size + cs.length)) := by
  obtain ⟨i, z, hu, hinfo, hz, rfl, rfl, hzs, h0, h0b⟩ := appOf_spec hi
  obtain ⟨hxl, h2⟩ := hown
  rcases h2 with ⟨h2, _⟩ | ⟨g', og, cap', cur, he, hh, hnc, hcm, hcap, htake⟩
  · simp at h2
  · simp only [Value.slice.injEq, Option.some.injEq, Addr.mk.injEq, and_true] at he
    obtain ⟨⟨rfl, rfl⟩, _, rfl⟩ := he
    have hmd : Nat.min m dl ≤ dl := Nat.min_le_right _ _
    have hfit2 : a * i.size + cs.length ≤ n * i.size := by
      rw [hl, ← Nat.add_mul]
      exact Nat.mul_le_mul_right _ (by omega)
    have hncs : n * i.size ≤ cap * i.size := Nat.mul_le_mul_right _ hnc
    have hf := run_firstCells_some (P := P) w i.size (Nat.min m dl) ⟨b, so, none⟩ m c cs hl (fun j u hj => by rw [Addr.add_mid]; exact hcs j u hj)
    have hst := run_storeCells_at P g (off + a * i.size) e cs 0 ⟨cur⟩ w hh (by simp; omega) (by simpa [one] using h1)
    simp only [Nat.add_zero] at hst
    refine ⟨cur.take (off + a * i.size) ++ cs ++ cur.drop (off + a * i.size + cs.length), ?_, ?_, .inr ⟨g, off, cap, _, rfl, heap_setRow hh, hnc, hcm, ?_, ?_⟩⟩
    · unfold execOp
      have hcp : (Builtin.copy_ #[t, t] o.type #[.slice (some ⟨g, off + a * i.size, none⟩) dl dc, .slice (some ⟨b, so, none⟩) m c]).run P w = .ok (goInt (Nat.min m dl)) (w.setRow g ⟨cur.take (off + a * i.size) ++ cs ++ cur.drop (off + a * i.size + cs.length)⟩) := by
        simp [Builtin.copy_, run_underlying hu, Builtin.lenOf, sizeOf, typeInfo, hinfo, hf, hst]
      simp only [ho, resolve, invoke, builtin, Sem.run_bind, Sem.run_pure, Result.andThen_ok, List.map_toArray, List.map_cons, List.map_nil, hx, hy, hcp]
    · simp only [List.length_append, List.length_take, List.length_drop, hxl]; omega
    · simp only [List.length_append, List.length_take, List.length_drop]; omega
    · have hml : n * i.size = a * i.size + cs.length + (n * i.size - (a * i.size + cs.length)) := by omega
      rw [← htake]
      rw [List.append_assoc, List.drop_append_of_le_length (by simp; omega), List.drop_take, show off + a * i.size - off = a * i.size by omega]
      rw [List.take_append, List.take_append, List.take_take, List.take_take, List.length_take, List.length_drop]
      rw [show min (n * i.size) (a * i.size) = a * i.size by omega, show min (a * i.size) (n * i.size) = a * i.size by omega, show min (a * i.size) (cur.length - off) = a * i.size by omega]
      rw [List.append_assoc]
      congr 1
      rw [List.take_of_length_le (l := cs) (by omega)]
      congr 1
      rw [List.drop_take, List.drop_drop]
      congr 1
      · omega
      · congr 1; omega
theorem WL.copyOwn {x y : Operand} {t e : TypeId} {size bytes a dl dc m c b so g off n cap : Nat} {xs cs : List Value} (hS : St w0 M w H Z) (ho : o.op = .call ⟨.builtin .copy, ⟨[x, y]⟩, ⟨[t, t]⟩⟩) (hi : appOf P t = some (e, size, bytes))
    (hx : ev f x = .slice (some ⟨g, off + a * size, none⟩) dl dc) (hy : ev f y = .slice (some ⟨b, so, none⟩) m c) (hfit : a + dl ≤ n) (hcs : RdOk H Z b so cs) (hl : cs.length = Nat.min m dl * size) (h1 : one cs = true)
    (hr : Repl (.own (.slice (some ⟨g, off, none⟩) n cap) e size n xs) (.own (.slice (some ⟨g, off, none⟩) n cap) e size n (xs.take (a * size) ++ cs ++ xs.drop (a * size + cs.length))) H H')
    (hg : wants ops f o = true) {d : Nat} (hd : o.dst = some d) (hn : N.ok d = true) (h : ∀ w', St w0 M w' H' Z → WL P N ops l (up f d (goInt (Nat.min m dl))) w' Q) : WL P N ops (o :: l) f w Q := by
  obtain ⟨cur', hrun, hown'⟩ := run_copyOp (P := P) (w := w) ho hi hx hy (hS.holds _ hr.mem) hfit hl (hcs.out w0 M w [] [] hS) h1
  exact .val hg hd hn hrun (h _ (hS.step hr ((Upd.setRow _ _ _).mono (by simp [Chunk.fp, Value.ownBlock])) hown' fun b hb => .inl (by simpa [Chunk.fp, Value.ownBlock] using hb)))
theorem WL.appZ {x y : Operand} {t tn e : TypeId} {size bytes n cap k b off m : Nat} {news : List Value} (hS : St w0 M w H Z) (ho : o.op = .call ⟨.builtin .append, ⟨[x, y]⟩, ⟨[t, tn]⟩⟩) (hi : appOf P t = some (e, size, bytes)) (htn : P.underlying tn = some (.int .i64))
    (hx : ev f x = .slice (some ⟨b, off, none⟩) n cap) (hy : ev f y = .int .i64 (Int.ofNat k)) (hnews : RdOk H Z b off news) (hl : news.length = n * size) (hk : 0 < k) (hnk : n + k = m) (hg2 : cap < n + k) (hb : (n + k) * bytes ≤ 140737488355328)
    (hg : wants ops f o = true) {d : Nat} (hd : o.dst = some d) (hn : N.ok d = true)
    (h : ∀ g cap' zs w', zs.length = k * size → St w0 M w' (.own (.slice (some ⟨g, 0, none⟩) m cap') e size m (news ++ zs) :: H) Z → WL P N ops l (up f d (.slice (some ⟨g, 0, none⟩) m cap')) w' Q) : WL P N ops (o :: l) f w Q := by
  subst hnk
  obtain ⟨i, z, hu, hinfo, hz, rfl, rfl, hzs, h0, h0b⟩ := appOf_spec hi
  have hle : n + k ≤ (n + k) * i.bytes := Nat.le_mul_of_pos_right _ h0b
  have hke : k * i.bytes ≤ (n + k) * i.bytes := Nat.mul_le_mul_right _ (by omega)
  have hmx : n + k ≤ maxLen := by unfold maxLen; omega
  have hf : (Builtin.firstCells i.size n (.slice (some ⟨b, off, none⟩) n cap)).run P w.drew = .ok news.toArray w.drew :=
    run_firstCells_some (P := P) w.drew i.size n ⟨b, off, none⟩ n cap news hl fun j u hj => by
      rw [Addr.add_mid]; exact hnews.out w0 M w [] [] hS j u hj
  have hap := Lib.run_append_grow_zeros (P := P) w t tn o.type e i z .i64 .i64 hu htn hinfo hz (some ⟨b, off, none⟩) n cap news hf k hk h0 hg2 (by omega) (by omega) (growslice_fits (by omega) hb)
  have hrun : (execOp (ev f) o).run P w = .ok (.value (.slice (some ⟨w.heap.size, 0, none⟩) (n + k) (grownCap w (n + k) cap e))) (w.drew.alloc (.cells (news.toArray ++ Builtin.zeroCells z.cells k ++ Builtin.zeroCells z.cells (grownCap w (n + k) cap e - (n + k))) e)) := by
    unfold execOp
    have hy' : ev f y = .int .i64 (k : Int) := hy
    simp only [ho, resolve, invoke, builtin, Sem.run_bind, Sem.run_pure, Result.andThen_ok, List.map_toArray, List.map_cons, List.map_nil, hx, hy', hap]
  have hge := grownCap_ge w (n + k) cap e
  have hcm : grownCap w (n + k) cap e ≤ maxLen := grownCap_le_maxLen w (n + k) cap e hmx
  refine .val hg hd hn hrun (h w.heap.size (grownCap w (n + k) cap e) (Builtin.zeroCells z.cells k).toList _ (by simp [size_zeroCells, hzs]) ?_)
  refine hS.push ((Upd.drew _ w).trans (.alloc _ _ _)) ⟨?_, .inr ⟨w.heap.size, 0, _, (news.toArray ++ Builtin.zeroCells z.cells k ++ Builtin.zeroCells z.cells (grownCap w (n + k) cap e - (n + k))).toList, rfl, heap_alloc_new w.drew _, hge, hcm, ?_, ?_⟩⟩ fun b hb => ?_
  · simp [size_zeroCells, hzs, hl, Nat.add_mul]
  · simp only [Array.length_toList, Array.size_append, List.size_toArray, size_zeroCells, hzs, hl, ← Nat.add_mul, Nat.zero_add]
    exact Nat.mul_le_mul_right _ (by omega)
  · simp only [Array.toList_append, List.append_assoc, List.drop_zero]
    rw [← List.append_assoc]
    have : (news ++ (Builtin.zeroCells z.cells k).toList).length = (n + k) * i.size := by simp [size_zeroCells, hzs, hl, Nat.add_mul]
    rw [← this]
    exact List.take_left
  · have : b = w.heap.size := by simpa [Chunk.fp, Value.ownBlock] using hb
    subst this
    simp
theorem WL.overl {x y : Operand} {ts : Array TypeId} {fid : FuncId} {fn : Func} {tS tR e : TypeId} {size a ao la ca b bo n cap yo lb cb : Nat} {xs ys : List Value} (hS : St w0 M w H Z)
    (hp : Pulls [.own (.slice (some ⟨a, ao, none⟩) la ca) e size la xs, .own (.slice (some ⟨b, bo, none⟩) n cap) e size n ys] H H') (ho : o.op = .call ⟨.value (.func fid), ⟨[x, y]⟩, ts⟩)
    (hf : P.funcs[fid]? = some fn) (hname : (fn.name == "runtime.NumGoroutine") = false) (hb : fn.body.isNone = true) (hnx : Extern.findNext fn = none) (he : Extern.find fn = some (Extern.SlicesOverlaps.overlaps #[tS, tS] #[tR])) (ht : P.underlying tS = some (.slice e)) (hz : tySize P e = some size) (h0 : 0 < n * size)
    (hx : ev f x = .slice (some ⟨a, ao, none⟩) la ca) (hy : ev f y = .slice (some ⟨b, yo, none⟩) lb cb)
    (hg : wants ops f o = true) {d : Nat} (hd : o.dst = some d) (hn : N.ok d = true) (h : WL P N ops l (up f d (.bool false)) w Q) : WL P N ops (o :: l) f w Q := by
  have hS' := hS.pulls hp
  have hne : a ≠ b := by
    have := (List.pairwise_cons.1 hS'.disj).1 _ (List.mem_cons_self ..)
    intro e
    subst e
    exact this a (by simp [Chunk.fp, Value.ownBlock]) (by simp [Chunk.fp, Value.ownBlock])
  have blk : ∀ (a ao la ca : Nat) (xs : List Value), RowAt w e size (.slice (some ⟨a, ao, none⟩) la ca) la xs → ∃ cur, w.heap[a]? = some (.cells ⟨cur⟩ e (0, 0)) ∧ ao + ca * size ≤ cur.length ∧ la ≤ ca := by
    intro a ao la ca xs hr
    rcases hr.2 with ⟨h, _⟩ | ⟨g, og, cap', cur, he, hh, hnc, hcm, hcap, htake⟩
    · simp at h
    · simp only [Value.slice.injEq, Option.some.injEq, Addr.mk.injEq, and_true] at he
      obtain ⟨⟨rfl, rfl⟩, _, rfl⟩ := he
      exact ⟨cur, hh, hcap, hnc⟩
  obtain ⟨curA, hA, _, _⟩ := blk _ _ _ _ _ (hS'.holds _ (List.mem_cons_self ..))
  obtain ⟨curB, hB, hBl, hBn⟩ := blk _ _ _ _ _ (hS'.holds _ (List.mem_cons_of_mem _ (List.mem_cons_self ..)))
  have hmul : n * size ≤ cap * size := Nat.mul_le_mul_right _ hBn
  have hsa : w.shape? a = some (e, curA.length) := by simp [World.shape?, hA]
  have hsb : w.shape? b = some (e, curB.length) := by simp [World.shape?, hB]
  have hrun : (execOp (ev f) o).run P w = .ok (.value (.bool false)) w := by
    have e1 : execOp (ev f) o = callFunc fid (#[] ++ (Array.mk [x, y]).map (ev f) ++ #[]) := by
      obtain ⟨dst, op, type, pos, after, guard⟩ := o
      simp only at ho
      subst ho
      rfl
    rw [e1, run_callFunc_extern hf hname hb hnx he]
    have e2 : (#[] ++ (Array.mk [x, y]).map (ev f) ++ #[] : Array Value) = #[.slice (some ⟨a, ao, none⟩) la ca, .slice (some ⟨b, yo, none⟩) lb cb] := by simp [hx, hy]
    rw [e2, Lib.run_overlaps_apart w tS tR e ht size (run_sizeOf hz) ⟨a, ao, none⟩ ⟨b, yo, none⟩ la ca lb cb hne e e curA.length curB.length hsa hsb (by omega) (by simp [World.frozen?, hA]) (by simp [World.frozen?, hA])]
    rfl
  exact .val hg hd hn hrun h
end
section
variable {P : Program} {N : Fz} {f : Fr} {w w0 : World} {Q : Post} {ops : List Oper} {M : List Nat} {H H0 : List Chunk} {Z Z0 : List Snap} {l : List Nat} {i : Nat} {q : Qs}
theorem WD.lowAt {S : World → Prop} {t e : TypeId} {size g off n cap j m c : Nat} {x y : Operand} {k : IntKind} (ho : (ix ops i).op = .slice t x (some y) none none) (he : elemOf P t = some (e, size)) (hx : ev f x = .slice (some ⟨g, off, none⟩) n cap) (hy : ev f y = .int k (Int.ofNat j)) (hj : j ≤ n) (hc : j < cap) (hm : n - j = m) (hcc : cap - j = c)
    (hq : q.contains i = true) (hg : wants ops f (ix ops i) = true) {d : Nat} (hd : (ix ops i).dst = some d) (hn : N.ok d = true) (h : WD P N S ops q l (up f d (.slice (some ⟨g, off + j * size, none⟩) m c)) w Q) : WD P N S ops q (i :: l) f w Q := by
  subst hm hcc
  refine .take hq hd hn (.inl ⟨hg, fun _ _ => run_sliceLow ho he hx hy hj⟩) ?_
  rw [low_add hc]
  exact h
theorem WD.callF {x : Operand} {xs : List Operand} {ts : Array TypeId} {fid : FuncId} {first cap args : List Value} {R : Value → World → Prop} (hS : St w0 M w H Z) (hM : More H0 Z0 H Z) (ho : (ix ops i).op = .call ⟨.value x, ⟨xs⟩, ts⟩) (hx : ev f x = .func (.func fid) ⟨first⟩ ⟨cap⟩) (ha : first ++ xs.map (ev f) ++ cap = args)
    (hc : Cal P fid args w fun v w' => Upd [] w w' ∧ R v w') (hq : q.contains i = false) (hi : Nat.blt i ops.length = true) (hg : wants ops f (ix ops i) = true) {d : Nat} (hd : (ix ops i).dst = some d) (hn : N.ok d = true)
    (h : ∀ v w', R v w' → St w0 M w' H Z → WD P N (SS w0 M H0 Z0) ops q l (up f d v) w' Q) : WD P N (SS w0 M H0 Z0) ops q (i :: l) f w Q :=
  .enter hq hi hg hd hn (run_callF ho hx ha hc.ok) hc.calls fun v w' ⟨hu, hR⟩ => ⟨hM.ss (hS.upd0 hu), h v w' hR (hS.upd0 hu)⟩
theorem WD.copyOwn {x y : Operand} {t e : TypeId} {size bytes a dl dc m c b so g off n cap : Nat} {xs cs : List Value} {H' : List Chunk} (hS : St w0 M w H Z) (hp : Pull (.own (.slice (some ⟨g, off, none⟩) n cap) e size n xs) H H') (hM : More H0 Z0 H' Z) (ho : (ix ops i).op = .call ⟨.builtin .copy, ⟨[x, y]⟩, ⟨[t, t]⟩⟩) (hi0 : appOf P t = some (e, size, bytes))
    (hx : ev f x = .slice (some ⟨g, off + a * size, none⟩) dl dc) (hy : ev f y = .slice (some ⟨b, so, none⟩) m c) (hfit : a + dl ≤ n) (hcs : RdOk H Z b so cs) (hl : cs.length = Nat.min m dl * size) (h1 : one cs = true)
    (hq : q.contains i = false) (hi : Nat.blt i ops.length = true) (hg : wants ops f (ix ops i) = true) {d : Nat} (hd : (ix ops i).dst = some d) (hn : N.ok d = true)
    (h : ∀ w', St w0 M w' (.own (.slice (some ⟨g, off, none⟩) n cap) e size n (xs.take (a * size) ++ cs ++ xs.drop (a * size + cs.length)) :: H') Z → More H0 Z0 (.own (.slice (some ⟨g, off, none⟩) n cap) e size n (xs.take (a * size) ++ cs ++ xs.drop (a * size + cs.length)) :: H') Z →
      WD P N (SS w0 M H0 Z0) ops q l (up f d (goInt (Nat.min m dl))) w' Q) : WD P N (SS w0 M H0 Z0) ops q (i :: l) f w Q := by
  have hS' := hS.pull hp
  obtain ⟨cur', hrun, hown'⟩ := run_copyOp (P := P) (w := w) ho hi0 hx hy (hS'.holds _ (List.Mem.head _)) hfit hl (hcs.out w0 M w [] [] hS) h1
  have hS2 : St w0 M (w.setRow g ⟨cur'⟩) (.own (.slice (some ⟨g, off, none⟩) n cap) e size n (xs.take (a * size) ++ cs ++ xs.drop (a * size + cs.length)) :: H') Z := hS'.step (.here) ((Upd.setRow _ _ _).mono (by simp [Chunk.fp, Value.ownBlock])) hown' fun b hb => .inl (by simpa [Chunk.fp, Value.ownBlock] using hb)
  exact .val hq hi hg hd hn hrun ((hM.chunk _).ss hS2) (h _ hS2 (hM.chunk _))
end
theorem flat_take {α : Type} {enc : α → List Value} {sz : Nat} (hsz : ∀ x, (enc x).length = sz) : ∀ (l : List α) (k : Nat), (l.flatMap enc).take (k * sz) = (l.take k).flatMap enc
  | [], k => by simp
  | a :: l, 0 => by simp
  | a :: l, k + 1 => by
    rw [List.flatMap_cons, List.take_succ_cons, List.flatMap_cons, ← flat_take hsz l k, show (k + 1) * sz = sz + k * sz by rw [Nat.add_mul]; omega, List.take_append, hsz]
    rw [List.take_of_length_le (by rw [hsz]; omega), show sz + k * sz - sz = k * sz by omega]
theorem flat_drop {α : Type} {enc : α → List Value} {sz : Nat} (hsz : ∀ x, (enc x).length = sz) : ∀ (l : List α) (k : Nat), (l.flatMap enc).drop (k * sz) = (l.drop k).flatMap enc
  | [], k => by simp
  | a :: l, 0 => by simp
  | a :: l, k + 1 => by
    rw [List.flatMap_cons, List.drop_succ_cons, ← flat_drop hsz l k, show (k + 1) * sz = sz + k * sz by rw [Nat.add_mul]; omega, List.drop_append, hsz]
    rw [List.drop_of_length_le (by rw [hsz]; omega), show sz + k * sz - sz = k * sz by omega, List.nil_append]
end Go.J

/- What is proved: append that keeps the row before it; chunks by place; rows that are marked and grown. Conditions: as each names them. -/
namespace Go.J
open Go Go.RowKit
section
variable {P : Program} {N : Fz} {f : Fr} {w w0 : World} {Q : Post} {ops l : List Oper} {o : Oper} {M : List Nat} {H H' : List Chunk} {Z : List Snap} {ρ : Operand → Value}
end
section
variable {P : Program} {N : Fz} {f : Fr} {w w0 : World} {Q : Post} {ops : List Oper} {M : List Nat} {H0 H H' : List Chunk} {Z0 Z : List Snap} {q : Qs} {l : List Nat} {i : Nat}
end
theorem flat_set {α : Type} {enc : α → List Value} {sz : Nat} (hsz : ∀ x, (enc x).length = sz) (x : α) : ∀ {l : List α} {k : Nat}, k < l.length → (l.flatMap enc).take (k * sz) ++ enc x ++ (l.flatMap enc).drop (k * sz + (enc x).length) = (l.set k x).flatMap enc
  | [], _, h => absurd h (Nat.not_lt_zero _)
  | a :: l, 0, _ => by
    simp only [List.flatMap_cons, List.set_cons_zero, Nat.zero_mul, List.take_zero, List.nil_append, Nat.zero_add, hsz]
    rw [List.drop_append_of_le_length (by rw [hsz]; exact Nat.le_refl _), List.drop_of_length_le (by rw [hsz]; exact Nat.le_refl _), List.nil_append]
  | a :: l, k + 1, h => by
    have ih := flat_set hsz x (l := l) (k := k) (by simpa using h)
    rw [List.flatMap_cons, List.set_cons_succ, List.flatMap_cons, ← ih, show (k + 1) * sz = (enc a).length + k * sz by rw [hsz, Nat.add_mul]; omega]
    rw [List.take_append, List.take_of_length_le (show (enc a).length ≤ (enc a).length + k * sz by omega), Nat.add_sub_cancel_left, Nat.add_assoc, ← List.drop_drop, List.drop_left]
    simp only [List.append_assoc]
structure Rw where
  A : Option Addr
  n : Nat
  cap : Nat
def Rw.val (r : Rw) : Value := .slice r.A r.n r.cap
def encRw (r : Rw) : List Value := [r.val]
def ownRw {α : Type} (enc : α → List Value) (e : TypeId) (sz : Nat) (r : Rw) (l : List α) : Chunk := .own (.slice r.A r.n r.cap) e sz r.n (l.flatMap enc)
def grw {α : Type} (mk nw : Nat → α) (j n k : Nat) : List α := List.replicate n (mk j) ++ List.replicate k (nw j)
def GrowP {α : Type} (enc : α → List Value) (e : TypeId) (sz : Nat) (mk nw : Nat → α) (j : Nat) (r : Rw) (k : Nat) (A : Option Addr) (cap : Nat) (D : List Chunk) : Prop :=
  (A = r.A ∧ cap = r.cap ∧ D = [.own (.slice r.A (r.n + k) r.cap) e sz (r.n + k) ((grw mk nw j r.n k).flatMap enc)]) ∨
  (∃ i, D = [.own (.slice A (r.n + k) cap) e sz (r.n + k) ((grw mk nw j r.n k).flatMap enc), .own (.slice r.A (r.n + i) r.cap) e sz (r.n + i) ((grw mk nw j r.n i).flatMap enc)])
section
variable {α : Type} {enc : α → List Value} {e : TypeId} {sz : Nat} {mk nw : Nat → α} {rs ls : List Rw} {cs : List Chunk} {i j : Nat}
structure MarkIs (enc : α → List Value) (e : TypeId) (sz : Nat) (mk : Nat → α) (rs : List Rw) (cs : List Chunk) (i : Nat) : Prop where
  len : cs.length = rs.length
  at_ : ∀ j (h : j < rs.length), ∃ l : List α, l.length = rs[j].n ∧ cs[j]? = some (ownRw enc e sz rs[j] l) ∧ (j < i → l = List.replicate rs[j].n (mk j))
structure GrowIs (enc : α → List Value) (e : TypeId) (sz : Nat) (mk nw : Nat → α) (rs ls : List Rw) (cs : List Chunk) (i : Nat) : Prop where
  len : cs.length = rs.length
  llen : ls.length = i
  at_ : ∀ j (h : j < rs.length), i ≤ j → cs[j]? = some (ownRw enc e sz rs[j] (List.replicate rs[j].n (mk j)))
  got : ∀ j (h : j < rs.length), j < i → ∃ l fp, ls[j]? = some l ∧ l.n = rs[j].n + 20 ∧ cs[j]? = some (objC (GrowP enc e sz mk nw j rs[j] 20 l.A l.cap) fp)
theorem MarkIs.next (h : MarkIs enc e sz mk rs cs i) (hi : i < rs.length) : MarkIs enc e sz mk rs (cs.set i (ownRw enc e sz rs[i] (List.replicate rs[i].n (mk i)))) (i + 1) := by
  refine ⟨by rw [List.length_set]; exact h.len, fun j hj => ?_⟩
  obtain ⟨l, h0, h1, h2⟩ := h.at_ j hj
  by_cases e : i = j
  · subst e
    exact ⟨_, List.length_replicate, by rw [List.getElem?_set_self (by rw [h.len]; exact hi)], fun _ => rfl⟩
  · exact ⟨l, h0, by rw [List.getElem?_set_ne e]; exact h1, fun hlt => h2 (by omega)⟩
theorem MarkIs.grow (h : MarkIs enc e sz mk rs cs i) (hi : i = rs.length) : GrowIs enc e sz mk nw rs [] cs 0 := by
  subst hi
  refine ⟨h.len, rfl, fun j hj _ => ?_, fun j _ hj => absurd hj (Nat.not_lt_zero _)⟩
  obtain ⟨l, _, h1, h2⟩ := h.at_ j hj
  rw [h1, h2 hj]
theorem GrowIs.next (h : GrowIs enc e sz mk nw rs ls cs i) (hi : i < rs.length) {A : Option Addr} {cap : Nat} {fp : List Nat} : GrowIs enc e sz mk nw rs (ls ++ [⟨A, rs[i].n + 20, cap⟩]) (cs.set i (objC (GrowP enc e sz mk nw i rs[i] 20 A cap) fp)) (i + 1) := by
  refine ⟨by rw [List.length_set]; exact h.len, by rw [List.length_append, h.llen]; rfl, fun j hj hij => ?_, fun j hj hij => ?_⟩
  · rw [List.getElem?_set_ne (by omega)]; exact h.at_ j hj (by omega)
  · by_cases e : i = j
    · subst e
      refine ⟨⟨A, rs[i].n + 20, cap⟩, fp, ?_, rfl, by rw [List.getElem?_set_self (by rw [h.len]; exact hi)]⟩
      rw [List.getElem?_append_right (by rw [h.llen]; exact Nat.le_refl _), h.llen, Nat.sub_self]; rfl
    · obtain ⟨l, fp', h1, h2, h3⟩ := h.got j hj (by omega)
      exact ⟨l, fp', by rw [List.getElem?_append_left (by rw [h.llen]; omega)]; exact h1, h2, by rw [List.getElem?_set_ne e]; exact h3⟩
theorem ownAll {hsz : ∀ x, (enc x).length = sz} (h0 : 0 < sz) {w : World} {A : Option Addr} {n cap n' : Nat} {l : List α} (h : RowAt w e sz (.slice A n cap) n' (l.flatMap enc)) (hin : ∀ b ∈ (Value.slice A n cap).ownBlock.toList, b < w.heap.size) : SlAt (Cod.flat enc sz hsz) (fun b => b < w.heap.size) w A l :=
  SlAt.ofOwn h0 h fun g hg => hin g (by rw [hg]; simp)
theorem GrowIs.reads (h : GrowIs enc e sz mk nw rs ls cs i) (hi : i = rs.length) {hsz : ∀ x, (enc x).length = sz} (h0 : 0 < sz) {w w0 : World} {M : List Nat} {H : List Chunk} {Z : List Snap} (hS : St w0 M w H Z) (hc : ∀ c ∈ cs, c ∈ H) (j : Nat) (hj : j < rs.length) :
    ∃ l, ls[j]? = some l ∧ l.n = rs[j].n + 20 ∧ SlAt (Cod.flat enc sz hsz) (fun b => b < w.heap.size) w rs[j].A (List.replicate rs[j].n (mk j)) ∧ SlAt (Cod.flat enc sz hsz) (fun b => b < w.heap.size) w l.A (grw mk nw j rs[j].n 20) := by
  subst hi
  obtain ⟨l, fp, h1, h2, h3⟩ := h.got j hj hj
  have hm := hc _ (List.mem_of_getElem? h3)
  obtain ⟨D, hD, hfp, _, hh⟩ := (hS.holds _ hm).1
  have hb : ∀ d ∈ D, ∀ b ∈ d.fp, b < w.heap.size := fun d hd b hb => (hS.inb _ hm b (by show b ∈ fp; rw [hfp]; exact List.mem_flatMap.2 ⟨d, hd, hb⟩)).1
  refine ⟨l, h1, h2, ?_⟩
  rcases hD with ⟨e1, e2, rfl⟩ | ⟨k, rfl⟩
  · have hd := hh _ (List.Mem.head _)
    have hf := ownAll (hsz := hsz) h0 (show RowAt w e sz _ _ _ from hd) (hb _ (List.Mem.head _))
    rw [e1]
    exact ⟨SlAt.pre hf, hf⟩
  · have hd := hh _ (List.Mem.head _)
    have hf := ownAll (hsz := hsz) h0 (show RowAt w e sz _ _ _ from hd) (hb _ (List.Mem.head _))
    have hd2 := hh _ (List.Mem.tail _ (List.Mem.head _))
    have hf2 := ownAll (hsz := hsz) h0 (show RowAt w e sz _ _ _ from hd2) (hb _ (List.Mem.tail _ (List.Mem.head _)))
    exact ⟨SlAt.pre hf2, hf⟩
end
end Go.J

/- What is proved: the walk's rules for calls that may panic, panics, interface values, functions that begin with a deferred call of a closure that recovers. Conditions: as each rule names them. -/
namespace Go.J
open Go Go.RowKit
def RetP (R : Value → World → Prop) (S : List PanicEntry → World → Prop) : Ending → World → Prop := fun e w => Ret R e w ∨ ∃ c, e = .panicked c ∧ S c w
structure CalP (P : Program) (fid : FuncId) (args : List Value) (w : World) (R : Value → World → Prop) (S : List PanicEntry → World → Prop) : Prop where
  ok : callOk P fid = true
  calls : Calls P fid ⟨args⟩ w (RetP R S)
theorem CalP.mono {P : Program} {fid : FuncId} {args : List Value} {w : World} {R R' : Value → World → Prop} {S S' : List PanicEntry → World → Prop} (h : CalP P fid args w R S) (hr : ∀ v w', R v w' → R' v w') (hs : ∀ c w', S c w' → S' c w') : CalP P fid args w R' S' :=
  ⟨h.ok, h.calls.mono fun e w' he => by
    rcases he with ⟨v, rfl, hv⟩ | ⟨c, rfl, hc⟩
    · exact .inl ⟨v, rfl, hr _ _ hv⟩
    · exact .inr ⟨c, rfl, hs _ _ hc⟩⟩
theorem CalP.mkL {P : Program} {fid : FuncId} {fn : Func} {c : Code} {args : List Value} {w : World} {R : Value → World → Prop} {S : List PanicEntry → World → Prop} {D : List Chunk} (hi : InL w D) (hk : callOk P fid = true)
    (hf : P.funcs[fid]? = some fn) (hb : fn.body = some c) (hn : Nat.ble args.length fn.ntmps = true)
    (h : St w (fps D) w D [⟨w, fun b => b < w.heap.size ∧ b ∉ fps D⟩] → WC P fn.ntmps c (fr0 args) w (funQ P fn.results fn (RetP R S))) : CalP P fid args w R S :=
  ⟨hk, J.calls hf hb hn (h (St.initL hi))⟩
section
variable {P : Program} {rs : Array ResultVar} {fn : Func} {R : Value → World → Prop} {S : List PanicEntry → World → Prop} {e : Exit} {f : Fr} {w : World} {c : List PanicEntry}
theorem finR (h : funQ P rs fn (Ret R) e f w) : funQ P rs fn (RetP R S) e f w := by
  unfold funQ at *
  cases e with
  | normal => obtain ⟨v, hv, h2⟩ := h; exact ⟨v, .inl hv, h2⟩
  | ret => obtain ⟨v, hv, h2⟩ := h; exact ⟨v, .inl hv, h2⟩
  | panic c => exact .inl h
  | exit i => exact h
  | goto l => exact h
  | outgrown => exact h
theorem finP (h : S c w) : funQ P rs fn (RetP R S) (.panic c) f w := by
  unfold funQ
  exact .inr ⟨c, rfl, h⟩
end
section
variable {P : Program} {N : Fz} {f : Fr} {w w0 : World} {Q : Post} {ops l : List Oper} {o : Oper} {M : List Nat} {H H' D : List Chunk} {Z : List Snap} {ρ : Operand → Value}
theorem WL.enterP (hg : wants ops f o = true) {d : Nat} (hd : o.dst = some d) (hn : N.ok d = true) {fid : FuncId} {args : Array Value} {w' : World} (hr : (execOp (ev f) o).run P w = .ok (.enter fid args) w')
    {R : Value → World → Prop} {S : List PanicEntry → World → Prop} (hc : Calls P fid args w' (RetP R S))
    (h : ∀ v w'', R v w'' → WL P N ops l (up f d v) w'' Q) (hx : ∀ c w'', S c w'' → Q (.panic c) (fun _ => undef) w'') : WL P N ops (o :: l) f w Q := by
  refine ⟨fun a ha => wpList_step fun K hK => ?_⟩
  rw [if_pos ((wanted_eq ha o).trans hg)]
  simp only [Oper.wp, ha.eval, hr, Oper.upon]
  refine hc.mono fun e w'' he => ?_
  rcases he with ⟨v, rfl, hR⟩ | ⟨c, rfl, hS⟩
  · exact hK _ _ ((h v w'' hR).out _ (ha.put1 hd hn v))
  · exact ⟨ha.defers, ha.pins, hx c w'' hS⟩
theorem WL.callPL {fid : FuncId} {xs : List Operand} {ts : Array TypeId} {args : List Value} {R : Value → World → Prop} {S : List PanicEntry → World → Prop} (hS : St w0 M w H Z) (hp : Pulls D H H') (ho : o.op = .call ⟨.value (.func fid), ⟨xs⟩, ts⟩) (ha : xs.map (ev f) = args) (hc : InL w D → CalP P fid args w R S)
    (hg : wants ops f o = true) {d : Nat} (hd : o.dst = some d) (hn : N.ok d = true) (h : ∀ v w', R v w' → (∀ D', MutL w w' D D' → St w0 M w' (D' ++ H') Z) → WL P N ops l (up f d v) w' Q)
    (hx : ∀ c w', S c w' → (∀ D', MutL w w' D D' → St w0 M w' (D' ++ H') Z) → Q (.panic c) (fun _ => undef) w') : WL P N ops (o :: l) f w Q :=
  have hS' := hS.pulls hp
  have hcc := hc hS'.inL
  .enterP hg hd hn (run_callOp ho ha hcc.ok) hcc.calls (fun v w' hR => h v w' hR fun D' hm => hS'.mutL hm) (fun c w' hs => hx c w' hs fun D' hm => hS'.mutL hm)
theorem WL.panic {x : Operand} {t : TypeId} {v : Value} (ho : o.op = .panic x) (hx : ev f x = .iface t v) (hg : wants ops f o = true)
    (h : Q (.panic [{ v := .iface t v, recovered := false }]) (fun _ => undef) w) : WL P N ops (o :: l) f w Q := by
  refine ⟨fun a ha => wpList_step fun K hK => ?_⟩
  rw [if_pos ((wanted_eq ha o).trans hg)]
  have hr : (execOp (ev f) o).run P w = .halt (.panic (.iface t v)) w := by
    simp only [execOp, ho, hx, Instr.panic, goPanic, Sem.run_bind]
    rfl
  simp only [Oper.wp, ha.eval, hr, Oper.upon]
  exact ⟨ha.defers, ha.pins, h⟩
def notIface (P : Program) (t : TypeId) : Bool := match P.underlying t with
  | some (.interface _) => false
  | some _ => true
  | none => false
theorem run_iface {t : TypeId} {x : Operand} (ho : o.op = .makeInterface t x) (ht : notIface P t = true) : (execOp ρ o).run P w = .ok (.value (.iface t (ρ x))) w := by
  unfold notIface at ht
  cases hu : P.underlying t with
  | none => rw [hu] at ht; cases ht
  | some d =>
    cases d <;> first
      | (rw [hu] at ht; exact absurd ht Bool.false_ne_true)
      | simp [execOp, ho, Instr.makeInterface, Sem.run_bind, run_under hu]
theorem WL.iface {t : TypeId} {x : Operand} {v : Value} (ho : o.op = .makeInterface t x) (ht : notIface P t = true) (hx : nfv (ev f x) = some v) (hg : wants ops f o = true) {d : Nat} (hd : o.dst = some d) (hn : N.ok d = true)
    (h : WL P N ops l (up f d (.iface t v)) w Q) : WL P N ops (o :: l) f w Q := by
  have e := nfv_eq hx
  subst e
  exact .val hg hd hn (run_iface ho ht) h
theorem run_assertOk {x : Operand} {xt t : TypeId} {v : Value} (ho : o.op = .typeAssert x xt t true) (ht : notIface P t = true) (hx : ρ x = .iface t v) : (execOp ρ o).run P w = .ok (.value (.tuple #[v, .bool true])) w := by
  unfold notIface at ht
  cases hu : P.underlying t with
  | none => rw [hu] at ht; cases ht
  | some d =>
    cases d <;> first
      | (rw [hu] at ht; exact absurd ht Bool.false_ne_true)
      | simp [execOp, ho, hx, Instr.typeAssert, Sem.run_bind, run_under hu]
theorem WL.assertOk {x : Operand} {xt t : TypeId} {v : Value} (ho : o.op = .typeAssert x xt t true) (ht : notIface P t = true) (hx : ev f x = .iface t v) (hg : wants ops f o = true) {d : Nat} (hd : o.dst = some d) (hn : N.ok d = true)
    (h : WL P N ops l (up f d (.tuple #[v, .bool true])) w Q) : WL P N ops (o :: l) f w Q := .val hg hd hn (run_assertOk ho ht hx) h
end
end Go.J

/- What is proved: the walk's rules for functions that begin with a deferred call, and for the closures that recover. Conditions: as each rule names them. -/
namespace Go.J
open Go Go.RowKit
theorem upon_swap {P : Program} {o : Oper} {a : Act} {K1 K2 : Act → World → Prop} {Q1 Q2 : Exit → Act → World → Prop} (hk : ∀ a w, K1 a w → K2 a w) (hp : ∀ c a w, Q1 (.panic c) a w → Q2 (.panic c) a w) (hl : LetsOut Q1 → LetsOut Q2) {r : Result Next}
    (h : o.upon P a K1 Q1 r) : o.upon P a K2 Q2 r := by
  unfold Oper.upon at *
  split at h
  · exact hk _ _ h
  · exact hk _ _ h
  · exact hk _ _ h
  · refine h.mono fun e w' he => ?_
    cases e with
    | returned v => exact hk _ _ he
    | panicked c => exact hp _ _ _ he
    | outgrown => exact hl he
  · exact fun c cs => let ⟨v, w', r, s⟩ := h c cs; ⟨v, w', hk _ _ r, s⟩
  · exact hp _ _ _ h
  · exact h.elim
def thenL (P : Program) (ops : Array Oper) (Q : Exit → Act → World → Prop) (l2 : List Oper) : Exit → Act → World → Prop
  | .normal, a, w => wpList P ops Q l2 a w
  | e, a, w => Q e a w
theorem wpList_app {P : Program} {ops : Array Oper} {Q : Exit → Act → World → Prop} : ∀ (l1 l2 : List Oper) (a : Act) (w : World), wpList P ops (thenL P ops Q l2) l1 a w → wpList P ops Q (l1 ++ l2) a w
  | [], _, _, _, h => h
  | o :: l1, l2, a, w, h => by
    unfold wpList at h
    rw [List.cons_append]
    unfold wpList
    split
    · rename_i hw
      rw [if_pos hw] at h
      rcases h with h | ⟨h1, a', w', h2⟩
      · exact .inl (upon_swap (fun a w => wpList_app l1 l2 a w) (fun _ _ _ h => h) (fun ⟨a, w, h⟩ => ⟨a, w, h⟩) h)
      · exact .inr ⟨h1, a', w', h2⟩
    · rename_i hw
      rw [if_neg hw] at h
      exact wpList_app l1 l2 _ _ h
theorem wpList_post {P : Program} {ops : Array Oper} {Q1 Q2 : Exit → Act → World → Prop} : ∀ (l : List Oper) (a : Act) (w : World), wpList P ops Q1 l a w → (∀ a w, Q1 .normal a w → Q2 .normal a w) → (∀ e a w, e ≠ .normal → Q1 e a w → Q2 e a w) → wpList P ops Q2 l a w
  | [], a, w, h, hn, _ => hn a w h
  | o :: l, a, w, h, hn, he => by
    unfold wpList at h ⊢
    split
    · rename_i hw
      rw [if_pos hw] at h
      rcases h with h | ⟨h1, a', w', h2⟩
      · exact .inl (upon_swap (fun a w h => wpList_post l a w h hn he) (fun _ _ _ h => he _ _ _ (by simp) h) (fun ⟨a, w, h⟩ => ⟨a, w, he _ _ _ (by simp) h⟩) h)
      · exact .inr ⟨h1, a', w', he _ _ _ (by simp) h2⟩
    · rename_i hw
      rw [if_neg hw] at h
      exact wpList_post l _ _ h hn he
section
variable {P : Program} {fn : Func} {tmps : Array Value} {R : Ending → World → Prop} {fv : Fn} {cap args : Array Value} {w : World} {f : FuncId} {S : World → Prop}
theorem leaves_ret (hi : (invoke (.fn fv cap) #[]).run P w = .ok (.enter f args) w) (hc : CallsD P f args .returning w fun e u' w' => u' = .returning ∧ (∃ x, e = .returned x) ∧ S w')
    (h : ∀ w', S w' → ∃ v, (results fn tmps).run P w' = .ok v w' ∧ R (.returned v) w') : Leaves P fn tmps R [⟨.fn fv cap, #[]⟩] .returning w := by
  refine leaves_cons (by simp) hi (hc.mono fun e u' w' he => ?_)
  obtain ⟨rfl, ⟨x, rfl⟩, hs⟩ := he
  exact h w' hs
theorem leaves_pan {x : Value} (hi : (invoke (.fn fv cap) #[]).run P w = .ok (.enter f args) w) (hc : CallsD P f args (.panicking [⟨x, false, false⟩]) w fun e u' w' => u' = .panicking [⟨x, true, false⟩] ∧ (∃ y, e = .returned y) ∧ S w')
    (h : ∀ w', S w' → ∃ v, (results fn tmps).run P w' = .ok v w' ∧ R (.returned v) w') : Leaves P fn tmps R [⟨.fn fv cap, #[]⟩] (.panicking [⟨x, false, false⟩]) w := by
  refine leaves_cons (by simp) hi (hc.mono fun e u' w' he => ?_)
  obtain ⟨rfl, ⟨y, rfl⟩, hs⟩ := he
  exact h w' hs
end
def dfQ (P : Program) (fn : Func) (N : Fz) (R : Ending → World → Prop) : Post
  | .normal, f, w => ∀ a, Is a N f → Leaves P fn a.tmps R N.ds .returning w
  | .ret, f, w => ∀ a, Is a N f → Leaves P fn a.tmps R N.ds .returning w
  | .panic c, _, w => ∀ tmps : Array Value, (∀ i, i < N.lo → tmps.getD i undef = N.pin i) → Leaves P fn tmps R N.ds (.panicking c) w
  | _, _, _ => False
def entQ (P : Program) (fn : Func) (lo : Nat) (x : Operand) (rest : Code) (R : Ending → World → Prop) : Post
  | .normal, f, w => ∃ fv cap, ev f x = .func fv #[] cap ∧ WC P ⟨fn.ntmps, [⟨.fn fv cap, #[]⟩], none, lo, f⟩ rest f w (dfQ P fn ⟨fn.ntmps, [⟨.fn fv cap, #[]⟩], none, lo, f⟩ R)
  | _, _, _ => False
theorem run_defer {P : Program} {ρ : Operand → Value} {od : Oper} {x : Operand} {ts : Array TypeId} {fv : Fn} {cap : Array Value} {w : World} (ho : od.op = .defer ⟨.value x, #[], ts⟩) (hx : ρ x = .func fv #[] cap) :
    (execOp ρ od).run P w = .ok (.defer ⟨.fn fv cap, #[]⟩) w := by
  simp [execOp, ho, resolve, hx, Deferred.ofValue, Sem.run_bind]
theorem opsS_of {P : Program} {ops : Array Oper} {Q : Exit → Act → List Frame → World → Prop} {cs : List Frame} (hQ : ∀ a w, ¬ Q .outgrown a cs w) : ∀ (l : List Nat) (a : Act) (w : World), wpOps P ops (fun e a w => Q e a cs w) l a w → wpOpsS P ops Q l a cs w
  | [], _, _, h => h
  | i :: l, a, w, h => by
    unfold wpOps at h
    unfold wpOpsS
    cases ho : ops[i]? with
    | none => rw [ho] at h; exact opsS_of hQ l a w h
    | some o =>
      rw [ho] at h
      dsimp only at h ⊢
      split
      · rename_i hw
        rw [if_pos hw] at h
        rcases h with h | ⟨_, a', w', h2⟩
        · unfold Oper.wp at h
          generalize (execOp a.eval o).run P w = r at h ⊢
          have h' : o.upon P a (fun a' w' => wpOpsS P ops Q l a' cs w') (fun e a' w' => Q e a' cs w') r := upon_swap (fun a w h => opsS_of hQ l a w h) (fun _ _ _ h => h) (fun h => h) h
          split
          · exact h'.elim
          · exact h'
        · exact (hQ _ _ h2).elim
      · rename_i hw
        rw [if_neg hw] at h
        exact opsS_of hQ l _ _ h
theorem run_recover {P : Program} {ts : Array TypeId} {ρ : Operand → Value} {o : Oper} {w : World} (ho : o.op = .call ⟨.builtin .recover, #[], ts⟩) : (execOp ρ o).run P w = .ok .recover w := by
  simp [execOp, ho, resolve, invoke, builtin, Sem.run_bind]
theorem callsD_rec {P : Program} {fid : FuncId} {fn : Func} {id : Nat} {o : Oper} {l : List Oper} {rest : Code} {args : List Value} {w : World} {R : Value → World → Prop} {x : Value} {u u' : FrameMode} {ts : Array TypeId}
    (hf : P.funcs[fid]? = some fn) (hb : fn.body = some (.seq (.region id (o :: l).toArray false) rest)) (hn : Nat.ble args.length fn.ntmps = true) (ho : o.op = .call ⟨.builtin .recover, #[], ts⟩) (hg : o.guard = none) {d : Nat} (hd : o.dst = some d) (hdn : Nat.blt d fn.ntmps = true)
    (hu : (u = .returning ∧ u' = .returning ∧ x = .nilIface) ∨ (u = .panicking [⟨x, false, false⟩] ∧ u' = .panicking [⟨x, true, false⟩]))
    (h : WL P fn.ntmps (o :: l) l (up (fr0 args) d x) w (seqQ P fn.ntmps rest (funQ P fn.results fn (Ret R)))) :
    CallsD P fid args.toArray u w fun e u'' w' => u'' = u' ∧ Ret R e w' := by
  refine callsD_of_wpS hf hb fun c₀ cs hm => wpS_seq (wpS_region ?_)
  have hfr : Is { tmps := args.toArray ++ Array.replicate (fn.ntmps - args.toArray.size) undef, defers := [] } fn.ntmps (fr0 args) := by
    refine ⟨rfl, ?_, fun i hi => absurd hi (Nat.not_lt_zero _), ?_⟩
    · have : args.length ≤ fn.ntmps := Nat.le_of_ble_eq_true hn
      simp; omega
    · intro i
      simp only [fr0, Array.getD_eq_getD_getElem?]
      rw [Array.getElem?_append]
      simp only [List.size_toArray, List.getElem?_toArray]
      by_cases hi : i < args.length
      · rw [if_pos hi]; simp [hi]
      · rw [if_neg hi]
        have : args[i]? = none := List.getElem?_eq_none (by omega)
        rw [this]
        simp only [Array.getElem?_replicate]
        split <;> rfl
  have hok : Fz.ok (fn.ntmps : Fz) d = true := by
    unfold Fz.ok
    rw [hdn]
    rfl
  generalize ({ tmps := args.toArray ++ Array.replicate (fn.ntmps - args.toArray.size) undef, defers := [] } : Act) = a0 at *
  have h1 := h.out _ (hfr.put1 hd hok x)
  rw [show (o :: l).toArray.size = l.length + 1 by simp, List.range_eq_range', List.range'_succ]
  unfold wpOpsS
  rw [List.getElem?_toArray]
  dsimp only [List.getElem?_cons_zero]
  have hwn : Region.wanted o (yielded (o :: l).toArray a0.tmps) = true := by unfold Region.wanted; rw [hg]
  rw [if_pos hwn, run_recover ho]
  dsimp only
  -- the frame that the closure was called from, behind the recovery
  have key : ∀ Q : Exit → Act → List Frame → World → Prop, wpOpsS P (o :: l).toArray Q (List.range' 1 l.length) (a0.put o.dst x) ({ c₀ with mode := u' } :: cs) w →
      (match recoverD (c₀ :: cs) with
        | some (v, cs') => wpOpsS P (o :: l).toArray Q (List.range' (0 + 1) l.length) (a0.put o.dst v) cs' w
        | none => wpOpsS P (o :: l).toArray Q (List.range' (0 + 1) l.length) (a0.put o.dst .nilIface) (c₀ :: cs) w) := by
    intro Q hq
    rcases hu with ⟨rfl, rfl, rfl⟩ | ⟨rfl, rfl⟩
    · have e : recoverD (c₀ :: cs) = none := by simp [recoverD, hm]
      rw [e]
      have e2 : ({ c₀ with mode := FrameMode.returning } : Frame) = c₀ := by rw [← hm]
      rw [e2] at hq
      exact hq
    · have e : recoverD (c₀ :: cs) = some (x, { c₀ with mode := .panicking [⟨x, true, false⟩] } :: cs) := by simp [recoverD, hm]
      rw [e]
      exact hq
  refine key _ (opsS_of (fun a w hq => ?_) _ _ _ ?_)
  · obtain ⟨_, hq⟩ := (show ∃ u', u' = _ ∧ Ret R .outgrown w from hq)
    obtain ⟨v, hv, _⟩ := hq.2
    cases hv
  · rw [wpOps_eq_wpList (ops := (o :: l).toArray) l 1 (fun j => by rw [List.getElem?_toArray, Nat.add_comm, List.getElem?_cons_succ])]
    have fin : ∀ e a' w', lift fn.ntmps (funQ P fn.results fn (Ret R)) e a' w' → bodyPostS P fn c₀ cs (fun e u'' w' => u'' = u' ∧ Ret R e w') e a' ({ c₀ with mode := u' } :: cs) w' := by
      intro e a' w' hq
      unfold funQ at hq
      cases e with
      | normal => obtain ⟨f', hf', v, hR, hv⟩ := hq; exact ⟨hf'.defers, u', rfl, v, hv a' hf', rfl, hR⟩
      | ret => obtain ⟨f', hf', v, hR, hv⟩ := hq; exact ⟨hf'.defers, u', rfl, v, hv a' hf', rfl, hR⟩
      | panic c => exact ⟨hq.1, u', rfl, rfl, hq.2.2⟩
      | exit i => obtain ⟨_, _, h⟩ := hq; exact h.elim
      | goto l => obtain ⟨_, _, h⟩ := hq; exact h.elim
      | outgrown => exact hq.elim
    refine wpList_post _ _ _ h1 (fun a' w' hq => ?_) (fun e a' w' hne hq => ?_)
    · obtain ⟨f', hf', hw⟩ := hq
      unfold seqQ at hw
      exact wpS_of_wp (wp_mono ((wpIn_wide (n := 0)).1 (hw.out a' hf')) fun e a2 w2 hq => fin e a2 w2 hq)
    · unfold seqQ at hq
      cases e with
      | normal => exact absurd rfl hne
      | ret => exact fin .ret _ _ hq
      | panic c => exact fin (.panic c) _ _ hq
      | exit i => exact fin (.exit i) _ _ hq
      | goto l => exact fin (.goto l) _ _ hq
      | outgrown => exact hq.elim
end Go.J
