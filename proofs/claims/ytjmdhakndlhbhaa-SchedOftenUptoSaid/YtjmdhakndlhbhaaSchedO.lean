/- What is proved: the law SchedOften answers true. Conditions: none. -/
import Derived.Test.YtjmdhakndlhbhaaSchedL
set_option linter.unusedSimpArgs false
set_option linter.unusedVariables false
namespace Go.Proofs.Ytjmdhakndlhbhaa
open Go Go.J Go.RowKit

theorem dueL_le (clock : Int) (s : Stg) (n : Nat) : ∀ x ∈ dueL clock s n, 1 ≤ x ∧ x ≤ n := by
  induction n with
  | zero => simp [dueL]
  | succ n ih =>
    intro x hx
    simp only [dueL, List.mem_append] at hx
    rcases hx with hx | hx
    · have := ih x hx; omega
    · split at hx <;> simp at hx; omega
theorem dueL_sorted (clock : Int) (s : Stg) (n : Nat) : (dueL clock s n).Pairwise (· < ·) := by
  induction n with
  | zero => simp [dueL]
  | succ n ih =>
    simp only [dueL]
    refine List.pairwise_append.2 ⟨ih, by split <;> simp, fun a ha b hb => ?_⟩
    have := dueL_le clock s n a ha
    split at hb <;> simp at hb; omega
theorem dueL_lt (clock : Int) (s : Stg) (n k : Nat) (h0 : 0 < k) (h : k < (dueL clock s n).length) : (dueL clock s n)[k - 1] < (dueL clock s n)[k] :=
  List.pairwise_iff_getElem.1 (dueL_sorted clock s n) (k - 1) k (by omega) h (by omega)
theorem dueL_count (clock : Int) (s : Stg) (j : Nat) (h1 : 1 ≤ j) (n : Nat) : (dueL clock s n).count (j : Int) = if j ≤ n ∧ dueF clock s j = true then 1 else 0 := by
  induction n with
  | zero => rw [if_neg (by omega)]; simp [dueL]
  | succ n ih =>
    simp only [dueL, List.count_append, ih]
    by_cases e : j = n + 1
    · subst e
      rw [if_neg (by omega)]
      cases hd : dueF clock s (n + 1) <;> simp
    · have h2 : ∀ b : Bool, (if b = true then [((n + 1 : Nat) : Int)] else []).count (j : Int) = 0 := fun b => by
        cases b
        · simp
        · simp only [if_true, List.count_singleton]; rw [if_neg]; simp; omega
      rw [h2]
      by_cases hle : j ≤ n
      · simp [hle, show j ≤ n + 1 by omega]
      · simp [hle, show ¬ j ≤ n + 1 by omega]
theorem count_take {l : List Int} {k : Nat} (x : Int) (h : k < l.length) : (l.take (k + 1)).count x = (l.take k).count x + if l[k] = x then 1 else 0 := by
  rw [List.take_succ_eq_append_getElem h, List.count_append, List.count_singleton]
  congr 1
  by_cases e : l[k] = x <;> simp [e]

theorem ints_at {l : List Int} {k : Nat} (h : k < l.length) : (ints l)[k]? = some (.int .i64 l[k]) := by
  induction l generalizing k with
  | nil => simp at h
  | cons a l ih =>
    rw [ints_cons]
    cases k with
    | zero => rfl
    | succ k => simpa using ih (by simpa using h)
/-- how often spoke j was due in the first i times -/
def often (clock : Int) (s : Stg) (j : Nat) : Nat → Nat
  | 0 => 0
  | i + 1 => often clock s j i + if dueF (clock + i) s j = true then 1 else 0
theorem often_le (clock : Int) (s : Stg) (j i : Nat) : often clock s j i ≤ i := by
  induction i with
  | zero => simp [often]
  | succ i ih => simp only [often]; split <;> omega
theorem often_none (clock : Int) (s : Stg) (j : Nat) (h : s.per.getD j 0 < 1) (i : Nat) : often clock s j i = 0 := by
  induction i with
  | zero => rfl
  | succ i ih =>
    have : dueF (clock + i) s j = false := by unfold dueF; rw [decide_eq_false (p := 0 < s.per.getD j 0) (by omega)]; simp
    simp [often, ih, this]
theorem often_one (clock : Int) (s : Stg) (j : Nat) (p : Int) (hp : s.per.getD j 0 = p) (h1 : 1 ≤ p) (hs : (j : Int) ≤ s.sp) (hc : 0 ≤ clock) (i : Nat) (hi : (i : Int) ≤ p) :
    often clock s j i = if clock % p = 0 then (if i = 0 then 0 else 1) else if (i : Int) ≤ p - clock % p then 0 else 1 := by
  have hr0 := Int.emod_nonneg clock (show p ≠ 0 by omega)
  have hr1 := Int.emod_lt_of_pos clock (show 0 < p by omega)
  induction i with
  | zero =>
    simp only [often]
    by_cases h : clock % p = 0
    · simp [h]
    · rw [if_neg h, if_pos (by omega)]
  | succ i ih =>
    have ih := ih (by omega)
    have hd : dueF (clock + i) s j = decide ((clock + i) % p = 0) := by
      unfold dueF
      rw [hp, decide_eq_true hs, decide_eq_true (show 0 < p by omega)]
      simp
    have he : (clock + i) % p = (clock % p + i) % p := by rw [Int.emod_add_emod]
    simp only [often, hd, ih]
    generalize hr : clock % p = r at *
    by_cases h : r = 0
    · subst h
      simp only [if_true]
      rw [he, Int.zero_add]
      by_cases hz : i = 0
      · subst hz; simp
      · have : (i : Int) % p = i := Int.emod_eq_of_lt (by omega) (by omega)
        rw [this]
        rw [if_neg hz, if_neg (by simp; omega)]; simp
    · simp only [if_neg h]
      by_cases h2 : r + i < p
      · have : (r + i) % p = r + i := Int.emod_eq_of_lt (by omega) h2
        rw [he, this]
        simp only [decide_eq_true_eq]
        split <;> split <;> split <;> omega
      · have : (r + i) % p = r + i - p := by
          rw [← Int.sub_emod_right]; exact Int.emod_eq_of_lt (by omega) (by omega)
        rw [he, this]
        simp only [decide_eq_true_eq]
        split <;> split <;> split <;> omega

theorem often_end (clock : Int) (s : Stg) (j n : Nat) (hp : s.per.getD j 0 = (n : Int)) (h1 : 1 ≤ n) (hs : (j : Int) ≤ s.sp) (hc : 0 ≤ clock) : often clock s j n = 1 := by
  rw [often_one clock s j n hp (by omega) hs hc n (Int.le_refl _)]
  have hr0 := Int.emod_nonneg clock (show (n : Int) ≠ 0 by omega)
  split
  · rw [if_neg (by omega)]
  · rw [if_neg (by omega)]

set_option maxHeartbeats 16000000 in
theorem schedOften_c (clock : Int) (s : Stg) (sp : Int) (hl : s.per.length = 7) (hr : s.room.length = 7) (w0 : World) : Cal Try.prog 7 [.int .i64 clock, .agg ⟨s.cells⟩, .int .i64 sp] w0 (fun v w' => Upd [] w0 w' ∧ v = .bool true) := by
  refine Cal.mk' (by kernel_rfl) Try.func7 rfl rfl fun hS => ?_
  have hsz : tySize Try.prog 32 = some s.cells.length := by simp only [Stg.cells, List.length_cons, List.length_append, List.length_map, hl, hr]; rfl
  by_cases hj : 1 ≤ sp ∧ sp ≤ 6
  · obtain ⟨j, rfl⟩ := Int.eq_ofNat_of_zero_le (show 0 ≤ sp by omega)
    obtain ⟨p, hp⟩ : ∃ p, s.per[j]? = some p := ⟨s.per[j], List.getElem?_eq_getElem (by omega)⟩
    have hcell : s.cells[0 + 3 + j * 1]? = some (.int .i64 p) := by rw [Nat.mul_one, Nat.zero_add]; exact s.per_at j p hp
    have hgd : s.per.getD j 0 = p := by simp [hp]
    clear hp
    by_cases hv : 0 ≤ clock ∧ clock ≤ 1099511627776 ∧ (j : Int) ≤ s.sp ∧ p ≤ 300
    · obtain ⟨hv1, hv2, hv3, hv4⟩ := hv
      obtain ⟨T, hT0, hT⟩ : ∃ T : Nat, T ≤ 300 ∧ ((p < 1 ∧ T = 20 ∧ often clock s j T = 0) ∨ (¬ p < 1 ∧ p = T ∧ often clock s j T = 1)) := by
        by_cases h : p < 1
        · exact ⟨20, by omega, .inl ⟨h, rfl, often_none clock s j (by rw [hgd]; exact h) 20⟩⟩
        · obtain ⟨T, hT⟩ := Int.eq_ofNat_of_zero_le (show 0 ≤ p by omega)
          exact ⟨T, by omega, .inr ⟨h, hT, often_end clock s j T (hgd.trans hT) (by omega) hv3 hv1⟩⟩
      rcases hT with ⟨hp1, hT, hfin⟩ | ⟨hp1, hT, hfin⟩
      all_goals
        repeat' (first
          | (show WL _ _ _ _ _ _ _; first
            | refine WL.pure rfl rfl rfl rfl ?_
            | refine WL.nil ?_
            | refine WL.load hS rfl rfl (LdOk.box (by repeat (first | exact List.Mem.head _ | apply List.Mem.tail)) rfl) rfl rfl rfl ?_
            | refine WL.add rfl rfl rfl (by omega) rfl rfl rfl ?_
            | refine WL.sub rfl rfl rfl (by omega) rfl rfl rfl ?_
            | (refine WL.calls hS rfl rfl (sawake_c _) rfl rfl rfl ?_; rintro v w rfl hS)
            | refine WL.indexArr rfl rfl rfl rfl (by omega) rfl rfl rfl ?_
            | refine WL.load hS rfl rfl (LdOk.boxAt (by repeat (first | exact List.Mem.head _ | apply List.Mem.tail)) rfl ⟨_, rfl⟩ hcell rfl) rfl rfl rfl ?_
            | (refine WL.store hS rfl rfl rfl (by repeat (first | exact StB.here rfl | apply StB.there)) rfl rfl rfl ?_; intro w hS)
            | (refine WL.box hS rfl rfl rfl rfl rfl ?_; intro w b hS)
            | (refine WL.alloc hS rfl rfl rfl rfl rfl rfl ?_; intro w b hS)
            | refine WL.index rfl rfl rfl rfl (by assumption) rfl rfl rfl rfl ?_
            | refine WL.indexArr rfl rfl rfl rfl (by decide) rfl rfl rfl ?_
            | refine WL.skip rfl rfl rfl ?_
            | refine WL.build rfl rfl rfl rfl rfl ?_
            | (refine WL.slit hS rfl rfl rfl rfl rfl ?_; intro w b hS)
            | refine WL.eqS rfl rfl rfl rfl (by kernel_rfl) rfl rfl rfl ?_
            | refine WL.neS rfl rfl rfl rfl (by kernel_rfl) rfl rfl rfl ?_
            | ((fail_if_success (refine WL.wanted rfl ?_)); refine WL.guard rfl rfl rfl (fun h => ?_) (fun h => ?_) <;> (try simp only [decide_eq_true_eq, decide_eq_false_iff_not] at h) <;> (try (exfalso; omega))))
          | (show WC _ _ _ _ _ _; first
            | refine WC.seq ?_
            | refine WC.region ?_
            | refine WC.block ?_
            | refine WC.skip ?_
            | refine WC.exit ?_
            | refine WC.ret ?_
            | refine WC.condT rfl rfl ?_
            | refine WC.condF rfl rfl ?_
            | refine WC.condT rfl (decide_eq_true (by first | assumption | omega)) ?_
            | refine WC.condF rfl (decide_eq_false (by first | assumption | omega)) ?_
            | (refine WC.cond rfl (fun h => ?_) (fun h => ?_) <;> (try simp only [decide_eq_true_eq, decide_eq_false_iff_not] at h) <;> (try (exfalso; omega))))
          | (show WD _ _ _ _ _ _ _ _ _; first
            | refine WD.pure rfl rfl rfl rfl rfl ?_
            | refine WD.nil ?_
            | refine WD.load rfl rfl (LdOk.box (by repeat (first | exact List.Mem.head _ | apply List.Mem.tail)) rfl) rfl rfl rfl rfl ?_
            | refine WD.add rfl rfl rfl (by omega) rfl rfl rfl rfl ?_
            | refine WD.sub rfl rfl rfl (by omega) rfl rfl rfl rfl ?_
            | refine WD.index rfl rfl rfl rfl (by assumption) rfl rfl rfl rfl rfl ?_
            | refine WD.indexArr rfl rfl rfl rfl (by decide) rfl rfl rfl rfl ?_
            | refine WD.pass rfl rfl rfl rfl ?_
            | refine WD.build rfl rfl rfl rfl rfl rfl ?_
            | (refine WD.slit hS hM rfl rfl rfl rfl rfl rfl rfl ?_; intro w b hS hM)
            | refine WD.eqS rfl rfl rfl rfl (by kernel_rfl) rfl rfl rfl rfl ?_
            | refine WD.neS rfl rfl rfl rfl (by kernel_rfl) rfl rfl rfl rfl ?_
            | (refine WD.box hS hM rfl rfl rfl rfl rfl rfl rfl ?_; intro w b hS hM)
            | ((fail_if_success (refine WD.wanted rfl ?_)); refine WD.guard rfl rfl rfl (fun h => ?_) (fun h => ?_) <;> (try simp only [decide_eq_true_eq, decide_eq_false_iff_not] at h) <;> (try (exfalso; omega))))
          | refine seqQ_n ?_
          | refine blkQ_n ?_
          | refine seqQ_x ?_
          | refine seqQ_r ?_
          | refine blkQ_r ?_
          | refine blkQ_hit rfl ?_
          | refine blkQ_miss rfl ?_
          | refine rndQ_x ?_
          | refine rndQ_r ?_
          | refine rdQ_n ?_
          | refine rdQ_x ?_
          | refine rdQ_r ?_)
        refine WC.loop (σ := Nat) [0, 2, 4, 8] (fun i => [(7, .int .i64 (often clock s j i : Int)), (9, .int .i64 (i : Int))]) (fun i w => i ≤ T ∧ St w0 [] w [.box _ 32 s.cells] _) (fun i => T - i) 0 ⟨Nat.zero_le _, hS⟩ ⟨rfl, rfl, trivial⟩ ?_
        clear hS
        rintro i g w ⟨hi, hS⟩
        have hol := often_le clock s j i
        by_cases hlt : i < T
        · have hdl := dueL_len (clock + i) s 6
          have hcnt := dueL_count (clock + i) s j (by omega) 6
          repeat' (first
            | (show WL _ _ _ _ _ _ _; first
              | refine WL.pure rfl rfl rfl rfl ?_
              | refine WL.nil ?_
              | refine WL.load hS rfl rfl (LdOk.box (by repeat (first | exact List.Mem.head _ | apply List.Mem.tail)) rfl) rfl rfl rfl ?_
              | refine WL.add rfl rfl rfl (by omega) rfl rfl rfl ?_
              | refine WL.sub rfl rfl rfl (by omega) rfl rfl rfl ?_
              | refine WL.load hS rfl rfl (LdOk.boxAll (by repeat (first | exact List.Mem.head _ | apply List.Mem.tail)) rfl hsz) rfl rfl rfl ?_
              | (refine WL.callG rfl rfl (due_c (clock + i) s hl (by omega) _) rfl rfl rfl ?_; rintro v w ⟨hu, A, cap, rfl, hn⟩; have hS := hS.new hu hn; clear hu hn)
              | (refine WL.store hS rfl rfl rfl (by repeat (first | exact StB.here rfl | apply StB.there)) rfl rfl rfl ?_; intro w hS)
              | (refine WL.box hS rfl rfl rfl rfl rfl ?_; intro w b hS)
              | (refine WL.alloc hS rfl rfl rfl rfl rfl rfl ?_; intro w b hS)
              | refine WL.index rfl rfl rfl rfl (by assumption) rfl rfl rfl rfl ?_
              | refine WL.indexArr rfl rfl rfl rfl (by decide) rfl rfl rfl ?_
              | refine WL.skip rfl rfl rfl ?_
              | refine WL.build rfl rfl rfl rfl rfl ?_
              | (refine WL.slit hS rfl rfl rfl rfl rfl ?_; intro w b hS)
              | refine WL.eqS rfl rfl rfl rfl (by kernel_rfl) rfl rfl rfl ?_
              | refine WL.neS rfl rfl rfl rfl (by kernel_rfl) rfl rfl rfl ?_
              | ((fail_if_success (refine WL.wanted rfl ?_)); refine WL.guard rfl rfl rfl (fun h => ?_) (fun h => ?_) <;> (try simp only [decide_eq_true_eq, decide_eq_false_iff_not] at h) <;> (try (exfalso; omega))))
            | (show WC _ _ _ _ _ _; first
              | refine WC.seq ?_
              | refine WC.region ?_
              | refine WC.block ?_
              | refine WC.skip ?_
              | refine WC.exit ?_
              | refine WC.ret ?_
              | refine WC.condT rfl rfl ?_
              | refine WC.condF rfl rfl ?_
              | refine WC.condT rfl (decide_eq_true (by first | assumption | omega)) ?_
              | refine WC.condF rfl (decide_eq_false (by first | assumption | omega)) ?_
              | (refine WC.cond rfl (fun h => ?_) (fun h => ?_) <;> (try simp only [decide_eq_true_eq, decide_eq_false_iff_not] at h) <;> (try (exfalso; omega))))
            | (show WD _ _ _ _ _ _ _ _ _; first
              | refine WD.pure rfl rfl rfl rfl rfl ?_
              | refine WD.nil ?_
              | refine WD.load rfl rfl (LdOk.box (by repeat (first | exact List.Mem.head _ | apply List.Mem.tail)) rfl) rfl rfl rfl rfl ?_
              | refine WD.add rfl rfl rfl (by omega) rfl rfl rfl rfl ?_
              | refine WD.sub rfl rfl rfl (by omega) rfl rfl rfl rfl ?_
              | refine WD.index rfl rfl rfl rfl (by assumption) rfl rfl rfl rfl rfl ?_
              | refine WD.indexArr rfl rfl rfl rfl (by decide) rfl rfl rfl rfl ?_
              | refine WD.pass rfl rfl rfl rfl ?_
              | refine WD.build rfl rfl rfl rfl rfl rfl ?_
              | (refine WD.slit hS hM rfl rfl rfl rfl rfl rfl rfl ?_; intro w b hS hM)
              | refine WD.eqS rfl rfl rfl rfl (by kernel_rfl) rfl rfl rfl rfl ?_
              | refine WD.neS rfl rfl rfl rfl (by kernel_rfl) rfl rfl rfl rfl ?_
              | (refine WD.box hS hM rfl rfl rfl rfl rfl rfl rfl ?_; intro w b hS hM)
              | ((fail_if_success (refine WD.wanted rfl ?_)); refine WD.guard rfl rfl rfl (fun h => ?_) (fun h => ?_) <;> (try simp only [decide_eq_true_eq, decide_eq_false_iff_not] at h) <;> (try (exfalso; omega))))
            | refine seqQ_n ?_
            | refine blkQ_n ?_
            | refine seqQ_x ?_
            | refine seqQ_r ?_
            | refine blkQ_r ?_
            | refine blkQ_hit rfl ?_
            | refine blkQ_miss rfl ?_
            | refine rndQ_x ?_
            | refine rndQ_r ?_
            | refine rdQ_n ?_
            | refine rdQ_x ?_
            | refine rdQ_r ?_)
          refine WC.loop (σ := Nat) [0, 2, 4, 8, 9, 10] (fun k => [(7, .int .i64 ((often clock s j i : Int) + (((dueL (clock + i) s 6).take k).count (j : Int) : Nat))), (11, .int .i64 (k : Int))]) (fun k w => k ≤ (dueL (clock + i) s 6).length ∧ St w0 [] w [_, .box _ 32 s.cells] _) (fun k => (dueL (clock + i) s 6).length - k) 0 ⟨Nat.zero_le _, hS⟩ ⟨rfl, rfl, trivial⟩ ?_
          clear hS
          rintro k g w ⟨hk, hS⟩
          have hcl : ((dueL (clock + i) s 6).take k).count (j : Int) ≤ k := Nat.le_trans List.count_le_length (List.length_take_le _ _)
          by_cases hkl : k < (dueL (clock + i) s 6).length
          · obtain ⟨ga, rfl⟩ := hS.own_addr (List.Mem.head _) (by omega)
            have hck := count_take (j : Int) hkl
            have hx : (ints (dueL (clock + i) s 6))[0 + k * 1]? = some (.int .i64 (dueL (clock + i) s 6)[k]) := by rw [Nat.mul_one, Nat.zero_add]; exact ints_at hkl
            rcases k with _ | m
            · generalize hxk : (dueL (clock + i) s 6)[0] = x at *
              by_cases hxj : x = j
              all_goals
                repeat' (first
                  | (show WL _ _ _ _ _ _ _; first
                    | refine WL.pure rfl rfl rfl rfl ?_
                    | refine WL.nil ?_
                    | refine WL.load hS rfl rfl (LdOk.box (by repeat (first | exact List.Mem.head _ | apply List.Mem.tail)) rfl) rfl rfl rfl ?_
                    | refine WL.add rfl rfl rfl (by omega) rfl rfl rfl ?_
                    | refine WL.sub rfl rfl rfl (by omega) rfl rfl rfl ?_
                    | refine WL.index rfl rfl rfl rfl (by omega) rfl rfl rfl rfl ?_
                    | refine WL.load hS rfl rfl (LdOk.ownAt (by repeat (first | exact List.Mem.head _ | apply List.Mem.tail)) rfl ⟨_, rfl⟩ hx rfl) rfl rfl rfl ?_
                    | (refine WL.store hS rfl rfl rfl (by repeat (first | exact StB.here rfl | apply StB.there)) rfl rfl rfl ?_; intro w hS)
                    | (refine WL.box hS rfl rfl rfl rfl rfl ?_; intro w b hS)
                    | (refine WL.alloc hS rfl rfl rfl rfl rfl rfl ?_; intro w b hS)
                    | refine WL.index rfl rfl rfl rfl (by assumption) rfl rfl rfl rfl ?_
                    | refine WL.indexArr rfl rfl rfl rfl (by decide) rfl rfl rfl ?_
                    | refine WL.skip rfl rfl rfl ?_
                    | refine WL.build rfl rfl rfl rfl rfl ?_
                    | (refine WL.slit hS rfl rfl rfl rfl rfl ?_; intro w b hS)
                    | refine WL.eqS rfl rfl rfl rfl (by kernel_rfl) rfl rfl rfl ?_
                    | refine WL.neS rfl rfl rfl rfl (by kernel_rfl) rfl rfl rfl ?_
                    | ((fail_if_success (refine WL.wanted rfl ?_)); refine WL.guard rfl rfl rfl (fun h => ?_) (fun h => ?_) <;> (try simp only [decide_eq_true_eq, decide_eq_false_iff_not] at h) <;> (try (exfalso; omega))))
                  | (show WC _ _ _ _ _ _; first
                    | refine WC.seq ?_
                    | refine WC.region ?_
                    | refine WC.block ?_
                    | refine WC.skip ?_
                    | refine WC.exit ?_
                    | refine WC.ret ?_
                    | (refine WC.drawS hS [0,1,2,3,4,5,6,7,8,9,10,11,12,13] [0,1,2,3,4,5,6,7,8,9,10,11,12,13] (by kernel_rfl) (by kernel_rfl) ?_; intro w hS hM)
                    | refine WC.condT rfl rfl ?_
                    | refine WC.condF rfl rfl ?_
                    | refine WC.condT rfl (decide_eq_true (by first | assumption | omega)) ?_
                    | refine WC.condF rfl (decide_eq_false (by first | assumption | omega)) ?_
                    | (refine WC.cond rfl (fun h => ?_) (fun h => ?_) <;> (try simp only [decide_eq_true_eq, decide_eq_false_iff_not] at h) <;> (try (exfalso; omega))))
                  | (show WD _ _ _ _ _ _ _ _ _; first
                    | refine WD.pure rfl rfl rfl rfl rfl ?_
                    | refine WD.nil ?_
                    | refine WD.load rfl rfl (LdOk.box (by repeat (first | exact List.Mem.head _ | apply List.Mem.tail)) rfl) rfl rfl rfl rfl ?_
                    | refine WD.add rfl rfl rfl (by omega) rfl rfl rfl rfl ?_
                    | refine WD.sub rfl rfl rfl (by omega) rfl rfl rfl rfl ?_
                    | refine WD.index rfl rfl rfl rfl (by assumption) rfl rfl rfl rfl rfl ?_
                    | refine WD.indexArr rfl rfl rfl rfl (by decide) rfl rfl rfl rfl ?_
                    | refine WD.pass rfl rfl rfl rfl ?_
                    | refine WD.build rfl rfl rfl rfl rfl rfl ?_
                    | (refine WD.slit hS hM rfl rfl rfl rfl rfl rfl rfl ?_; intro w b hS hM)
                    | refine WD.eqS rfl rfl rfl rfl (by kernel_rfl) rfl rfl rfl rfl ?_
                    | refine WD.neS rfl rfl rfl rfl (by kernel_rfl) rfl rfl rfl rfl ?_
                    | (refine WD.box hS hM rfl rfl rfl rfl rfl rfl rfl ?_; intro w b hS hM)
                    | ((fail_if_success (refine WD.wanted rfl ?_)); refine WD.guard rfl rfl rfl (fun h => ?_) (fun h => ?_) <;> (try simp only [decide_eq_true_eq, decide_eq_false_iff_not] at h) <;> (try (exfalso; omega))))
                  | refine seqQ_n ?_
                  | refine blkQ_n ?_
                  | refine seqQ_x ?_
                  | refine seqQ_r ?_
                  | refine blkQ_r ?_
                  | refine blkQ_hit rfl ?_
                  | refine blkQ_miss rfl ?_
                  | refine rndQ_x ?_
                  | refine rndQ_r ?_
                  | refine rdQ_n ?_
                  | refine rdQ_x ?_
                  | refine rdQ_r ?_)
                exact rndQ_n (0 + 1) ⟨by omega, hS⟩ (by omega) ⟨vint (by rw [hck]; first | (rw [if_pos hxj]; omega) | (rw [if_neg hxj]; omega)), vint (by omega), trivial⟩ ⟨rfl, rfl, rfl, rfl, rfl, rfl, trivial⟩
            · have hsm : (dueL (clock + i) s 6)[m] < (dueL (clock + i) s 6)[m + 1] := dueL_lt (clock + i) s 6 (m + 1) (by omega) hkl
              have hx0 : (ints (dueL (clock + i) s 6))[0 + m * 1]? = some (.int .i64 (dueL (clock + i) s 6)[m]) := by rw [Nat.mul_one, Nat.zero_add]; exact ints_at (by omega)
              generalize hxk : (dueL (clock + i) s 6)[m + 1] = x at *
              generalize hxm : (dueL (clock + i) s 6)[m] = y at *
              by_cases hxj : x = j
              all_goals
                repeat' (first
                  | (show WL _ _ _ _ _ _ _; first
                    | refine WL.pure rfl rfl rfl rfl ?_
                    | refine WL.nil ?_
                    | refine WL.load hS rfl rfl (LdOk.box (by repeat (first | exact List.Mem.head _ | apply List.Mem.tail)) rfl) rfl rfl rfl ?_
                    | refine WL.add rfl rfl rfl (by omega) rfl rfl rfl ?_
                    | refine WL.sub rfl rfl rfl (by omega) rfl rfl rfl ?_
                    | refine WL.index rfl rfl rfl rfl (by omega) rfl rfl rfl rfl ?_
                    | refine WL.load hS rfl rfl (LdOk.ownAt (by repeat (first | exact List.Mem.head _ | apply List.Mem.tail)) rfl ⟨_, rfl⟩ hx rfl) rfl rfl rfl ?_
                    | (refine WL.store hS rfl rfl rfl (by repeat (first | exact StB.here rfl | apply StB.there)) rfl rfl rfl ?_; intro w hS)
                    | (refine WL.box hS rfl rfl rfl rfl rfl ?_; intro w b hS)
                    | (refine WL.alloc hS rfl rfl rfl rfl rfl rfl ?_; intro w b hS)
                    | refine WL.index rfl rfl rfl rfl (by assumption) rfl rfl rfl rfl ?_
                    | refine WL.indexArr rfl rfl rfl rfl (by decide) rfl rfl rfl ?_
                    | refine WL.skip rfl rfl rfl ?_
                    | refine WL.build rfl rfl rfl rfl rfl ?_
                    | (refine WL.slit hS rfl rfl rfl rfl rfl ?_; intro w b hS)
                    | refine WL.eqS rfl rfl rfl rfl (by kernel_rfl) rfl rfl rfl ?_
                    | refine WL.neS rfl rfl rfl rfl (by kernel_rfl) rfl rfl rfl ?_
                    | ((fail_if_success (refine WL.wanted rfl ?_)); refine WL.guard rfl rfl rfl (fun h => ?_) (fun h => ?_) <;> (try simp only [decide_eq_true_eq, decide_eq_false_iff_not] at h) <;> (try (exfalso; omega))))
                  | (show WC _ _ _ _ _ _; first
                    | refine WC.seq ?_
                    | refine WC.region ?_
                    | refine WC.block ?_
                    | refine WC.skip ?_
                    | refine WC.exit ?_
                    | refine WC.ret ?_
                    | (refine WC.drawS hS [0,1,2,3,4,5,6,7,8,9,10,11,12,13] [0,1,2,3,4,5,6,7,8,9,10,11,12,13] (by kernel_rfl) (by kernel_rfl) ?_; intro w hS hM)
                    | refine WC.condT rfl rfl ?_
                    | refine WC.condF rfl rfl ?_
                    | refine WC.condT rfl (decide_eq_true (by first | assumption | omega)) ?_
                    | refine WC.condF rfl (decide_eq_false (by first | assumption | omega)) ?_
                    | (refine WC.cond rfl (fun h => ?_) (fun h => ?_) <;> (try simp only [decide_eq_true_eq, decide_eq_false_iff_not] at h) <;> (try (exfalso; omega))))
                  | (show WD _ _ _ _ _ _ _ _ _; first
                    | refine WD.pure rfl rfl rfl rfl rfl ?_
                    | refine WD.nil ?_
                    | refine WD.load rfl rfl (LdOk.box (by repeat (first | exact List.Mem.head _ | apply List.Mem.tail)) rfl) rfl rfl rfl rfl ?_
                    | refine WD.add rfl rfl rfl (by omega) rfl rfl rfl rfl ?_
                    | refine WD.sub rfl rfl rfl (by omega) rfl rfl rfl rfl ?_
                    | refine WD.index rfl rfl rfl (congrArg (Value.int .i64) (pred_ofNat m)) (by omega) rfl rfl rfl rfl rfl ?_
                    | refine WD.index rfl rfl rfl rfl (by omega) rfl rfl rfl rfl rfl ?_
                    | refine WD.load rfl rfl (LdOk.ownAt (by repeat (first | exact List.Mem.head _ | apply List.Mem.tail)) rfl ⟨_, rfl⟩ hx0 rfl) rfl rfl rfl rfl ?_
                    | refine WD.load rfl rfl (LdOk.ownAt (by repeat (first | exact List.Mem.head _ | apply List.Mem.tail)) rfl ⟨_, rfl⟩ hx rfl) rfl rfl rfl rfl ?_
                    | refine WD.index rfl rfl rfl rfl (by assumption) rfl rfl rfl rfl rfl ?_
                    | refine WD.indexArr rfl rfl rfl rfl (by decide) rfl rfl rfl rfl ?_
                    | refine WD.pass rfl rfl rfl rfl ?_
                    | refine WD.build rfl rfl rfl rfl rfl rfl ?_
                    | (refine WD.slit hS hM rfl rfl rfl rfl rfl rfl rfl ?_; intro w b hS hM)
                    | refine WD.eqS rfl rfl rfl rfl (by kernel_rfl) rfl rfl rfl rfl ?_
                    | refine WD.neS rfl rfl rfl rfl (by kernel_rfl) rfl rfl rfl rfl ?_
                    | (refine WD.box hS hM rfl rfl rfl rfl rfl rfl rfl ?_; intro w b hS hM)
                    | ((fail_if_success (refine WD.wanted rfl ?_)); refine WD.guard rfl rfl rfl (fun h => ?_) (fun h => ?_) <;> (try simp only [decide_eq_true_eq, decide_eq_false_iff_not] at h) <;> (try (exfalso; omega))))
                  | refine seqQ_n ?_
                  | refine blkQ_n ?_
                  | refine seqQ_x ?_
                  | refine seqQ_r ?_
                  | refine blkQ_r ?_
                  | refine blkQ_hit rfl ?_
                  | refine blkQ_miss rfl ?_
                  | refine rndQ_x ?_
                  | refine rndQ_r ?_
                  | refine rdQ_n ?_
                  | refine rdQ_x ?_
                  | refine rdQ_r ?_)
                exact rndQ_n (m + 1 + 1) ⟨by omega, hS⟩ (by omega) ⟨vint (by rw [hck]; first | (rw [if_pos hxj]; omega) | (rw [if_neg hxj]; omega)), vint (by omega), trivial⟩ ⟨rfl, rfl, rfl, rfl, rfl, rfl, trivial⟩
          · have hke : k = (dueL (clock + i) s 6).length := by omega
            have hoi : often clock s j (i + 1) = often clock s j i + ((dueL (clock + i) s 6).take k).count (j : Int) := by
              rw [hke, List.take_length, hcnt]
              simp only [often]
              congr 1
              by_cases hd : dueF (clock + i) s j = true
              · rw [if_pos hd, if_pos ⟨by omega, hd⟩]
              · rw [if_neg hd, if_neg (fun h => hd h.2)]
            clear hcnt
            repeat' (first
              | (show WL _ _ _ _ _ _ _; first
                | refine WL.pure rfl rfl rfl rfl ?_
                | refine WL.nil ?_
                | refine WL.load hS rfl rfl (LdOk.box (by repeat (first | exact List.Mem.head _ | apply List.Mem.tail)) rfl) rfl rfl rfl ?_
                | refine WL.add rfl rfl rfl (by omega) rfl rfl rfl ?_
                | refine WL.sub rfl rfl rfl (by omega) rfl rfl rfl ?_
                | (refine WL.store hS rfl rfl rfl (by repeat (first | exact StB.here rfl | apply StB.there)) rfl rfl rfl ?_; intro w hS)
                | (refine WL.box hS rfl rfl rfl rfl rfl ?_; intro w b hS)
                | (refine WL.alloc hS rfl rfl rfl rfl rfl rfl ?_; intro w b hS)
                | refine WL.index rfl rfl rfl rfl (by assumption) rfl rfl rfl rfl ?_
                | refine WL.indexArr rfl rfl rfl rfl (by decide) rfl rfl rfl ?_
                | refine WL.skip rfl rfl rfl ?_
                | refine WL.build rfl rfl rfl rfl rfl ?_
                | (refine WL.slit hS rfl rfl rfl rfl rfl ?_; intro w b hS)
                | refine WL.eqS rfl rfl rfl rfl (by kernel_rfl) rfl rfl rfl ?_
                | refine WL.neS rfl rfl rfl rfl (by kernel_rfl) rfl rfl rfl ?_
                | ((fail_if_success (refine WL.wanted rfl ?_)); refine WL.guard rfl rfl rfl (fun h => ?_) (fun h => ?_) <;> (try simp only [decide_eq_true_eq, decide_eq_false_iff_not] at h) <;> (try (exfalso; omega))))
              | (show WC _ _ _ _ _ _; first
                | refine WC.seq ?_
                | refine WC.region ?_
                | refine WC.block ?_
                | refine WC.skip ?_
                | refine WC.exit ?_
                | refine WC.ret ?_
                | refine WC.condT rfl rfl ?_
                | refine WC.condF rfl rfl ?_
                | refine WC.condT rfl (decide_eq_true (by first | assumption | omega)) ?_
                | refine WC.condF rfl (decide_eq_false (by first | assumption | omega)) ?_
                | (refine WC.cond rfl (fun h => ?_) (fun h => ?_) <;> (try simp only [decide_eq_true_eq, decide_eq_false_iff_not] at h) <;> (try (exfalso; omega))))
              | (show WD _ _ _ _ _ _ _ _ _; first
                | refine WD.pure rfl rfl rfl rfl rfl ?_
                | refine WD.nil ?_
                | refine WD.load rfl rfl (LdOk.box (by repeat (first | exact List.Mem.head _ | apply List.Mem.tail)) rfl) rfl rfl rfl rfl ?_
                | refine WD.add rfl rfl rfl (by omega) rfl rfl rfl rfl ?_
                | refine WD.sub rfl rfl rfl (by omega) rfl rfl rfl rfl ?_
                | refine WD.index rfl rfl rfl rfl (by assumption) rfl rfl rfl rfl rfl ?_
                | refine WD.indexArr rfl rfl rfl rfl (by decide) rfl rfl rfl rfl ?_
                | refine WD.pass rfl rfl rfl rfl ?_
                | refine WD.build rfl rfl rfl rfl rfl rfl ?_
                | (refine WD.slit hS hM rfl rfl rfl rfl rfl rfl rfl ?_; intro w b hS hM)
                | refine WD.eqS rfl rfl rfl rfl (by kernel_rfl) rfl rfl rfl rfl ?_
                | refine WD.neS rfl rfl rfl rfl (by kernel_rfl) rfl rfl rfl rfl ?_
                | (refine WD.box hS hM rfl rfl rfl rfl rfl rfl rfl ?_; intro w b hS hM)
                | ((fail_if_success (refine WD.wanted rfl ?_)); refine WD.guard rfl rfl rfl (fun h => ?_) (fun h => ?_) <;> (try simp only [decide_eq_true_eq, decide_eq_false_iff_not] at h) <;> (try (exfalso; omega))))
              | refine seqQ_n ?_
              | refine blkQ_n ?_
              | refine seqQ_x ?_
              | refine seqQ_r ?_
              | refine blkQ_r ?_
              | refine blkQ_hit rfl ?_
              | refine blkQ_miss rfl ?_
              | refine rndQ_x ?_
              | refine rndQ_r ?_
              | refine rdQ_n ?_
              | refine rdQ_x ?_
              | refine rdQ_r ?_)
            exact rndQ_n (i + 1) ⟨by omega, hS.drop⟩ (by omega) ⟨vint (by omega), vint (by omega), trivial⟩ ⟨rfl, rfl, rfl, rfl, trivial⟩
        · obtain rfl : i = T := by omega
          repeat' (first
            | (show WL _ _ _ _ _ _ _; first
              | refine WL.pure rfl rfl rfl rfl ?_
              | refine WL.nil ?_
              | refine WL.load hS rfl rfl (LdOk.box (by repeat (first | exact List.Mem.head _ | apply List.Mem.tail)) rfl) rfl rfl rfl ?_
              | refine WL.add rfl rfl rfl (by omega) rfl rfl rfl ?_
              | refine WL.sub rfl rfl rfl (by omega) rfl rfl rfl ?_
              | refine WL.indexArr rfl rfl rfl rfl (by omega) rfl rfl rfl ?_
              | refine WL.load hS rfl rfl (LdOk.boxAt (by repeat (first | exact List.Mem.head _ | apply List.Mem.tail)) rfl ⟨_, rfl⟩ hcell rfl) rfl rfl rfl ?_
              | (refine WL.store hS rfl rfl rfl (by repeat (first | exact StB.here rfl | apply StB.there)) rfl rfl rfl ?_; intro w hS)
              | (refine WL.box hS rfl rfl rfl rfl rfl ?_; intro w b hS)
              | (refine WL.alloc hS rfl rfl rfl rfl rfl rfl ?_; intro w b hS)
              | refine WL.index rfl rfl rfl rfl (by assumption) rfl rfl rfl rfl ?_
              | refine WL.indexArr rfl rfl rfl rfl (by decide) rfl rfl rfl ?_
              | refine WL.skip rfl rfl rfl ?_
              | refine WL.build rfl rfl rfl rfl rfl ?_
              | (refine WL.slit hS rfl rfl rfl rfl rfl ?_; intro w b hS)
              | refine WL.eqS rfl rfl rfl rfl (by kernel_rfl) rfl rfl rfl ?_
              | refine WL.neS rfl rfl rfl rfl (by kernel_rfl) rfl rfl rfl ?_
              | ((fail_if_success (refine WL.wanted rfl ?_)); refine WL.guard rfl rfl rfl (fun h => ?_) (fun h => ?_) <;> (try simp only [decide_eq_true_eq, decide_eq_false_iff_not] at h) <;> (try (exfalso; omega))))
            | (show WC _ _ _ _ _ _; first
              | refine WC.seq ?_
              | refine WC.region ?_
              | refine WC.block ?_
              | refine WC.skip ?_
              | refine WC.exit ?_
              | refine WC.ret ?_
              | refine WC.condT rfl rfl ?_
              | refine WC.condF rfl rfl ?_
              | refine WC.condT rfl (decide_eq_true (by first | assumption | omega)) ?_
              | refine WC.condF rfl (decide_eq_false (by first | assumption | omega)) ?_
              | (refine WC.cond rfl (fun h => ?_) (fun h => ?_) <;> (try simp only [decide_eq_true_eq, decide_eq_false_iff_not] at h) <;> (try (exfalso; omega))))
            | (show WD _ _ _ _ _ _ _ _ _; first
              | refine WD.pure rfl rfl rfl rfl rfl ?_
              | refine WD.nil ?_
              | refine WD.load rfl rfl (LdOk.box (by repeat (first | exact List.Mem.head _ | apply List.Mem.tail)) rfl) rfl rfl rfl rfl ?_
              | refine WD.add rfl rfl rfl (by omega) rfl rfl rfl rfl ?_
              | refine WD.sub rfl rfl rfl (by omega) rfl rfl rfl rfl ?_
              | refine WD.index rfl rfl rfl rfl (by assumption) rfl rfl rfl rfl rfl ?_
              | refine WD.indexArr rfl rfl rfl rfl (by decide) rfl rfl rfl rfl ?_
              | refine WD.pass rfl rfl rfl rfl ?_
              | refine WD.build rfl rfl rfl rfl rfl rfl ?_
              | (refine WD.slit hS hM rfl rfl rfl rfl rfl rfl rfl ?_; intro w b hS hM)
              | refine WD.eqS rfl rfl rfl rfl (by kernel_rfl) rfl rfl rfl rfl ?_
              | refine WD.neS rfl rfl rfl rfl (by kernel_rfl) rfl rfl rfl rfl ?_
              | (refine WD.box hS hM rfl rfl rfl rfl rfl rfl rfl ?_; intro w b hS hM)
              | ((fail_if_success (refine WD.wanted rfl ?_)); refine WD.guard rfl rfl rfl (fun h => ?_) (fun h => ?_) <;> (try simp only [decide_eq_true_eq, decide_eq_false_iff_not] at h) <;> (try (exfalso; omega))))
            | refine seqQ_n ?_
            | refine blkQ_n ?_
            | refine seqQ_x ?_
            | refine seqQ_r ?_
            | refine blkQ_r ?_
            | refine blkQ_hit rfl ?_
            | refine blkQ_miss rfl ?_
            | refine rndQ_x ?_
            | refine rndQ_r ?_
            | refine rdQ_n ?_
            | refine rdQ_x ?_
            | refine rdQ_r ?_)
          first | exact fin1r rfl rfl ⟨hS.upd, rfl⟩ | exact fin1r rfl rfl ⟨hS.upd, vbool (decide_eq_true (by omega))⟩
    · repeat' (first
        | (show WL _ _ _ _ _ _ _; first
          | refine WL.pure rfl rfl rfl rfl ?_
          | refine WL.nil ?_
          | refine WL.load hS rfl rfl (LdOk.box (by repeat (first | exact List.Mem.head _ | apply List.Mem.tail)) rfl) rfl rfl rfl ?_
          | refine WL.add rfl rfl rfl (by omega) rfl rfl rfl ?_
          | refine WL.sub rfl rfl rfl (by omega) rfl rfl rfl ?_
          | (refine WL.calls hS rfl rfl (sawake_c _) rfl rfl rfl ?_; rintro v w rfl hS)
          | refine WL.indexArr rfl rfl rfl rfl (by omega) rfl rfl rfl ?_
          | refine WL.load hS rfl rfl (LdOk.boxAt (by repeat (first | exact List.Mem.head _ | apply List.Mem.tail)) rfl ⟨_, rfl⟩ hcell rfl) rfl rfl rfl ?_
          | (refine WL.store hS rfl rfl rfl (by repeat (first | exact StB.here rfl | apply StB.there)) rfl rfl rfl ?_; intro w hS)
          | (refine WL.box hS rfl rfl rfl rfl rfl ?_; intro w b hS)
          | (refine WL.alloc hS rfl rfl rfl rfl rfl rfl ?_; intro w b hS)
          | refine WL.index rfl rfl rfl rfl (by assumption) rfl rfl rfl rfl ?_
          | refine WL.indexArr rfl rfl rfl rfl (by decide) rfl rfl rfl ?_
          | refine WL.skip rfl rfl rfl ?_
          | refine WL.build rfl rfl rfl rfl rfl ?_
          | (refine WL.slit hS rfl rfl rfl rfl rfl ?_; intro w b hS)
          | refine WL.eqS rfl rfl rfl rfl (by kernel_rfl) rfl rfl rfl ?_
          | refine WL.neS rfl rfl rfl rfl (by kernel_rfl) rfl rfl rfl ?_
          | ((fail_if_success (refine WL.wanted rfl ?_)); refine WL.guard rfl rfl rfl (fun h => ?_) (fun h => ?_) <;> (try simp only [decide_eq_true_eq, decide_eq_false_iff_not] at h) <;> (try (exfalso; omega))))
        | (show WC _ _ _ _ _ _; first
          | refine WC.seq ?_
          | refine WC.region ?_
          | refine WC.block ?_
          | refine WC.skip ?_
          | refine WC.exit ?_
          | refine WC.ret ?_
          | refine WC.condT rfl rfl ?_
          | refine WC.condF rfl rfl ?_
          | refine WC.condT rfl (decide_eq_true (by first | assumption | omega)) ?_
          | refine WC.condF rfl (decide_eq_false (by first | assumption | omega)) ?_
          | (refine WC.cond rfl (fun h => ?_) (fun h => ?_) <;> (try simp only [decide_eq_true_eq, decide_eq_false_iff_not] at h) <;> (try (exfalso; omega))))
        | (show WD _ _ _ _ _ _ _ _ _; first
          | refine WD.pure rfl rfl rfl rfl rfl ?_
          | refine WD.nil ?_
          | refine WD.load rfl rfl (LdOk.box (by repeat (first | exact List.Mem.head _ | apply List.Mem.tail)) rfl) rfl rfl rfl rfl ?_
          | refine WD.add rfl rfl rfl (by omega) rfl rfl rfl rfl ?_
          | refine WD.sub rfl rfl rfl (by omega) rfl rfl rfl rfl ?_
          | refine WD.index rfl rfl rfl rfl (by assumption) rfl rfl rfl rfl rfl ?_
          | refine WD.indexArr rfl rfl rfl rfl (by decide) rfl rfl rfl rfl ?_
          | refine WD.pass rfl rfl rfl rfl ?_
          | refine WD.build rfl rfl rfl rfl rfl rfl ?_
          | (refine WD.slit hS hM rfl rfl rfl rfl rfl rfl rfl ?_; intro w b hS hM)
          | refine WD.eqS rfl rfl rfl rfl (by kernel_rfl) rfl rfl rfl rfl ?_
          | refine WD.neS rfl rfl rfl rfl (by kernel_rfl) rfl rfl rfl rfl ?_
          | (refine WD.box hS hM rfl rfl rfl rfl rfl rfl rfl ?_; intro w b hS hM)
          | ((fail_if_success (refine WD.wanted rfl ?_)); refine WD.guard rfl rfl rfl (fun h => ?_) (fun h => ?_) <;> (try simp only [decide_eq_true_eq, decide_eq_false_iff_not] at h) <;> (try (exfalso; omega))))
        | refine seqQ_n ?_
        | refine blkQ_n ?_
        | refine seqQ_x ?_
        | refine seqQ_r ?_
        | refine blkQ_r ?_
        | refine blkQ_hit rfl ?_
        | refine blkQ_miss rfl ?_
        | refine rndQ_x ?_
        | refine rndQ_r ?_
        | refine rdQ_n ?_
        | refine rdQ_x ?_
        | refine rdQ_r ?_)
      all_goals exact fin1r rfl rfl ⟨hS.upd, rfl⟩
  · repeat' (first
      | (show WL _ _ _ _ _ _ _; first
        | refine WL.pure rfl rfl rfl rfl ?_
        | refine WL.nil ?_
        | refine WL.load hS rfl rfl (LdOk.box (by repeat (first | exact List.Mem.head _ | apply List.Mem.tail)) rfl) rfl rfl rfl ?_
        | refine WL.add rfl rfl rfl (by omega) rfl rfl rfl ?_
        | refine WL.sub rfl rfl rfl (by omega) rfl rfl rfl ?_
        | (refine WL.calls hS rfl rfl (sawake_c _) rfl rfl rfl ?_; rintro v w rfl hS)
        | (refine WL.store hS rfl rfl rfl (by repeat (first | exact StB.here rfl | apply StB.there)) rfl rfl rfl ?_; intro w hS)
        | (refine WL.box hS rfl rfl rfl rfl rfl ?_; intro w b hS)
        | (refine WL.alloc hS rfl rfl rfl rfl rfl rfl ?_; intro w b hS)
        | refine WL.index rfl rfl rfl rfl (by assumption) rfl rfl rfl rfl ?_
        | refine WL.indexArr rfl rfl rfl rfl (by decide) rfl rfl rfl ?_
        | refine WL.skip rfl rfl rfl ?_
        | refine WL.build rfl rfl rfl rfl rfl ?_
        | (refine WL.slit hS rfl rfl rfl rfl rfl ?_; intro w b hS)
        | refine WL.eqS rfl rfl rfl rfl (by kernel_rfl) rfl rfl rfl ?_
        | refine WL.neS rfl rfl rfl rfl (by kernel_rfl) rfl rfl rfl ?_
        | ((fail_if_success (refine WL.wanted rfl ?_)); refine WL.guard rfl rfl rfl (fun h => ?_) (fun h => ?_) <;> (try simp only [decide_eq_true_eq, decide_eq_false_iff_not] at h) <;> (try (exfalso; omega))))
      | (show WC _ _ _ _ _ _; first
        | refine WC.seq ?_
        | refine WC.region ?_
        | refine WC.block ?_
        | refine WC.skip ?_
        | refine WC.exit ?_
        | refine WC.ret ?_
        | refine WC.condT rfl rfl ?_
        | refine WC.condF rfl rfl ?_
        | refine WC.condT rfl (decide_eq_true (by first | assumption | omega)) ?_
        | refine WC.condF rfl (decide_eq_false (by first | assumption | omega)) ?_
        | (refine WC.cond rfl (fun h => ?_) (fun h => ?_) <;> (try simp only [decide_eq_true_eq, decide_eq_false_iff_not] at h) <;> (try (exfalso; omega))))
      | (show WD _ _ _ _ _ _ _ _ _; first
        | refine WD.pure rfl rfl rfl rfl rfl ?_
        | refine WD.nil ?_
        | refine WD.load rfl rfl (LdOk.box (by repeat (first | exact List.Mem.head _ | apply List.Mem.tail)) rfl) rfl rfl rfl rfl ?_
        | refine WD.add rfl rfl rfl (by omega) rfl rfl rfl rfl ?_
        | refine WD.sub rfl rfl rfl (by omega) rfl rfl rfl rfl ?_
        | refine WD.index rfl rfl rfl rfl (by assumption) rfl rfl rfl rfl rfl ?_
        | refine WD.indexArr rfl rfl rfl rfl (by decide) rfl rfl rfl rfl ?_
        | refine WD.pass rfl rfl rfl rfl ?_
        | refine WD.build rfl rfl rfl rfl rfl rfl ?_
        | (refine WD.slit hS hM rfl rfl rfl rfl rfl rfl rfl ?_; intro w b hS hM)
        | refine WD.eqS rfl rfl rfl rfl (by kernel_rfl) rfl rfl rfl rfl ?_
        | refine WD.neS rfl rfl rfl rfl (by kernel_rfl) rfl rfl rfl rfl ?_
        | (refine WD.box hS hM rfl rfl rfl rfl rfl rfl rfl ?_; intro w b hS hM)
        | ((fail_if_success (refine WD.wanted rfl ?_)); refine WD.guard rfl rfl rfl (fun h => ?_) (fun h => ?_) <;> (try simp only [decide_eq_true_eq, decide_eq_false_iff_not] at h) <;> (try (exfalso; omega))))
      | refine seqQ_n ?_
      | refine blkQ_n ?_
      | refine seqQ_x ?_
      | refine seqQ_r ?_
      | refine blkQ_r ?_
      | refine blkQ_hit rfl ?_
      | refine blkQ_miss rfl ?_
      | refine rndQ_x ?_
      | refine rndQ_r ?_
      | refine rdQ_n ?_
      | refine rdQ_x ?_
      | refine rdQ_r ?_)
    all_goals exact fin1r rfl rfl ⟨hS.upd, rfl⟩

theorem schedOften.key_schedOften (W : World) (v0 v1 v2 : Value) (y0 : Int) (y1 : Stg) (y2 : Int) (b0 b1 b2 : Nat) (h0 : AInt W v0 y0) (h1 : AAgg cStg W v1 y1) (h2 : AInt W v2 y2) (q0 : QInt y0 b0) (q1 : 1 ≤ b1) (q2 : QInt y2 b2) (hb : b0 + b1 + b2 ≤ 1048576) :
    Cal Try.prog 7 [v0, v1, v2] W (fun v W' => Upd [] W W' ∧ v = .bool true) := by
  obtain rfl := h0
  obtain ⟨cs, rfl, rfl, h7, h8⟩ := h1
  obtain rfl := h2
  exact schedOften_c y0 y1 y2 h7 h8 W
end Go.Proofs.Ytjmdhakndlhbhaa
