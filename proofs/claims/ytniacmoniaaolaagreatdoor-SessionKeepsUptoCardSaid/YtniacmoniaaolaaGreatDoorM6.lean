/- What is proved: contracts and plain facts that the law leans on (texts put together). Conditions: as each names them. -/
import Derived.Test.YtniacmoniaaolaaGreatDoorM5
import Derived.Shelf.Small.Strs
import Derived.Shelf.SlSortCmp.WholeK
import Derived.Shelf.SlSortCmp.NoneTotal
set_option linter.unusedSimpArgs false
set_option linter.unusedVariables false
/- What is proved: what find, Get, Whole and Check of the package tree answer. Conditions: entries of bounded length; Get at entries that rise. -/
set_option linter.unusedSimpArgs false
set_option linter.unusedVariables false
namespace Go.Proofs.YtniacmoniaaolaaGreatDoor
open Go Go.J Go.RowKit

theorem compare_c (a b : List UInt8) (w0 : World) : Cal Tryz.prog 114 [str a, str b] w0 (fun v w' => Upd [] w0 w' ∧ v = .int .i64 (Lib.compareBytes a b)) :=
  ⟨by kernel_rfl, (Any.strings_Compare Tryz.compareL ⟨⟨a⟩⟩ ⟨⟨b⟩⟩ w0).mono fun e w' ⟨h1, h2⟩ => ⟨_, h1, by rw [h2]; exact .refl _ _, rfl⟩⟩
set_option maxHeartbeats 4000000 in
set_option maxRecDepth 100000 in
theorem tcmp_c (e : Ent) (p : List UInt8) (w0 : World) : Cal Tryz.prog 168 [.agg ⟨encEnt e⟩, str p] w0 (fun v w' => Upd [] w0 w' ∧ v = .int .i64 (Lib.compareBytes e.path p)) := by
  refine Cal.mk' (by kernel_rfl) Tryz.func168 rfl rfl fun hS => ?_
  obtain ⟨path, kind, data⟩ := e
  repeat' (first
    | (show WL _ _ _ _ _ _ _; first
      | refine WL.pure rfl rfl rfl rfl ?_
      | refine WL.nil ?_
      | refine WL.load hS rfl rfl (LdOk.box (by repeat (first | exact List.Mem.head _ | apply List.Mem.tail)) rfl) rfl rfl rfl ?_
      | (refine WL.calls hS rfl rfl (compare_c path p _) rfl rfl rfl ?_; rintro v w rfl hS)
      | (refine WL.box hS rfl rfl rfl rfl rfl ?_; intro w b hS))
    | (show WC _ _ _ _ _ _; first
      | refine WC.seq ?_
      | refine WC.region ?_
      | refine WC.ret ?_)
    | refine seqQ_n ?_)
  exact fin1r rfl rfl ⟨hS.upd, rfl⟩
def findIs (t : List Ent) (p : List UInt8) (i : Nat) (b : Bool) : Prop := (b = true ∧ ∃ h : i < t.length, t[i].path = p) ∨ (b = false ∧ ∀ e ∈ t, e.path ≠ p)
abbrev cmpF : Value := .func (.func 168) ⟨[]⟩ ⟨[]⟩
set_option maxHeartbeats 16000000 in
set_option maxRecDepth 100000 in
theorem bsearch_c (t : List Ent) (p : List UInt8) {A : Option Addr} {cap : Nat} {w0 : World} (hA : SlAt cEnt (Old w0) w0 A t) (hr : Rise t t.length) (hl : t.length ≤ 1048576) :
    Cal Tryz.prog 167 [.slice A t.length cap, str p, cmpF] w0 (fun v w' => Upd [] w0 w' ∧ ∃ (i : Nat) (b : Bool), v = .tuple #[.int .i64 (i : Int), .bool b] ∧ findIs t p i b) := by
  refine Cal.mk' (by kernel_rfl) Tryz.func167 rfl rfl fun hS => ?_
  repeat' (first
    | (show WL _ _ _ _ _ _ _; first
      | refine WL.pure rfl rfl rfl rfl ?_
      | refine WL.nil ?_)
    | (show WC _ _ _ _ _ _; first
      | refine WC.seq ?_
      | refine WC.region ?_
      | refine WC.block ?_)
    | refine seqQ_n ?_)
  refine WC.loop (σ := Nat × Nat) [0, 1, 2, 8] (fun (i, j) => [(9, .int .i64 (i : Int)), (10, .int .i64 (j : Int))])
    (fun (i, j) w => (i ≤ j ∧ j ≤ t.length ∧ (∀ k (h : k < t.length), k < i → Op.bytesLess t[k].path p = true) ∧ (∀ k (h : k < t.length), j ≤ k → Op.bytesLess t[k].path p = false)) ∧ St w0 [] w [] [⟨w0, Old w0⟩])
    (fun (i, j) => j - i) (0, t.length) ⟨⟨Nat.zero_le _, Nat.le_refl _, fun k _ h => absurd h (Nat.not_lt_zero _), fun k h1 h2 => by omega⟩, hS⟩ ⟨rfl, rfl, trivial⟩ ?_
  clear hS
  rintro ⟨i, j⟩ g w ⟨⟨hij, hj, hlo, hhi⟩, hS⟩
  show WC _ _ _ (lf _ [(9, .int .i64 (i : Int)), (10, .int .i64 (j : Int))] _ _) _ _
  by_cases hlt : i < j
  · obtain ⟨m, hm⟩ : ∃ m, m = (i + j) / 2 := ⟨_, rfl⟩
    have hml : m < t.length := by omega
    have hsh : shrI .u64 ((i : Int) + (j : Int)) 1 = ((m : Nat) : Int) := (shrI_nat .u64 (i + j) 1 (by decide)).trans (by rw [hm])
    obtain ⟨rb, ro, es, rfl, hF, hrr, hes⟩ := hA.at_ hml
    have hes : es = encEnt t[m] := hes
    subst hes
    have hrr : w0.rangeAt rb (ro + m * 3) (encEnt t[m]) := hrr
    have hcl := cmp_lt t[m].path p
    cases hb : Op.bytesLess t[m].path p with
    | true =>
      rw [hb] at hcl
      have hc0 : Lib.compareBytes t[m].path p < 0 := hcl.2 rfl
      have hlo2 : ∀ k (h : k < t.length), k < m + 1 → Op.bytesLess t[k].path p = true := fun k hk hkm => by
        by_cases e : k = m
        · subst e; exact hb
        · exact less_trans (hr k m (by omega) hml hml) hb
      obtain ⟨HL, rfl⟩ : ∃ h : (∀ k (h : k < t.length), k < m + 1 → Op.bytesLess t[k].path p = true), h = hlo2 := ⟨_, rfl⟩
      have hc := fun w0 => tcmp_c t[m] p w0
      generalize Lib.compareBytes t[m].path p = c at *
      generalize t[m] = e at *
      clear hcl hlo
      repeat' (first
        | (show WL _ _ _ _ _ _ _; first
          | (refine WL.cvU rfl rfl rfl (by omega) rfl rfl rfl ?_)
          | refine WL.pure rfl rfl rfl rfl ?_
          | refine WL.nil ?_
          | refine WL.add rfl rfl rfl (by omega) rfl rfl rfl ?_
          | (refine WL.shr rfl rfl rfl (by decide) rfl rfl rfl ?_; rw [hsh])
          | (refine WL.load hS rfl rfl (LdOk.snap0 hF hrr (by repeat (first | exact List.Mem.head _ | apply List.Mem.tail)) rfl) rfl rfl rfl ?_)
          | (refine WL.callF rfl rfl rfl (hc _) rfl rfl rfl ?_; rintro v w ⟨hu, rfl⟩; replace hS := hS.upd0 hu; clear hu)
          | refine WL.conv64 rfl rfl rfl (by omega) rfl rfl rfl ?_
          | refine WL.index rfl rfl rfl rfl (by first | with_reducible assumption | omega) rfl rfl rfl rfl ?_)
        | (show WC _ _ _ _ _ _; first
          | refine WC.seq ?_
          | refine WC.region ?_
          | refine WC.block ?_
          | refine WC.skip ?_
          | refine WC.condT rfl (decide_eq_true (by first | with_reducible assumption | omega)) ?_)
        | refine seqQ_n ?_
        | refine blkQ_n ?_)
      exact rndQ_n (m + 1, j) ⟨⟨by omega, hj, HL, hhi⟩, hS⟩ (by show j - (m + 1) < j - i; omega) ⟨vint (by omega), rfl, trivial⟩ ⟨rfl, rfl, rfl, rfl, trivial⟩
    | false =>
      rw [hb] at hcl
      have hc0 : ¬ Lib.compareBytes t[m].path p < 0 := fun h => by have := hcl.1 h; cases this
      have hhi2 : ∀ k (h : k < t.length), m ≤ k → Op.bytesLess t[k].path p = false := fun k hk hkm => by
        by_cases e : k = m
        · subst e; exact hb
        · cases h2 : Op.bytesLess t[k].path p with
          | false => rfl
          | true => have := less_trans (hr m k (by omega) hk hk) h2; rw [hb] at this; cases this
      obtain ⟨HH, rfl⟩ : ∃ h : (∀ k (h : k < t.length), m ≤ k → Op.bytesLess t[k].path p = false), h = hhi2 := ⟨_, rfl⟩
      have hc := fun w0 => tcmp_c t[m] p w0
      generalize Lib.compareBytes t[m].path p = c at *
      generalize t[m] = e at *
      clear hcl hhi
      repeat' (first
        | (show WL _ _ _ _ _ _ _; first
          | (refine WL.cvU rfl rfl rfl (by omega) rfl rfl rfl ?_)
          | refine WL.pure rfl rfl rfl rfl ?_
          | refine WL.nil ?_
          | refine WL.add rfl rfl rfl (by omega) rfl rfl rfl ?_
          | (refine WL.shr rfl rfl rfl (by decide) rfl rfl rfl ?_; rw [hsh])
          | (refine WL.load hS rfl rfl (LdOk.snap0 hF hrr (by repeat (first | exact List.Mem.head _ | apply List.Mem.tail)) rfl) rfl rfl rfl ?_)
          | (refine WL.callF rfl rfl rfl (hc _) rfl rfl rfl ?_; rintro v w ⟨hu, rfl⟩; replace hS := hS.upd0 hu; clear hu)
          | refine WL.conv64 rfl rfl rfl (by omega) rfl rfl rfl ?_
          | refine WL.index rfl rfl rfl rfl (by first | with_reducible assumption | omega) rfl rfl rfl rfl ?_)
        | (show WC _ _ _ _ _ _; first
          | refine WC.seq ?_
          | refine WC.region ?_
          | refine WC.block ?_
          | refine WC.skip ?_
          | refine WC.condT rfl (decide_eq_true (by first | with_reducible assumption | omega)) ?_
          | refine WC.condF rfl (decide_eq_false (by first | with_reducible assumption | omega)) ?_)
        | refine seqQ_n ?_
        | refine blkQ_n ?_)
      exact rndQ_n (i, m) ⟨⟨by omega, by omega, hlo, HH⟩, hS⟩ (by show m - i < j - i; omega) ⟨rfl, vint (by omega), trivial⟩ ⟨rfl, rfl, rfl, rfl, trivial⟩
  · have hie : j = i := by omega
    subst hie
    have hfi : ∀ b : Bool, (b = true → ∃ h : j < t.length, t[j].path = p) → (b = false → ∀ h : j < t.length, t[j].path ≠ p) → findIs t p j b := fun b h1 h2 => by
      cases b with
      | true => exact .inl ⟨rfl, h1 rfl⟩
      | false =>
        refine .inr ⟨rfl, fun e he hp => ?_⟩
        obtain ⟨k, hk, rfl⟩ := List.getElem_of_mem he
        rcases Nat.lt_trichotomy k j with h | h | h
        · have := hlo k hk h; rw [hp, less_irr] at this; cases this
        · subst h; exact h2 rfl hk hp
        · have h3 := hhi j (by omega) (Nat.le_refl _)
          have h4 := hr j k h hk hk
          rw [hp, h3] at h4
          cases h4
    clear hlo hhi
    by_cases hjl : j < t.length
    · obtain ⟨rb, ro, es, rfl, hF, hrr, hes⟩ := hA.at_ hjl
      have hes : es = encEnt t[j] := hes
      subst hes
      have hrr : w0.rangeAt rb (ro + j * 3) (encEnt t[j]) := hrr
      have hce := cmp_eq t[j].path p
      have hfin : findIs t p j (decide (Lib.compareBytes t[j].path p = 0)) := hfi _ (fun h => ⟨hjl, hce.1 (of_decide_eq_true h)⟩) (fun h _ e => absurd (hce.2 e) (of_decide_eq_false h))
      have hc := fun w0 => tcmp_c t[j] p w0
      generalize Lib.compareBytes t[j].path p = c at *
      generalize t[j] = e at *
      clear hce hfi
      repeat' (first
        | (show WL _ _ _ _ _ _ _; first
          | refine WL.pure rfl rfl rfl rfl ?_
          | refine WL.nil ?_
          | (refine WL.load hS rfl rfl (LdOk.snap0 hF hrr (by repeat (first | exact List.Mem.head _ | apply List.Mem.tail)) rfl) rfl rfl rfl ?_)
          | (refine WL.callF rfl rfl rfl (hc _) rfl rfl rfl ?_; rintro v w ⟨hu, rfl⟩; replace hS := hS.upd0 hu; clear hu)
          | refine WL.index rfl rfl rfl rfl (by first | with_reducible assumption | omega) rfl rfl rfl rfl ?_
          | ((fail_if_success (refine WL.wanted rfl ?_)); refine WL.guard rfl rfl rfl (fun h => ?_) (fun h => ?_) <;> (try simp only [Classical.not_not, Bool.not_eq_true', Bool.not_eq_false', Bool.not_eq_eq_eq_not, Bool.not_true, Bool.not_false, beq_iff_eq, beq_eq_false_iff_ne, ne_eq, decide_eq_decide, decide_eq_true_eq, decide_eq_false_iff_not, Bool.and_eq_true, Bool.or_eq_true, Bool.and_eq_false_iff, Bool.or_eq_false_iff] at h) <;> (try (exfalso; first | omega | contradiction))))
        | (show WC _ _ _ _ _ _; first
          | refine WC.seq ?_
          | refine WC.region ?_
          | refine WC.exit ?_
          | refine WC.ret ?_
          | refine WC.condF rfl (decide_eq_false (by first | with_reducible assumption | omega)) ?_)
        | refine seqQ_n ?_
        | refine seqQ_x ?_
        | refine blkQ_hit rfl ?_
        | refine rndQ_x ?_)
      exact fin2r rfl rfl rfl ⟨hS.upd, j, _, rfl, hfin⟩
    · have hfin := hfi false (fun h => by cases h) (fun _ h => absurd h hjl)
      clear hfi
      repeat' (first
        | (show WL _ _ _ _ _ _ _; first
          | refine WL.pure rfl rfl rfl rfl ?_
          | refine WL.nil ?_
          | refine WL.skip rfl rfl rfl ?_
          | ((fail_if_success (refine WL.wanted rfl ?_)); refine WL.guard rfl rfl rfl (fun h => ?_) (fun h => ?_) <;> (try simp only [Classical.not_not, Bool.not_eq_true', Bool.not_eq_false', Bool.not_eq_eq_eq_not, Bool.not_true, Bool.not_false, beq_iff_eq, beq_eq_false_iff_ne, ne_eq, decide_eq_decide, decide_eq_true_eq, decide_eq_false_iff_not, Bool.and_eq_true, Bool.or_eq_true, Bool.and_eq_false_iff, Bool.or_eq_false_iff] at h) <;> (try (exfalso; first | omega | contradiction))))
        | (show WC _ _ _ _ _ _; first
          | refine WC.seq ?_
          | refine WC.region ?_
          | refine WC.exit ?_
          | refine WC.ret ?_
          | refine WC.condF rfl (decide_eq_false (by first | with_reducible assumption | omega)) ?_)
        | refine seqQ_n ?_
        | refine seqQ_x ?_
        | refine blkQ_hit rfl ?_
        | refine rndQ_x ?_)
      exact fin2r rfl rfl rfl ⟨hS.upd, j, false, rfl, hfin⟩
set_option maxHeartbeats 4000000 in
set_option maxRecDepth 100000 in
theorem tfind_c (t : List Ent) (p : List UInt8) {A : Option Addr} {cap : Nat} {w0 : World} (hA : SlAt cEnt (Old w0) w0 A t) (hr : Rise t t.length) (hl : t.length ≤ 1048576) :
    Cal Tryz.prog 154 [.slice A t.length cap, str p] w0 (fun v w' => Upd [] w0 w' ∧ ∃ (i : Nat) (b : Bool), v = .tuple #[.int .i64 (i : Int), .bool b] ∧ findIs t p i b) := by
  refine Cal.mk' (by kernel_rfl) Tryz.func154 rfl rfl fun hS => ?_
  repeat' (first
    | (show WL _ _ _ _ _ _ _; first
      | refine WL.pure rfl rfl rfl rfl ?_
      | refine WL.nil ?_
      | (refine WL.callG rfl rfl (bsearch_c t p hA hr hl) rfl rfl rfl ?_; rintro v w ⟨hu, i, fb, rfl, hf⟩; replace hS := hS.upd0 hu; clear hu))
    | (show WC _ _ _ _ _ _; first
      | refine WC.seq ?_
      | refine WC.region ?_
      | refine WC.ret ?_)
    | refine seqQ_n ?_)
  exact fin2r rfl rfl rfl ⟨hS.upd, i, fb, rfl, hf⟩
abbrev nodeV (e : Ent) : Value := .agg ⟨[.int .i64 e.kind, str e.data]⟩
set_option maxHeartbeats 4000000 in
set_option maxRecDepth 100000 in
theorem trget_c (t : List Ent) (p : List UInt8) {A : Option Addr} {cap n : Nat} {w0 : World} (hA : SlAt cEnt (Old w0) w0 A t) (hr : Rise t t.length) (hl : t.length ≤ 1048576) (hn : n = t.length) :
    Cal Tryz.prog 136 [.slice A n cap, str p] w0 (fun v w' => Upd [] w0 w' ∧ v = nodeV (getT t p)) := by
  subst hn
  refine Cal.mk' (by kernel_rfl) Tryz.func136 rfl rfl fun hS => ?_
  have hfc : ∀ w, (∃ S : St w0 [] w [] [⟨w0, Old w0⟩], True) → True := fun _ _ => trivial
  by_cases hx : ∃ i, ∃ h : i < t.length, t[i].path = p
  · obtain ⟨i0, hi0, he0⟩ := hx
    have hfi : ∀ i fb, findIs t p i fb → fb = true ∧ i = i0 := fun i fb h => by
      rcases h with ⟨h1, h2, h3⟩ | ⟨_, h2⟩
      · refine ⟨h1, ?_⟩
        rcases Nat.lt_trichotomy i i0 with h | h | h
        · have := hr i i0 h hi0 hi0; rw [h3, he0, less_irr] at this; cases this
        · exact h
        · have := hr i0 i h h2 h2; rw [h3, he0, less_irr] at this; cases this
      · exact absurd he0 (h2 _ (List.getElem_mem hi0))
    have hga := getT_at hr hi0
    rw [he0] at hga
    obtain ⟨rb, ro, es, rfl, hF, hrr, hes⟩ := hA.at_ hi0
    have hes : es = encEnt t[i0] := hes
    subst hes
    have hrr : w0.rangeAt rb (ro + i0 * 3) (encEnt t[i0]) := hrr
    rw [hga]
    generalize t[i0] = e at *
    obtain ⟨epath, ekind, edata⟩ := e
    clear hfc
    repeat' (first
      | (show WL _ _ _ _ _ _ _; first
        | refine WL.pure rfl rfl rfl rfl ?_
        | refine WL.nil ?_
        | (refine WL.callG rfl rfl (tfind_c t p (hS.slO (by repeat (first | exact List.Mem.head _ | apply List.Mem.tail)) hA) hr hl) rfl rfl rfl ?_; rintro v w ⟨hu, i, fb, rfl, hf⟩; replace hS := hS.upd0 hu; clear hu; obtain ⟨rfl, rfl⟩ := hfi _ _ hf)
        | (refine WL.load hS rfl rfl (LdOk.snap (off := 1) hF hrr (by repeat (first | exact List.Mem.head _ | apply List.Mem.tail)) rfl) rfl rfl rfl ?_)
        | (refine WL.store hS rfl rfl rfl (by repeat (first | exact StB.here rfl | apply StB.there)) rfl rfl rfl ?_; intro w hS)
        | (refine WL.alloc hS rfl rfl rfl rfl rfl rfl ?_; intro w b hS)
        | refine WL.index rfl rfl rfl rfl (by first | with_reducible assumption | omega) rfl rfl rfl rfl ?_)
      | (show WC _ _ _ _ _ _; first
        | refine WC.seq ?_
        | refine WC.region ?_
        | refine WC.ret ?_
        | refine WC.condT rfl (by with_reducible rfl) ?_)
      | refine seqQ_n ?_
      | refine seqQ_r ?_)
    exact finC1r hS rfl rfl (LdOk.box (List.Mem.head _) rfl) ⟨hS.upd, rfl⟩
  · have hno : ∀ e ∈ t, e.path ≠ p := fun e he hp => by
      obtain ⟨i, hi, rfl⟩ := List.getElem_of_mem he
      exact hx ⟨i, hi, hp⟩
    have hfi : ∀ i fb, findIs t p i fb → fb = false := fun i fb h => by
      rcases h with ⟨_, h2, h3⟩ | ⟨h1, _⟩
      · exact absurd ⟨i, h2, h3⟩ hx
      · exact h1
    rw [getT_no hno]
    clear hx hno hfc
    repeat' (first
      | (show WL _ _ _ _ _ _ _; first
        | refine WL.pure rfl rfl rfl rfl ?_
        | refine WL.nil ?_
        | (refine WL.callG rfl rfl (tfind_c t p (hS.slO (by repeat (first | exact List.Mem.head _ | apply List.Mem.tail)) hA) hr hl) rfl rfl rfl ?_; rintro v w ⟨hu, i, fb, rfl, hf⟩; replace hS := hS.upd0 hu; clear hu; obtain rfl := hfi _ _ hf)
        | (refine WL.store hS rfl rfl rfl (by repeat (first | exact StB.here rfl | apply StB.there)) rfl rfl rfl ?_; intro w hS)
        | (refine WL.alloc hS rfl rfl rfl rfl rfl rfl ?_; intro w b hS)
        | refine WL.build rfl rfl rfl rfl rfl ?_)
      | (show WC _ _ _ _ _ _; first
        | refine WC.seq ?_
        | refine WC.region ?_
        | refine WC.skip ?_
        | refine WC.ret ?_
        | refine WC.condF rfl (by with_reducible rfl) ?_)
      | refine seqQ_n ?_)
    exact finC1r hS rfl rfl (LdOk.box (List.Mem.head _) rfl) ⟨hS.upd, rfl⟩
set_option maxHeartbeats 4000000 in
set_option maxRecDepth 100000 in
theorem twhole_c (kind : Int) (data : List UInt8) (w0 : World) : Cal Tryz.prog 135 [.agg ⟨[.int .i64 kind, str data]⟩] w0 (fun v w' => Upd [] w0 w' ∧ v = .bool (wholeE kind data)) := by
  refine Cal.mk' (by kernel_rfl) Tryz.func135 rfl rfl fun hS => ?_
  by_cases h0 : kind = 0
  · have e : wholeE kind data = decide (data = []) := by unfold wholeE; rw [if_pos (.inl h0)]
    rw [e]
    subst h0
    repeat' (first
      | (show WL _ _ _ _ _ _ _; first
        | refine WL.pure rfl rfl rfl rfl ?_
        | refine WL.nil ?_
        | refine WL.load hS rfl rfl (LdOk.box (by repeat (first | exact List.Mem.head _ | apply List.Mem.tail)) rfl) rfl rfl rfl ?_
        | (refine WL.box hS rfl rfl rfl rfl rfl ?_; intro w b hS))
      | (show WC _ _ _ _ _ _; first
        | refine WC.seq ?_
        | refine WC.region ?_
        | refine WC.block ?_
        | refine WC.skip ?_
        | refine WC.ret ?_
        | refine WC.condT rfl (by decide) ?_)
      | refine seqQ_n ?_
      | refine seqQ_r ?_
      | refine blkQ_r ?_)
    exact fin1r rfl rfl ⟨hS.upd, rfl⟩
  by_cases h1 : kind = 1
  · have e : wholeE kind data = decide (data = []) := by unfold wholeE; rw [if_pos (.inr h1)]
    rw [e]
    subst h1
    repeat' (first
      | (show WL _ _ _ _ _ _ _; first
        | refine WL.pure rfl rfl rfl rfl ?_
        | refine WL.nil ?_
        | refine WL.load hS rfl rfl (LdOk.box (by repeat (first | exact List.Mem.head _ | apply List.Mem.tail)) rfl) rfl rfl rfl ?_
        | (refine WL.box hS rfl rfl rfl rfl rfl ?_; intro w b hS))
      | (show WC _ _ _ _ _ _; first
        | refine WC.seq ?_
        | refine WC.region ?_
        | refine WC.block ?_
        | refine WC.ret ?_
        | refine WC.condT rfl (by decide) ?_
        | refine WC.condF rfl (by decide) ?_)
      | refine seqQ_n ?_
      | refine seqQ_r ?_
      | refine blkQ_r ?_)
    exact fin1r rfl rfl ⟨hS.upd, rfl⟩
  by_cases h2 : kind = 2
  · have e : wholeE kind data = decide ((data.length : Int) ≤ 4096) := by
      unfold wholeE
      rw [if_neg (by omega), if_pos h2]
      by_cases hd : data.length ≤ 4096
      · rw [decide_eq_true hd, decide_eq_true (by omega)]
      · rw [decide_eq_false hd, decide_eq_false (by omega)]
    rw [e]
    subst h2
    repeat' (first
      | (show WL _ _ _ _ _ _ _; first
        | refine WL.pure rfl rfl rfl rfl ?_
        | refine WL.nil ?_
        | refine WL.load hS rfl rfl (LdOk.box (by repeat (first | exact List.Mem.head _ | apply List.Mem.tail)) rfl) rfl rfl rfl ?_
        | (refine WL.box hS rfl rfl rfl rfl rfl ?_; intro w b hS))
      | (show WC _ _ _ _ _ _; first
        | refine WC.seq ?_
        | refine WC.region ?_
        | refine WC.block ?_
        | refine WC.ret ?_
        | refine WC.condT rfl (by decide) ?_
        | refine WC.condF rfl (by decide) ?_)
      | refine seqQ_n ?_
      | refine seqQ_r ?_
      | refine blkQ_r ?_)
    exact fin1r rfl rfl ⟨hS.upd, rfl⟩
  · have e : wholeE kind data = false := by unfold wholeE; rw [if_neg (by omega), if_neg h2]
    rw [e]
    repeat' (first
      | (show WL _ _ _ _ _ _ _; first
        | refine WL.pure rfl rfl rfl rfl ?_
        | refine WL.nil ?_
        | refine WL.load hS rfl rfl (LdOk.box (by repeat (first | exact List.Mem.head _ | apply List.Mem.tail)) rfl) rfl rfl rfl ?_
        | (refine WL.box hS rfl rfl rfl rfl rfl ?_; intro w b hS))
      | (show WC _ _ _ _ _ _; first
        | refine WC.seq ?_
        | refine WC.region ?_
        | refine WC.block ?_
        | refine WC.skip ?_
        | refine WC.ret ?_
        | refine WC.condF rfl (decide_eq_false (by first | with_reducible assumption | omega)) ?_)
      | refine seqQ_n ?_
      | refine blkQ_n ?_)
    exact fin1r rfl rfl ⟨hS.upd, rfl⟩
theorem checkT_bad {t : List Ent} (h : t.length ≤ 200) {i : Nat} (hi : i < t.length) (hb : ¬ EntOk t i hi) : checkT t = 3 := by
  unfold checkT
  rw [if_neg (by omega), if_neg (fun hh => hb (hh i hi))]
theorem checkT_ok {t : List Ent} (h : t.length ≤ 200) (ho : TreeOk t) : checkT t = 0 := by
  unfold checkT
  rw [if_neg (by omega), if_pos ho]
set_option maxHeartbeats 16000000 in
set_option maxRecDepth 100000 in
theorem tcheck_c (t : List Ent) {A : Option Addr} {cap : Nat} {w0 : World} (hA : SlAt cEnt (Old w0) w0 A t) (hcap : t.length ≤ cap) (hl : t.length ≤ 1048576) (hz : ∀ e ∈ t, e.path.length ≤ 1048576) :
    Cal Tryz.prog 115 [.slice A t.length cap] w0 (fun v w' => Upd [] w0 w' ∧ v = .int .i64 (checkT t)) := by
  refine Cal.mk' (by kernel_rfl) Tryz.func115 rfl rfl fun hS => ?_
  by_cases h200 : t.length ≤ 200
  rotate_left
  · have e : checkT t = 4 := by unfold checkT; rw [if_pos (by omega)]
    rw [e]
    repeat' (first
      | (show WL _ _ _ _ _ _ _; first
        | refine WL.pure rfl rfl rfl rfl ?_
        | refine WL.nil ?_)
      | (show WC _ _ _ _ _ _; first
        | refine WC.seq ?_
        | refine WC.region ?_
        | refine WC.ret ?_
        | refine WC.condT rfl (decide_eq_true (by first | with_reducible assumption | omega)) ?_)
      | refine seqQ_n ?_
      | refine seqQ_r ?_)
    exact fin1r rfl rfl ⟨hS.upd, rfl⟩
  repeat' (first
    | (show WL _ _ _ _ _ _ _; first
      | refine WL.pure rfl rfl rfl rfl ?_
      | refine WL.nil ?_)
    | (show WC _ _ _ _ _ _; first
      | refine WC.seq ?_
      | refine WC.region ?_
      | refine WC.block ?_
      | refine WC.skip ?_
      | refine WC.condF rfl (decide_eq_false (by first | with_reducible assumption | omega)) ?_)
    | refine seqQ_n ?_)
  refine WC.loop (σ := Nat) [0, 9, 10] (fun i => [(11, .int .i64 (i : Int))]) (fun i w => (i ≤ t.length ∧ TreeTo t i) ∧ St w0 [] w [] [⟨w0, Old w0⟩]) (fun i => t.length - i) 0 ⟨⟨Nat.zero_le _, fun i _ h => absurd h (Nat.not_lt_zero _)⟩, hS⟩ ⟨rfl, trivial⟩ ?_
  clear hS
  rintro i g w ⟨⟨hi, hto⟩, hS⟩
  show WC _ _ _ (lf _ [(11, .int .i64 (i : Int))] _ _) _ _
  by_cases hlt : i < t.length
  rotate_left
  · have hie : i = t.length := by omega
    subst hie
    rw [checkT_ok h200 (fun j hj => hto j hj hj)]
    clear hto
    repeat' (first
      | (show WL _ _ _ _ _ _ _; first
        | refine WL.pure rfl rfl rfl rfl ?_
        | refine WL.nil ?_)
      | (show WC _ _ _ _ _ _; first
        | refine WC.seq ?_
        | refine WC.region ?_
        | refine WC.exit ?_
        | refine WC.ret ?_
        | refine WC.condF rfl (decide_eq_false (by first | with_reducible assumption | omega)) ?_)
      | refine seqQ_n ?_
      | refine seqQ_x ?_
      | refine blkQ_hit rfl ?_
      | refine rndQ_x ?_)
    exact fin1r rfl rfl ⟨hS.upd, rfl⟩
  obtain ⟨rb, ro, es, rfl, hF, hrr, hes⟩ := hA.at_ hlt
  have hes : es = encEnt t[i] := hes
  subst hes
  have hrr : w0.rangeAt rb (ro + i * 3) (encEnt t[i]) := hrr
  have hpl := hz t[i] (List.getElem_mem hlt)
  have hbad := fun (h : ¬ EntOk t i hlt) => checkT_bad h200 hlt h
  have hrise := hto.rise.take hi
  have hut := fun q => up_take (q := q) hto.rise hi
  have htl : i = (t.take i).length := by rw [List.length_take]; omega
  have hAt : SlAt cEnt (Old w0) w0 (some ⟨rb, ro, none⟩) (t.take i) := SlAt.pre (ys := t.drop i) (by rw [List.take_append_drop]; exact hA)
  have hprev : 0 < i → ∃ pb po, (some ⟨rb, ro, none⟩ : Option Addr) = some ⟨pb, po, none⟩ ∧ ∃ h : i - 1 < t.length, Old w0 pb ∧ w0.rangeAt pb (po + (i - 1) * 3) (encEnt t[i - 1]) := fun h0 => by
    have h1 : i - 1 < t.length := by omega
    obtain ⟨pb, po, es, hA2, hF2, hr2, hes2⟩ := hA.at_ h1
    have hes2 : es = encEnt t[i - 1] := hes2
    subst hes2
    exact ⟨pb, po, hA2, h1, hF2, hr2⟩
  have hnext : EntOk t i hlt → TreeTo t (i + 1) := fun h j hj hji => by
    by_cases e : j = i
    · subst e; exact h
    · exact hto j hj (by omega)
  have hfail : (checkE t[i].path 5 ≠ 0 ∨ wholeE t[i].kind t[i].data = false ∨ t[i].kind = 0 ∨ (∃ h0 : 0 < i, Op.bytesLess (t[i - 1]'(by omega)).path t[i].path = false) ∨ (parentE t[i].path ≠ [] ∧ (getT (t.take i) (parentE t[i].path)).kind ≠ 1)) → checkT t = 3 := fun h => hbad fun ho => by
    rcases h with h | h | h | ⟨h0, h⟩ | ⟨h1, h2⟩
    · exact h ho.path
    · have := ho.whole; rw [h] at this; cases this
    · exact ho.kind h
    · have := ho.ord (i - 1) (by omega); rw [h] at this; cases this
    · exact h2 ((hut _).2 (ho.up h1))
  have hgood : checkE t[i].path 5 = 0 → wholeE t[i].kind t[i].data = true → t[i].kind ≠ 0 → (∀ h0 : 0 < i, Op.bytesLess (t[i - 1]'(by omega)).path t[i].path = true) → (parentE t[i].path ≠ [] → (getT (t.take i) (parentE t[i].path)).kind = 1) → TreeTo t (i + 1) := fun h1 h2 h3 h4 h5 =>
    hnext ⟨h1, h2, h3, fun j hj => by subst hj; exact h4 (by omega), fun hne => (hut _).1 (h5 hne)⟩
  have hq : 0 < i → ∃ q, ∃ h1 : i - 1 < t.length, q = t[i - 1] := fun h0 => ⟨_, by omega, rfl⟩
  clear hbad hut hnext hto
  obtain ⟨c, hcp⟩ : ∃ c, checkE t[i].path 5 = c := ⟨_, rfl⟩
  obtain ⟨wb, hwb⟩ : ∃ wb, wholeE t[i].kind t[i].data = wb := ⟨_, rfl⟩
  obtain ⟨up, hup⟩ : ∃ up, parentE t[i].path = up := ⟨_, rfl⟩
  rw [hcp, hwb, hup] at hfail hgood
  obtain ⟨gt, hgt⟩ : ∃ gt, getT (t.take i) up = gt := ⟨_, rfl⟩
  rw [hgt] at hfail hgood
  obtain ⟨gpath, gkind, gdata⟩ := gt
  have hgt : getT (t.take i) up = ⟨gpath, gkind, gdata⟩ := hgt
  have hfail : (c ≠ 0 ∨ wb = false ∨ t[i].kind = 0 ∨ (∃ h0 : 0 < i, Op.bytesLess (t[i - 1]'(by omega)).path t[i].path = false) ∨ (up ≠ [] ∧ gkind ≠ 1)) → checkT t = 3 := hfail
  have hgood : c = 0 → wb = true → t[i].kind ≠ 0 → (∀ h0 : 0 < i, Op.bytesLess (t[i - 1]'(by omega)).path t[i].path = true) → (up ≠ [] → gkind = 1) → TreeTo t (i + 1) := hgood
  by_cases hc0 : c = 0
  rotate_left
  · rw [hfail (.inl hc0)]
    generalize t[i] = e at *
    obtain ⟨path, kind, data⟩ := e
    dsimp only at hcp hwb hup hpl
    clear hfail hgood hprev hq
    repeat' (first
      | (show WL _ _ _ _ _ _ _; first
        | refine WL.pure rfl rfl rfl rfl ?_
        | refine WL.nil ?_
        | (refine WL.load hS rfl rfl (LdOk.snap0 hF hrr (by repeat (first | exact List.Mem.head _ | apply List.Mem.tail)) rfl) rfl rfl rfl ?_)
        | (refine WL.store hS rfl rfl rfl (by repeat (first | exact StB.here rfl | apply StB.there)) rfl rfl rfl ?_; intro w hS)
        | (refine WL.alloc hS rfl rfl rfl rfl rfl rfl ?_; intro w b hS)
        | refine WL.index rfl rfl rfl rfl (by first | with_reducible assumption | omega) rfl rfl rfl rfl ?_)
      | (show WC _ _ _ _ _ _; first
        | refine WC.seq ?_
        | refine WC.region ?_
        | refine WC.block ?_
        | refine WC.skip ?_
        | refine WC.ret ?_
        | (show WC _ _ (Code.region _ (List.toArray [_, _, _, _, _, _, _, _, _, _, _, _, _, _, _, _, _, _, _, _, _, _, _, _, _, _, _, _, _, _, _]) true) _ _ _; refine WC.drawS hS [0,1,3,4,5,6,8,9,10,11,12,13,14,15,16,17,18,19,20,21,22,23,24,25,26,27,28,29,30] [0,1,2,3,4,5,6,7,8,9,10,11,12,13,14,15,16,17,18,19,20,21,22,23,24,25,26,27,28,29,30] (by kernel_rfl) (by kernel_rfl) ?_; clear hS; intro w hS hM)
        | refine WC.condT rfl (by with_reducible rfl) ?_
        | refine WC.condT rfl (decide_eq_true (by first | with_reducible assumption | omega)) ?_)
      | (show WD _ _ _ _ _ _ _ _ _; first
        | refine WD.pure rfl rfl rfl rfl rfl ?_
        | refine WD.nil ?_
        | refine WD.load rfl rfl (LdOk.box (by repeat (first | exact List.Mem.head _ | apply List.Mem.tail)) rfl) rfl rfl rfl rfl ?_
        | (refine WD.calls hS hM rfl rfl (pcheck_c path 5 _ (by omega)) rfl rfl rfl rfl rfl ?_; clear hS; rintro v w rfl hS; rw [hcp])
        | refine WD.pass rfl rfl rfl rfl ?_
        | refine WD.skip rfl rfl rfl rfl rfl (hM.ss hS) ?_
        | ((fail_if_success (refine WD.wanted rfl ?_)); refine WD.guard rfl rfl rfl (fun h => ?_) (fun h => ?_) <;> (try simp only [Classical.not_not, Bool.not_eq_true', Bool.not_eq_false', Bool.not_eq_eq_eq_not, Bool.not_true, Bool.not_false, beq_iff_eq, beq_eq_false_iff_ne, ne_eq, decide_eq_decide, decide_eq_true_eq, decide_eq_false_iff_not, Bool.and_eq_true, Bool.or_eq_true, Bool.and_eq_false_iff, Bool.or_eq_false_iff] at h) <;> (try (exfalso; first | omega | contradiction))))
      | refine seqQ_n ?_
      | refine seqQ_r ?_
      | refine blkQ_r ?_
      | refine rndQ_r ?_)
    exact fin1r rfl rfl ⟨hS.upd, rfl⟩
  subst hc0
  cases wb with
  | false =>
    rw [hfail (.inr (.inl rfl))]
    generalize t[i] = e at *
    obtain ⟨path, kind, data⟩ := e
    dsimp only at hcp hwb hup hpl
    clear hfail hgood hprev hq
    repeat' (first
      | (show WL _ _ _ _ _ _ _; first
        | refine WL.pure rfl rfl rfl rfl ?_
        | refine WL.nil ?_
        | (refine WL.load hS rfl rfl (LdOk.snap0 hF hrr (by repeat (first | exact List.Mem.head _ | apply List.Mem.tail)) rfl) rfl rfl rfl ?_)
        | (refine WL.store hS rfl rfl rfl (by repeat (first | exact StB.here rfl | apply StB.there)) rfl rfl rfl ?_; intro w hS)
        | (refine WL.alloc hS rfl rfl rfl rfl rfl rfl ?_; intro w b hS)
        | refine WL.index rfl rfl rfl rfl (by first | with_reducible assumption | omega) rfl rfl rfl rfl ?_)
      | (show WC _ _ _ _ _ _; first
        | refine WC.seq ?_
        | refine WC.region ?_
        | refine WC.block ?_
        | refine WC.skip ?_
        | refine WC.ret ?_
        | (show WC _ _ (Code.region _ (List.toArray [_, _, _, _, _, _, _, _, _, _, _, _, _, _, _, _, _, _, _, _, _, _, _, _, _, _, _, _, _, _, _]) true) _ _ _; refine WC.drawS hS [0,1,3,4,5,6,8,9,10,11,12,13,14,15,16,17,18,19,20,21,22,23,24,25,26,27,28,29,30] [0,1,2,3,4,5,6,7,8,9,10,11,12,13,14,15,16,17,18,19,20,21,22,23,24,25,26,27,28,29,30] (by kernel_rfl) (by kernel_rfl) ?_; clear hS; intro w hS hM)
        | refine WC.condT rfl (by with_reducible rfl) ?_
        | refine WC.condT rfl (decide_eq_true (by first | with_reducible assumption | omega)) ?_)
      | (show WD _ _ _ _ _ _ _ _ _; first
        | refine WD.pure rfl rfl rfl rfl rfl ?_
        | refine WD.nil ?_
        | refine WD.load rfl rfl (LdOk.box (by repeat (first | exact List.Mem.head _ | apply List.Mem.tail)) rfl) rfl rfl rfl rfl ?_
        | (refine WD.calls hS hM rfl rfl (pcheck_c path 5 _ (by omega)) rfl rfl rfl rfl rfl ?_; clear hS; rintro v w rfl hS; rw [hcp])
        | (refine WD.calls hS hM rfl rfl (twhole_c kind data _) rfl rfl rfl rfl rfl ?_; clear hS; rintro v w rfl hS; rw [hwb])
        | refine WD.pass rfl rfl rfl rfl ?_)
      | refine seqQ_n ?_
      | refine seqQ_r ?_
      | refine blkQ_r ?_
      | refine rndQ_r ?_)
    exact fin1r rfl rfl ⟨hS.upd, rfl⟩
  | true =>
    by_cases hk0 : t[i].kind = 0
    · rw [hfail (.inr (.inr (.inl hk0)))]
      generalize t[i] = e at *
      obtain ⟨path, kind, data⟩ := e
      dsimp only at hcp hwb hup hpl
      have hk0 : kind = 0 := hk0
      clear hfail hgood hprev hq
      repeat' (first
        | (show WL _ _ _ _ _ _ _; first
          | refine WL.pure rfl rfl rfl rfl ?_
          | refine WL.nil ?_
          | (refine WL.load hS rfl rfl (LdOk.snap0 hF hrr (by repeat (first | exact List.Mem.head _ | apply List.Mem.tail)) rfl) rfl rfl rfl ?_)
          | (refine WL.store hS rfl rfl rfl (by repeat (first | exact StB.here rfl | apply StB.there)) rfl rfl rfl ?_; intro w hS)
          | (refine WL.alloc hS rfl rfl rfl rfl rfl rfl ?_; intro w b hS)
          | refine WL.index rfl rfl rfl rfl (by first | with_reducible assumption | omega) rfl rfl rfl rfl ?_)
        | (show WC _ _ _ _ _ _; first
          | refine WC.seq ?_
          | refine WC.region ?_
          | refine WC.block ?_
          | refine WC.skip ?_
          | refine WC.ret ?_
          | (show WC _ _ (Code.region _ (List.toArray [_, _, _, _, _, _, _, _, _, _, _, _, _, _, _, _, _, _, _, _, _, _, _, _, _, _, _, _, _, _, _]) true) _ _ _; refine WC.drawS hS [0,1,3,4,5,6,8,9,10,11,12,13,14,15,16,17,18,19,20,21,22,23,24,25,26,27,28,29,30] [0,1,2,3,4,5,6,7,8,9,10,11,12,13,14,15,16,17,18,19,20,21,22,23,24,25,26,27,28,29,30] (by kernel_rfl) (by kernel_rfl) ?_; clear hS; intro w hS hM)
          | refine WC.condT rfl (by with_reducible rfl) ?_
          | refine WC.condT rfl (decide_eq_true (by first | with_reducible assumption | omega)) ?_)
        | (show WD _ _ _ _ _ _ _ _ _; first
          | refine WD.pure rfl rfl rfl rfl rfl ?_
          | refine WD.nil ?_
          | refine WD.load rfl rfl (LdOk.box (by repeat (first | exact List.Mem.head _ | apply List.Mem.tail)) rfl) rfl rfl rfl rfl ?_
          | (refine WD.calls hS hM rfl rfl (pcheck_c path 5 _ (by omega)) rfl rfl rfl rfl rfl ?_; clear hS; rintro v w rfl hS; rw [hcp])
          | (refine WD.calls hS hM rfl rfl (twhole_c kind data _) rfl rfl rfl rfl rfl ?_; clear hS; rintro v w rfl hS; rw [hwb])
          | refine WD.pass rfl rfl rfl rfl ?_
          | ((fail_if_success (refine WD.wanted rfl ?_)); refine WD.guard rfl rfl rfl (fun h => ?_) (fun h => ?_) <;> (try simp only [Classical.not_not, Bool.not_eq_true', Bool.not_eq_false', Bool.not_eq_eq_eq_not, Bool.not_true, Bool.not_false, beq_iff_eq, beq_eq_false_iff_ne, ne_eq, decide_eq_decide, decide_eq_true_eq, decide_eq_false_iff_not, Bool.and_eq_true, Bool.or_eq_true, Bool.and_eq_false_iff, Bool.or_eq_false_iff] at h) <;> (try (exfalso; first | omega | contradiction))))
        | refine seqQ_n ?_
        | refine seqQ_r ?_
        | refine blkQ_r ?_
        | refine rndQ_r ?_)
      exact fin1r rfl rfl ⟨hS.upd, rfl⟩
    by_cases h0 : 0 < i
    rotate_left
    · have hi0 : i = 0 := by omega
      have hg2 := hgood rfl rfl hk0 (fun h => absurd h h0)
      have hf2 := fun h => hfail (.inr (.inr (.inr (.inr h))))
      generalize t[i] = e at *
      obtain ⟨path, kind, data⟩ := e
      dsimp only at hcp hwb hup hpl
      have hk0 : ¬ kind = 0 := hk0
      clear hfail hgood hprev hq
      by_cases hu : up = []
      · have hg3 := hg2 (fun h => absurd hu h)
        subst hu
        clear hg2 hf2
        repeat' (first
          | (show WL _ _ _ _ _ _ _; first
            | refine WL.pure rfl rfl rfl rfl ?_
            | refine WL.nil ?_
            | refine WL.load hS rfl rfl (LdOk.box (by repeat (first | exact List.Mem.head _ | apply List.Mem.tail)) rfl) rfl rfl rfl ?_
            | refine WL.add rfl rfl rfl (by omega) rfl rfl rfl ?_
            | (refine WL.load hS rfl rfl (LdOk.snap0 hF hrr (by repeat (first | exact List.Mem.head _ | apply List.Mem.tail)) rfl) rfl rfl rfl ?_)
            | (refine WL.calls hS rfl rfl (pparent_c path _ (by omega)) rfl rfl rfl ?_; rintro v w rfl hS; rw [hup])
            | (refine WL.store hS rfl rfl rfl (by repeat (first | exact StB.here rfl | apply StB.there)) rfl rfl rfl ?_; intro w hS)
            | (refine WL.alloc hS rfl rfl rfl rfl rfl rfl ?_; intro w b hS)
            | refine WL.index rfl rfl rfl rfl (by first | with_reducible assumption | omega) rfl rfl rfl rfl ?_
            | refine WL.skip rfl rfl rfl ?_)
          | (show WC _ _ _ _ _ _; first
            | refine WC.seq ?_
            | refine WC.region ?_
            | refine WC.block ?_
            | refine WC.skip ?_
            | (show WC _ _ (Code.region _ (List.toArray [_, _, _, _, _, _, _, _, _, _, _, _, _, _, _, _, _, _, _, _, _, _, _, _, _, _, _, _, _, _, _]) true) _ _ _; refine WC.drawS hS [0,1,3,4,5,6,8,9,10,11,12,13,14,15,16,17,18,19,20,21,22,23,24,25,26,27,28,29,30] [0,1,2,3,4,5,6,7,8,9,10,11,12,13,14,15,16,17,18,19,20,21,22,23,24,25,26,27,28,29,30] (by kernel_rfl) (by kernel_rfl) ?_; clear hS; intro w hS hM)
            | refine WC.condF rfl (by with_reducible rfl) ?_
            | refine WC.condT rfl (decide_eq_true (by first | with_reducible assumption | omega)) ?_)
          | (show WD _ _ _ _ _ _ _ _ _; first
            | refine WD.pure rfl rfl rfl rfl rfl ?_
            | refine WD.nil ?_
            | refine WD.load rfl rfl (LdOk.box (by repeat (first | exact List.Mem.head _ | apply List.Mem.tail)) rfl) rfl rfl rfl rfl ?_
            | (refine WD.calls hS hM rfl rfl (pcheck_c path 5 _ (by omega)) rfl rfl rfl rfl rfl ?_; clear hS; rintro v w rfl hS; rw [hcp])
            | (refine WD.calls hS hM rfl rfl (twhole_c kind data _) rfl rfl rfl rfl rfl ?_; clear hS; rintro v w rfl hS; rw [hwb])
            | refine WD.pass rfl rfl rfl rfl ?_
            | ((fail_if_success (refine WD.wanted rfl ?_)); refine WD.guard rfl rfl rfl (fun h => ?_) (fun h => ?_) <;> (try simp only [Classical.not_not, Bool.not_eq_true', Bool.not_eq_false', Bool.not_eq_eq_eq_not, Bool.not_true, Bool.not_false, beq_iff_eq, beq_eq_false_iff_ne, ne_eq, decide_eq_decide, decide_eq_true_eq, decide_eq_false_iff_not, Bool.and_eq_true, Bool.or_eq_true, Bool.and_eq_false_iff, Bool.or_eq_false_iff] at h) <;> (try (exfalso; first | omega | contradiction))))
          | refine seqQ_n ?_
          | refine blkQ_n ?_)
        exact rndQ_n (i + 1) ⟨⟨by omega, hg3⟩, hS.droplast2 (by repeat (first | exact Pulls.nil | (apply Pulls.cons; focus (repeat (first | exact Pull.here | apply Pull.there)))))⟩ (by show t.length - (i + 1) < t.length - i; omega) ⟨vint (by omega), trivial⟩ ⟨rfl, rfl, rfl, trivial⟩
      · by_cases hgk : gkind = 1
        · have hg3 := hg2 (fun _ => hgk)
          subst hgk
          clear hg2 hf2
          repeat' (first
            | (show WL _ _ _ _ _ _ _; first
              | refine WL.pure rfl rfl rfl rfl ?_
              | refine WL.nil ?_
              | refine WL.load hS rfl rfl (LdOk.box (by repeat (first | exact List.Mem.head _ | apply List.Mem.tail)) rfl) rfl rfl rfl ?_
              | refine WL.add rfl rfl rfl (by omega) rfl rfl rfl ?_
              | (refine WL.load hS rfl rfl (LdOk.snap0 hF hrr (by repeat (first | exact List.Mem.head _ | apply List.Mem.tail)) rfl) rfl rfl rfl ?_)
              | (refine WL.calls hS rfl rfl (pparent_c path _ (by omega)) rfl rfl rfl ?_; rintro v w rfl hS; rw [hup])
              | (refine WL.highV rfl rfl rfl rfl (by omega) rfl rfl rfl ?_)
              | (refine WL.calls hS rfl rfl (trget_c (t.take i) up (hS.slO (by repeat (first | exact List.Mem.head _ | apply List.Mem.tail)) hAt) hrise (by rw [← htl]; omega) htl) rfl rfl rfl ?_; rintro v w rfl hS; rw [hgt])
              | (refine WL.store hS rfl rfl rfl (by repeat (first | exact StB.here rfl | apply StB.there)) rfl rfl rfl ?_; intro w hS)
              | (refine WL.alloc hS rfl rfl rfl rfl rfl rfl ?_; intro w b hS)
              | refine WL.index rfl rfl rfl rfl (by first | with_reducible assumption | omega) rfl rfl rfl rfl ?_
              | ((fail_if_success (refine WL.wanted rfl ?_)); refine WL.guard rfl rfl rfl (fun h => ?_) (fun h => ?_) <;> (try simp only [Classical.not_not, Bool.not_eq_true', Bool.not_eq_false', Bool.not_eq_eq_eq_not, Bool.not_true, Bool.not_false, beq_iff_eq, beq_eq_false_iff_ne, ne_eq, decide_eq_decide, decide_eq_true_eq, decide_eq_false_iff_not, Bool.and_eq_true, Bool.or_eq_true, Bool.and_eq_false_iff, Bool.or_eq_false_iff] at h) <;> (try (exfalso; first | omega | contradiction))))
            | (show WC _ _ _ _ _ _; first
              | refine WC.seq ?_
              | refine WC.region ?_
              | refine WC.block ?_
              | refine WC.skip ?_
              | (show WC _ _ (Code.region _ (List.toArray [_, _, _, _, _, _, _, _, _, _, _, _, _, _, _, _, _, _, _, _, _, _, _, _, _, _, _, _, _, _, _]) true) _ _ _; refine WC.drawS hS [0,1,3,4,5,6,8,9,10,11,12,13,14,15,16,17,18,19,20,21,22,23,24,25,26,27,28,29,30] [0,1,2,3,4,5,6,7,8,9,10,11,12,13,14,15,16,17,18,19,20,21,22,23,24,25,26,27,28,29,30] (by kernel_rfl) (by kernel_rfl) ?_; clear hS; intro w hS hM)
              | refine WC.condF rfl (by with_reducible rfl) ?_
              | refine WC.condT rfl (decide_eq_true (by first | with_reducible assumption | omega)) ?_
              | refine WC.condF rfl (by first | (simp; done) | (simp; omega)) ?_)
            | (show WD _ _ _ _ _ _ _ _ _; first
              | refine WD.pure rfl rfl rfl rfl rfl ?_
              | refine WD.nil ?_
              | refine WD.load rfl rfl (LdOk.box (by repeat (first | exact List.Mem.head _ | apply List.Mem.tail)) rfl) rfl rfl rfl rfl ?_
              | (refine WD.calls hS hM rfl rfl (pcheck_c path 5 _ (by omega)) rfl rfl rfl rfl rfl ?_; clear hS; rintro v w rfl hS; rw [hcp])
              | (refine WD.calls hS hM rfl rfl (twhole_c kind data _) rfl rfl rfl rfl rfl ?_; clear hS; rintro v w rfl hS; rw [hwb])
              | refine WD.pass rfl rfl rfl rfl ?_
              | ((fail_if_success (refine WD.wanted rfl ?_)); refine WD.guard rfl rfl rfl (fun h => ?_) (fun h => ?_) <;> (try simp only [Classical.not_not, Bool.not_eq_true', Bool.not_eq_false', Bool.not_eq_eq_eq_not, Bool.not_true, Bool.not_false, beq_iff_eq, beq_eq_false_iff_ne, ne_eq, decide_eq_decide, decide_eq_true_eq, decide_eq_false_iff_not, Bool.and_eq_true, Bool.or_eq_true, Bool.and_eq_false_iff, Bool.or_eq_false_iff] at h) <;> (try (exfalso; first | omega | contradiction))))
            | refine seqQ_n ?_
            | refine blkQ_n ?_)
          exact rndQ_n (i + 1) ⟨⟨by omega, hg3⟩, hS.droplast2 (by repeat (first | exact Pulls.nil | (apply Pulls.cons; focus (repeat (first | exact Pull.here | apply Pull.there)))))⟩ (by show t.length - (i + 1) < t.length - i; omega) ⟨vint (by omega), trivial⟩ ⟨rfl, rfl, rfl, trivial⟩
        · rw [hf2 ⟨hu, hgk⟩]
          clear hg2 hf2
          repeat' (first
            | (show WL _ _ _ _ _ _ _; first
              | refine WL.pure rfl rfl rfl rfl ?_
              | refine WL.nil ?_
              | refine WL.load hS rfl rfl (LdOk.box (by repeat (first | exact List.Mem.head _ | apply List.Mem.tail)) rfl) rfl rfl rfl ?_
              | (refine WL.load hS rfl rfl (LdOk.snap0 hF hrr (by repeat (first | exact List.Mem.head _ | apply List.Mem.tail)) rfl) rfl rfl rfl ?_)
              | (refine WL.calls hS rfl rfl (pparent_c path _ (by omega)) rfl rfl rfl ?_; rintro v w rfl hS; rw [hup])
              | (refine WL.highV rfl rfl rfl rfl (by omega) rfl rfl rfl ?_)
              | (refine WL.calls hS rfl rfl (trget_c (t.take i) up (hS.slO (by repeat (first | exact List.Mem.head _ | apply List.Mem.tail)) hAt) hrise (by rw [← htl]; omega) htl) rfl rfl rfl ?_; rintro v w rfl hS; rw [hgt])
              | (refine WL.store hS rfl rfl rfl (by repeat (first | exact StB.here rfl | apply StB.there)) rfl rfl rfl ?_; intro w hS)
              | (refine WL.alloc hS rfl rfl rfl rfl rfl rfl ?_; intro w b hS)
              | refine WL.index rfl rfl rfl rfl (by first | with_reducible assumption | omega) rfl rfl rfl rfl ?_
              | ((fail_if_success (refine WL.wanted rfl ?_)); refine WL.guard rfl rfl rfl (fun h => ?_) (fun h => ?_) <;> (try simp only [Classical.not_not, Bool.not_eq_true', Bool.not_eq_false', Bool.not_eq_eq_eq_not, Bool.not_true, Bool.not_false, beq_iff_eq, beq_eq_false_iff_ne, ne_eq, decide_eq_decide, decide_eq_true_eq, decide_eq_false_iff_not, Bool.and_eq_true, Bool.or_eq_true, Bool.and_eq_false_iff, Bool.or_eq_false_iff] at h) <;> (try (exfalso; first | omega | contradiction))))
            | (show WC _ _ _ _ _ _; first
              | refine WC.seq ?_
              | refine WC.region ?_
              | refine WC.block ?_
              | refine WC.skip ?_
              | refine WC.ret ?_
              | (show WC _ _ (Code.region _ (List.toArray [_, _, _, _, _, _, _, _, _, _, _, _, _, _, _, _, _, _, _, _, _, _, _, _, _, _, _, _, _, _, _]) true) _ _ _; refine WC.drawS hS [0,1,3,4,5,6,8,9,10,11,12,13,14,15,16,17,18,19,20,21,22,23,24,25,26,27,28,29,30] [0,1,2,3,4,5,6,7,8,9,10,11,12,13,14,15,16,17,18,19,20,21,22,23,24,25,26,27,28,29,30] (by kernel_rfl) (by kernel_rfl) ?_; clear hS; intro w hS hM)
              | refine WC.condF rfl (by with_reducible rfl) ?_
              | refine WC.condT rfl (decide_eq_true (by first | with_reducible assumption | omega)) ?_)
            | (show WD _ _ _ _ _ _ _ _ _; first
              | refine WD.pure rfl rfl rfl rfl rfl ?_
              | refine WD.nil ?_
              | refine WD.load rfl rfl (LdOk.box (by repeat (first | exact List.Mem.head _ | apply List.Mem.tail)) rfl) rfl rfl rfl rfl ?_
              | (refine WD.calls hS hM rfl rfl (pcheck_c path 5 _ (by omega)) rfl rfl rfl rfl rfl ?_; clear hS; rintro v w rfl hS; rw [hcp])
              | (refine WD.calls hS hM rfl rfl (twhole_c kind data _) rfl rfl rfl rfl rfl ?_; clear hS; rintro v w rfl hS; rw [hwb])
              | refine WD.pass rfl rfl rfl rfl ?_
              | ((fail_if_success (refine WD.wanted rfl ?_)); refine WD.guard rfl rfl rfl (fun h => ?_) (fun h => ?_) <;> (try simp only [Classical.not_not, Bool.not_eq_true', Bool.not_eq_false', Bool.not_eq_eq_eq_not, Bool.not_true, Bool.not_false, beq_iff_eq, beq_eq_false_iff_ne, ne_eq, decide_eq_decide, decide_eq_true_eq, decide_eq_false_iff_not, Bool.and_eq_true, Bool.or_eq_true, Bool.and_eq_false_iff, Bool.or_eq_false_iff] at h) <;> (try (exfalso; first | omega | contradiction))))
            | refine seqQ_n ?_
            | refine seqQ_r ?_
            | refine blkQ_r ?_
            | refine rndQ_r ?_)
          exact fin1r rfl rfl ⟨hS.upd, rfl⟩
    obtain ⟨pb, po, hpe, h1, hF2, hr2⟩ := hprev h0
    cases hpe
    cases hless : Op.bytesLess t[i - 1].path t[i].path with
    | false =>
      rw [hfail (.inr (.inr (.inr (.inl ⟨h0, hless⟩))))]
      generalize t[i] = e at *
      generalize t[i - 1] = q at *
      obtain ⟨path, kind, data⟩ := e
      dsimp only at hcp hwb hup hpl
      obtain ⟨qpath, qkind, qdata⟩ := q
      have hk0 : ¬ kind = 0 := hk0
      have hless : Op.bytesLess qpath path = false := hless
      clear hfail hgood hprev hq
      repeat' (first
        | (show WL _ _ _ _ _ _ _; first
          | refine WL.pure rfl rfl rfl rfl ?_
          | refine WL.nil ?_
          | (refine WL.load hS rfl rfl (LdOk.snap0 hF hrr (by repeat (first | exact List.Mem.head _ | apply List.Mem.tail)) rfl) rfl rfl rfl ?_)
          | (refine WL.store hS rfl rfl rfl (by repeat (first | exact StB.here rfl | apply StB.there)) rfl rfl rfl ?_; intro w hS)
          | (refine WL.alloc hS rfl rfl rfl rfl rfl rfl ?_; intro w b hS)
          | refine WL.index rfl rfl rfl rfl (by first | with_reducible assumption | omega) rfl rfl rfl rfl ?_)
        | (show WC _ _ _ _ _ _; first
          | refine WC.condT rfl (by first | (simp [hless]; done) | fail) ?_
          | refine WC.seq ?_
          | refine WC.region ?_
          | refine WC.block ?_
          | refine WC.skip ?_
          | refine WC.ret ?_
          | (show WC _ _ (Code.region _ (List.toArray [_, _, _, _, _, _, _, _, _, _, _, _, _, _, _, _, _, _, _, _, _, _, _, _, _, _, _, _, _, _, _]) true) _ _ _; refine WC.drawS hS [0,1,3,4,5,6,8,9,10,11,12,13,14,15,16,17,18,19,20,21,22,23,24,25,26,27,28,29,30] [0,1,2,3,4,5,6,7,8,9,10,11,12,13,14,15,16,17,18,19,20,21,22,23,24,25,26,27,28,29,30] (by kernel_rfl) (by kernel_rfl) ?_; clear hS; intro w hS hM)
          | refine WC.condT rfl (decide_eq_true (by first | with_reducible assumption | omega)) ?_)
        | (show WD _ _ _ _ _ _ _ _ _; first
          | refine WD.pure rfl rfl rfl rfl rfl ?_
          | refine WD.nil ?_
          | refine WD.load rfl rfl (LdOk.box (by repeat (first | exact List.Mem.head _ | apply List.Mem.tail)) rfl) rfl rfl rfl rfl ?_
          | refine WD.sub rfl rfl rfl (by omega) rfl rfl rfl rfl ?_
          | (refine WD.calls hS hM rfl rfl (pcheck_c path 5 _ (by omega)) rfl rfl rfl rfl rfl ?_; clear hS; rintro v w rfl hS; rw [hcp])
          | (refine WD.calls hS hM rfl rfl (twhole_c kind data _) rfl rfl rfl rfl rfl ?_; clear hS; rintro v w rfl hS; rw [hwb])
          | (refine WD.index (j := i - 1) rfl rfl rfl (vint (show ((i : Nat) : Int) - 1 = ((i - 1 : Nat) : Int) by omega)) (by omega) rfl rfl rfl rfl rfl ?_)
          | (refine WD.load rfl rfl (LdOk.snap (off := 0) hF2 hr2 (by repeat (first | exact List.Mem.head _ | apply List.Mem.tail)) rfl) rfl rfl rfl rfl ?_)
          | ((fail_if_success (refine WD.wanted rfl ?_)); refine WD.guard rfl rfl rfl (fun h => ?_) (fun h => ?_) <;> (try simp only [Classical.not_not, Bool.not_eq_true', Bool.not_eq_false', Bool.not_eq_eq_eq_not, Bool.not_true, Bool.not_false, beq_iff_eq, beq_eq_false_iff_ne, ne_eq, decide_eq_decide, decide_eq_true_eq, decide_eq_false_iff_not, Bool.and_eq_true, Bool.or_eq_true, Bool.and_eq_false_iff, Bool.or_eq_false_iff] at h) <;> (try (exfalso; first | omega | contradiction))))
        | refine seqQ_n ?_
        | refine seqQ_r ?_
        | refine blkQ_r ?_
        | refine rndQ_r ?_)
      exact fin1r rfl rfl ⟨hS.upd, rfl⟩
    | true =>
      have hg2 := hgood rfl rfl hk0 (fun _ => hless)
      have hf2 := fun h => hfail (.inr (.inr (.inr (.inr h))))
      generalize t[i] = e at *
      generalize t[i - 1] = q at *
      obtain ⟨path, kind, data⟩ := e
      dsimp only at hcp hwb hup hpl
      obtain ⟨qpath, qkind, qdata⟩ := q
      have hk0 : ¬ kind = 0 := hk0
      have hless : Op.bytesLess qpath path = true := hless
      clear hfail hgood hprev hq
      by_cases hu : up = []
      · have hg3 := hg2 (fun h => absurd hu h)
        subst hu
        clear hg2 hf2
        repeat' (first
          | (show WL _ _ _ _ _ _ _; first
            | refine WL.pure rfl rfl rfl rfl ?_
            | refine WL.nil ?_
            | refine WL.load hS rfl rfl (LdOk.box (by repeat (first | exact List.Mem.head _ | apply List.Mem.tail)) rfl) rfl rfl rfl ?_
            | refine WL.add rfl rfl rfl (by omega) rfl rfl rfl ?_
            | (refine WL.load hS rfl rfl (LdOk.snap0 hF hrr (by repeat (first | exact List.Mem.head _ | apply List.Mem.tail)) rfl) rfl rfl rfl ?_)
            | (refine WL.calls hS rfl rfl (pparent_c path _ (by omega)) rfl rfl rfl ?_; rintro v w rfl hS; rw [hup])
            | (refine WL.store hS rfl rfl rfl (by repeat (first | exact StB.here rfl | apply StB.there)) rfl rfl rfl ?_; intro w hS)
            | (refine WL.alloc hS rfl rfl rfl rfl rfl rfl ?_; intro w b hS)
            | refine WL.index rfl rfl rfl rfl (by first | with_reducible assumption | omega) rfl rfl rfl rfl ?_
            | refine WL.skip rfl rfl rfl ?_)
          | (show WC _ _ _ _ _ _; first
            | refine WC.condF rfl (by first | (simp [hless]; done) | fail) ?_
            | refine WC.seq ?_
            | refine WC.region ?_
            | refine WC.block ?_
            | refine WC.skip ?_
            | (show WC _ _ (Code.region _ (List.toArray [_, _, _, _, _, _, _, _, _, _, _, _, _, _, _, _, _, _, _, _, _, _, _, _, _, _, _, _, _, _, _]) true) _ _ _; refine WC.drawS hS [0,1,3,4,5,6,8,9,10,11,12,13,14,15,16,17,18,19,20,21,22,23,24,25,26,27,28,29,30] [0,1,2,3,4,5,6,7,8,9,10,11,12,13,14,15,16,17,18,19,20,21,22,23,24,25,26,27,28,29,30] (by kernel_rfl) (by kernel_rfl) ?_; clear hS; intro w hS hM)
            | refine WC.condT rfl (decide_eq_true (by first | with_reducible assumption | omega)) ?_)
          | (show WD _ _ _ _ _ _ _ _ _; first
            | refine WD.pure rfl rfl rfl rfl rfl ?_
            | refine WD.nil ?_
            | refine WD.load rfl rfl (LdOk.box (by repeat (first | exact List.Mem.head _ | apply List.Mem.tail)) rfl) rfl rfl rfl rfl ?_
            | refine WD.sub rfl rfl rfl (by omega) rfl rfl rfl rfl ?_
            | (refine WD.calls hS hM rfl rfl (pcheck_c path 5 _ (by omega)) rfl rfl rfl rfl rfl ?_; clear hS; rintro v w rfl hS; rw [hcp])
            | (refine WD.calls hS hM rfl rfl (twhole_c kind data _) rfl rfl rfl rfl rfl ?_; clear hS; rintro v w rfl hS; rw [hwb])
            | (refine WD.index (j := i - 1) rfl rfl rfl (vint (show ((i : Nat) : Int) - 1 = ((i - 1 : Nat) : Int) by omega)) (by omega) rfl rfl rfl rfl rfl ?_)
            | (refine WD.load rfl rfl (LdOk.snap (off := 0) hF2 hr2 (by repeat (first | exact List.Mem.head _ | apply List.Mem.tail)) rfl) rfl rfl rfl rfl ?_)
            | ((fail_if_success (refine WD.wanted rfl ?_)); refine WD.guard rfl rfl rfl (fun h => ?_) (fun h => ?_) <;> (try simp only [Classical.not_not, Bool.not_eq_true', Bool.not_eq_false', Bool.not_eq_eq_eq_not, Bool.not_true, Bool.not_false, beq_iff_eq, beq_eq_false_iff_ne, ne_eq, decide_eq_decide, decide_eq_true_eq, decide_eq_false_iff_not, Bool.and_eq_true, Bool.or_eq_true, Bool.and_eq_false_iff, Bool.or_eq_false_iff] at h) <;> (try (exfalso; first | omega | contradiction))))
          | refine seqQ_n ?_
          | refine blkQ_n ?_)
        exact rndQ_n (i + 1) ⟨⟨by omega, hg3⟩, hS.droplast2 (by repeat (first | exact Pulls.nil | (apply Pulls.cons; focus (repeat (first | exact Pull.here | apply Pull.there)))))⟩ (by show t.length - (i + 1) < t.length - i; omega) ⟨vint (by omega), trivial⟩ ⟨rfl, rfl, rfl, trivial⟩
      · by_cases hgk : gkind = 1
        · have hg3 := hg2 (fun _ => hgk)
          subst hgk
          clear hg2 hf2
          repeat' (first
            | (show WL _ _ _ _ _ _ _; first
              | refine WL.pure rfl rfl rfl rfl ?_
              | refine WL.nil ?_
              | refine WL.load hS rfl rfl (LdOk.box (by repeat (first | exact List.Mem.head _ | apply List.Mem.tail)) rfl) rfl rfl rfl ?_
              | refine WL.add rfl rfl rfl (by omega) rfl rfl rfl ?_
              | (refine WL.load hS rfl rfl (LdOk.snap0 hF hrr (by repeat (first | exact List.Mem.head _ | apply List.Mem.tail)) rfl) rfl rfl rfl ?_)
              | (refine WL.calls hS rfl rfl (pparent_c path _ (by omega)) rfl rfl rfl ?_; rintro v w rfl hS; rw [hup])
              | (refine WL.highV rfl rfl rfl rfl (by omega) rfl rfl rfl ?_)
              | (refine WL.calls hS rfl rfl (trget_c (t.take i) up (hS.slO (by repeat (first | exact List.Mem.head _ | apply List.Mem.tail)) hAt) hrise (by rw [← htl]; omega) htl) rfl rfl rfl ?_; rintro v w rfl hS; rw [hgt])
              | (refine WL.store hS rfl rfl rfl (by repeat (first | exact StB.here rfl | apply StB.there)) rfl rfl rfl ?_; intro w hS)
              | (refine WL.alloc hS rfl rfl rfl rfl rfl rfl ?_; intro w b hS)
              | refine WL.index rfl rfl rfl rfl (by first | with_reducible assumption | omega) rfl rfl rfl rfl ?_
              | ((fail_if_success (refine WL.wanted rfl ?_)); refine WL.guard rfl rfl rfl (fun h => ?_) (fun h => ?_) <;> (try simp only [Classical.not_not, Bool.not_eq_true', Bool.not_eq_false', Bool.not_eq_eq_eq_not, Bool.not_true, Bool.not_false, beq_iff_eq, beq_eq_false_iff_ne, ne_eq, decide_eq_decide, decide_eq_true_eq, decide_eq_false_iff_not, Bool.and_eq_true, Bool.or_eq_true, Bool.and_eq_false_iff, Bool.or_eq_false_iff] at h) <;> (try (exfalso; first | omega | contradiction))))
            | (show WC _ _ _ _ _ _; first
              | refine WC.condF rfl (by first | (simp [hless]; done) | fail) ?_
              | refine WC.seq ?_
              | refine WC.region ?_
              | refine WC.block ?_
              | refine WC.skip ?_
              | (show WC _ _ (Code.region _ (List.toArray [_, _, _, _, _, _, _, _, _, _, _, _, _, _, _, _, _, _, _, _, _, _, _, _, _, _, _, _, _, _, _]) true) _ _ _; refine WC.drawS hS [0,1,3,4,5,6,8,9,10,11,12,13,14,15,16,17,18,19,20,21,22,23,24,25,26,27,28,29,30] [0,1,2,3,4,5,6,7,8,9,10,11,12,13,14,15,16,17,18,19,20,21,22,23,24,25,26,27,28,29,30] (by kernel_rfl) (by kernel_rfl) ?_; clear hS; intro w hS hM)
              | refine WC.condT rfl (decide_eq_true (by first | with_reducible assumption | omega)) ?_)
            | (show WD _ _ _ _ _ _ _ _ _; first
              | refine WD.pure rfl rfl rfl rfl rfl ?_
              | refine WD.nil ?_
              | refine WD.load rfl rfl (LdOk.box (by repeat (first | exact List.Mem.head _ | apply List.Mem.tail)) rfl) rfl rfl rfl rfl ?_
              | refine WD.sub rfl rfl rfl (by omega) rfl rfl rfl rfl ?_
              | (refine WD.calls hS hM rfl rfl (pcheck_c path 5 _ (by omega)) rfl rfl rfl rfl rfl ?_; clear hS; rintro v w rfl hS; rw [hcp])
              | (refine WD.calls hS hM rfl rfl (twhole_c kind data _) rfl rfl rfl rfl rfl ?_; clear hS; rintro v w rfl hS; rw [hwb])
              | (refine WD.index (j := i - 1) rfl rfl rfl (vint (show ((i : Nat) : Int) - 1 = ((i - 1 : Nat) : Int) by omega)) (by omega) rfl rfl rfl rfl rfl ?_)
              | (refine WD.load rfl rfl (LdOk.snap (off := 0) hF2 hr2 (by repeat (first | exact List.Mem.head _ | apply List.Mem.tail)) rfl) rfl rfl rfl rfl ?_)
              | ((fail_if_success (refine WD.wanted rfl ?_)); refine WD.guard rfl rfl rfl (fun h => ?_) (fun h => ?_) <;> (try simp only [Classical.not_not, Bool.not_eq_true', Bool.not_eq_false', Bool.not_eq_eq_eq_not, Bool.not_true, Bool.not_false, beq_iff_eq, beq_eq_false_iff_ne, ne_eq, decide_eq_decide, decide_eq_true_eq, decide_eq_false_iff_not, Bool.and_eq_true, Bool.or_eq_true, Bool.and_eq_false_iff, Bool.or_eq_false_iff] at h) <;> (try (exfalso; first | omega | contradiction))))
            | refine seqQ_n ?_
            | refine blkQ_n ?_)
          exact rndQ_n (i + 1) ⟨⟨by omega, hg3⟩, hS.droplast2 (by repeat (first | exact Pulls.nil | (apply Pulls.cons; focus (repeat (first | exact Pull.here | apply Pull.there)))))⟩ (by show t.length - (i + 1) < t.length - i; omega) ⟨vint (by omega), trivial⟩ ⟨rfl, rfl, rfl, trivial⟩
        · rw [hf2 ⟨hu, hgk⟩]
          clear hg2 hf2
          repeat' (first
            | (show WL _ _ _ _ _ _ _; first
              | refine WL.pure rfl rfl rfl rfl ?_
              | refine WL.nil ?_
              | refine WL.load hS rfl rfl (LdOk.box (by repeat (first | exact List.Mem.head _ | apply List.Mem.tail)) rfl) rfl rfl rfl ?_
              | (refine WL.load hS rfl rfl (LdOk.snap0 hF hrr (by repeat (first | exact List.Mem.head _ | apply List.Mem.tail)) rfl) rfl rfl rfl ?_)
              | (refine WL.calls hS rfl rfl (pparent_c path _ (by omega)) rfl rfl rfl ?_; rintro v w rfl hS; rw [hup])
              | (refine WL.highV rfl rfl rfl rfl (by omega) rfl rfl rfl ?_)
              | (refine WL.calls hS rfl rfl (trget_c (t.take i) up (hS.slO (by repeat (first | exact List.Mem.head _ | apply List.Mem.tail)) hAt) hrise (by rw [← htl]; omega) htl) rfl rfl rfl ?_; rintro v w rfl hS; rw [hgt])
              | (refine WL.store hS rfl rfl rfl (by repeat (first | exact StB.here rfl | apply StB.there)) rfl rfl rfl ?_; intro w hS)
              | (refine WL.alloc hS rfl rfl rfl rfl rfl rfl ?_; intro w b hS)
              | refine WL.index rfl rfl rfl rfl (by first | with_reducible assumption | omega) rfl rfl rfl rfl ?_
              | ((fail_if_success (refine WL.wanted rfl ?_)); refine WL.guard rfl rfl rfl (fun h => ?_) (fun h => ?_) <;> (try simp only [Classical.not_not, Bool.not_eq_true', Bool.not_eq_false', Bool.not_eq_eq_eq_not, Bool.not_true, Bool.not_false, beq_iff_eq, beq_eq_false_iff_ne, ne_eq, decide_eq_decide, decide_eq_true_eq, decide_eq_false_iff_not, Bool.and_eq_true, Bool.or_eq_true, Bool.and_eq_false_iff, Bool.or_eq_false_iff] at h) <;> (try (exfalso; first | omega | contradiction))))
            | (show WC _ _ _ _ _ _; first
              | refine WC.condF rfl (by first | (simp [hless]; done) | fail) ?_
              | refine WC.seq ?_
              | refine WC.region ?_
              | refine WC.block ?_
              | refine WC.skip ?_
              | refine WC.ret ?_
              | (show WC _ _ (Code.region _ (List.toArray [_, _, _, _, _, _, _, _, _, _, _, _, _, _, _, _, _, _, _, _, _, _, _, _, _, _, _, _, _, _, _]) true) _ _ _; refine WC.drawS hS [0,1,3,4,5,6,8,9,10,11,12,13,14,15,16,17,18,19,20,21,22,23,24,25,26,27,28,29,30] [0,1,2,3,4,5,6,7,8,9,10,11,12,13,14,15,16,17,18,19,20,21,22,23,24,25,26,27,28,29,30] (by kernel_rfl) (by kernel_rfl) ?_; clear hS; intro w hS hM)
              | refine WC.condT rfl (decide_eq_true (by first | with_reducible assumption | omega)) ?_)
            | (show WD _ _ _ _ _ _ _ _ _; first
              | refine WD.pure rfl rfl rfl rfl rfl ?_
              | refine WD.nil ?_
              | refine WD.load rfl rfl (LdOk.box (by repeat (first | exact List.Mem.head _ | apply List.Mem.tail)) rfl) rfl rfl rfl rfl ?_
              | refine WD.sub rfl rfl rfl (by omega) rfl rfl rfl rfl ?_
              | (refine WD.calls hS hM rfl rfl (pcheck_c path 5 _ (by omega)) rfl rfl rfl rfl rfl ?_; clear hS; rintro v w rfl hS; rw [hcp])
              | (refine WD.calls hS hM rfl rfl (twhole_c kind data _) rfl rfl rfl rfl rfl ?_; clear hS; rintro v w rfl hS; rw [hwb])
              | (refine WD.index (j := i - 1) rfl rfl rfl (vint (show ((i : Nat) : Int) - 1 = ((i - 1 : Nat) : Int) by omega)) (by omega) rfl rfl rfl rfl rfl ?_)
              | (refine WD.load rfl rfl (LdOk.snap (off := 0) hF2 hr2 (by repeat (first | exact List.Mem.head _ | apply List.Mem.tail)) rfl) rfl rfl rfl rfl ?_)
              | ((fail_if_success (refine WD.wanted rfl ?_)); refine WD.guard rfl rfl rfl (fun h => ?_) (fun h => ?_) <;> (try simp only [Classical.not_not, Bool.not_eq_true', Bool.not_eq_false', Bool.not_eq_eq_eq_not, Bool.not_true, Bool.not_false, beq_iff_eq, beq_eq_false_iff_ne, ne_eq, decide_eq_decide, decide_eq_true_eq, decide_eq_false_iff_not, Bool.and_eq_true, Bool.or_eq_true, Bool.and_eq_false_iff, Bool.or_eq_false_iff] at h) <;> (try (exfalso; first | omega | contradiction))))
            | refine seqQ_n ?_
            | refine seqQ_r ?_
            | refine blkQ_r ?_
            | refine rndQ_r ?_)
          exact fin1r rfl rfl ⟨hS.upd, rfl⟩
end Go.Proofs.YtniacmoniaaolaaGreatDoor

/- What is proved: what Get, Whole, Check and Same of reference 4 answer. Conditions: entries of bounded length. -/
set_option linter.unusedSimpArgs false
set_option linter.unusedVariables false
namespace Go.Proofs.YtniacmoniaaolaaGreatDoor
open Go Go.J Go.RowKit

set_option maxHeartbeats 4000000 in
set_option maxRecDepth 100000 in
theorem rsame_c (l : List Ent) {A B : Option Addr} {cap cap2 : Nat} {w0 : World} (hA : SlAt cEnt (Old w0) w0 A l) (hB : SlAt cEnt (Old w0) w0 B l) (hl : l.length ≤ 1099511627776) :
    Cal Tryz.prog 22 [.slice A l.length cap, .slice B l.length cap2] w0 (fun v w' => Upd [] w0 w' ∧ v = .bool true) := by
  refine Cal.mk' (by kernel_rfl) Tryz.func22 rfl rfl fun hS => ?_
  repeat' (first
    | (show WL _ _ _ _ _ _ _; first
      | refine WL.pure rfl rfl rfl rfl ?_
      | refine WL.nil ?_)
    | (show WC _ _ _ _ _ _; first
      | refine WC.seq ?_
      | refine WC.region ?_
      | refine WC.block ?_
      | refine WC.skip ?_
      | refine WC.condF rfl (decide_eq_false (by first | with_reducible assumption | omega)) ?_)
    | refine seqQ_n ?_)
  refine WC.loop (σ := Nat) [0, 1] (fun k => [(5, .int .i64 (k : Int))]) (fun k w => k ≤ l.length ∧ St w0 [] w [] [⟨w0, Old w0⟩]) (fun k => l.length - k) 0 ⟨Nat.zero_le _, hS⟩ ⟨rfl, trivial⟩ ?_
  clear hS
  rintro k g w ⟨hk, hS⟩
  show WC _ _ _ (lf _ [(5, .int .i64 (k : Int))] _ _) _ _
  by_cases hlt : k < l.length
  · obtain ⟨rb, ro, es, rfl, hF, hrr, hes⟩ := hA.at_ hlt
    obtain ⟨rb2, ro2, es2, rfl, hF2, hr2, hes2⟩ := hB.at_ hlt
    have hes : es = encEnt l[k] := hes
    have hes2 : es2 = encEnt l[k] := hes2
    subst hes hes2
    have hrr : w0.rangeAt rb (ro + k * 3) (encEnt l[k]) := hrr
    have hr2 : w0.rangeAt rb2 (ro2 + k * 3) (encEnt l[k]) := hr2
    generalize l[k] = o at *
    obtain ⟨opath, okind, odata⟩ := o
    repeat' (first
      | (show WL _ _ _ _ _ _ _; first
        | refine WL.pure rfl rfl rfl rfl ?_
        | refine WL.nil ?_
        | refine WL.add rfl rfl rfl (by omega) rfl rfl rfl ?_)
      | (show WC _ _ _ _ _ _; first
        | refine WC.seq ?_
        | refine WC.region ?_
        | refine WC.block ?_
        | refine WC.skip ?_
        | (show WC _ _ (Code.region _ (List.toArray [_, _, _, _, _, _, _, _, _]) true) _ _ _; refine WC.drawS hS [0, 1, 2, 3, 4, 5, 6, 7, 8] [0, 1, 2, 3, 4, 5, 6, 7, 8] (by kernel_rfl) (by kernel_rfl) ?_; clear hS; intro w hS hM)
        | refine WC.condT rfl (decide_eq_true (by first | with_reducible assumption | omega)) ?_
        | refine WC.condF rfl (by first | (simp; done) | (simp; omega)) ?_)
      | (show WD _ _ _ _ _ _ _ _ _; first
        | refine WD.pure rfl rfl rfl rfl rfl ?_
        | refine WD.nil ?_
        | (refine WD.load rfl rfl (LdOk.snap0 hF hrr (by repeat (first | exact List.Mem.head _ | apply List.Mem.tail)) rfl) rfl rfl rfl rfl ?_)
        | (refine WD.load rfl rfl (LdOk.snap0 hF2 hr2 (by repeat (first | exact List.Mem.head _ | apply List.Mem.tail)) rfl) rfl rfl rfl rfl ?_)
        | refine WD.index rfl rfl rfl rfl (by first | with_reducible assumption | omega) rfl rfl rfl rfl rfl ?_
        | refine WD.neS rfl rfl rfl rfl (by kernel_rfl) rfl rfl rfl rfl ?_)
      | refine seqQ_n ?_
      | refine blkQ_n ?_)
    exact rndQ_n (k + 1) ⟨by omega, hS⟩ (by show l.length - (k + 1) < l.length - k; omega) ⟨vint (by omega), trivial⟩ ⟨rfl, rfl, trivial⟩
  · have hke : k = l.length := by omega
    subst hke
    repeat' (first
      | (show WL _ _ _ _ _ _ _; first
        | refine WL.pure rfl rfl rfl rfl ?_
        | refine WL.nil ?_)
      | (show WC _ _ _ _ _ _; first
        | refine WC.seq ?_
        | refine WC.region ?_
        | refine WC.exit ?_
        | refine WC.ret ?_
        | refine WC.condF rfl (decide_eq_false (by first | with_reducible assumption | omega)) ?_)
      | refine seqQ_n ?_
      | refine seqQ_x ?_
      | refine blkQ_hit rfl ?_
      | refine rndQ_x ?_)
    exact fin1r rfl rfl ⟨hS.upd, rfl⟩
def RefTo (t : List Ent) (n : Nat) : Prop := ∀ i (h : i < t.length), i < n → RefOk t i h
theorem checkT_badR {t : List Ent} (h : t.length ≤ 200) {i : Nat} (hi : i < t.length) (hb : ¬ RefOk t i hi) : checkT t = 3 := by
  unfold checkT
  rw [if_neg (by omega), if_neg (fun hh => hb (tree_refOk hh i hi))]
end Go.Proofs.YtniacmoniaaolaaGreatDoor

/- What is proved: lists of entries sorted, cut out and put in: plain facts. Conditions: none. -/
set_option linter.unusedSimpArgs false
set_option linter.unusedVariables false
namespace Go.Proofs.YtniacmoniaaolaaGreatDoor
open Go Go.J Go.RowKit

instance : DecidableEq Ent := fun a b => decidable_of_iff (a.path = b.path ∧ a.kind = b.kind ∧ a.data = b.data) ⟨fun h => by
  obtain ⟨p, k, d⟩ := a
  obtain ⟨p2, k2, d2⟩ := b
  simp only at h
  obtain ⟨rfl, rfl, rfl⟩ := h
  rfl, fun h => by subst h; exact ⟨rfl, rfl, rfl⟩⟩
/-- no entry stands ahead of a lesser one -/
def SortedE (l : List Ent) : Prop := l.Pairwise fun x y => Op.bytesLess y.path x.path = false
def lessP (x y : Ent) : Prop := Op.bytesLess x.path y.path = true
theorem tree_strict {t : List Ent} (h : TreeOk t) : t.Pairwise lessP := by
  rw [List.pairwise_iff_getElem]
  intro i j hi hj hij
  exact h.rise i j hij hj hj
/-- of the lists that hold the same, sorted, one that is a tree is the only one -/
theorem perm_strict : ∀ {a b : List Ent}, a.Perm b → a.Pairwise lessP → SortedE b → a = b
  | [], b, hp, _, _ => (List.nil_perm.1 hp).symm
  | x :: a, [], hp, _, _ => absurd hp.length_eq (by simp)
  | x :: a, y :: b, hp, ha, hb => by
    rw [List.pairwise_cons] at ha
    unfold SortedE at hb
    rw [List.pairwise_cons] at hb
    have hy : y ∈ x :: a := hp.mem_iff.2 (List.mem_cons_self ..)
    have hx : x ∈ y :: b := hp.mem_iff.1 (List.mem_cons_self ..)
    have e : x = y := by
      rcases List.mem_cons.1 hy with e | hy
      · exact e.symm
      · rcases List.mem_cons.1 hx with e | hx
        · exact e
        · have h1 := hb.1 x hx
          rw [show Op.bytesLess x.path y.path = true from ha.1 y hy] at h1
          cases h1
    subst e
    rw [perm_strict (List.perm_cons x |>.1 hp) ha.2 hb.2]
theorem sorted_tree {a b : List Ent} (hp : a.Perm b) (ha : SortedE a) (hb : SortedE b) (h : TreeOk a) : a = b := perm_strict hp (tree_strict h) hb
theorem checkT_zero {t : List Ent} : checkT t = 0 ↔ t.length ≤ 200 ∧ TreeOk t := by
  unfold checkT
  by_cases h : 200 < t.length
  · rw [if_pos h]
    constructor
    · intro h; cases h
    · intro h; omega
  · rw [if_neg h]
    by_cases h2 : TreeOk t
    · rw [if_pos h2]
      exact ⟨fun _ => ⟨by omega, h2⟩, fun _ => rfl⟩
    · rw [if_neg h2]
      exact ⟨fun h => (by cases h), fun h => absurd h.2 h2⟩
theorem sorted_check {a b : List Ent} (hp : a.Perm b) (ha : SortedE a) (hb : SortedE b) : (checkT a = 0 ↔ checkT b = 0) ∧ (checkT a = 0 → a = b) := by
  have e : checkT a = 0 → a = b := fun h => sorted_tree hp ha hb (checkT_zero.1 h).2
  refine ⟨⟨fun h => by rw [← e h]; exact h, fun h => ?_⟩, e⟩
  rw [← sorted_tree hp.symm hb ha (checkT_zero.1 h).2]
  exact h
/-! ## the document's sort -/
/-- the first place at which no lesser entry stands -/
def plcE (out : List Ent) (x : Ent) : Nat := (out.takeWhile fun y => Op.bytesLess y.path x.path).length
def insE (out : List Ent) (x : Ent) : List Ent := out.take (plcE out x) ++ x :: out.drop (plcE out x)
def sortR (l : List Ent) : List Ent := l.foldl insE []
theorem plcE_le (out : List Ent) (x : Ent) : plcE out x ≤ out.length := by
  unfold plcE
  exact (List.takeWhile_sublist _).length_le
theorem plcE_cons (y : Ent) (out : List Ent) (x : Ent) : plcE (y :: out) x = if Op.bytesLess y.path x.path then plcE out x + 1 else 0 := by
  unfold plcE
  rw [List.takeWhile_cons]
  split <;> simp_all
theorem insE_perm (out : List Ent) (x : Ent) : (insE out x).Perm (x :: out) := by
  unfold insE
  have := List.take_append_drop (plcE out x) out
  exact List.perm_middle.trans (by rw [this])
theorem insE_cons (y : Ent) (out : List Ent) (x : Ent) : insE (y :: out) x = if Op.bytesLess y.path x.path then y :: insE out x else x :: y :: out := by
  unfold insE
  rw [plcE_cons]
  split <;> rfl
theorem insE_sorted {out : List Ent} (h : SortedE out) (x : Ent) : SortedE (insE out x) := by
  unfold SortedE at *
  induction out with
  | nil => exact List.pairwise_singleton ..
  | cons y l ih =>
    rw [List.pairwise_cons] at h
    rw [insE_cons]
    cases hb : Op.bytesLess y.path x.path with
    | true =>
      rw [if_pos rfl, List.pairwise_cons]
      refine ⟨fun z hz => ?_, ih h.2⟩
      rcases List.mem_cons.1 ((insE_perm l x).mem_iff.1 hz) with rfl | hz
      · exact less_asym hb
      · exact h.1 z hz
    | false =>
      rw [if_neg (by simp), List.pairwise_cons, List.pairwise_cons]
      refine ⟨fun z hz => ?_, h.1, h.2⟩
      rcases List.mem_cons.1 hz with rfl | hz
      · exact hb
      · have h1 := h.1 z hz
        cases h2 : Op.bytesLess z.path x.path with
        | false => rfl
        | true =>
          rcases less_tri y.path z.path with h3 | h3 | h3
          · rw [less_trans h3 h2] at hb; cases hb
          · rw [h3, h2] at hb; cases hb
          · rw [h3] at h1; cases h1
theorem sortR_step (l : List Ent) : ∀ out : List Ent, SortedE out → SortedE (l.foldl insE out) ∧ (l.foldl insE out).Perm (out ++ l) := by
  induction l with
  | nil => exact fun out h => ⟨h, by rw [List.append_nil]; exact .refl _⟩
  | cons x l ih =>
    intro out h
    obtain ⟨h1, h2⟩ := ih (insE out x) (insE_sorted h x)
    refine ⟨h1, h2.trans ?_⟩
    exact ((insE_perm out x).append_right l).trans (List.perm_middle.symm)
theorem sortR_sorted (l : List Ent) : SortedE (sortR l) := (sortR_step l [] .nil).1
theorem sortR_perm (l : List Ent) : (sortR l).Perm l := (sortR_step l [] .nil).2
theorem sortR_snoc (l : List Ent) (x : Ent) : sortR (l ++ [x]) = insE (sortR l) x := by unfold sortR; rw [List.foldl_append]; rfl
/-! ## what stands at a path and below it; other things there -/
def subE (t : List Ent) (p : List UInt8) : List Ent := t.filter fun x => underB x.path p
def restE (t : List Ent) (p : List UInt8) : List Ent := t.filter fun x => !underB x.path p
noncomputable def replE (t : List Ent) (p : List UInt8) (sub : List Ent) : Option (List Ent) :=
  if checkE p 5 ≠ 0 ∨ (∃ x ∈ sub, underB x.path p = false) ∨ checkT (sortR (restE t p ++ sub)) ≠ 0 then none else some (sortR (restE t p ++ sub))
theorem restE_len (t : List Ent) (p : List UInt8) : (restE t p).length ≤ t.length := List.length_filter_le ..
theorem subE_len (t : List Ent) (p : List UInt8) : (subE t p).length ≤ t.length := List.length_filter_le ..
theorem filter_take {α : Type} (f : α → Bool) (t : List α) {k : Nat} (h : k < t.length) : (t.take (k + 1)).filter f = (t.take k).filter f ++ if f t[k] then [t[k]] else [] := by
  rw [List.take_succ_eq_append_getElem h, List.filter_append, List.filter_cons]
  rfl
end Go.Proofs.YtniacmoniaaolaaGreatDoor

/- What is proved: 'slices.SortFunc' of a row of entries by their paths, which the caller owns. Conditions: bounded length. -/
set_option linter.unusedSimpArgs false
set_option linter.unusedVariables false
namespace Go.Proofs.YtniacmoniaaolaaGreatDoor
open Go Go.J Go.RowKit Go.Sort Go.Shelf

def cmpE (x y : Ent) : Int := Lib.compareBytes x.path y.path
theorem ltE (x y : Ent) : ltOf cmpE x y = Op.bytesLess x.path y.path := by
  unfold ltOf cmpE
  have h := cmp_lt x.path y.path
  cases hb : Op.bytesLess x.path y.path with
  | true => exact decide_eq_true (h.2 hb)
  | false => exact decide_eq_false fun hh => by rw [h.1 hh] at hb; cases hb
theorem less_not {a b c : List UInt8} (h1 : Op.bytesLess a b = false) (h2 : Op.bytesLess b c = false) : Op.bytesLess a c = false := by
  cases h : Op.bytesLess a c with
  | false => rfl
  | true =>
    rcases less_tri a b with h3 | rfl | h3
    · rw [h1] at h3; cases h3
    · rw [h] at h2; cases h2
    · have := less_trans h3 h
      rw [h2] at this; cases this
theorem swoE : SWO (ltOf cmpE) where
  irrefl x := by rw [ltE]; exact less_irr _
  trans x y z h1 h2 := by rw [ltE] at *; exact less_trans h1 h2
  ntrans x y z h1 h2 := by rw [ltE] at *; exact less_not h1 h2
set_option maxHeartbeats 1000000 in
set_option maxRecDepth 100000 in
set_option maxRecDepth 100000 in
theorem tcmpR_calls (x y : Ent) (W : World) : Calls Tryz.prog 113 #[.agg (encEnt x).toArray, .agg (encEnt y).toArray] W fun e w' => e = .returned (.int .i64 (cmpE x y)) ∧ ∃ q os', w' = grow (W.drewN q) os' := by
  have hcon := fun W' => Any.strings_Compare Tryz.compareL ⟨⟨x.path⟩⟩ ⟨⟨y.path⟩⟩ W'
  change ∀ W', Calls Tryz.prog 114 _ _ _ at hcon
  unfold cmpE
  unfold encEnt
  change ∀ W', Calls Tryz.prog 114 _ _ (fun e w' => e = .returned (.int .i64 (Lib.compareBytes x.path y.path)) ∧ w' = W') at hcon
  generalize Lib.compareBytes x.path y.path = r at hcon ⊢
  obtain ⟨p1, k1, d1⟩ := x
  obtain ⟨p2, k2, d2⟩ := y
  go_enter Tryz.func113, Tryz.ntmps113
  go_wp2_with (go_at_call 114; refine (hcon _).mono ?_; rintro e w' ⟨rfl, rfl⟩)
  go_ret
  exact ⟨rfl, 0, _, by rw [alloc_eq_grow, alloc_eq_grow, grow_grow]; rfl⟩
theorem RowAt.putV {w : World} {e : TypeId} {size g off n cap : Nat} {xs : List Value} (h : RowAt w e size (.slice (some ⟨g, off, none⟩) n cap) n xs) (vs : List Value) (hy : vs.length = n * size) (k : Nat) (os : Array Obj) :
    RowAt (grow (putRow id (Sort.ahead w k) g off vs.toArray) os) e size (.slice (some ⟨g, off, none⟩) n cap) n vs ∧ Upd [g] w (grow (putRow id (Sort.ahead w k) g off vs.toArray) os) := by
  rcases h.2 with ⟨e0, _⟩ | ⟨g', off', cap', cur, e0, hg, hn, hm, hs, ht⟩
  · cases e0
  · simp only [Value.slice.injEq, Option.some.injEq, Addr.mk.injEq, true_and, and_true] at e0
    obtain ⟨⟨rfl, rfl⟩, rfl⟩ := e0
    have hlt : g < w.heap.size := (Array.getElem?_eq_some_iff.1 hg).1
    have hsz : (putRow id (Sort.ahead w k) g off vs.toArray).heap.size = w.heap.size := by rw [Go.Sort.size_putRow]; rfl
    have hput : (putRow id (Sort.ahead w k) g off vs.toArray).heap[g]? = some (.cells (putCells id off vs.toArray ⟨cur⟩) e (0, 0)) := by
      simp [putRow, mapBlock, Sort.ahead, Array.getElem?_modify, hg, onCells]
    have hgr : ∀ b, b < w.heap.size → (grow (putRow id (Sort.ahead w k) g off vs.toArray) os).heap[b]? = (putRow id (Sort.ahead w k) g off vs.toArray).heap[b]? := fun b hb => by
      show ((putRow id (Sort.ahead w k) g off vs.toArray).heap ++ os)[b]? = _
      rw [Array.getElem?_append_left (by rw [hsz]; exact hb)]
    refine ⟨⟨hy, .inr ⟨g, off, cap, (putCells id off vs.toArray ⟨cur⟩).toList, rfl, ?_, hn, hm, ?_, ?_⟩⟩, ⟨rfl, rfl, rfl, ?_, fun b hb hnb => ?_⟩⟩
    · rw [hgr g hlt, hput]
    · simpa [putCells] using hs
    · have hns : n * size ≤ cap * size := Nat.mul_le_mul_right _ hn
      apply List.ext_getElem?
      intro j
      rw [List.getElem?_take, List.getElem?_drop, Array.getElem?_toList]
      by_cases hj : j < n * size
      · have hjc : off + j < cur.length := by omega
        simp only [if_pos hj, putCells, Array.getElem?_mapIdx]
        rw [show (Array.mk cur)[off + j]? = some cur[off + j] from by rw [show (Array.mk cur) = cur.toArray from rfl, List.getElem?_toArray]; exact List.getElem?_eq_getElem hjc]
        simp only [Option.map_some]
        rw [if_pos (by simp; omega), List.getElem?_eq_getElem (by omega)]
        simp [getElem!_pos, show j < vs.length by omega]
      · rw [if_neg hj, List.getElem?_eq_none (by omega)]
    · show w.heap.size ≤ ((putRow id (Sort.ahead w k) g off vs.toArray).heap ++ os).size
      rw [Array.size_append, hsz]
      exact Nat.le_add_right _ _
    · rw [hgr b hb]
      have hne : ¬ g = b := fun e => hnb (by rw [← e]; exact List.mem_cons_self ..)
      simp [putRow, mapBlock, Sort.ahead, Array.getElem?_modify, hne]
theorem flatK_ents (d : Array Ent) : flatK encEnt 3 d = (d.toList.flatMap encEnt).toArray := by
  apply Array.ext
  · have e := flat_len (enc := encEnt) (sz := 3) (fun _ => rfl) d.toList
    rw [size_flatK]
    show d.size * 3 = (d.toList.flatMap encEnt).length
    rw [e, Array.length_toList]
  · intro t h1 h2
    have ht : t < d.size * 3 := by rw [size_flatK] at h1; exact h1
    have hq : t / 3 < d.size := by omega
    have hm : t % 3 < 3 := Nat.mod_lt _ (by decide)
    have e1 := get_flatK encEnt 3 d t ht
    rw [getElem!_pos (flatK encEnt 3 d) t h1] at e1
    have e2 := flat_get (enc := encEnt) (sz := 3) (fun _ => rfl) d.toList (k := t / 3) (i := t % 3) (by rw [Array.length_toList]; exact hq) hm
    rw [show t / 3 * 3 + t % 3 = t by omega] at e2
    rw [e1, List.getElem_toArray]
    have h3 : t < (d.toList.flatMap encEnt).length := by rw [flat_len (enc := encEnt) (sz := 3) (fun _ => rfl), Array.length_toList]; exact ht
    rw [List.getElem?_eq_getElem h3] at e2
    have hl : t % 3 < (encEnt (d.toList[t / 3]'(by rw [Array.length_toList]; exact hq))).length := hm
    rw [List.getElem?_eq_getElem hl] at e2
    have e3 := Option.some.inj e2
    rw [e3, getElem!_pos d (t / 3) hq, Array.getElem_toList, getElem!_pos (encEnt d[t / 3]) (t % 3) (show t % 3 < (encEnt d[t / 3]).length from hm)]
    rfl
theorem RowAt.holdsE {w : World} {e : TypeId} {g off n cap : Nat} {l : List Ent} (h : RowAt w e 3 (.slice (some ⟨g, off, none⟩) n cap) n (l.flatMap encEnt)) : HoldsK encEnt 3 w g off l.toArray := by
  intro j hj
  rw [flatK_ents] at hj ⊢
  have hj' : j < (l.flatMap encEnt).length := by simpa using hj
  rcases h.2 with ⟨e0, _⟩ | ⟨g', off', cap', cur, e0, hg, hn, hm, hs, ht⟩
  · cases e0
  · simp only [Value.slice.injEq, Option.some.injEq, Addr.mk.injEq, true_and, and_true] at e0
    obtain ⟨⟨rfl, rfl⟩, rfl⟩ := e0
    refine ⟨?_, by simp [World.frozen?, hg]⟩
    have hc := h.cells j ((l.flatMap encEnt)[j]) (List.getElem?_eq_getElem hj')
    rw [hc]
    show some (l.flatMap encEnt)[j] = some (id (l.flatMap encEnt).toArray[j]!)
    rw [getElem!_pos (l.flatMap encEnt).toArray j (by simpa using hj')]
    rfl
set_option maxRecDepth 100000
theorem sortF_c {A : Option Addr} {cap : Nat} {l : List Ent} {w0 : World} (hc : (Chunk.own (.slice A l.length cap) 60 3 l.length (l.flatMap encEnt)).holds w0) (hi : inB (.own (.slice A l.length cap) 60 3 l.length (l.flatMap encEnt)) w0) (hl : l.length ≤ 1099511627776) :
    Cal Tryz.prog 112 [.slice A l.length cap, .func (.func 113) ⟨[]⟩ ⟨[]⟩] w0 (fun v w' => v = .tuple #[] ∧ ∃ l', l'.Perm l ∧ SortedE l' ∧ Mut w0 w' (.own (.slice A l.length cap) 60 3 l.length (l.flatMap encEnt)) (.own (.slice A l.length cap) 60 3 l.length (l'.flatMap encEnt))) := by
  rcases l with _ | ⟨x, l⟩
  · refine ⟨by kernel_rfl, (AnyF.slices_SortFunc_none Tryz.sortFL A cap (.func (.func 113) ⟨[]⟩ ⟨[]⟩) w0).mono fun e w' ⟨h1, h2⟩ => ⟨_, h1, rfl, [], .refl _, .nil, ?_⟩⟩
    rw [h2]; exact ⟨.refl _ _, hc, fun b hb => .inl hb⟩
  · generalize hll : x :: l = ll at *
    have hpos : 0 < ll.length := by rw [← hll]; simp
    have hA : ∃ g off, A = some ⟨g, off, none⟩ := by
      rcases hc.2 with ⟨e0, hz⟩ | ⟨g, off, cap', cur, e0, _⟩
      · omega
      · simp only [Value.slice.injEq] at e0; exact ⟨g, off, e0.1⟩
    obtain ⟨g, off, rfl⟩ := hA
    have hg : g < w0.heap.size := hi g (by simp [Chunk.fp, Value.ownBlock])
    refine ⟨by kernel_rfl, (AnyQ.slices_SortFunc Tryz.sortFL 3 Tryz.isAgg60 Tryz.sizeOf60 encEnt (fun _ => rfl) (fun x v hv => by simp [encEnt] at hv; rcases hv with rfl | rfl | rfl <;> rfl) cmpE swoE 113 #[] g off cap ll.toArray w0
      (enters_of Tryz.func113 (by kernel_rfl) rfl) (fun _ _ _ _ x y => tcmpR_calls x y _) (RowAt.holdsE hc) hg (by simp; omega)).mono fun e w' ⟨h1, d', n, os, h2, h3, h4⟩ => ⟨_, h1, rfl, d'.toList, ?_, ?_, ?_⟩⟩
    · obtain ⟨hs, _, hp⟩ := h2
      have e1 : d'.extract 0 ll.toArray.size = d' := by rw [← hs]; simp
      rw [e1] at hp
      simpa using hp
    · have hs := h2.1
      rw [SortedE, List.pairwise_iff_getElem]
      intro i j hi hj hij
      have := h3 i j (Nat.zero_le _) hij (by rw [← hs]; simpa using hj)
      rw [ltE, getElem!_pos d' j (by simpa using hj), getElem!_pos d' i (by simpa using hi)] at this
      simpa using this
    · subst h4
      have hs := h2.1
      have hlen : (d'.toList.flatMap encEnt).length = ll.length * 3 := by rw [flat_len (enc := encEnt) (sz := 3) (fun _ => rfl), Array.length_toList, hs]; simp
      have hr := RowAt.putV hc (d'.toList.flatMap encEnt) hlen n os
      rw [← flatK_ents] at hr
      exact ⟨hr.2, hr.1, fun b hb => .inl hb⟩
end Go.Proofs.YtniacmoniaaolaaGreatDoor

/- What is proved: what slices.Clone and slices.Equal of entries, tree.Same, tree.Sub and tree.Replace answer. Conditions: lists and paths of bounded length. -/
set_option linter.unusedSimpArgs false
set_option linter.unusedVariables false
namespace Go.Proofs.YtniacmoniaaolaaGreatDoor
open Go Go.J Go.RowKit

theorem ents_ones (t : List Ent) : Go.J.one (t.flatMap encEnt) = true := by
  unfold Go.J.one
  rw [List.all_eq_true]
  intro v hv
  obtain ⟨e, _, h⟩ := List.mem_flatMap.1 hv
  simp only [encEnt, List.mem_cons, List.not_mem_nil, or_false] at h
  rcases h with rfl | rfl | rfl <;> rfl
abbrev eC (A : Option Addr) (c : Nat) (s : List Ent) : Chunk := .own (.slice A s.length c) 60 3 s.length (s.flatMap encEnt)
theorem eC_snoc {A : Option Addr} {c : Nat} {s : List Ent} {e : Ent} : Chunk.own (.slice A (s.length + 1) c) 60 3 (s.length + 1) (s.flatMap encEnt ++ encEnt e) = eC A c (s ++ [e]) := by
  unfold eC
  rw [List.flatMap_append, List.length_append]
  rfl
theorem eC_app {A : Option Addr} {c : Nat} {s t : List Ent} : Chunk.own (.slice A (s.length + t.length) c) 60 3 (s.length + t.length) (s.flatMap encEnt ++ t.flatMap encEnt) = eC A c (s ++ t) := by
  unfold eC
  rw [List.flatMap_append, List.length_append]
variable {w0 : World}
set_option maxHeartbeats 4000000 in
set_option maxRecDepth 100000 in
theorem clone_c (t : List Ent) {A : Option Addr} {cap : Nat} (hA : SlAt cEnt (Old w0) w0 A t) (hl : t.length ≤ 1048576) :
    Cal Tryz.prog 51 [.slice A t.length cap] w0 (fun v w' => Upd [] w0 w' ∧ ∃ A' cap', v = .slice A' t.length cap' ∧ New w0 w' (eC A' cap' t)) := by
  refine Cal.mk' (by kernel_rfl) Tryz.func51 rfl rfl fun hS => ?_
  have hz : 0 + t.length = t.length := Nat.zero_add _
  rcases A with _ | a
  · have ht : t = [] := by
      rcases t with _ | ⟨x, l⟩
      · rfl
      · obtain ⟨_, _, _, h, _⟩ := hA.at_ (k := 0) (by simp)
        cases h
    subst ht
    repeat' (first
      | (show WL _ _ _ _ _ _ _; first
        | refine WL.pure rfl rfl rfl rfl ?_
        | refine WL.nil ?_)
      | (show WC _ _ _ _ _ _; first
        | refine WC.seq ?_
        | refine WC.region ?_
        | refine WC.ret ?_
        | refine WC.condT rfl (by with_reducible rfl) ?_)
      | refine seqQ_n ?_
      | refine seqQ_r ?_)
    replace hS := hS.nilRow 60 3
    exact fin1r rfl rfl ⟨hS.upd, none, 0, rfl, hS.newOf (List.Mem.head _)⟩
  · repeat' (first
      | (show WL _ _ _ _ _ _ _; first
        | refine WL.pure rfl rfl rfl rfl ?_
        | refine WL.nil ?_
        | (refine WL.slit (t := 61) hS rfl rfl rfl rfl rfl ?_; intro w ob hS; have hS := hS.boxRow (n := 0) (size := 3) .here rfl (Nat.zero_le _))
        | (refine WL.appSl (sz := 3) (enc := encEnt) (hsz := fun _ => rfl) hS rfl rfl rfl rfl hA (by repeat (first | exact List.Mem.head _ | apply List.Mem.tail)) (by decide) (ents_ones t) (fun A cap => by repeat (first | exact Repl.here | apply Repl.there)) (by omega) rfl rfl rfl ?_; intro A2 cap2 w hS))
      | (show WC _ _ _ _ _ _; first
        | refine WC.seq ?_
        | refine WC.region ?_
        | refine WC.skip ?_
        | refine WC.ret ?_
        | refine WC.condF rfl (by with_reducible rfl) ?_)
      | refine seqQ_n ?_)
    rw [hz] at hS
    exact fin1r rfl rfl ⟨hS.upd, _, _, by rw [hz], hS.newOf (by repeat (first | exact List.Mem.head _ | apply List.Mem.tail))⟩
set_option maxHeartbeats 8000000 in
set_option maxRecDepth 100000 in
theorem tequal_c (a b : List Ent) {A B : Option Addr} {ca cb : Nat} (hA : SlAt cEnt (Old w0) w0 A a) (hB : SlAt cEnt (Old w0) w0 B b) (hl : a.length ≤ 1048576) (hlb : b.length ≤ 1048576) :
    Cal Tryz.prog 110 [.slice A a.length ca, .slice B b.length cb] w0 (fun v w' => Upd [] w0 w' ∧ v = .bool (decide (a = b))) := by
  refine Cal.mk' (by kernel_rfl) Tryz.func110 rfl rfl fun hS => ?_
  by_cases hlen : a.length = b.length
  rotate_left
  · rw [decide_eq_false (fun h => hlen (by rw [h]))]
    repeat' (first
      | (show WL _ _ _ _ _ _ _; first
        | refine WL.pure rfl rfl rfl rfl ?_
        | refine WL.nil ?_)
      | (show WC _ _ _ _ _ _; first
        | refine WC.seq ?_
        | refine WC.region ?_
        | refine WC.ret ?_
        | refine WC.condT rfl (decide_eq_true (by first | with_reducible assumption | omega)) ?_)
      | refine seqQ_n ?_
      | refine seqQ_r ?_)
    exact fin1r rfl rfl ⟨hS.upd, rfl⟩
  repeat' (first
    | (show WL _ _ _ _ _ _ _; first
      | refine WL.pure rfl rfl rfl rfl ?_
      | refine WL.nil ?_)
    | (show WC _ _ _ _ _ _; first
      | refine WC.seq ?_
      | refine WC.region ?_
      | refine WC.block ?_
      | refine WC.skip ?_
      | refine WC.condF rfl (decide_eq_false (by first | with_reducible assumption | omega)) ?_)
    | refine seqQ_n ?_)
  refine WC.loop (σ := Nat) [0, 1, 12] (fun k => [(13, .int .i64 (k : Int))])
    (fun k w => (k ≤ a.length ∧ a.take k = b.take k) ∧ St w0 [] w [] [⟨w0, Old w0⟩]) (fun k => a.length - k) 0 ⟨⟨Nat.zero_le _, rfl⟩, hS⟩ ⟨rfl, trivial⟩ ?_
  clear hS
  rintro k g w ⟨⟨hk, htk⟩, hS⟩
  show WC _ _ _ (lf _ [(13, .int .i64 (k : Int))] _ _) _ _
  by_cases hlt : k < a.length
  · have hlt2 : k < b.length := by omega
    obtain ⟨rb, ro, es, rfl, hF, hrr, hes⟩ := hA.at_ hlt
    obtain ⟨rb2, ro2, es2, rfl, hF2, hr2, hes2⟩ := hB.at_ hlt2
    have hes : es = encEnt a[k] := hes
    have hes2 : es2 = encEnt b[k] := hes2
    subst hes hes2
    have hrr : w0.rangeAt rb (ro + k * 3) (encEnt a[k]) := hrr
    have hr2 : w0.rangeAt rb2 (ro2 + k * 3) (encEnt b[k]) := hr2
    have hnx : a[k] = b[k] → a.take (k + 1) = b.take (k + 1) := fun h => by
      rw [List.take_succ_eq_append_getElem hlt, List.take_succ_eq_append_getElem hlt2, htk, h]
    have hno : a[k] ≠ b[k] → decide (a = b) = false := fun h => decide_eq_false fun e => h (by subst e; rfl)
    generalize a[k] = x at *
    generalize b[k] = y at *
    obtain ⟨p1, k1, d1⟩ := x
    obtain ⟨p2, k2, d2⟩ := y
    simp only [ne_eq, Ent.mk.injEq] at hnx hno
    by_cases h1 : p1 = p2
    rotate_left
    · rw [hno fun h => h1 h.1]
      clear hnx hno
      repeat' (first
        | (show WL _ _ _ _ _ _ _; first
          | refine WL.pure rfl rfl rfl rfl ?_
          | refine WL.nil ?_)
        | (show WC _ _ _ _ _ _; first
          | refine WC.seq ?_
          | refine WC.region ?_
          | refine WC.block ?_
          | refine WC.skip ?_
          | refine WC.ret ?_
          | (show WC _ _ (Code.region _ (List.toArray [_, _, _, _, _, _, _, _, _]) true) _ _ _; refine WC.drawS hS [0, 1, 2, 3, 4, 5, 6, 7, 8] [0, 1, 2, 3, 4, 5, 6, 7, 8] (by kernel_rfl) (by kernel_rfl) ?_; clear hS; intro w hS hM)
          | refine WC.condT rfl (by first | (simp [h1]; done) | fail) ?_
          | refine WC.condT rfl (decide_eq_true (by first | with_reducible assumption | omega)) ?_)
        | (show WD _ _ _ _ _ _ _ _ _; first
          | refine WD.pure rfl rfl rfl rfl rfl ?_
          | refine WD.nil ?_
          | (refine WD.load rfl rfl (LdOk.snap0 hF hrr (by repeat (first | exact List.Mem.head _ | apply List.Mem.tail)) rfl) rfl rfl rfl rfl ?_)
          | (refine WD.load rfl rfl (LdOk.snap0 hF2 hr2 (by repeat (first | exact List.Mem.head _ | apply List.Mem.tail)) rfl) rfl rfl rfl rfl ?_)
          | refine WD.index rfl rfl rfl rfl (by first | with_reducible assumption | omega) rfl rfl rfl rfl rfl ?_
          | refine WD.neS rfl rfl rfl rfl (by kernel_rfl) rfl rfl rfl rfl ?_)
        | refine seqQ_n ?_
        | refine seqQ_r ?_
        | refine blkQ_r ?_
        | refine rndQ_r ?_)
      exact fin1r rfl rfl ⟨hS.upd, rfl⟩
    by_cases h2 : k1 = k2
    rotate_left
    · rw [hno fun h => h2 h.2.1]
      clear hnx hno
      repeat' (first
        | (show WL _ _ _ _ _ _ _; first
          | refine WL.pure rfl rfl rfl rfl ?_
          | refine WL.nil ?_)
        | (show WC _ _ _ _ _ _; first
          | refine WC.seq ?_
          | refine WC.region ?_
          | refine WC.block ?_
          | refine WC.skip ?_
          | refine WC.ret ?_
          | (show WC _ _ (Code.region _ (List.toArray [_, _, _, _, _, _, _, _, _]) true) _ _ _; refine WC.drawS hS [0, 1, 2, 3, 4, 5, 6, 7, 8] [0, 1, 2, 3, 4, 5, 6, 7, 8] (by kernel_rfl) (by kernel_rfl) ?_; clear hS; intro w hS hM)
          | refine WC.condT rfl (by first | (simp [h1, h2]; done) | fail) ?_
          | refine WC.condT rfl (decide_eq_true (by first | with_reducible assumption | omega)) ?_)
        | (show WD _ _ _ _ _ _ _ _ _; first
          | refine WD.pure rfl rfl rfl rfl rfl ?_
          | refine WD.nil ?_
          | (refine WD.load rfl rfl (LdOk.snap0 hF hrr (by repeat (first | exact List.Mem.head _ | apply List.Mem.tail)) rfl) rfl rfl rfl rfl ?_)
          | (refine WD.load rfl rfl (LdOk.snap0 hF2 hr2 (by repeat (first | exact List.Mem.head _ | apply List.Mem.tail)) rfl) rfl rfl rfl rfl ?_)
          | refine WD.index rfl rfl rfl rfl (by first | with_reducible assumption | omega) rfl rfl rfl rfl rfl ?_
          | refine WD.neS rfl rfl rfl rfl (by kernel_rfl) rfl rfl rfl rfl ?_)
        | refine seqQ_n ?_
        | refine seqQ_r ?_
        | refine blkQ_r ?_
        | refine rndQ_r ?_)
      exact fin1r rfl rfl ⟨hS.upd, rfl⟩
    by_cases h3 : d1 = d2
    rotate_left
    · rw [hno fun h => h3 h.2.2]
      clear hnx hno
      repeat' (first
        | (show WL _ _ _ _ _ _ _; first
          | refine WL.pure rfl rfl rfl rfl ?_
          | refine WL.nil ?_)
        | (show WC _ _ _ _ _ _; first
          | refine WC.seq ?_
          | refine WC.region ?_
          | refine WC.block ?_
          | refine WC.skip ?_
          | refine WC.ret ?_
          | (show WC _ _ (Code.region _ (List.toArray [_, _, _, _, _, _, _, _, _]) true) _ _ _; refine WC.drawS hS [0, 1, 2, 3, 4, 5, 6, 7, 8] [0, 1, 2, 3, 4, 5, 6, 7, 8] (by kernel_rfl) (by kernel_rfl) ?_; clear hS; intro w hS hM)
          | refine WC.condT rfl (by first | (simp [h1, h2, h3]; done) | fail) ?_
          | refine WC.condT rfl (decide_eq_true (by first | with_reducible assumption | omega)) ?_)
        | (show WD _ _ _ _ _ _ _ _ _; first
          | refine WD.pure rfl rfl rfl rfl rfl ?_
          | refine WD.nil ?_
          | (refine WD.load rfl rfl (LdOk.snap0 hF hrr (by repeat (first | exact List.Mem.head _ | apply List.Mem.tail)) rfl) rfl rfl rfl rfl ?_)
          | (refine WD.load rfl rfl (LdOk.snap0 hF2 hr2 (by repeat (first | exact List.Mem.head _ | apply List.Mem.tail)) rfl) rfl rfl rfl rfl ?_)
          | refine WD.index rfl rfl rfl rfl (by first | with_reducible assumption | omega) rfl rfl rfl rfl rfl ?_
          | refine WD.neS rfl rfl rfl rfl (by kernel_rfl) rfl rfl rfl rfl ?_)
        | refine seqQ_n ?_
        | refine seqQ_r ?_
        | refine blkQ_r ?_
        | refine rndQ_r ?_)
      exact fin1r rfl rfl ⟨hS.upd, rfl⟩
    replace hnx := hnx ⟨h1, h2, h3⟩
    subst h1 h2 h3
    clear hno
    repeat' (first
      | (show WL _ _ _ _ _ _ _; first
        | refine WL.pure rfl rfl rfl rfl ?_
        | refine WL.nil ?_
        | refine WL.add rfl rfl rfl (by omega) rfl rfl rfl ?_)
      | (show WC _ _ _ _ _ _; first
        | refine WC.seq ?_
        | refine WC.region ?_
        | refine WC.block ?_
        | refine WC.skip ?_
        | (show WC _ _ (Code.region _ (List.toArray [_, _, _, _, _, _, _, _, _]) true) _ _ _; refine WC.drawS hS [0, 1, 2, 3, 4, 5, 6, 7, 8] [0, 1, 2, 3, 4, 5, 6, 7, 8] (by kernel_rfl) (by kernel_rfl) ?_; clear hS; intro w hS hM)
        | refine WC.condT rfl (decide_eq_true (by first | with_reducible assumption | omega)) ?_
        | refine WC.condF rfl (by first | (simp; done) | (simp; omega)) ?_)
      | (show WD _ _ _ _ _ _ _ _ _; first
        | refine WD.pure rfl rfl rfl rfl rfl ?_
        | refine WD.nil ?_
        | (refine WD.load rfl rfl (LdOk.snap0 hF hrr (by repeat (first | exact List.Mem.head _ | apply List.Mem.tail)) rfl) rfl rfl rfl rfl ?_)
        | (refine WD.load rfl rfl (LdOk.snap0 hF2 hr2 (by repeat (first | exact List.Mem.head _ | apply List.Mem.tail)) rfl) rfl rfl rfl rfl ?_)
        | refine WD.index rfl rfl rfl rfl (by first | with_reducible assumption | omega) rfl rfl rfl rfl rfl ?_
        | refine WD.neS rfl rfl rfl rfl (by kernel_rfl) rfl rfl rfl rfl ?_)
      | refine seqQ_n ?_
      | refine blkQ_n ?_)
    exact rndQ_n (k + 1) ⟨⟨by omega, hnx⟩, hS⟩ (by show a.length - (k + 1) < a.length - k; omega) ⟨vint (by omega), trivial⟩ ⟨rfl, rfl, rfl, trivial⟩
  · have hke : k = a.length := by omega
    subst hke
    have : a = b := by rw [List.take_length, hlen, List.take_length] at htk; exact htk
    rw [decide_eq_true this]
    clear this htk
    repeat' (first
      | (show WL _ _ _ _ _ _ _; first
        | refine WL.pure rfl rfl rfl rfl ?_
        | refine WL.nil ?_)
      | (show WC _ _ _ _ _ _; first
        | refine WC.seq ?_
        | refine WC.region ?_
        | refine WC.exit ?_
        | refine WC.ret ?_
        | refine WC.condF rfl (decide_eq_false (by first | with_reducible assumption | omega)) ?_)
      | refine seqQ_n ?_
      | refine seqQ_x ?_
      | refine blkQ_hit rfl ?_
      | refine rndQ_x ?_)
    exact fin1r rfl rfl ⟨hS.upd, rfl⟩
set_option maxHeartbeats 4000000 in
set_option maxRecDepth 100000 in
theorem tsame_c (a b : List Ent) {A B : Option Addr} {ca cb : Nat} (hA : SlAt cEnt (Old w0) w0 A a) (hB : SlAt cEnt (Old w0) w0 B b) (hl : a.length ≤ 1048576) (hlb : b.length ≤ 1048576) :
    Cal Tryz.prog 83 [.slice A a.length ca, .slice B b.length cb] w0 (fun v w' => Upd [] w0 w' ∧ v = .bool (decide (a = b))) := by
  refine Cal.mk' (by kernel_rfl) Tryz.func83 rfl rfl fun hS => ?_
  repeat' (first
    | (show WL _ _ _ _ _ _ _; first
      | refine WL.pure rfl rfl rfl rfl ?_
      | refine WL.nil ?_
      | (refine WL.calls hS rfl rfl (tequal_c a b (hS.slO (by repeat (first | exact List.Mem.head _ | apply List.Mem.tail)) hA) (hS.slO (by repeat (first | exact List.Mem.head _ | apply List.Mem.tail)) hB) hl hlb) rfl rfl rfl ?_; rintro v w rfl hS))
    | (show WC _ _ _ _ _ _; first
      | refine WC.seq ?_
      | refine WC.region ?_
      | refine WC.ret ?_)
    | refine seqQ_n ?_)
  exact fin1r rfl rfl ⟨hS.upd, rfl⟩
set_option maxHeartbeats 8000000 in
set_option maxRecDepth 100000 in
theorem tsub_c (t : List Ent) (p : List UInt8) {A : Option Addr} {cap : Nat} (hA : SlAt cEnt (Old w0) w0 A t) (hl : t.length ≤ 1048576) (hp : p.length ≤ 1048576) :
    Cal Tryz.prog 84 [.slice A t.length cap, str p] w0 (fun v w' => Upd [] w0 w' ∧ ∃ A' cap', v = .slice A' (subE t p).length cap' ∧ New w0 w' (eC A' cap' (subE t p))) := by
  refine Cal.mk' (by kernel_rfl) Tryz.func84 rfl rfl fun hS => ?_
  repeat' (first
    | (show WL _ _ _ _ _ _ _; first
      | refine WL.pure rfl rfl rfl rfl ?_
      | refine WL.nil ?_
      | (refine WL.slit (t := 61) hS rfl rfl rfl rfl rfl ?_; intro w ob hS; have hS := hS.boxRow (n := 0) (size := 3) .here rfl (Nat.zero_le _)))
    | (show WC _ _ _ _ _ _; first
      | refine WC.seq ?_
      | refine WC.region ?_
      | refine WC.block ?_)
    | refine seqQ_n ?_)
  refine WC.loop (σ := Nat × List Ent × Option Addr × Nat) [1, 9, 10] (fun (k, s, AO, oc) => [(5, .slice AO s.length oc), (11, .int .i64 (k : Int))])
    (fun (k, s, AO, oc) w => (k ≤ t.length ∧ s = subE (t.take k) p ∧ s.length ≤ k) ∧ St w0 [] w [eC AO oc s] [⟨w0, Old w0⟩]) (fun (k, _) => t.length - k) (0, [], some ⟨ob, 0, none⟩, 0) ⟨⟨Nat.zero_le _, rfl, Nat.le_refl _⟩, hS⟩ ⟨rfl, rfl, trivial⟩ ?_
  clear hS
  rintro ⟨k, s, AO, oc⟩ g w ⟨⟨hk, hs, hsl⟩, hS⟩
  show WC _ _ _ (lf _ [(5, .slice AO s.length oc), (11, .int .i64 (k : Int))] _ _) _ _
  by_cases hlt : k < t.length
  · obtain ⟨rb, ro, es, rfl, hF, hrr, hes⟩ := hA.at_ hlt
    have hes : es = encEnt t[k] := hes
    subst hes
    have hrr : w0.rangeAt rb (ro + k * 3) (encEnt t[k]) := hrr
    have hnx := filter_take (fun x => underB x.path p) t hlt
    change subE (t.take (k + 1)) p = subE (t.take k) p ++ _ at hnx
    rw [← hs] at hnx
    generalize t[k] = e at *
    obtain ⟨ep, ek, ed⟩ := e
    dsimp only at hnx
    cases hu : underB ep p
    · rw [hu, if_neg (by simp), List.append_nil] at hnx
      repeat' (first
        | (show WL _ _ _ _ _ _ _; first
          | refine WL.pure rfl rfl rfl rfl ?_
          | refine WL.nil ?_
          | refine WL.load hS rfl rfl (LdOk.box (by repeat (first | exact List.Mem.head _ | apply List.Mem.tail)) rfl) rfl rfl rfl ?_
          | refine WL.add rfl rfl rfl (by omega) rfl rfl rfl ?_
          | (refine WL.load hS rfl rfl (LdOk.snap0 hF hrr (by repeat (first | exact List.Mem.head _ | apply List.Mem.tail)) rfl) rfl rfl rfl ?_)
          | (refine WL.calls hS rfl rfl (punder_c ep p _ (by omega)) rfl rfl rfl ?_; rintro v w rfl hS; rw [hu])
          | (refine WL.store hS rfl rfl rfl (by repeat (first | exact StB.here rfl | apply StB.there)) rfl rfl rfl ?_; intro w hS)
          | (refine WL.alloc hS rfl rfl rfl rfl rfl rfl ?_; intro w b hS)
          | refine WL.index rfl rfl rfl rfl (by first | with_reducible assumption | omega) rfl rfl rfl rfl ?_)
        | (show WC _ _ _ _ _ _; first
          | refine WC.seq ?_
          | refine WC.region ?_
          | refine WC.block ?_
          | refine WC.skip ?_
          | refine WC.condF rfl (by with_reducible rfl) ?_
          | refine WC.condT rfl (decide_eq_true (by first | with_reducible assumption | omega)) ?_)
        | refine seqQ_n ?_
        | refine blkQ_n ?_)
      exact rndQ_n (k + 1, s, AO, oc) ⟨⟨by omega, hnx.symm, by omega⟩, hS.droplast2 (by repeat (first | exact Pulls.nil | (apply Pulls.cons; focus (repeat (first | exact Pull.here | apply Pull.there)))))⟩ (by show t.length - (k + 1) < t.length - k; omega) ⟨rfl, vint (by omega), trivial⟩ ⟨rfl, rfl, rfl, trivial⟩
    · rw [hu, if_pos rfl] at hnx
      repeat' (first
        | (show WL _ _ _ _ _ _ _; first
          | refine WL.pure rfl rfl rfl rfl ?_
          | refine WL.nil ?_
          | refine WL.load hS rfl rfl (LdOk.box (by repeat (first | exact List.Mem.head _ | apply List.Mem.tail)) rfl) rfl rfl rfl ?_
          | refine WL.add rfl rfl rfl (by omega) rfl rfl rfl ?_
          | (refine WL.load hS rfl rfl (LdOk.snap0 hF hrr (by repeat (first | exact List.Mem.head _ | apply List.Mem.tail)) rfl) rfl rfl rfl ?_)
          | (refine WL.calls hS rfl rfl (punder_c ep p _ (by omega)) rfl rfl rfl ?_; rintro v w rfl hS; rw [hu])
          | (refine WL.app hS rfl rfl rfl rfl (RdOk.box (by repeat (first | exact List.Mem.head _ | apply List.Mem.tail))) rfl rfl (fun A cap => by repeat (first | exact Repl.here | apply Repl.there)) (by omega) rfl rfl rfl ?_; intro A3 cap3 w hS)
          | (refine WL.store hS rfl rfl rfl (by repeat (first | exact StB.here rfl | apply StB.there)) rfl rfl rfl ?_; intro w hS)
          | (refine WL.alloc hS rfl rfl rfl rfl rfl rfl ?_; intro w b hS)
          | refine WL.index rfl rfl rfl rfl (by first | with_reducible assumption | omega) rfl rfl rfl rfl ?_
          | (refine WL.slit hS rfl rfl rfl rfl rfl ?_; intro w b hS))
        | (show WC _ _ _ _ _ _; first
          | refine WC.seq ?_
          | refine WC.region ?_
          | refine WC.block ?_
          | refine WC.skip ?_
          | refine WC.condT rfl (by with_reducible rfl) ?_
          | refine WC.condT rfl (decide_eq_true (by first | with_reducible assumption | omega)) ?_)
        | refine seqQ_n ?_
        | refine blkQ_n ?_)
      have hS := hS.droplast2 (D := [.own (.slice A3 (s.length + 1) cap3) 60 3 (s.length + 1) (s.flatMap encEnt ++ encEnt ⟨ep, ek, ed⟩)]) (by repeat (first | exact Pulls.nil | (apply Pulls.cons; focus (repeat (first | exact Pull.here | apply Pull.there)))))
      rw [eC_snoc] at hS
      exact rndQ_n (k + 1, s ++ [⟨ep, ek, ed⟩], A3, cap3) ⟨⟨by omega, hnx.symm, by rw [List.length_append]; exact Nat.succ_le_succ hsl⟩, hS⟩ (by show t.length - (k + 1) < t.length - k; omega) ⟨by rw [List.length_append]; rfl, vint (by omega), trivial⟩ ⟨rfl, rfl, rfl, trivial⟩
  · have hke : k = t.length := by omega
    subst hke
    rw [List.take_length] at hs
    subst hs
    repeat' (first
      | (show WL _ _ _ _ _ _ _; first
        | refine WL.pure rfl rfl rfl rfl ?_
        | refine WL.nil ?_)
      | (show WC _ _ _ _ _ _; first
        | refine WC.seq ?_
        | refine WC.region ?_
        | refine WC.exit ?_
        | refine WC.ret ?_
        | refine WC.condF rfl (decide_eq_false (by first | with_reducible assumption | omega)) ?_)
      | refine seqQ_n ?_
      | refine seqQ_x ?_
      | refine blkQ_hit rfl ?_
      | refine rndQ_x ?_)
    exact fin1r rfl rfl ⟨hS.upd, AO, oc, rfl, hS.newOf (List.Mem.head _)⟩
end Go.Proofs.YtniacmoniaaolaaGreatDoor

/- What is proved: what tree.Replace answers. Conditions: lists and paths of bounded length. -/
set_option linter.unusedSimpArgs false
set_option linter.unusedVariables false
namespace Go.Proofs.YtniacmoniaaolaaGreatDoor
open Go Go.J Go.RowKit

theorem checkT_cases (t : List Ent) : checkT t = 0 ∨ checkT t = 3 ∨ checkT t = 4 := by
  unfold checkT
  split
  · exact .inr (.inr rfl)
  · split
    · exact .inl rfl
    · exact .inr (.inl rfl)
/-- what a list with other things at a path is answered as -/
def ReplIs (o : Option (List Ent)) (k : IntKind) (v : Value) (w0 w' : World) : Prop :=
  (∃ l, o = some l ∧ ∃ A c, v = .tuple #[.slice A l.length c, .int k 0] ∧ New w0 w' (eC A c l)) ∨ (o = none ∧ ∃ e : Int, e ≠ 0 ∧ v = .tuple #[.slice none 0 0, .int k e])
variable {w0 : World}
set_option maxHeartbeats 16000000 in
set_option maxRecDepth 100000 in
theorem treplace_c (t : List Ent) (p : List UInt8) (sub : List Ent) {A B : Option Addr} {ca cb : Nat} (hA : SlAt cEnt (Old w0) w0 A t) (hB : SlAt cEnt (Old w0) w0 B sub) (hl : t.length ≤ 1048576) (hlb : sub.length ≤ 524288) (hl2 : t.length ≤ 524288) (hp : p.length ≤ 1048576)
    (hz : ∀ e ∈ t, e.path.length ≤ 1048576) (hz2 : ∀ e ∈ sub, e.path.length ≤ 1048576) :
    Cal Tryz.prog 85 [.slice A t.length ca, str p, .slice B sub.length cb] w0 (fun v w' => Upd [] w0 w' ∧ ReplIs (replE t p sub) .i64 v w0 w') := by
  refine Cal.mk' (by kernel_rfl) Tryz.func85 rfl rfl fun hS => ?_
  have hpc := fun w0 => pcheck_c p 5 w0 (by omega)
  by_cases hck : checkE p 5 = 0
  rotate_left
  · have hr : replE t p sub = none := by unfold replE; rw [if_pos (.inl hck)]
    rw [hr]
    generalize checkE p 5 = c at *
    repeat' (first
      | (show WL _ _ _ _ _ _ _; first
        | refine WL.pure rfl rfl rfl rfl ?_
        | refine WL.nil ?_
        | (refine WL.calls hS rfl rfl (hpc _) rfl rfl rfl ?_; rintro v w rfl hS))
      | (show WC _ _ _ _ _ _; first
        | refine WC.seq ?_
        | refine WC.region ?_
        | refine WC.ret ?_
        | refine WC.condT rfl (by first | (simp [hck]; done) | fail) ?_)
      | refine seqQ_n ?_
      | refine seqQ_r ?_)
    exact fin2r rfl rfl rfl ⟨hS.upd, .inr ⟨rfl, 10, by decide, rfl⟩⟩
  rw [hck] at hpc
  repeat' (first
    | (show WL _ _ _ _ _ _ _; first
      | refine WL.pure rfl rfl rfl rfl ?_
      | refine WL.nil ?_
      | (refine WL.calls hS rfl rfl (hpc _) rfl rfl rfl ?_; rintro v w rfl hS)
      | (refine WL.slit (t := 61) hS rfl rfl rfl rfl rfl ?_; intro w ob hS; have hS := hS.boxRow (n := 0) (size := 3) .here rfl (Nat.zero_le _)))
    | (show WC _ _ _ _ _ _; first
      | refine WC.seq ?_
      | refine WC.region ?_
      | refine WC.block ?_
      | refine WC.skip ?_
      | refine WC.condF rfl (by decide) ?_)
    | refine seqQ_n ?_)
  refine WC.loop (σ := Nat × List Ent × Option Addr × Nat) [1, 2, 18, 19] (fun (k, s, AO, oc) => [(8, .slice AO s.length oc), (20, .int .i64 (k : Int))])
    (fun (k, s, AO, oc) w => (k ≤ t.length ∧ s = restE (t.take k) p ∧ s.length ≤ k) ∧ St w0 [] w [eC AO oc s] [⟨w0, Old w0⟩]) (fun (k, _) => t.length - k) (0, [], some ⟨ob, 0, none⟩, 0) ⟨⟨Nat.zero_le _, rfl, Nat.le_refl _⟩, hS⟩ ⟨rfl, rfl, trivial⟩ ?_
  clear hS
  rintro ⟨k, s, AO, oc⟩ g w ⟨⟨hk, hs, hsl⟩, hS⟩
  show WC _ _ _ (lf _ [(8, .slice AO s.length oc), (20, .int .i64 (k : Int))] _ _) _ _
  by_cases hlt : k < t.length
  · obtain ⟨rb, ro, es, rfl, hF, hrr, hes⟩ := hA.at_ hlt
    have hes : es = encEnt t[k] := hes
    subst hes
    have hrr : w0.rangeAt rb (ro + k * 3) (encEnt t[k]) := hrr
    have hnx := filter_take (fun x => !underB x.path p) t hlt
    change restE (t.take (k + 1)) p = restE (t.take k) p ++ _ at hnx
    rw [← hs] at hnx
    generalize t[k] = e at *
    obtain ⟨ep, ek, ed⟩ := e
    dsimp only at hnx
    cases hu : underB ep p
    rotate_left
    · rw [hu, if_neg (by simp), List.append_nil] at hnx
      repeat' (first
        | (show WL _ _ _ _ _ _ _; first
          | refine WL.pure rfl rfl rfl rfl ?_
          | refine WL.nil ?_
          | refine WL.load hS rfl rfl (LdOk.box (by repeat (first | exact List.Mem.head _ | apply List.Mem.tail)) rfl) rfl rfl rfl ?_
          | refine WL.add rfl rfl rfl (by omega) rfl rfl rfl ?_
          | (refine WL.load hS rfl rfl (LdOk.snap0 hF hrr (by repeat (first | exact List.Mem.head _ | apply List.Mem.tail)) rfl) rfl rfl rfl ?_)
          | (refine WL.calls hS rfl rfl (punder_c ep p _ (by omega)) rfl rfl rfl ?_; rintro v w rfl hS; rw [hu])
          | (refine WL.store hS rfl rfl rfl (by repeat (first | exact StB.here rfl | apply StB.there)) rfl rfl rfl ?_; intro w hS)
          | (refine WL.alloc hS rfl rfl rfl rfl rfl rfl ?_; intro w b hS)
          | refine WL.index rfl rfl rfl rfl (by first | with_reducible assumption | omega) rfl rfl rfl rfl ?_)
        | (show WC _ _ _ _ _ _; first
          | refine WC.seq ?_
          | refine WC.region ?_
          | refine WC.block ?_
          | refine WC.skip ?_
          | refine WC.condF rfl (by decide) ?_
          | refine WC.condT rfl (decide_eq_true (by first | with_reducible assumption | omega)) ?_)
        | refine seqQ_n ?_
        | refine blkQ_n ?_)
      exact rndQ_n (k + 1, s, AO, oc) ⟨⟨by omega, hnx.symm, by omega⟩, hS.droplast2 (by repeat (first | exact Pulls.nil | (apply Pulls.cons; focus (repeat (first | exact Pull.here | apply Pull.there)))))⟩ (by show t.length - (k + 1) < t.length - k; omega) ⟨rfl, vint (by omega), trivial⟩ ⟨rfl, rfl, rfl, rfl, trivial⟩
    · rw [hu, if_pos (show (!false) = true from rfl)] at hnx
      repeat' (first
        | (show WL _ _ _ _ _ _ _; first
          | refine WL.pure rfl rfl rfl rfl ?_
          | refine WL.nil ?_
          | refine WL.load hS rfl rfl (LdOk.box (by repeat (first | exact List.Mem.head _ | apply List.Mem.tail)) rfl) rfl rfl rfl ?_
          | refine WL.add rfl rfl rfl (by omega) rfl rfl rfl ?_
          | (refine WL.load hS rfl rfl (LdOk.snap0 hF hrr (by repeat (first | exact List.Mem.head _ | apply List.Mem.tail)) rfl) rfl rfl rfl ?_)
          | (refine WL.calls hS rfl rfl (punder_c ep p _ (by omega)) rfl rfl rfl ?_; rintro v w rfl hS; rw [hu])
          | (refine WL.app hS rfl rfl rfl rfl (RdOk.box (by repeat (first | exact List.Mem.head _ | apply List.Mem.tail))) rfl rfl (fun A cap => by repeat (first | exact Repl.here | apply Repl.there)) (by omega) rfl rfl rfl ?_; intro A3 cap3 w hS)
          | (refine WL.store hS rfl rfl rfl (by repeat (first | exact StB.here rfl | apply StB.there)) rfl rfl rfl ?_; intro w hS)
          | (refine WL.alloc hS rfl rfl rfl rfl rfl rfl ?_; intro w b hS)
          | refine WL.index rfl rfl rfl rfl (by first | with_reducible assumption | omega) rfl rfl rfl rfl ?_
          | (refine WL.slit hS rfl rfl rfl rfl rfl ?_; intro w b hS))
        | (show WC _ _ _ _ _ _; first
          | refine WC.seq ?_
          | refine WC.region ?_
          | refine WC.block ?_
          | refine WC.skip ?_
          | refine WC.condT rfl (by decide) ?_
          | refine WC.condT rfl (decide_eq_true (by first | with_reducible assumption | omega)) ?_)
        | refine seqQ_n ?_
        | refine blkQ_n ?_)
      have hS := hS.droplast2 (D := [.own (.slice A3 (s.length + 1) cap3) 60 3 (s.length + 1) (s.flatMap encEnt ++ encEnt ⟨ep, ek, ed⟩)]) (by repeat (first | exact Pulls.nil | (apply Pulls.cons; focus (repeat (first | exact Pull.here | apply Pull.there)))))
      rw [eC_snoc] at hS
      exact rndQ_n (k + 1, s ++ [⟨ep, ek, ed⟩], A3, cap3) ⟨⟨by omega, hnx.symm, by rw [List.length_append]; exact Nat.succ_le_succ hsl⟩, hS⟩ (by show t.length - (k + 1) < t.length - k; omega) ⟨by rw [List.length_append]; rfl, vint (by omega), trivial⟩ ⟨rfl, rfl, rfl, rfl, trivial⟩
  have hke : k = t.length := by omega
  subst hke
  rw [List.take_length] at hs
  clear hlt hk hA
  repeat' (first
    | (show WL _ _ _ _ _ _ _; first
      | refine WL.pure rfl rfl rfl rfl ?_
      | refine WL.nil ?_)
    | (show WC _ _ _ _ _ _; first
      | refine WC.seq ?_
      | refine WC.region ?_
      | refine WC.block ?_
      | refine WC.exit ?_
      | refine WC.condF rfl (decide_eq_false (by first | with_reducible assumption | omega)) ?_)
    | refine seqQ_n ?_
    | refine seqQ_x ?_
    | refine blkQ_hit rfl ?_
    | refine rndQ_x ?_)
  refine WC.loop (σ := Nat) [1, 2, 8, 34, 35] (fun k => [(36, .int .i64 (k : Int))])
    (fun k w => (k ≤ sub.length ∧ ∀ x ∈ sub.take k, underB x.path p = true) ∧ St w0 [] w [eC AO oc s] [⟨w0, Old w0⟩]) (fun k => sub.length - k) 0 ⟨⟨Nat.zero_le _, fun x hx => (by cases hx)⟩, hS⟩ ⟨rfl, trivial⟩ ?_
  clear hS
  rintro k g2 w ⟨⟨hk, hun⟩, hS⟩
  show WC _ _ _ (lf _ [(36, .int .i64 (k : Int))] _ _) _ _
  by_cases hlt : k < sub.length
  · obtain ⟨rb, ro, es, rfl, hF, hrr, hes⟩ := hB.at_ hlt
    have hes : es = encEnt sub[k] := hes
    subst hes
    have hrr : w0.rangeAt rb (ro + k * 3) (encEnt sub[k]) := hrr
    have hnx : underB sub[k].path p = true → ∀ x ∈ sub.take (k + 1), underB x.path p = true := fun h x hx => by
      rw [List.take_succ_eq_append_getElem hlt] at hx
      rcases List.mem_append.1 hx with hx | hx
      · exact hun x hx
      · rw [List.mem_singleton.1 hx]; exact h
    have hno : underB sub[k].path p = false → replE t p sub = none := fun h => by
      unfold replE
      rw [if_pos (.inr (.inl ⟨_, List.getElem_mem hlt, h⟩))]
    generalize sub[k] = e at *
    obtain ⟨ep, ek, ed⟩ := e
    dsimp only at hnx hno
    cases hu : underB ep p
    · rw [hno hu]
      clear hnx hno hun
      repeat' (first
        | (show WL _ _ _ _ _ _ _; first
          | refine WL.pure rfl rfl rfl rfl ?_
          | refine WL.nil ?_
          | refine WL.load hS rfl rfl (LdOk.box (by repeat (first | exact List.Mem.head _ | apply List.Mem.tail)) rfl) rfl rfl rfl ?_
          | (refine WL.load hS rfl rfl (LdOk.snap0 hF hrr (by repeat (first | exact List.Mem.head _ | apply List.Mem.tail)) rfl) rfl rfl rfl ?_)
          | (refine WL.calls hS rfl rfl (punder_c ep p _ (by omega)) rfl rfl rfl ?_; rintro v w rfl hS; rw [hu])
          | (refine WL.store hS rfl rfl rfl (by repeat (first | exact StB.here rfl | apply StB.there)) rfl rfl rfl ?_; intro w hS)
          | (refine WL.alloc hS rfl rfl rfl rfl rfl rfl ?_; intro w b hS)
          | refine WL.index rfl rfl rfl rfl (by first | with_reducible assumption | omega) rfl rfl rfl rfl ?_)
        | (show WC _ _ _ _ _ _; first
          | refine WC.seq ?_
          | refine WC.region ?_
          | refine WC.block ?_
          | refine WC.skip ?_
          | refine WC.ret ?_
          | refine WC.condT rfl (by decide) ?_
          | refine WC.condT rfl (decide_eq_true (by first | with_reducible assumption | omega)) ?_)
        | refine seqQ_n ?_
        | refine seqQ_r ?_
        | refine blkQ_r ?_
        | refine rndQ_r ?_)
      exact fin2r rfl rfl rfl ⟨hS.upd, .inr ⟨rfl, 1, by decide, rfl⟩⟩
    · replace hnx := hnx hu
      clear hno hun
      repeat' (first
        | (show WL _ _ _ _ _ _ _; first
          | refine WL.pure rfl rfl rfl rfl ?_
          | refine WL.nil ?_
          | refine WL.load hS rfl rfl (LdOk.box (by repeat (first | exact List.Mem.head _ | apply List.Mem.tail)) rfl) rfl rfl rfl ?_
          | refine WL.add rfl rfl rfl (by omega) rfl rfl rfl ?_
          | (refine WL.load hS rfl rfl (LdOk.snap0 hF hrr (by repeat (first | exact List.Mem.head _ | apply List.Mem.tail)) rfl) rfl rfl rfl ?_)
          | (refine WL.calls hS rfl rfl (punder_c ep p _ (by omega)) rfl rfl rfl ?_; rintro v w rfl hS; rw [hu])
          | (refine WL.store hS rfl rfl rfl (by repeat (first | exact StB.here rfl | apply StB.there)) rfl rfl rfl ?_; intro w hS)
          | (refine WL.alloc hS rfl rfl rfl rfl rfl rfl ?_; intro w b hS)
          | refine WL.index rfl rfl rfl rfl (by first | with_reducible assumption | omega) rfl rfl rfl rfl ?_)
        | (show WC _ _ _ _ _ _; first
          | refine WC.seq ?_
          | refine WC.region ?_
          | refine WC.block ?_
          | refine WC.skip ?_
          | refine WC.condF rfl (by decide) ?_
          | refine WC.condT rfl (decide_eq_true (by first | with_reducible assumption | omega)) ?_)
        | refine seqQ_n ?_
        | refine blkQ_n ?_)
      exact rndQ_n (k + 1) ⟨⟨by omega, hnx⟩, hS.droplast2 (by repeat (first | exact Pulls.nil | (apply Pulls.cons; focus (repeat (first | exact Pull.here | apply Pull.there)))))⟩ (by show sub.length - (k + 1) < sub.length - k; omega) ⟨vint (by omega), trivial⟩ ⟨rfl, rfl, rfl, rfl, rfl, trivial⟩
  have hke : k = sub.length := by omega
  subst hke
  rw [List.take_length] at hun
  have hall : ∀ o, (o.Perm (restE t p ++ sub)) → SortedE o → (checkT o = 0 → replE t p sub = some o) ∧ (checkT o ≠ 0 → replE t p sub = none) := fun o h1 h2 => by
    obtain ⟨h3, h4⟩ := sorted_check (h1.trans (sortR_perm (restE t p ++ sub)).symm) h2 (sortR_sorted _)
    have h5 : ¬ ∃ x ∈ sub, underB x.path p = false := fun ⟨x, hx, h⟩ => by rw [hun x hx] at h; cases h
    unfold replE
    constructor
    · intro h
      rw [if_neg, h4 h]
      rintro (h6 | h6 | h6)
      · exact h6 hck
      · exact h5 h6
      · exact h6 (h3.1 h)
    · intro h
      rw [if_pos (.inr (.inr fun h6 => h (h3.2 h6)))]
  have hzo : ∀ o : List Ent, (o.Perm (restE t p ++ sub)) → ∀ e ∈ o, e.path.length ≤ 1048576 := fun o h e he => by
    rcases List.mem_append.1 (h.mem_iff.1 he) with h | h
    · exact hz e (List.mem_filter.1 h).1
    · exact hz2 e h
  rw [← hs] at hall hzo
  clear hlt hk hs
  repeat' (first
    | (show WL _ _ _ _ _ _ _; first
      | refine WL.pure rfl rfl rfl rfl ?_
      | refine WL.nil ?_
      | (refine WL.appSl (sz := 3) (enc := encEnt) (hsz := fun _ => rfl) hS rfl rfl rfl rfl hB (by repeat (first | exact List.Mem.head _ | apply List.Mem.tail)) (by decide) (ents_ones sub) (fun A cap => by repeat (first | exact Repl.here | apply Repl.there)) (by omega) rfl rfl rfl ?_; intro A2 cap2 w hS; rw [eC_app] at hS; rw [← List.length_append])
      | (refine WL.callL (D := [eC A2 cap2 (s ++ sub)]) hS (by repeat (first | exact Pulls.nil | (apply Pulls.cons; focus (repeat (first | exact Pull.here | apply Pull.there))))) rfl rfl (fun hI => sortF_c hI.head hI.headB (by rw [List.length_append]; omega)) rfl rfl rfl ?_; rintro v w ⟨rfl, o, hpm, hso, hm⟩ hS; replace hS := hS _ (.of1 hm); clear hm; rw [← hpm.length_eq] at hS ⊢; have hcp := (hS.own_len (A := A2) (n := o.length) (by repeat (first | exact List.Mem.head _ | apply List.Mem.tail))).2.2; have hol := hpm.length_eq; rw [List.length_append] at hol))
    | (show WC _ _ _ _ _ _; first
      | refine WC.seq ?_
      | refine WC.region ?_
      | refine WC.exit ?_
      | refine WC.condF rfl (decide_eq_false (by first | with_reducible assumption | omega)) ?_)
    | refine seqQ_n ?_
    | refine seqQ_x ?_
    | refine blkQ_hit rfl ?_
    | refine rndQ_x ?_)
  obtain ⟨hy, hn⟩ := hall o hpm hso
  have hzz := hzo o hpm
  have hck2 := fun (w : World) (h : SlAt cEnt (Old w) w A2 o) => tcheck_c o (cap := cap2) h hcp (by omega) hzz
  clear hall hzo hso hzz hz hz2 hun hpm
  by_cases h0 : checkT o = 0
  · rw [hy h0]
    rw [h0] at hck2
    clear hy hn
    repeat' (first
      | (show WL _ _ _ _ _ _ _; first
        | refine WL.pure rfl rfl rfl rfl ?_
        | refine WL.nil ?_
        | (refine WL.calls hS rfl rfl (hck2 _ (St.ownSl (sz := 3) (enc := encEnt) (hsz := fun _ => rfl) (l := o) (by decide) hS (by repeat (first | exact List.Mem.head _ | apply List.Mem.tail)))) rfl rfl rfl ?_; rintro v w rfl hS))
      | (show WC _ _ _ _ _ _; first
        | refine WC.seq ?_
        | refine WC.region ?_
        | refine WC.skip ?_
        | refine WC.ret ?_
        | refine WC.condF rfl (by decide) ?_)
      | refine seqQ_n ?_)
    exact fin2r rfl rfl rfl ⟨hS.upd, .inl ⟨o, rfl, A2, cap2, rfl, hS.newOf (by repeat (first | exact List.Mem.head _ | apply List.Mem.tail))⟩⟩
  · rw [hn h0]
    generalize checkT o = c at *
    clear hy hn
    repeat' (first
      | (show WL _ _ _ _ _ _ _; first
        | refine WL.pure rfl rfl rfl rfl ?_
        | refine WL.nil ?_
        | (refine WL.calls hS rfl rfl (hck2 _ (St.ownSl (sz := 3) (enc := encEnt) (hsz := fun _ => rfl) (l := o) (by decide) hS (by repeat (first | exact List.Mem.head _ | apply List.Mem.tail)))) rfl rfl rfl ?_; rintro v w rfl hS))
      | (show WC _ _ _ _ _ _; first
        | refine WC.seq ?_
        | refine WC.region ?_
        | refine WC.ret ?_
        | refine WC.condT rfl (by first | (simp [h0]; done) | fail) ?_)
      | refine seqQ_n ?_
      | refine seqQ_r ?_)
    exact fin2r rfl rfl rfl ⟨hS.upd, .inr ⟨rfl, c, h0, rfl⟩⟩
end Go.Proofs.YtniacmoniaaolaaGreatDoor

/- What is proved: what Same, Sub, Sort and Replace of reference 4 answer. Conditions: lists and paths of bounded length. -/
set_option linter.unusedSimpArgs false
set_option linter.unusedVariables false
namespace Go.Proofs.YtniacmoniaaolaaGreatDoor
open Go Go.J Go.RowKit

variable {w0 : World}
set_option maxHeartbeats 8000000 in
set_option maxRecDepth 100000 in
theorem rsameD_c (a b : List Ent) {A B : Option Addr} {ca cb : Nat} (hA : SlAt cEnt (Old w0) w0 A a) (hB : SlAt cEnt (Old w0) w0 B b) (hl : a.length ≤ 1048576) (hlb : b.length ≤ 1048576) :
    Cal Tryz.prog 22 [.slice A a.length ca, .slice B b.length cb] w0 (fun v w' => Upd [] w0 w' ∧ v = .bool (decide (a = b))) := by
  refine Cal.mk' (by kernel_rfl) Tryz.func22 rfl rfl fun hS => ?_
  by_cases hlen : a.length = b.length
  rotate_left
  · rw [decide_eq_false (fun h => hlen (by rw [h]))]
    repeat' (first
      | (show WL _ _ _ _ _ _ _; first
        | refine WL.pure rfl rfl rfl rfl ?_
        | refine WL.nil ?_)
      | (show WC _ _ _ _ _ _; first
        | refine WC.seq ?_
        | refine WC.region ?_
        | refine WC.ret ?_
        | refine WC.condT rfl (decide_eq_true (by first | with_reducible assumption | omega)) ?_)
      | refine seqQ_n ?_
      | refine seqQ_r ?_)
    exact fin1r rfl rfl ⟨hS.upd, rfl⟩
  repeat' (first
    | (show WL _ _ _ _ _ _ _; first
      | refine WL.pure rfl rfl rfl rfl ?_
      | refine WL.nil ?_)
    | (show WC _ _ _ _ _ _; first
      | refine WC.seq ?_
      | refine WC.region ?_
      | refine WC.block ?_
      | refine WC.skip ?_
      | refine WC.condF rfl (decide_eq_false (by first | with_reducible assumption | omega)) ?_)
    | refine seqQ_n ?_)
  refine WC.loop (σ := Nat) [0, 1] (fun k => [(5, .int .i64 (k : Int))])
    (fun k w => (k ≤ a.length ∧ a.take k = b.take k) ∧ St w0 [] w [] [⟨w0, Old w0⟩]) (fun k => a.length - k) 0 ⟨⟨Nat.zero_le _, rfl⟩, hS⟩ ⟨rfl, trivial⟩ ?_
  clear hS
  rintro k g w ⟨⟨hk, htk⟩, hS⟩
  show WC _ _ _ (lf _ [(5, .int .i64 (k : Int))] _ _) _ _
  by_cases hlt : k < a.length
  · have hlt2 : k < b.length := by omega
    obtain ⟨rb, ro, es, rfl, hF, hrr, hes⟩ := hA.at_ hlt
    obtain ⟨rb2, ro2, es2, rfl, hF2, hr2, hes2⟩ := hB.at_ hlt2
    have hes : es = encEnt a[k] := hes
    have hes2 : es2 = encEnt b[k] := hes2
    subst hes hes2
    have hrr : w0.rangeAt rb (ro + k * 3) (encEnt a[k]) := hrr
    have hr2 : w0.rangeAt rb2 (ro2 + k * 3) (encEnt b[k]) := hr2
    have hnx : a[k] = b[k] → a.take (k + 1) = b.take (k + 1) := fun h => by
      rw [List.take_succ_eq_append_getElem hlt, List.take_succ_eq_append_getElem hlt2, htk, h]
    have hno : a[k] ≠ b[k] → decide (a = b) = false := fun h => decide_eq_false fun e => h (by subst e; rfl)
    generalize a[k] = x at *
    generalize b[k] = y at *
    obtain ⟨p1, k1, d1⟩ := x
    obtain ⟨p2, k2, d2⟩ := y
    simp only [ne_eq, Ent.mk.injEq] at hnx hno
    by_cases h1 : p1 = p2
    rotate_left
    · rw [hno fun h => h1 h.1]
      clear hnx hno
      repeat' (first
        | (show WL _ _ _ _ _ _ _; first
          | refine WL.pure rfl rfl rfl rfl ?_
          | refine WL.nil ?_)
        | (show WC _ _ _ _ _ _; first
          | refine WC.seq ?_
          | refine WC.region ?_
          | refine WC.block ?_
          | refine WC.skip ?_
          | refine WC.ret ?_
          | (show WC _ _ (Code.region _ (List.toArray [_, _, _, _, _, _, _, _, _]) true) _ _ _; refine WC.drawS hS [0, 1, 2, 3, 4, 5, 6, 7, 8] [0, 1, 2, 3, 4, 5, 6, 7, 8] (by kernel_rfl) (by kernel_rfl) ?_; clear hS; intro w hS hM)
          | refine WC.condT rfl (by first | (simp [h1]; done) | fail) ?_
          | refine WC.condT rfl (decide_eq_true (by first | with_reducible assumption | omega)) ?_)
        | (show WD _ _ _ _ _ _ _ _ _; first
          | refine WD.pure rfl rfl rfl rfl rfl ?_
          | refine WD.nil ?_
          | (refine WD.load rfl rfl (LdOk.snap0 hF hrr (by repeat (first | exact List.Mem.head _ | apply List.Mem.tail)) rfl) rfl rfl rfl rfl ?_)
          | (refine WD.load rfl rfl (LdOk.snap0 hF2 hr2 (by repeat (first | exact List.Mem.head _ | apply List.Mem.tail)) rfl) rfl rfl rfl rfl ?_)
          | refine WD.index rfl rfl rfl rfl (by first | with_reducible assumption | omega) rfl rfl rfl rfl rfl ?_
          | refine WD.neS rfl rfl rfl rfl (by kernel_rfl) rfl rfl rfl rfl ?_)
        | refine seqQ_n ?_
        | refine seqQ_r ?_
        | refine blkQ_r ?_
        | refine rndQ_r ?_)
      exact fin1r rfl rfl ⟨hS.upd, rfl⟩
    by_cases h2 : k1 = k2
    rotate_left
    · rw [hno fun h => h2 h.2.1]
      clear hnx hno
      repeat' (first
        | (show WL _ _ _ _ _ _ _; first
          | refine WL.pure rfl rfl rfl rfl ?_
          | refine WL.nil ?_)
        | (show WC _ _ _ _ _ _; first
          | refine WC.seq ?_
          | refine WC.region ?_
          | refine WC.block ?_
          | refine WC.skip ?_
          | refine WC.ret ?_
          | (show WC _ _ (Code.region _ (List.toArray [_, _, _, _, _, _, _, _, _]) true) _ _ _; refine WC.drawS hS [0, 1, 2, 3, 4, 5, 6, 7, 8] [0, 1, 2, 3, 4, 5, 6, 7, 8] (by kernel_rfl) (by kernel_rfl) ?_; clear hS; intro w hS hM)
          | refine WC.condT rfl (by first | (simp [h1, h2]; done) | fail) ?_
          | refine WC.condT rfl (decide_eq_true (by first | with_reducible assumption | omega)) ?_)
        | (show WD _ _ _ _ _ _ _ _ _; first
          | refine WD.pure rfl rfl rfl rfl rfl ?_
          | refine WD.nil ?_
          | (refine WD.load rfl rfl (LdOk.snap0 hF hrr (by repeat (first | exact List.Mem.head _ | apply List.Mem.tail)) rfl) rfl rfl rfl rfl ?_)
          | (refine WD.load rfl rfl (LdOk.snap0 hF2 hr2 (by repeat (first | exact List.Mem.head _ | apply List.Mem.tail)) rfl) rfl rfl rfl rfl ?_)
          | refine WD.index rfl rfl rfl rfl (by first | with_reducible assumption | omega) rfl rfl rfl rfl rfl ?_
          | refine WD.neS rfl rfl rfl rfl (by kernel_rfl) rfl rfl rfl rfl ?_)
        | refine seqQ_n ?_
        | refine seqQ_r ?_
        | refine blkQ_r ?_
        | refine rndQ_r ?_)
      exact fin1r rfl rfl ⟨hS.upd, rfl⟩
    by_cases h3 : d1 = d2
    rotate_left
    · rw [hno fun h => h3 h.2.2]
      clear hnx hno
      repeat' (first
        | (show WL _ _ _ _ _ _ _; first
          | refine WL.pure rfl rfl rfl rfl ?_
          | refine WL.nil ?_)
        | (show WC _ _ _ _ _ _; first
          | refine WC.seq ?_
          | refine WC.region ?_
          | refine WC.block ?_
          | refine WC.skip ?_
          | refine WC.ret ?_
          | (show WC _ _ (Code.region _ (List.toArray [_, _, _, _, _, _, _, _, _]) true) _ _ _; refine WC.drawS hS [0, 1, 2, 3, 4, 5, 6, 7, 8] [0, 1, 2, 3, 4, 5, 6, 7, 8] (by kernel_rfl) (by kernel_rfl) ?_; clear hS; intro w hS hM)
          | refine WC.condT rfl (by first | (simp [h1, h2, h3]; done) | fail) ?_
          | refine WC.condT rfl (decide_eq_true (by first | with_reducible assumption | omega)) ?_)
        | (show WD _ _ _ _ _ _ _ _ _; first
          | refine WD.pure rfl rfl rfl rfl rfl ?_
          | refine WD.nil ?_
          | (refine WD.load rfl rfl (LdOk.snap0 hF hrr (by repeat (first | exact List.Mem.head _ | apply List.Mem.tail)) rfl) rfl rfl rfl rfl ?_)
          | (refine WD.load rfl rfl (LdOk.snap0 hF2 hr2 (by repeat (first | exact List.Mem.head _ | apply List.Mem.tail)) rfl) rfl rfl rfl rfl ?_)
          | refine WD.index rfl rfl rfl rfl (by first | with_reducible assumption | omega) rfl rfl rfl rfl rfl ?_
          | refine WD.neS rfl rfl rfl rfl (by kernel_rfl) rfl rfl rfl rfl ?_)
        | refine seqQ_n ?_
        | refine seqQ_r ?_
        | refine blkQ_r ?_
        | refine rndQ_r ?_)
      exact fin1r rfl rfl ⟨hS.upd, rfl⟩
    replace hnx := hnx ⟨h1, h2, h3⟩
    subst h1 h2 h3
    clear hno
    repeat' (first
      | (show WL _ _ _ _ _ _ _; first
        | refine WL.pure rfl rfl rfl rfl ?_
        | refine WL.nil ?_
        | refine WL.add rfl rfl rfl (by omega) rfl rfl rfl ?_)
      | (show WC _ _ _ _ _ _; first
        | refine WC.seq ?_
        | refine WC.region ?_
        | refine WC.block ?_
        | refine WC.skip ?_
        | (show WC _ _ (Code.region _ (List.toArray [_, _, _, _, _, _, _, _, _]) true) _ _ _; refine WC.drawS hS [0, 1, 2, 3, 4, 5, 6, 7, 8] [0, 1, 2, 3, 4, 5, 6, 7, 8] (by kernel_rfl) (by kernel_rfl) ?_; clear hS; intro w hS hM)
        | refine WC.condT rfl (decide_eq_true (by first | with_reducible assumption | omega)) ?_
        | refine WC.condF rfl (by first | (simp; done) | (simp; omega)) ?_)
      | (show WD _ _ _ _ _ _ _ _ _; first
        | refine WD.pure rfl rfl rfl rfl rfl ?_
        | refine WD.nil ?_
        | (refine WD.load rfl rfl (LdOk.snap0 hF hrr (by repeat (first | exact List.Mem.head _ | apply List.Mem.tail)) rfl) rfl rfl rfl rfl ?_)
        | (refine WD.load rfl rfl (LdOk.snap0 hF2 hr2 (by repeat (first | exact List.Mem.head _ | apply List.Mem.tail)) rfl) rfl rfl rfl rfl ?_)
        | refine WD.index rfl rfl rfl rfl (by first | with_reducible assumption | omega) rfl rfl rfl rfl rfl ?_
        | refine WD.neS rfl rfl rfl rfl (by kernel_rfl) rfl rfl rfl rfl ?_)
      | refine seqQ_n ?_
      | refine blkQ_n ?_)
    exact rndQ_n (k + 1) ⟨⟨by omega, hnx⟩, hS⟩ (by show a.length - (k + 1) < a.length - k; omega) ⟨vint (by omega), trivial⟩ ⟨rfl, rfl, trivial⟩
  · have hke : k = a.length := by omega
    subst hke
    have : a = b := by rw [List.take_length, hlen, List.take_length] at htk; exact htk
    rw [decide_eq_true this]
    clear this htk
    repeat' (first
      | (show WL _ _ _ _ _ _ _; first
        | refine WL.pure rfl rfl rfl rfl ?_
        | refine WL.nil ?_)
      | (show WC _ _ _ _ _ _; first
        | refine WC.seq ?_
        | refine WC.region ?_
        | refine WC.exit ?_
        | refine WC.ret ?_
        | refine WC.condF rfl (decide_eq_false (by first | with_reducible assumption | omega)) ?_)
      | refine seqQ_n ?_
      | refine seqQ_x ?_
      | refine blkQ_hit rfl ?_
      | refine rndQ_x ?_)
    exact fin1r rfl rfl ⟨hS.upd, rfl⟩
theorem ent_take {F : Nat → Prop} {w : World} {A : Option Addr} {ls : List Ent} (h : SlAt cEnt F w A ls) (n : Nat) : SlAt cEnt F w A (ls.take n) := by
  have := h
  rw [← List.take_append_drop n ls] at this
  exact this.pre
/-- where l[n:] stands -/
def cutE3 (A : Option Addr) (cap j : Nat) : Option Addr := if cap = j then A else A.map (·.add (j * 3))
theorem ent_drop {F : Nat → Prop} {w : World} {A : Option Addr} {ls : List Ent} (h : SlAt cEnt F w A ls) (n : Nat) {cap : Nat} (hc : ls.length ≤ cap) : SlAt cEnt F w (cutE3 A cap n) (ls.drop n) := h.drop hc
theorem plc_less (s : List Ent) (x : Ent) : ∀ {k : Nat} (h : k < s.length), plcE (s.drop k) x + k = plcE s x → (Op.bytesLess (s[k]).path x.path = true → plcE (s.drop (k + 1)) x + (k + 1) = plcE s x) ∧ (Op.bytesLess (s[k]).path x.path = false → k = plcE s x) := by
  intro k h he
  rw [List.drop_eq_getElem_cons h, plcE_cons] at he
  constructor
  · intro hl
    rw [hl, if_pos rfl] at he
    omega
  · intro hl
    rw [hl, if_neg (by simp)] at he
    omega
end Go.Proofs.YtniacmoniaaolaaGreatDoor

/- What is proved: conflicts, what a choice makes of a list of them, what choices make of three trees: plain facts. Conditions: none. -/
set_option linter.unusedSimpArgs false
set_option linter.unusedVariables false
namespace Go.Proofs.YtniacmoniaaolaaGreatDoor
open Go Go.J Go.RowKit

/-- a conflict -/
structure Cf where
  path : List UInt8
  hub : List Ent
  side : List Ent
  merged : List UInt8
  text : Bool
  choice : Int
  given : List UInt8
instance : Inhabited Cf := ⟨⟨[], [], [], [], false, 0, []⟩⟩
/-- a conflict, and where its lists stand -/
structure Cp where
  c : Cf
  A : Option Addr
  ca : Nat
  B : Option Addr
  cb : Nat
instance : Inhabited Cp := ⟨⟨default, none, 0, none, 0⟩⟩
def encCp (p : Cp) : List Value := [str p.c.path, .slice p.A p.c.hub.length p.ca, .slice p.B p.c.side.length p.cb, str p.c.merged, .bool p.c.text, .int .i64 p.c.choice, str p.c.given]
def cCp : Cod Cp := .flat encCp 7 fun _ => rfl
def cps (l : List Cp) : List Value := l.flatMap encCp
theorem cps_len (l : List Cp) : (cps l).length = l.length * 7 := flat_len (enc := encCp) (sz := 7) (fun _ => rfl) l
def cCf : Cod Cf where
  sz := 7
  rd F w cs c := ∃ A ca B cb, cs = encCp ⟨c, A, ca, B, cb⟩ ∧ c.hub.length ≤ ca ∧ c.side.length ≤ cb ∧ SlAt cEnt F w A c.hub ∧ SlAt cEnt F w B c.side
  len := fun ⟨_, _, _, _, e, _⟩ => by rw [e]; rfl
  loc := fun ⟨A, ca, B, cb, e, h1, h2, h3, h4⟩ hs => ⟨A, ca, B, cb, e, h1, h2, h3.loc hs, h4.loc hs⟩
  mono := fun ⟨A, ca, B, cb, e, h1, h2, h3, h4⟩ hs => ⟨A, ca, B, cb, e, h1, h2, h3.mono hs, h4.mono hs⟩
theorem cps_one (l : List Cp) : Go.J.one (cps l) = true := by
  unfold Go.J.one
  rw [List.all_eq_true]
  intro v hv
  obtain ⟨e, _, h⟩ := List.mem_flatMap.1 hv
  simp only [encCp, List.mem_cons, List.not_mem_nil, or_false] at h
  rcases h with rfl | rfl | rfl | rfl | rfl | rfl | rfl <;> rfl
/-! ## a choice -/
/-- the first conflict at a path -/
def idxF (l : List Cf) (p : List UInt8) : Option Nat := l.findIdx? fun c => decide (c.path = p)
def mayC (l : List Cf) (i : Nat) (choice : Int) (given : List UInt8) : Bool := (decide (0 ≤ choice ∧ choice ≤ 4) && decide (given.length ≤ 4096)) && ((decide (choice = 4) || decide (given = [])) && (!decide (choice = 3) || (l[i]?.getD default).text))
def setC (l : List Cf) (i : Nat) (choice : Int) (given : List UInt8) : List Cf := l.set i { l[i]?.getD default with choice := choice, given := given }
/-! ## what choices make -/
def tgtE (c : Cf) : List Ent := if c.choice = 2 then c.side else if c.choice = 3 then [⟨c.path, 2, c.merged⟩] else if c.choice = 4 then [⟨c.path, 2, c.given⟩] else c.hub
structure Oc where
  t0 : List Ent
  t1 : List Ent
  t2 : List Ent
  rest : List Cf
  done : List (List UInt8)
  stale : List (List UInt8)
noncomputable def settleE (t0 t1 t2 : List Ent) (c : Cf) : Option (List Ent × List Ent × List Ent) :=
  if subE t0 c.path = c.hub ∧ subE t1 c.path = c.side then
    match replE t0 c.path (tgtE c), replE t1 c.path (tgtE c), replE t2 c.path (tgtE c) with
    | some a, some b, some d => some (a, b, d)
    | _, _, _ => none
  else none
noncomputable def stepO (o : Oc) (c : Cf) : Oc :=
  if c.choice = 0 then { o with rest := o.rest ++ [c] }
  else match settleE o.t0 o.t1 o.t2 c with
    | some (a, b, d) => ⟨a, b, d, o.rest, o.done ++ [c.path], o.stale⟩
    | none => { o with rest := o.rest ++ [c], stale := o.stale ++ [c.path] }
noncomputable def resolveE (l : List Cf) (t0 t1 t2 : List Ent) : Oc := l.foldl stepO ⟨t0, t1, t2, [], [], []⟩
theorem resolve_snoc (l : List Cf) (c : Cf) (t0 t1 t2 : List Ent) : resolveE (l ++ [c]) t0 t1 t2 = stepO (resolveE l t0 t1 t2) c := by unfold resolveE; rw [List.foldl_append]; rfl
theorem resolve_take (l : List Cf) {k : Nat} (h : k < l.length) (t0 t1 t2 : List Ent) : resolveE (l.take (k + 1)) t0 t1 t2 = stepO (resolveE (l.take k) t0 t1 t2) l[k] := by
  rw [List.take_succ_eq_append_getElem h, resolve_snoc]
/-- a tree that is not too large to be looked at -/
structure Fit (t : List Ent) : Prop where
  len : t.length ≤ 262144
  path : ∀ e ∈ t, e.path.length ≤ 1048576
structure FitC (c : Cf) : Prop where
  path : c.path.length ≤ 1048576
  hub : Fit c.hub
  side : Fit c.side
theorem Fit.repl {t sub : List Ent} {p : List UInt8} {o : List Ent} (h : Fit t) (hs : Fit sub) (he : replE t p sub = some o) : Fit o := by
  unfold replE at he
  split at he
  · cases he
  · rename_i hn
    obtain rfl := Option.some.inj he
    have h3 : checkT (sortR (restE t p ++ sub)) = 0 := Classical.byContradiction fun hh => hn (.inr (.inr hh))
    refine ⟨by have := (checkT_zero.1 h3).1; omega, fun e he => ?_⟩
    rcases List.mem_append.1 ((sortR_perm _).mem_iff.1 he) with h1 | h1
    · exact h.path e (List.mem_filter.1 h1).1
    · exact hs.path e h1
theorem FitC.tgt {c : Cf} (h : FitC c) : Fit (tgtE c) := by
  have one : ∀ d : List UInt8, Fit [⟨c.path, 2, d⟩] := fun d => ⟨by simp, fun e he => by rw [List.mem_singleton.1 he]; exact h.path⟩
  unfold tgtE
  split
  · exact h.side
  · split
    · exact one _
    · split
      · exact one _
      · exact h.hub
theorem settle_fit {t0 t1 t2 : List Ent} {c : Cf} {a b d : List Ent} (h0 : Fit t0) (h1 : Fit t1) (h2 : Fit t2) (hc : FitC c) (he : settleE t0 t1 t2 c = some (a, b, d)) : Fit a ∧ Fit b ∧ Fit d := by
  unfold settleE at he
  split at he
  · split at he
    · rename_i e0 e1 e2
      simp only [Option.some.injEq, Prod.mk.injEq] at he
      obtain ⟨rfl, rfl, rfl⟩ := he
      exact ⟨h0.repl hc.tgt e0, h1.repl hc.tgt e1, h2.repl hc.tgt e2⟩
    · cases he
  · cases he
structure FitO (o : Oc) (k : Nat) : Prop where
  t0 : Fit o.t0
  t1 : Fit o.t1
  t2 : Fit o.t2
  rest : o.rest.length ≤ k
  done : o.done.length + o.rest.length = k
  stale : o.stale.length ≤ o.rest.length
theorem FitO.step {o : Oc} {k : Nat} (h : FitO o k) {c : Cf} (hc : FitC c) : FitO (stepO o c) (k + 1) := by
  have h1 := h.rest
  have h2 := h.done
  have h3 := h.stale
  unfold stepO
  split
  · exact ⟨h.t0, h.t1, h.t2, by simp only [List.length_append, List.length_singleton]; omega, by simp only [List.length_append, List.length_singleton]; omega, by simp only [List.length_append, List.length_singleton]; omega⟩
  · split
    · rename_i a b d he
      obtain ⟨x, y, z⟩ := settle_fit h.t0 h.t1 h.t2 hc he
      exact ⟨x, y, z, by dsimp only; omega, by simp only [List.length_append, List.length_singleton]; omega, h3⟩
    · exact ⟨h.t0, h.t1, h.t2, by simp only [List.length_append, List.length_singleton]; omega, by simp only [List.length_append, List.length_singleton]; omega, by simp only [List.length_append, List.length_singleton]; omega⟩
theorem resolve_fit {l : List Cf} {t0 t1 t2 : List Ent} (h0 : Fit t0) (h1 : Fit t1) (h2 : Fit t2) (hc : ∀ c ∈ l, FitC c) : ∀ k, k ≤ l.length → FitO (resolveE (l.take k) t0 t1 t2) k
  | 0, _ => ⟨h0, h1, h2, Nat.le_refl _, rfl, Nat.le_refl _⟩
  | k + 1, h => by
    rw [resolve_take l (show k < l.length by omega)]
    exact (resolve_fit h0 h1 h2 hc k (by omega)).step (hc _ (List.getElem_mem _))
end Go.Proofs.YtniacmoniaaolaaGreatDoor

/- What is proved: what Choose of the package session and of its reference answer; lists of conflicts compared. Conditions: lists and paths of bounded length. -/
set_option linter.unusedSimpArgs false
set_option linter.unusedVariables false
namespace Go.Proofs.YtniacmoniaaolaaGreatDoor
open Go Go.J Go.RowKit

/-! ## rows of conflicts whose lists are the call's own -/
abbrev inF (p : Cp) : List Chunk := [eC p.A p.ca p.c.hub, eC p.B p.cb p.c.side]
abbrev innF (ps : List Cp) (fp : List Nat) : Chunk := objC (fun D => D = ps.flatMap inF) fp
section
variable {w0 w : World} {M : List Nat} {H : List Chunk} {Z : List Snap} {ps : List Cp} {p : Cp} {fp : List Nat}
theorem _root_.Go.J.St.cfNil (hS : St w0 M w H Z) : St w0 M w (innF [] [] :: H) Z := St.objClose (D := []) (φ := fun D => D = ([] : List Cp).flatMap inF) hS rfl
theorem _root_.Go.J.St.cfPush (hS : St w0 M w (innF ps fp :: eC p.A p.ca p.c.hub :: eC p.B p.cb p.c.side :: H) Z) : ∃ fp', St w0 M w (innF (ps ++ [p]) fp' :: H) Z := by
  obtain ⟨D, hD, _, hS⟩ := hS.objOpen
  subst hD
  have e : ps.flatMap inF ++ (eC p.A p.ca p.c.hub :: eC p.B p.cb p.c.side :: H) = (ps ++ [p]).flatMap inF ++ H := by simp
  rw [e] at hS
  exact ⟨_, hS.objClose (φ := fun D => D = (ps ++ [p]).flatMap inF) rfl⟩
theorem cps_sl {F : Nat → Prop} {e : TypeId} {A : Option Addr} {n cap n' : Nat} (hrow : RowAt w e 7 (.slice A n cap) n' (cps ps)) (hF : ∀ g, (Value.slice A n cap).ownBlock = some g → F g) (hin : ∀ p ∈ ps, p.c.hub.length ≤ p.ca ∧ p.c.side.length ≤ p.cb ∧ SlAt cEnt F w p.A p.c.hub ∧ SlAt cEnt F w p.B p.c.side) :
    SlAt cCf F w A (ps.map Cp.c) := by
  have h := SlAt.ofOwn (enc := encCp) (sz := 7) (hsz := fun _ => rfl) (by decide) hrow hF
  intro k hk
  rw [List.length_map] at hk
  obtain ⟨b, o, es, rfl, hFb, hr, hes⟩ := h k hk
  obtain ⟨h1, h2, h3, h4⟩ := hin _ (List.getElem_mem hk)
  refine ⟨b, o, es, rfl, hFb, hr, ?_⟩
  rw [List.getElem_map]
  exact ⟨_, _, _, _, hes, h1, h2, h3, h4⟩
theorem row_le {e : TypeId} {sz : Nat} {A : Option Addr} {n cap n' : Nat} {xs : List Value} (h : RowAt w e sz (.slice A n cap) n' xs) : n ≤ cap := by
  rcases h.2 with ⟨h1, h2⟩ | ⟨g, off, cap', cur, h1, _, h3, _⟩
  · simp only [Value.slice.injEq] at h1
    omega
  · simp only [Value.slice.injEq] at h1
    omega
theorem _root_.Go.J.St.cfsSl {e : TypeId} {A : Option Addr} {n cap n' : Nat} (hS : St w0 M w H Z) (h1 : Chunk.own (.slice A n cap) e 7 n' (cps ps) ∈ H) (h2 : innF ps fp ∈ H) : SlAt cCf (Old w) w A (ps.map Cp.c) := by
  have hrow : RowAt w e 7 (.slice A n cap) n' (cps ps) := hS.holds _ h1
  refine cps_sl hrow (fun g hg => (hS.inb _ h1 g (by simp [Chunk.fp, hg])).1) fun p hp => ?_
  obtain ⟨D, hD, hfp, _, hh⟩ := (hS.holds _ h2).1
  subst hD
  have one : ∀ {A : Option Addr} {c : Nat} {l : List Ent}, eC A c l ∈ ps.flatMap inF → l.length ≤ c ∧ SlAt cEnt (Old w) w A l := fun {A c l} hm => by
    have hr : RowAt w 60 3 (.slice A l.length c) l.length (l.flatMap encEnt) := hh _ hm
    refine ⟨row_le hr, SlAt.ofOwn (enc := encEnt) (sz := 3) (hsz := fun _ => rfl) (by decide) hr fun g hg => ?_⟩
    refine (hS.inb _ h2 g ?_).1
    show g ∈ fp
    rw [hfp]
    exact List.mem_flatMap.2 ⟨_, hm, by simp [Chunk.fp, hg]⟩
  obtain ⟨a1, a2⟩ := one (List.mem_flatMap.2 ⟨p, hp, List.mem_cons_self ..⟩)
  obtain ⟨b1, b2⟩ := one (List.mem_flatMap.2 ⟨p, hp, List.mem_cons_of_mem _ (List.mem_cons_self ..)⟩)
  exact ⟨a1, b1, a2, b2⟩
end
theorem cps_snoc (ps : List Cp) (p : Cp) : cps ps ++ encCp p = cps (ps ++ [p]) := by simp [cps]
variable {w0 : World}
/-! ## comparing -/
set_option maxHeartbeats 16000000 in
set_option maxRecDepth 100000 in
theorem rsameCf_c (l : List Cf) {A B : Option Addr} {ca cb : Nat} (hA : SlAt cCf (Old w0) w0 A l) (hB : SlAt cCf (Old w0) w0 B l) (hl : l.length ≤ 1048576) (hz : ∀ c ∈ l, c.hub.length ≤ 1048576 ∧ c.side.length ≤ 1048576) :
    Cal Tryz.prog 11 [.slice A l.length ca, .slice B l.length cb] w0 (fun v w' => Upd [] w0 w' ∧ v = .bool true) := by
  refine Cal.mk' (by kernel_rfl) Tryz.func11 rfl rfl fun hS => ?_
  repeat' (first
    | (show WL _ _ _ _ _ _ _; first
      | refine WL.pure rfl rfl rfl rfl ?_
      | refine WL.nil ?_)
    | (show WC _ _ _ _ _ _; first
      | refine WC.seq ?_
      | refine WC.region ?_
      | refine WC.block ?_
      | refine WC.skip ?_
      | refine WC.condF rfl (decide_eq_false (by first | with_reducible assumption | omega)) ?_)
    | refine seqQ_n ?_)
  refine WC.loop (σ := Nat) [0, 1] (fun k => [(5, .int .i64 (k : Int))])
    (fun k w => k ≤ l.length ∧ St w0 [] w [] [⟨w0, Old w0⟩]) (fun k => l.length - k) 0 ⟨Nat.zero_le _, hS⟩ ⟨rfl, trivial⟩ ?_
  repeat (clear hS)
  rintro k g w ⟨hk, hS⟩
  show WC _ _ _ (lf _ [(5, .int .i64 (k : Int))] _ _) _ _
  by_cases hlt : k < l.length
  · obtain ⟨ga, go, es, rfl, hF, hr, A1, c1, B1, d1, hes, _, _, hs1, hs2⟩ := hA.at_ hlt
    obtain ⟨ha, ho, es2, rfl, hF2, hr2, A2, c2, B2, d2, hes2, _, _, hs3, hs4⟩ := hB.at_ hlt
    subst hes hes2
    replace hr : w0.rangeAt ga (go + k * 7) (encCp ⟨l[k], A1, c1, B1, d1⟩) := hr
    replace hr2 : w0.rangeAt ha (ho + k * 7) (encCp ⟨l[k], A2, c2, B2, d2⟩) := hr2
    obtain ⟨hz1, hz2⟩ := hz _ (List.getElem_mem hlt)
    generalize l[k] = c at *
    obtain ⟨cp, ch, cs, cm, ct, cc, cg⟩ := c
    unfold encCp at hr hr2
    dsimp only at hr hr2 hs1 hs2 hs3 hs4 hz1 hz2
    clear hA hB hz
    repeat' (first
      | (show WL _ _ _ _ _ _ _; first
        | refine WL.pure rfl rfl rfl rfl ?_
        | refine WL.nil ?_)
      | (show WC _ _ _ _ _ _; first
        | refine WC.seq ?_
        | refine WC.region ?_
        | refine WC.block ?_
        | refine WC.skip ?_
        | refine WC.condT rfl (decide_eq_true (by first | with_reducible assumption | omega)) ?_)
      | refine seqQ_n ?_)
    refine WC.drawP hS [0,1,2,3,4,5,6,7] [0,1,2,3,4,5,6,7] (.two 8 [9,10,11] .nil 9 [8,10,11] .nil) (by kernel_rfl) (by kernel_rfl) ?_
    clear hS
    intro w hS hM
    repeat' (first
      | (show WL _ _ _ _ _ _ _; first
        | refine WL.pure rfl rfl rfl rfl ?_
        | refine WL.nil ?_
        | refine WL.load hS rfl rfl (LdOk.box (by repeat (first | exact List.Mem.head _ | apply List.Mem.tail)) rfl) rfl rfl rfl ?_
        | refine WL.add rfl rfl rfl (by omega) rfl rfl rfl ?_
        | (refine WL.calls hS rfl rfl (rsameD_c ch ch (hS.slO (by repeat (first | exact List.Mem.head _ | apply List.Mem.tail)) hs1) (hS.slO (by repeat (first | exact List.Mem.head _ | apply List.Mem.tail)) hs3) hz1 hz1) rfl rfl rfl ?_; rintro v w rfl hS; rw [decide_eq_true rfl])
        | (refine WL.calls hS rfl rfl (rsameD_c cs cs (hS.slO (by repeat (first | exact List.Mem.head _ | apply List.Mem.tail)) hs2) (hS.slO (by repeat (first | exact List.Mem.head _ | apply List.Mem.tail)) hs4) hz2 hz2) rfl rfl rfl ?_; rintro v w rfl hS; rw [decide_eq_true rfl])
        | ((fail_if_success (refine WL.wanted rfl ?_)); refine WL.guard rfl rfl rfl (fun h => ?_) (fun h => ?_) <;> (try simp only [Classical.not_not, Bool.not_eq_true', Bool.not_eq_false', Bool.not_eq_eq_eq_not, Bool.not_true, Bool.not_false, beq_iff_eq, beq_eq_false_iff_ne, ne_eq, decide_eq_decide, decide_eq_true_eq, decide_eq_false_iff_not, Bool.and_eq_true, Bool.or_eq_true, Bool.and_eq_false_iff, Bool.or_eq_false_iff] at h) <;> (try (exfalso; first | omega | contradiction))))
      | (show WC _ _ _ _ _ _; first
        | refine WC.seq ?_
        | refine WC.region ?_
        | refine WC.skip ?_
        | refine WC.condF rfl (by first | (simp; done) | fail) ?_)
      | (show WD _ _ _ _ _ _ _ _ _; first
        | refine WD.pure rfl rfl rfl rfl rfl ?_
        | refine WD.nil ?_
        | (refine WD.fork ?_ ?_)
        | (refine WD.alloc (t := 64) hS hM rfl rfl rfl rfl rfl rfl rfl rfl ?_; clear hS hM; intro w b hS hM)
        | (refine WD.store hS rfl rfl rfl (by repeat (first | exact StB.here rfl | apply StB.there)) rfl (by first | exact .refl _ _ | exact .chunk (.refl _ _) _ | exact .chunk (.chunk (.refl _ _) _) _) rfl rfl rfl rfl ?_; clear hS hM; intro w hS hM)
        | (refine WD.load rfl rfl (LdOk.snap0 hF hr (by repeat (first | exact List.Mem.head _ | apply List.Mem.tail)) rfl) rfl rfl rfl rfl ?_)
        | (refine WD.load rfl rfl (LdOk.snap0 hF2 hr2 (by repeat (first | exact List.Mem.head _ | apply List.Mem.tail)) rfl) rfl rfl rfl rfl ?_)
        | refine WD.index rfl rfl rfl rfl (by first | with_reducible assumption | omega) rfl rfl rfl rfl rfl ?_)
      | (refine WDo.alloc hS hM rfl rfl rfl rfl rfl rfl rfl ?_; clear hS hM; intro w b hS hM)
      | refine seqQ_n ?_
      | refine blkQ_n ?_)
    all_goals
      exact rndQ_n (k + 1) ⟨by omega, hS.droplast2 (by repeat (first | exact Pulls.nil | (apply Pulls.cons; focus (repeat (first | exact Pull.here | apply Pull.there)))))⟩ (by show l.length - (k + 1) < l.length - k; omega) ⟨vint (by omega), trivial⟩ ⟨rfl, rfl, trivial⟩
  · have hke : k = l.length := by omega
    subst hke
    repeat' (first
      | (show WL _ _ _ _ _ _ _; first
        | refine WL.pure rfl rfl rfl rfl ?_
        | refine WL.nil ?_)
      | (show WC _ _ _ _ _ _; first
        | refine WC.seq ?_
        | refine WC.region ?_
        | refine WC.exit ?_
        | refine WC.ret ?_
        | refine WC.condF rfl (decide_eq_false (by first | with_reducible assumption | omega)) ?_)
      | refine seqQ_n ?_
      | refine seqQ_x ?_
      | refine blkQ_hit rfl ?_
      | refine rndQ_x ?_)
    exact fin1r rfl rfl ⟨hS.upd, rfl⟩
/-! ## a choice -/
theorem idxF_none {l : List Cf} {p : List UInt8} (h : ∀ c ∈ l, c.path ≠ p) : idxF l p = none := by
  unfold idxF
  rw [List.findIdx?_eq_none_iff]
  intro c hc
  exact decide_eq_false (h c hc)
theorem idxF_some {l : List Cf} {p : List UInt8} {k : Nat} (hk : k < l.length) (he : l[k].path = p) (h : ∀ j (hj : j < k), (l[j]'(by omega)).path ≠ p) : idxF l p = some k := by
  unfold idxF
  rw [List.findIdx?_eq_some_iff_getElem]
  exact ⟨hk, decide_eq_true he, fun j hj => by simpa using h j hj⟩
theorem idxF_cases (l : List Cf) (p : List UInt8) : (idxF l p = none ∧ ∀ c ∈ l, c.path ≠ p) ∨ ∃ k, ∃ h : k < l.length, idxF l p = some k ∧ l[k].path = p ∧ ∀ j (hj : j < k), (l[j]'(by omega)).path ≠ p := by
  cases hf : idxF l p with
  | none =>
    left
    unfold idxF at hf
    rw [List.findIdx?_eq_none_iff] at hf
    exact ⟨rfl, fun c hc => of_decide_eq_false (hf c hc)⟩
  | some k =>
    right
    unfold idxF at hf
    rw [List.findIdx?_eq_some_iff_getElem] at hf
    obtain ⟨h1, h2, h3⟩ := hf
    exact ⟨k, h1, rfl, of_decide_eq_true h2, fun j hj => by simpa using h3 j hj⟩
abbrev pathF (b : Nat) : Value := .func (.func 50) ⟨[]⟩ ⟨[.pointer (some ⟨b, 0, none⟩)]⟩
set_option maxHeartbeats 4000000 in
set_option maxRecDepth 100000 in
theorem scmp_c (c : Cp) (p : List UInt8) (b : Nat) (hi : InL w0 [.box b 9 [str p]]) : Cal Tryz.prog 50 [.agg ⟨encCp c⟩, .pointer (some ⟨b, 0, none⟩)] w0 (fun v w' => v = .bool (decide (c.c.path = p)) ∧ MutL w0 w' [.box b 9 [str p]] [.box b 9 [str p]]) := by
  refine Cal.mkL hi (by kernel_rfl) Tryz.func50 rfl rfl fun hS => ?_
  obtain ⟨⟨path, hub, side, merged, text, choice, given⟩, A, ca, B, cb⟩ := c
  unfold encCp
  dsimp only
  repeat' (first
    | (show WL _ _ _ _ _ _ _; first
      | refine WL.pure rfl rfl rfl rfl ?_
      | refine WL.nil ?_
      | refine WL.load hS rfl rfl (LdOk.box (by repeat (first | exact List.Mem.head _ | apply List.Mem.tail)) rfl) rfl rfl rfl ?_
      | (refine WL.box hS rfl rfl rfl rfl rfl ?_; intro w b hS))
    | (show WC _ _ _ _ _ _; first
      | refine WC.seq ?_
      | refine WC.region ?_
      | refine WC.ret ?_)
    | refine seqQ_n ?_)
  exact fin1r rfl rfl ⟨rfl, hS.mutLp (by repeat (first | exact Pulls.nil | (apply Pulls.cons; focus (repeat (first | exact Pull.here | apply Pull.there)))))⟩
end Go.Proofs.YtniacmoniaaolaaGreatDoor

/- What is proved: what Choose of the package session answers. Conditions: lists of bounded length. -/
set_option linter.unusedSimpArgs false
set_option linter.unusedVariables false
namespace Go.Proofs.YtniacmoniaaolaaGreatDoor
open Go Go.J Go.RowKit

variable {w0 : World}
def idxV (o : Option Nat) : Int := match o with
  | some k => (k : Int)
  | none => -1
set_option maxHeartbeats 8000000 in
set_option maxRecDepth 100000 in
theorem sidx_c (l : List Cf) (p : List UInt8) (b : Nat) {A : Option Addr} {cap : Nat} (hi : InL w0 [.box b 9 [str p]]) (hA : SlAt cCf (fun x => x < w0.heap.size ∧ x ∉ fps [.box b 9 [str p]]) w0 A l) (hl : l.length ≤ 1048576) :
    Cal Tryz.prog 49 [.slice A l.length cap, pathF b] w0 (fun v w' => v = .int .i64 (idxV (idxF l p)) ∧ MutL w0 w' [.box b 9 [str p]] [.box b 9 [str p]]) := by
  refine Cal.mkL hi (by kernel_rfl) Tryz.func49 rfl rfl fun hS => ?_
  repeat' (first
    | (show WL _ _ _ _ _ _ _; first
      | refine WL.pure rfl rfl rfl rfl ?_
      | refine WL.nil ?_)
    | (show WC _ _ _ _ _ _; first
      | refine WC.seq ?_
      | refine WC.region ?_
      | refine WC.block ?_)
    | refine seqQ_n ?_)
  refine WC.loop (σ := Nat) [0, 1, 7] (fun k => [(8, .int .i64 (k : Int))])
    (fun k w => (k ≤ l.length ∧ ∀ j (hj : j < k) (h : j < l.length), l[j].path ≠ p) ∧ St w0 (fps [.box b 9 [str p]]) w [.box b 9 [str p]] (ZL w0 [.box b 9 [str p]])) (fun k => l.length - k) 0 ⟨⟨Nat.zero_le _, fun j hj => absurd hj (Nat.not_lt_zero _)⟩, hS⟩ ⟨rfl, trivial⟩ ?_
  clear hS
  rintro k g w ⟨⟨hk, hno⟩, hS⟩
  show WC _ _ _ (lf _ [(8, .int .i64 (k : Int))] _ _) _ _
  by_cases hlt : k < l.length
  · obtain ⟨ga, go, es, rfl, hF, hr, A1, c1, B1, d1, hes, _, _, hs1, hs2⟩ := hA.at_ hlt
    subst hes
    replace hr : w0.rangeAt ga (go + k * 7) (encCp ⟨l[k], A1, c1, B1, d1⟩) := hr
    have hyes : l[k].path = p → idxF l p = some k := fun h => idxF_some hlt h fun j hj => hno j hj (by omega)
    have hnx : l[k].path ≠ p → ∀ j (hj : j < k + 1) (h : j < l.length), l[j].path ≠ p := fun h j hj hjl => by
      by_cases e : j = k
      · subst e; exact h
      · exact hno j (by omega) hjl
    generalize l[k] = c at *
    clear hno hA
    by_cases hc : c.path = p
    · rw [hyes hc]
      clear hyes hnx
      repeat' (first
        | (show WL _ _ _ _ _ _ _; first
          | refine WL.pure rfl rfl rfl rfl ?_
          | refine WL.nil ?_
          | (refine WL.load hS rfl rfl (LdOk.snap0 hF hr (by repeat (first | exact List.Mem.head _ | apply List.Mem.tail)) rfl) rfl rfl rfl ?_)
          | (refine WL.callFL (D := [.box b 9 [str p]]) hS (by repeat (first | exact Pulls.nil | (apply Pulls.cons; focus (repeat (first | exact Pull.here | apply Pull.there))))) rfl rfl rfl (fun hI => scmp_c ⟨c, A1, c1, B1, d1⟩ p b hI) rfl rfl rfl ?_; rintro v w ⟨rfl, hmu⟩ hS; replace hS := hS _ hmu; clear hmu; rw [decide_eq_true hc])
          | refine WL.index rfl rfl rfl rfl (by first | with_reducible assumption | omega) rfl rfl rfl rfl ?_)
        | (show WC _ _ _ _ _ _; first
          | refine WC.seq ?_
          | refine WC.region ?_
          | refine WC.block ?_
          | refine WC.skip ?_
          | refine WC.ret ?_
          | refine WC.condT rfl (by with_reducible rfl) ?_
          | refine WC.condT rfl (decide_eq_true (by first | with_reducible assumption | omega)) ?_)
        | refine seqQ_n ?_
        | refine seqQ_r ?_
        | refine blkQ_r ?_
        | refine rndQ_r ?_)
      exact fin1r rfl rfl ⟨rfl, hS.mutLp (by repeat (first | exact Pulls.nil | (apply Pulls.cons; focus (repeat (first | exact Pull.here | apply Pull.there)))))⟩
    · replace hnx := hnx hc
      clear hyes
      repeat' (first
        | (show WL _ _ _ _ _ _ _; first
          | refine WL.pure rfl rfl rfl rfl ?_
          | refine WL.nil ?_
          | refine WL.add rfl rfl rfl (by omega) rfl rfl rfl ?_
          | (refine WL.load hS rfl rfl (LdOk.snap0 hF hr (by repeat (first | exact List.Mem.head _ | apply List.Mem.tail)) rfl) rfl rfl rfl ?_)
          | (refine WL.callFL (D := [.box b 9 [str p]]) hS (by repeat (first | exact Pulls.nil | (apply Pulls.cons; focus (repeat (first | exact Pull.here | apply Pull.there))))) rfl rfl rfl (fun hI => scmp_c ⟨c, A1, c1, B1, d1⟩ p b hI) rfl rfl rfl ?_; rintro v w ⟨rfl, hmu⟩ hS; replace hS := hS _ hmu; clear hmu; rw [decide_eq_false hc])
          | refine WL.index rfl rfl rfl rfl (by first | with_reducible assumption | omega) rfl rfl rfl rfl ?_)
        | (show WC _ _ _ _ _ _; first
          | refine WC.seq ?_
          | refine WC.region ?_
          | refine WC.block ?_
          | refine WC.skip ?_
          | refine WC.condF rfl (by with_reducible rfl) ?_
          | refine WC.condT rfl (decide_eq_true (by first | with_reducible assumption | omega)) ?_)
        | refine seqQ_n ?_
        | refine blkQ_n ?_)
      exact rndQ_n (k + 1) ⟨⟨by omega, hnx⟩, hS.droplast2 (by repeat (first | exact Pulls.nil | (apply Pulls.cons; focus (repeat (first | exact Pull.here | apply Pull.there)))))⟩ (by show l.length - (k + 1) < l.length - k; omega) ⟨vint (by omega), trivial⟩ ⟨rfl, rfl, rfl, trivial⟩
  · have hke : k = l.length := by omega
    subst hke
    rw [idxF_none fun c hc => by
      obtain ⟨j, hj, rfl⟩ := List.getElem_of_mem hc
      exact hno j hj hj]
    clear hno hA
    repeat' (first
      | (show WL _ _ _ _ _ _ _; first
        | refine WL.pure rfl rfl rfl rfl ?_
        | refine WL.nil ?_)
      | (show WC _ _ _ _ _ _; first
        | refine WC.seq ?_
        | refine WC.region ?_
        | refine WC.exit ?_
        | refine WC.ret ?_
        | refine WC.condF rfl (decide_eq_false (by first | with_reducible assumption | omega)) ?_)
      | refine seqQ_n ?_
      | refine seqQ_x ?_
      | refine blkQ_hit rfl ?_
      | refine rndQ_x ?_)
    exact fin1r rfl rfl ⟨rfl, hS.mutLp (by repeat (first | exact Pulls.nil | (apply Pulls.cons; focus (repeat (first | exact Pull.here | apply Pull.there)))))⟩
theorem flat_same {α β : Type} {f : α → List β} : ∀ {ps : List α} {i : Nat} {q q' : α}, ps[i]? = some q → f q' = f q → (ps.set i q').flatMap f = ps.flatMap f
  | [], _, _, _, h, _ => by cases h
  | a :: l, 0, q, q', h, e => by
    obtain rfl : a = q := by simpa using h
    show (q' :: l).flatMap f = (a :: l).flatMap f
    rw [List.flatMap_cons, List.flatMap_cons, e]
  | a :: l, i + 1, q, q', h, e => by
    show (a :: l.set i q').flatMap f = (a :: l).flatMap f
    rw [List.flatMap_cons, List.flatMap_cons, flat_same (by simpa using h) e]
/-- two cells of one conflict are set -/
theorem cps_set : ∀ {ps : List Cp} {i : Nat} {p : Cp} (h : ps[i]? = some p) (x : Int) (g : List UInt8), (cps ps).take (i * 7 + 5) ++ [.int .i64 x] ++ (cps ps).drop (i * 7 + 5 + 1) = cps (ps.set i { p with c := { p.c with choice := x } }) ∧ (cps ps).take (i * 7 + 6) ++ [str g] ++ (cps ps).drop (i * 7 + 6 + 1) = cps (ps.set i { p with c := { p.c with given := g } })
  | [], _, _, h, _, _ => by cases h
  | a :: l, 0, p, h, x, g => by
    obtain rfl : a = p := by simpa using h
    exact ⟨rfl, rfl⟩
  | a :: l, i + 1, p, h, x, g => by
    obtain ⟨ih1, ih2⟩ := cps_set (ps := l) (i := i) (p := p) (by simpa using h) x g
    have e : cps (a :: l) = encCp a ++ cps l := rfl
    have e2 : ∀ q : Cp, cps ((a :: l).set (i + 1) q) = encCp a ++ cps (l.set i q) := fun q => rfl
    have e3 : (encCp a).length = 7 := rfl
    constructor
    · rw [e, e2, ← ih1, show (i + 1) * 7 + 5 = (encCp a).length + (i * 7 + 5) by rw [e3]; omega, show (encCp a).length + (i * 7 + 5) + 1 = (encCp a).length + (i * 7 + 5 + 1) by omega,
        List.take_length_add_append, List.drop_length_add_append, List.append_assoc, List.append_assoc, List.append_assoc]
    · rw [e, e2, ← ih2, show (i + 1) * 7 + 6 = (encCp a).length + (i * 7 + 6) by rw [e3]; omega, show (encCp a).length + (i * 7 + 6) + 1 = (encCp a).length + (i * 7 + 6 + 1) by omega,
        List.take_length_add_append, List.drop_length_add_append, List.append_assoc, List.append_assoc, List.append_assoc]
theorem mayC_at {l : List Cf} {i : Nat} (h : i < l.length) (choice : Int) (given : List UInt8) : mayC l i choice given = ((decide (0 ≤ choice ∧ choice ≤ 4) && decide (given.length ≤ 4096)) && ((decide (choice = 4) || decide (given = [])) && (!decide (choice = 3) || (l[i]).text))) := by
  unfold mayC
  rw [List.getElem?_eq_getElem h]
  rfl
/-- what Choose answers -/
def ChoIs (l : List Cf) (p : List UInt8) (choice : Int) (given : List UInt8) (v : Value) (w w' : World) : Prop :=
  (idxF l p = none ∧ v = .tuple #[.slice none 0 0, .int .i64 11] ∧ MutL w w' [] []) ∨
  (∃ i, idxF l p = some i ∧ mayC l i choice given = false ∧ v = .tuple #[.slice none 0 0, .int .i64 1] ∧ MutL w w' [] []) ∨
  ∃ i, idxF l p = some i ∧ mayC l i choice given = true ∧ ∃ AO oc ps fp, v = .tuple #[.slice AO l.length oc, .int .i64 0] ∧ ps.map Cp.c = setC l i choice given ∧ MutL w w' [] [.own (.slice AO l.length oc) 64 7 l.length (cps ps), innF ps fp]
set_option maxHeartbeats 32000000 in
set_option maxRecDepth 100000 in
theorem choose_c (l : List Cf) (p : List UInt8) (choice : Int) (given : List UInt8) {A : Option Addr} {cap : Nat} (hA : SlAt cCf (Old w0) w0 A l) (hl : l.length ≤ 1048576) (hg : given.length ≤ 1048576) (hz : ∀ c ∈ l, c.hub.length ≤ 1048576 ∧ c.side.length ≤ 1048576) :
    Cal Tryz.prog 20 [.slice A l.length cap, str p, .int .i64 choice, str given] w0 (fun v w' => ChoIs l p choice given v w0 w') := by
  refine Cal.mkL (D := []) (InL.none _) (by kernel_rfl) Tryz.func20 rfl rfl fun hS => ?_
  replace hA : SlAt cCf (fun x => x < w0.heap.size ∧ x ∉ fps []) w0 A l := hA.mono fun b h => ⟨h, fun h => (by cases h)⟩
  have hsi := fun (w : World) (b : Nat) (hi : InL w [.box b 9 [str p]]) (h : SlAt cCf (fun x => x < w.heap.size ∧ x ∉ fps [.box b 9 [str p]]) w A l) => sidx_c l p b (cap := cap) hi h hl
  rcases idxF_cases l p with ⟨hix, _⟩ | ⟨i, hil, hix, _, _⟩
  · rw [hix] at hsi
    repeat' (first
      | (show WL _ _ _ _ _ _ _; first
        | refine WL.pure rfl rfl rfl rfl ?_
        | refine WL.nil ?_
        | (refine WL.callL (D := [.box b 9 [str p]]) hS (by repeat (first | exact Pulls.nil | (apply Pulls.cons; focus (repeat (first | exact Pull.here | apply Pull.there))))) rfl rfl (fun hI => hsi _ _ hI (St.slY (hS.pulls (D := [.box b 9 [str p]]) (by repeat (first | exact Pulls.nil | (apply Pulls.cons; focus (repeat (first | exact Pull.here | apply Pull.there)))))) (by repeat (first | exact List.Mem.head _ | apply List.Mem.tail)) hA)) rfl rfl rfl ?_; rintro v w ⟨rfl, hmu⟩ hS; replace hS := hS _ hmu; clear hmu)
        | (refine WL.box hS rfl rfl rfl rfl rfl ?_; intro w b hS))
      | (show WC _ _ _ _ _ _; first
        | refine WC.seq ?_
        | refine WC.region ?_
        | refine WC.ret ?_
        | refine WC.condT rfl (by decide) ?_)
      | refine seqQ_n ?_
      | refine seqQ_r ?_)
    exact fin2r rfl rfl rfl (.inl ⟨hix, rfl, hS.mutLp .nil⟩)
  rw [hix] at hsi
  simp only [idxV] at hsi
  have hmy := mayC_at hil choice given
  obtain ⟨ga, go, es, hAA, hF, hr, A1, c1, B1, d1, hes, _, _, _, _⟩ := hA.at_ hil
  subst hes
  replace hr : w0.rangeAt ga (go + i * 7) (encCp ⟨l[i], A1, c1, B1, d1⟩) := hr
  have hcell : encCp ⟨l[i], A1, c1, B1, d1⟩ = [str l[i].path, .slice A1 l[i].hub.length c1, .slice B1 l[i].side.length d1, str l[i].merged, .bool l[i].text, .int .i64 l[i].choice, str l[i].given] := rfl
  rw [hcell] at hr
  have hset : ∀ ps : List Cp, ps.map Cp.c = l → (ps[i]? = some ps[i]! ∧ ∀ x g, (ps.set i { ps[i]! with c := { ps[i]!.c with choice := x, given := g } }).map Cp.c = setC l i x g) := fun ps h => by
    have hl2 : i < ps.length := by have := congrArg List.length h; rw [List.length_map] at this; omega
    have e1 : ps[i]! = ps[i] := getElem!_pos ps i hl2
    rw [e1]
    refine ⟨List.getElem?_eq_getElem hl2, fun x g => ?_⟩
    have e2 : (ps[i]).c = l[i] := by
      have := congrArg (fun q => q[i]?) h
      rw [List.getElem?_map, List.getElem?_eq_getElem hl2, List.getElem?_eq_getElem hil] at this
      exact Option.some.inj this
    unfold setC
    rw [List.map_set, h, List.getElem?_eq_getElem hil]
    show l.set i { ps[i].c with choice := x, given := g } = _
    rw [e2]
    rfl
  have hcases : (mayC l i choice given = false ∧ (choice < 0 ∨ (0 ≤ choice ∧ 4 < choice) ∨ (0 ≤ choice ∧ choice ≤ 4 ∧ 4096 < given.length) ∨ (0 ≤ choice ∧ choice < 4 ∧ given.length ≤ 4096 ∧ given ≠ []) ∨ (choice = 3 ∧ given = [] ∧ l[i].text = false))) ∨
      (mayC l i choice given = true ∧ ((choice = 4 ∧ given.length ≤ 4096) ∨ (0 ≤ choice ∧ choice < 3 ∧ given = []) ∨ (choice = 3 ∧ given = [] ∧ l[i].text = true))) := by
    rw [hmy]
    generalize l[i].text = tx
    by_cases h1 : choice < 0
    · exact .inl ⟨by rw [decide_eq_false (show ¬ (0 ≤ choice ∧ choice ≤ 4) by omega)]; rfl, .inl h1⟩
    by_cases h2 : 4 < choice
    · exact .inl ⟨by rw [decide_eq_false (show ¬ (0 ≤ choice ∧ choice ≤ 4) by omega)]; rfl, .inr (.inl ⟨by omega, h2⟩)⟩
    rw [decide_eq_true (show 0 ≤ choice ∧ choice ≤ 4 by omega)]
    by_cases h3 : 4096 < given.length
    · exact .inl ⟨by rw [decide_eq_false (show ¬ given.length ≤ 4096 by omega)]; rfl, .inr (.inr (.inl ⟨by omega, by omega, h3⟩))⟩
    rw [decide_eq_true (show given.length ≤ 4096 by omega)]
    by_cases h4 : choice = 4
    · subst h4
      exact .inr ⟨rfl, .inl ⟨rfl, by omega⟩⟩
    rw [decide_eq_false h4]
    by_cases h5 : given = []
    · rw [decide_eq_true h5]
      by_cases h6 : choice = 3
      · subst h6
        cases tx
        · exact .inl ⟨rfl, .inr (.inr (.inr (.inr ⟨rfl, h5, rfl⟩)))⟩
        · exact .inr ⟨rfl, .inr (.inr ⟨rfl, h5, rfl⟩)⟩
      · rw [decide_eq_false h6]
        exact .inr ⟨rfl, .inr (.inl ⟨by omega, by omega, h5⟩)⟩
    · rw [decide_eq_false h5]
      exact .inl ⟨rfl, .inr (.inr (.inr (.inl ⟨by omega, by omega, by omega, h5⟩)))⟩
  clear hmy hcell
  generalize l[i] = ci at *
  obtain ⟨xpath, xhub, xside, xmerged, xtext, xchoice, xgiven⟩ := ci
  dsimp only at hr hcases
  subst hAA
  rcases hcases with ⟨hm, hcs⟩ | ⟨hm, hcs⟩
  · clear hset
    rcases hcs with h1 | ⟨h1, h2⟩ | ⟨h1, h2, h3⟩ | ⟨h1, h2, h3, h4⟩ | ⟨rfl, rfl, rfl⟩
    all_goals
      repeat' (first
        | (show WL _ _ _ _ _ _ _; first
          | refine WL.pure rfl rfl rfl rfl ?_
          | refine WL.nil ?_
          | (refine WL.callL (D := [.box b 9 [str p]]) hS (by repeat (first | exact Pulls.nil | (apply Pulls.cons; focus (repeat (first | exact Pull.here | apply Pull.there))))) rfl rfl (fun hI => hsi _ _ hI (St.slY (hS.pulls (D := [.box b 9 [str p]]) (by repeat (first | exact Pulls.nil | (apply Pulls.cons; focus (repeat (first | exact Pull.here | apply Pull.there)))))) (by repeat (first | exact List.Mem.head _ | apply List.Mem.tail)) hA)) rfl rfl rfl ?_; rintro v w ⟨rfl, hmu⟩ hS; replace hS := hS _ hmu; clear hmu)
          | (refine WL.load hS rfl rfl (LdOk.snap (off := 4) hF hr (by repeat (first | exact List.Mem.head _ | apply List.Mem.tail)) rfl) rfl rfl rfl ?_)
          | (refine WL.box hS rfl rfl rfl rfl rfl ?_; intro w b hS)
          | refine WL.index rfl rfl rfl rfl (by first | with_reducible assumption | omega) rfl rfl rfl rfl ?_
          | refine WL.skip rfl rfl rfl ?_
          | ((fail_if_success (refine WL.wanted rfl ?_)); refine WL.guard rfl rfl rfl (fun h => ?_) (fun h => ?_) <;> (try simp only [Classical.not_not, Bool.not_eq_true', Bool.not_eq_false', Bool.not_eq_eq_eq_not, Bool.not_true, Bool.not_false, beq_iff_eq, beq_eq_false_iff_ne, ne_eq, decide_eq_decide, decide_eq_true_eq, decide_eq_false_iff_not, Bool.and_eq_true, Bool.or_eq_true, Bool.and_eq_false_iff, Bool.or_eq_false_iff] at h) <;> (try (exfalso; first | omega | contradiction))))
        | (show WC _ _ _ _ _ _; first
          | refine WC.seq ?_
          | refine WC.region ?_
          | refine WC.skip ?_
          | refine WC.ret ?_
          | refine WC.condT rfl (by first | (simp [h4]; done) | fail) ?_
          | refine WC.condT rfl (by with_reducible rfl) ?_
          | refine WC.condT rfl (by decide) ?_
          | refine WC.condF rfl (decide_eq_false (by first | with_reducible assumption | omega)) ?_)
        | refine seqQ_n ?_
        | refine seqQ_r ?_)
      exact fin2r rfl rfl rfl (.inr (.inl ⟨i, hix, hm, rfl, hS.mutLp .nil⟩))
  · have hixn : (i : Int) < (l.length : Int) := by omega
    rcases hcs with ⟨rfl, h2⟩ | ⟨h1, h2, rfl⟩ | ⟨rfl, rfl, rfl⟩
    all_goals
      repeat' (first
        | (show WL _ _ _ _ _ _ _; first
          | refine WL.pure rfl rfl rfl rfl ?_
          | refine WL.nil ?_
          | (refine WL.callL (D := [.box b 9 [str p]]) hS (by repeat (first | exact Pulls.nil | (apply Pulls.cons; focus (repeat (first | exact Pull.here | apply Pull.there))))) rfl rfl (fun hI => hsi _ _ hI (St.slY (hS.pulls (D := [.box b 9 [str p]]) (by repeat (first | exact Pulls.nil | (apply Pulls.cons; focus (repeat (first | exact Pull.here | apply Pull.there)))))) (by repeat (first | exact List.Mem.head _ | apply List.Mem.tail)) hA)) rfl rfl rfl ?_; rintro v w ⟨rfl, hmu⟩ hS; replace hS := hS _ hmu; clear hmu)
          | (refine WL.load hS rfl rfl (LdOk.snap (off := 4) hF hr (by repeat (first | exact List.Mem.head _ | apply List.Mem.tail)) rfl) rfl rfl rfl ?_)
          | (refine WL.slit (t := 22) hS rfl rfl rfl rfl rfl ?_; intro w ob hS; have hS := hS.boxRow (n := 0) (size := 7) .here rfl (Nat.zero_le _))
          | (refine WL.box hS rfl rfl rfl rfl rfl ?_; intro w b hS)
          | refine WL.index rfl rfl rfl rfl (by first | with_reducible assumption | omega) rfl rfl rfl rfl ?_
          | refine WL.skip rfl rfl rfl ?_
          | ((fail_if_success (refine WL.wanted rfl ?_)); refine WL.guard rfl rfl rfl (fun h => ?_) (fun h => ?_) <;> (try simp only [Classical.not_not, Bool.not_eq_true', Bool.not_eq_false', Bool.not_eq_eq_eq_not, Bool.not_true, Bool.not_false, beq_iff_eq, beq_eq_false_iff_ne, ne_eq, decide_eq_decide, decide_eq_true_eq, decide_eq_false_iff_not, Bool.and_eq_true, Bool.or_eq_true, Bool.and_eq_false_iff, Bool.or_eq_false_iff] at h) <;> (try (exfalso; first | omega | contradiction))))
        | (show WC _ _ _ _ _ _; first
          | refine WC.seq ?_
          | refine WC.region ?_
          | refine WC.block ?_
          | refine WC.skip ?_
          | refine WC.condF rfl (by with_reducible rfl) ?_
          | refine WC.condF rfl (by decide) ?_
          | refine WC.condF rfl (decide_eq_false (by first | with_reducible assumption | omega)) ?_)
        | refine seqQ_n ?_)
      replace hS := hS.cfNil
      refine WC.loop (σ := Nat × List Cp × Option Addr × Nat × List Nat) [2, 3, 10, 51, 52] (fun (k, ps, AO, oc, fp) => [(11, .slice AO k oc), (53, .int .i64 (k : Int))])
        (fun (k, ps, AO, oc, fp) w => (k ≤ l.length ∧ ps.map Cp.c = l.take k ∧ ps.length = k) ∧ St w0 (fps []) w [.own (.slice AO k oc) 64 7 k (cps ps), innF ps fp] (ZL w0 [])) (fun (k, _) => l.length - k) (0, [], some ⟨ob, 0, none⟩, 0, []) ⟨⟨Nat.zero_le _, rfl, rfl⟩, hS.droplast2 (by repeat (first | exact Pulls.nil | (apply Pulls.cons; focus (repeat (first | exact Pull.here | apply Pull.there)))))⟩ ⟨rfl, rfl, trivial⟩ ?_
      repeat (clear hS)
      rintro ⟨k, ps, AO, oc, fp⟩ g w ⟨⟨hk, hpm, hpl⟩, hS⟩
      show WC _ _ _ (lf _ [(11, .slice AO k oc), (53, .int .i64 (k : Int))] _ _) _ _
      by_cases hlt : k < l.length
      · obtain ⟨gb, gp, es, hAB, hF2, hr2, A2, c2, B2, d2, hes, _, _, hs1, hs2⟩ := hA.at_ hlt
        simp only [Option.some.injEq, Addr.mk.injEq, and_true] at hAB
        obtain ⟨rfl, rfl⟩ := hAB
        subst hes
        replace hr2 : w0.rangeAt ga (go + k * 7) (encCp ⟨l[k], A2, c2, B2, d2⟩) := hr2
        have hpm2 : ∀ A5 c5 A6 c6, (ps ++ [(⟨l[k], A5, c5, A6, c6⟩ : Cp)]).map Cp.c = l.take (k + 1) := fun A5 c5 A6 c6 => by rw [List.map_append, hpm, List.take_succ_eq_append_getElem hlt]; rfl
        obtain ⟨hz1, hz2⟩ := hz _ (List.getElem_mem hlt)
        generalize l[k] = e at *
        obtain ⟨ep, eh, es, em, et, ec, eg⟩ := e
        unfold encCp at hr2
        dsimp only at hr2 hs1 hs2 hz1 hz2
        clear hset hsi hA hF hr
        repeat' (first
          | (show WL _ _ _ _ _ _ _; first
            | refine WL.pure rfl rfl rfl rfl ?_
            | refine WL.nil ?_
            | refine WL.load hS rfl rfl (LdOk.box (by repeat (first | exact List.Mem.head _ | apply List.Mem.tail)) rfl) rfl rfl rfl ?_
            | refine WL.add rfl rfl rfl (by omega) rfl rfl rfl ?_
            | (refine WL.load hS rfl rfl (LdOk.snap0 hF2 hr2 (by repeat (first | exact List.Mem.head _ | apply List.Mem.tail)) rfl) rfl rfl rfl ?_)
            | (refine WL.app hS rfl rfl rfl rfl (RdOk.box (by repeat (first | exact List.Mem.head _ | apply List.Mem.tail))) rfl rfl (fun A cap => by repeat (first | exact Repl.here | apply Repl.there)) (by omega) rfl rfl rfl ?_; intro A3 cap3 w hS)
            | (refine WL.store hS rfl rfl rfl (by repeat (first | exact StB.here rfl | apply StB.there)) rfl rfl rfl ?_; intro w hS)
            | (refine WL.alloc hS rfl rfl rfl rfl rfl rfl ?_; intro w b hS)
            | refine WL.index rfl rfl rfl rfl (by first | with_reducible assumption | omega) rfl rfl rfl rfl ?_
            | (refine WL.slit hS rfl rfl rfl rfl rfl ?_; intro w b hS))
          | (show WC _ _ _ _ _ _; first
            | refine WC.seq ?_
            | refine WC.region ?_
            | refine WC.block ?_
            | refine WC.skip ?_
            | (show WC _ _ (Code.region _ (List.toArray [_, _, _, _, _, _, _, _, _, _]) true) _ _ _; refine WC.drawV hS [0,1,3,4,6,8] [0,1,3,4,2,6,5] 7 [8,9] (by kernel_rfl) (by kernel_rfl) ?_; clear hS; intro w hS hM)
            | refine WC.condT rfl (decide_eq_true (by first | with_reducible assumption | omega)) ?_)
          | (show WD _ _ _ _ _ _ _ _ _; first
            | refine WD.pure rfl rfl rfl rfl rfl ?_
            | refine WD.nil ?_
            | refine WD.load rfl rfl (LdOk.box (by repeat (first | exact List.Mem.head _ | apply List.Mem.tail)) rfl) rfl rfl rfl rfl ?_
            | (refine WD.callG rfl rfl (clone_c eh (hS.slO (by repeat (first | exact List.Mem.head _ | apply List.Mem.tail)) hs1) hz1) rfl rfl rfl rfl rfl ?_; rintro v w ⟨hu, A5, c5, rfl, hn⟩; have hS := hS.new hu hn; clear hu hn; have hM := hM.new hS; refine ⟨hM.ss hS, ?_⟩)
            | (refine WD.callG rfl rfl (clone_c es (hS.slO (by repeat (first | exact List.Mem.head _ | apply List.Mem.tail)) hs2) hz2) rfl rfl rfl rfl rfl ?_; rintro v w ⟨hu, A6, c6, rfl, hn⟩; have hS := hS.new hu hn; clear hu hn; have hM := hM.new hS; refine ⟨hM.ss hS, ?_⟩)
            | (refine WD.pivStore hS rfl rfl rfl (by repeat (first | exact StB.here rfl | apply StB.there)) rfl rfl rfl rfl ?_; clear hS; intro w hS hM)
            | (refine WD.store hS rfl rfl rfl (by repeat (first | exact StB.here rfl | apply StB.there)) rfl More.none rfl rfl rfl rfl ?_; clear hS; intro w hS hM))
          | refine seqQ_n ?_
          | refine blkQ_n ?_)
        replace hS := hS.droplast2 (D := [innF ps fp, eC A5 c5 eh, eC A6 c6 es, .own (.slice A3 (k + 1) cap3) 64 7 (k + 1) (cps ps ++ encCp ⟨⟨ep, eh, es, em, et, ec, eg⟩, A5, c5, A6, c6⟩)]) (by repeat (first | exact Pulls.nil | (apply Pulls.cons; focus (repeat (first | exact Pull.here | apply Pull.there)))))
        rw [cps_snoc] at hS
        obtain ⟨fp2, hS2⟩ := St.cfPush (p := ⟨⟨ep, eh, es, em, et, ec, eg⟩, A5, c5, A6, c6⟩) hS
        exact rndQ_n (k + 1, ps ++ [⟨⟨ep, eh, es, em, et, ec, eg⟩, A5, c5, A6, c6⟩], A3, cap3, fp2) ⟨⟨by omega, hpm2 _ _ _ _, by rw [List.length_append, hpl]; rfl⟩, hS2.droplast2 (by repeat (first | exact Pulls.nil | (apply Pulls.cons; focus (repeat (first | exact Pull.here | apply Pull.there)))))⟩ (by show l.length - (k + 1) < l.length - k; omega) ⟨rfl, vint (by omega), trivial⟩ ⟨rfl, rfl, rfl, rfl, rfl, trivial⟩
      · have hke : k = l.length := by omega
        subst hke
        rw [List.take_length] at hpm
        obtain ⟨hgt, hst⟩ := hset ps hpm
        generalize ps[i]! = q at *
        clear hset hsi hlt hA hF hr
        obtain ⟨og, oo, rfl⟩ := hS.own_addr (A := AO) (n := l.length) (by repeat (first | exact List.Mem.head _ | apply List.Mem.tail)) (by omega)
        have hil2 : i < ps.length := by omega
        have hpc := cps_len ps
        have e1 := fun (x : Int) => (cps_set hgt x []).1
        have hq2 := fun (x : Int) => (show (ps.set i { q with c := { q.c with choice := x } })[i]? = some { q with c := { q.c with choice := x } } from by rw [List.getElem?_set_self hil2])
        have hpc2 := fun (x : Int) => cps_len (ps.set i { q with c := { q.c with choice := x } })
        simp only [List.length_set] at hpc2
        have e2 := fun (x : Int) (g : List UInt8) => (cps_set (hq2 x) 0 g).2
        simp only [List.set_set] at e2
        have hin := fun (x : Int) (g : List UInt8) => (show (ps.set i { q with c := { q.c with choice := x, given := g } }).flatMap inF = ps.flatMap inF from flat_same hgt rfl)
        repeat' (first
          | (show WL _ _ _ _ _ _ _; first
            | refine WL.pure rfl rfl rfl rfl ?_
            | refine WL.nil ?_
            | (refine WL.storeOwn (off := i * 7 + 5) hS rfl rfl rfl (by repeat (first | exact Repl.here | apply Repl.there)) (by rw [hpc]; show i * 7 + 5 + 1 ≤ _; omega) rfl rfl rfl rfl ?_; intro w hS; replace hS := hS; simp only [List.length_singleton] at hS; rw [e1] at hS)
            | (refine WL.storeOwn (off := i * 7 + 6) hS rfl rfl rfl (by repeat (first | exact Repl.here | apply Repl.there)) (by rw [hpc2]; show i * 7 + 6 + 1 ≤ _; omega) rfl rfl rfl rfl ?_; intro w hS; simp only [List.length_singleton] at hS; rw [e2] at hS)
            | refine WL.index rfl rfl rfl rfl (by first | with_reducible assumption | omega) rfl rfl rfl rfl ?_)
          | (show WC _ _ _ _ _ _; first
            | refine WC.seq ?_
            | refine WC.region ?_
            | refine WC.exit ?_
            | refine WC.ret ?_
            | refine WC.condF rfl (decide_eq_false (by first | with_reducible assumption | omega)) ?_)
          | refine seqQ_n ?_
          | refine seqQ_x ?_
          | refine blkQ_hit rfl ?_
          | refine rndQ_x ?_)
        rw [show innF ps fp = innF _ fp from congrArg (fun L => objC (fun D => D = L) fp) (hin _ _).symm] at hS
        exact fin2r rfl rfl rfl (.inr (.inr ⟨i, hix, hm, _, _, _, fp, rfl, hst _ _, hS.mutLp (by repeat (first | exact Pulls.nil | (apply Pulls.cons; focus (repeat (first | exact Pull.here | apply Pull.there)))))⟩))
end Go.Proofs.YtniacmoniaaolaaGreatDoor

/- What is proved: what settle of the package session makes of an outcome. Conditions: trees of bounded length. -/
set_option linter.unusedSimpArgs false
set_option linter.unusedVariables false
namespace Go.Proofs.YtniacmoniaaolaaGreatDoor
open Go Go.J Go.RowKit

theorem ReplIs.yes {l : List Ent} {k : IntKind} {v : Value} {w w' : World} (h : ReplIs (some l) k v w w') : ∃ A c, v = .tuple #[.slice A l.length c, .int k 0] ∧ New w w' (eC A c l) := by
  rcases h with ⟨l', e, h⟩ | ⟨e, _⟩
  · obtain rfl := Option.some.inj e
    exact h
  · cases e
theorem ReplIs.no {k : IntKind} {v : Value} {w w' : World} (h : ReplIs none k v w w') : ∃ e : Int, e ≠ 0 ∧ v = .tuple #[.slice none 0 0, .int k e] := by
  rcases h with ⟨l', e, h⟩ | ⟨_, h⟩
  · cases e
  · exact h
theorem _root_.Go.J.St.keepEnt {w0 w wz : World} {M : List Nat} {A : Option Addr} {c : Nat} {s : List Ent} {H : List Chunk} {Z : List Snap} {F : Nat → Prop} (hS : St w0 M w (eC A c s :: H) Z) (hz : Snap.mk wz F ∈ Z) : SlAt cEnt (fun k => k ∈ (eC A c s).fp ∨ F k) w A s ∧ St w0 M w H (⟨w, fun k => k ∈ (eC A c s).fp ∨ F k⟩ :: Z) :=
  ⟨SlAt.ofOwn (sz := 3) (enc := encEnt) (hsz := fun _ => rfl) (n := s.length) (cap := c) (n' := s.length) (e := 60) (by decide) (show RowAt w 60 3 (.slice A s.length c) s.length (s.flatMap encEnt) from hS.holds _ (List.Mem.head _)) (fun g hg => .inl (by simp [Chunk.fp, hg])), hS.keepRow hz⟩
theorem _root_.Go.J.St.dupZ {w0 w : World} {M : List Nat} {H : List Chunk} {z : Snap} {Z : List Snap} (hS : St w0 M w H (z :: Z)) : St w0 M w H (z :: z :: Z) := hS.less fun y hy => by
  rcases List.mem_cons.1 hy with rfl | hy
  · exact List.mem_cons_self ..
  · exact hy
variable {w0 : World}
section
variable {qb : Nat} {A0 A1 A2 A B : Option Addr} {c0 c1 c2 ca cb : Nat} {t0 t1 t2 : List Ent} {x y z : Value}
set_option maxHeartbeats 64000000 in
set_option maxRecDepth 100000 in
theorem settle_c (c : Cf) (hi : InL w0 [.box qb 67 [.slice A0 t0.length c0, .slice A1 t1.length c1, .slice A2 t2.length c2, x, y, z], eC A0 c0 t0, eC A1 c1 t1, eC A2 c2 t2]) (hA : SlAt cEnt (fun k => k < w0.heap.size ∧ k ∉ fps [.box qb 67 [.slice A0 t0.length c0, .slice A1 t1.length c1, .slice A2 t2.length c2, x, y, z], eC A0 c0 t0, eC A1 c1 t1, eC A2 c2 t2]) w0 A c.hub) (hB : SlAt cEnt (fun k => k < w0.heap.size ∧ k ∉ fps [.box qb 67 [.slice A0 t0.length c0, .slice A1 t1.length c1, .slice A2 t2.length c2, x, y, z], eC A0 c0 t0, eC A1 c1 t1, eC A2 c2 t2]) w0 B c.side) (hc : FitC c) (h0 : Fit t0) (h1 : Fit t1) (h2 : Fit t2) :
    Cal Tryz.prog 52 [.pointer (some ⟨qb, 0, none⟩), .agg ⟨encCp ⟨c, A, ca, B, cb⟩⟩] w0 (fun v w' => (settleE t0 t1 t2 c = none ∧ v = .bool false ∧ MutL w0 w' [.box qb 67 [.slice A0 t0.length c0, .slice A1 t1.length c1, .slice A2 t2.length c2, x, y, z], eC A0 c0 t0, eC A1 c1 t1, eC A2 c2 t2] [.box qb 67 [.slice A0 t0.length c0, .slice A1 t1.length c1, .slice A2 t2.length c2, x, y, z], eC A0 c0 t0, eC A1 c1 t1, eC A2 c2 t2]) ∨ ∃ a b' d, settleE t0 t1 t2 c = some (a, b', d) ∧ v = .bool true ∧
      ∃ B0 e0 B1 e1 B2 e2, MutL w0 w' [.box qb 67 [.slice A0 t0.length c0, .slice A1 t1.length c1, .slice A2 t2.length c2, x, y, z], eC A0 c0 t0, eC A1 c1 t1, eC A2 c2 t2] [.box qb 67 [.slice B0 a.length e0, .slice B1 b'.length e1, .slice B2 d.length e2, x, y, z], eC B0 e0 a, eC B1 e1 b', eC B2 e2 d]) := by
  refine Cal.mkL hi (by kernel_rfl) Tryz.func52 rfl rfl fun hS => ?_
  have hlt := hc.tgt
  have hse : settleE t0 t1 t2 c = if subE t0 c.path = c.hub ∧ subE t1 c.path = c.side then (match replE t0 c.path (tgtE c), replE t1 c.path (tgtE c), replE t2 c.path (tgtE c) with
    | some a, some b, some d => some (a, b, d)
    | _, _, _ => none) else none := rfl
  have htg : tgtE c = if c.choice = 2 then c.side else if c.choice = 3 then [⟨c.path, 2, c.merged⟩] else if c.choice = 4 then [⟨c.path, 2, c.given⟩] else c.hub := rfl
  obtain ⟨hp, hch, hcs⟩ := hc
  generalize hE : settleE t0 t1 t2 c = E at *
  generalize tgtE c = sub at *
  obtain ⟨p, hub, side, mg, tx, ch, gv⟩ := c
  dsimp only at *
  have hl0 := h0.len
  have hl1 := h1.len
  have hl2 := h2.len
  have hlh := hch.len
  have hlsd := hcs.len
  have hs0 := subE_len t0 p
  have hs1 := subE_len t1 p
  unfold encCp
  dsimp only
  by_cases hq0 : subE t0 p = hub
  rotate_left
  · have hd0 := decide_eq_false hq0
    have hE0 : E = none := by rw [hse, if_neg fun h => hq0 h.1]
    clear hse htg hq0 h0 h1 h2 hlt hch hcs
    repeat' (first
      | (show WL _ _ _ _ _ _ _; first
        | refine WL.pure rfl rfl rfl rfl ?_
        | refine WL.nil ?_
        | (refine WL.box hS rfl rfl rfl rfl rfl ?_; intro w b hS))
      | (show WC _ _ _ _ _ _; first
        | refine WC.seq ?_
        | refine WC.region ?_
        | refine WC.ret ?_
        | (show WC _ _ (Code.region _ (List.toArray [_, _, _, _, _, _, _, _, _, _, _, _, _, _, _, _, _, _, _, _, _, _, _, _, _, _]) true) _ _ _; refine WC.drawS hS [0,1,2,3,4,5,6,8,9,11,12,13,14,15,16,17,18,19,21,22,24,25] [0,1,2,3,4,5,6,8,9,7,10,11,12,13,14,15,16,17,18,19,21,22,20,23,24,25] (by kernel_rfl) (by kernel_rfl) ?_; clear hS; intro w hS hM)
        | refine WC.condT rfl (by with_reducible rfl) ?_)
      | (show WD _ _ _ _ _ _ _ _ _; first
        | refine WD.pure rfl rfl rfl rfl rfl ?_
        | refine WD.nil ?_
        | refine WD.load rfl rfl (LdOk.box (by repeat (first | exact List.Mem.head _ | apply List.Mem.tail)) rfl) rfl rfl rfl rfl ?_
        | (refine WD.callG rfl rfl (tsub_c t0 p (St.ownSl (sz := 3) (enc := encEnt) (hsz := fun _ => rfl) (l := t0) (by decide) hS (by repeat (first | exact List.Mem.head _ | apply List.Mem.tail))) (by omega) hp) rfl rfl rfl rfl rfl ?_; rintro v w ⟨hu, A5, c5, rfl, hn⟩; have hS := hS.new hu hn; clear hu hn; have hM := hM.new hS; refine ⟨hM.ss hS, ?_⟩)
        | (refine WD.calls hS hM rfl rfl (tsame_c (subE t0 p) hub (St.ownSl (sz := 3) (enc := encEnt) (hsz := fun _ => rfl) (l := subE t0 p) (by decide) hS (by repeat (first | exact List.Mem.head _ | apply List.Mem.tail))) (hS.slO (by repeat (first | exact List.Mem.head _ | apply List.Mem.tail)) hA) (by omega) (by omega)) rfl rfl rfl rfl rfl ?_; clear hS; rintro v w rfl hS; rw [hd0])
        | refine WD.indexArr rfl rfl rfl rfl (by decide) rfl rfl rfl rfl ?_
        | refine WD.pass rfl rfl rfl rfl ?_
        | refine WD.skip rfl rfl rfl rfl rfl (hM.ss hS) ?_)
      | refine seqQ_n ?_
      | refine seqQ_r ?_)
    exact fin1r rfl rfl (.inl ⟨hE0, rfl, hS.mutLp (by repeat (first | exact Pulls.nil | (apply Pulls.cons; focus (repeat (first | exact Pull.here | apply Pull.there)))))⟩)
  have hd0 := decide_eq_true hq0
  by_cases hq1 : subE t1 p = side
  rotate_left
  · have hd1 := decide_eq_false hq1
    have hE0 : E = none := by rw [hse, if_neg fun h => hq1 h.2]
    clear hse htg hq0 hq1 h0 h1 h2 hlt hch hcs
    repeat' (first
      | (show WL _ _ _ _ _ _ _; first
        | refine WL.pure rfl rfl rfl rfl ?_
        | refine WL.nil ?_
        | (refine WL.box hS rfl rfl rfl rfl rfl ?_; intro w b hS))
      | (show WC _ _ _ _ _ _; first
        | refine WC.seq ?_
        | refine WC.region ?_
        | refine WC.ret ?_
        | (show WC _ _ (Code.region _ (List.toArray [_, _, _, _, _, _, _, _, _, _, _, _, _, _, _, _, _, _, _, _, _, _, _, _, _, _]) true) _ _ _; refine WC.drawS hS [0,1,2,3,4,5,6,8,9,11,12,13,14,15,16,17,18,19,21,22,24,25] [0,1,2,3,4,5,6,8,9,7,10,11,12,13,14,15,16,17,18,19,21,22,20,23,24,25] (by kernel_rfl) (by kernel_rfl) ?_; clear hS; intro w hS hM)
        | refine WC.condT rfl (by decide) ?_)
      | (show WD _ _ _ _ _ _ _ _ _; first
        | refine WD.pure rfl rfl rfl rfl rfl ?_
        | refine WD.nil ?_
        | refine WD.load rfl rfl (LdOk.box (by repeat (first | exact List.Mem.head _ | apply List.Mem.tail)) rfl) rfl rfl rfl rfl ?_
        | (refine WD.callG rfl rfl (tsub_c t0 p (St.ownSl (sz := 3) (enc := encEnt) (hsz := fun _ => rfl) (l := t0) (by decide) hS (by repeat (first | exact List.Mem.head _ | apply List.Mem.tail))) (by omega) hp) rfl rfl rfl rfl rfl ?_; rintro v w ⟨hu, A5, c5, rfl, hn⟩; have hS := hS.new hu hn; clear hu hn; have hM := hM.new hS; refine ⟨hM.ss hS, ?_⟩)
        | (refine WD.calls hS hM rfl rfl (tsame_c (subE t0 p) hub (St.ownSl (sz := 3) (enc := encEnt) (hsz := fun _ => rfl) (l := subE t0 p) (by decide) hS (by repeat (first | exact List.Mem.head _ | apply List.Mem.tail))) (hS.slO (by repeat (first | exact List.Mem.head _ | apply List.Mem.tail)) hA) (by omega) (by omega)) rfl rfl rfl rfl rfl ?_; clear hS; rintro v w rfl hS; rw [hd0])
        | (refine WD.callG rfl rfl (tsub_c t1 p (St.ownSl (sz := 3) (enc := encEnt) (hsz := fun _ => rfl) (l := t1) (by decide) hS (by repeat (first | exact List.Mem.head _ | apply List.Mem.tail))) (by omega) hp) rfl rfl rfl rfl rfl ?_; rintro v w ⟨hu, A6, c6, rfl, hn⟩; have hS := hS.new hu hn; clear hu hn; have hM := hM.new hS; refine ⟨hM.ss hS, ?_⟩)
        | (refine WD.calls hS hM rfl rfl (tsame_c (subE t1 p) side (St.ownSl (sz := 3) (enc := encEnt) (hsz := fun _ => rfl) (l := subE t1 p) (by decide) hS (by repeat (first | exact List.Mem.head _ | apply List.Mem.tail))) (hS.slO (by repeat (first | exact List.Mem.head _ | apply List.Mem.tail)) hB) (by omega) (by omega)) rfl rfl rfl rfl rfl ?_; clear hS; rintro v w rfl hS; rw [hd1])
        | refine WD.indexArr rfl rfl rfl rfl (by decide) rfl rfl rfl rfl ?_)
      | refine seqQ_n ?_
      | refine seqQ_r ?_)
    exact fin1r rfl rfl (.inl ⟨hE0, rfl, hS.mutLp (by repeat (first | exact Pulls.nil | (apply Pulls.cons; focus (repeat (first | exact Pull.here | apply Pull.there)))))⟩)
  have hd1 := decide_eq_true hq1
  rw [if_pos ⟨hq0, hq1⟩] at hse
  clear hq0 hq1
  have hrp := fun (w : World) {AT AS : Option Addr} {cT cS : Nat} (t : List Ent) (ha : SlAt cEnt (Old w) w AT t) (hf : Fit t) (hb : SlAt cEnt (Old w) w AS sub) => treplace_c t p sub (ca := cT) (cb := cS) ha hb (by have := hf.len; omega) (by have := hlt.len; omega) (by have := hf.len; omega) hp hf.path hlt.path
  have hsl := hlt.len
  clear hlt
  repeat' (first
    | (show WL _ _ _ _ _ _ _; first
      | refine WL.pure rfl rfl rfl rfl ?_
      | refine WL.nil ?_
      | refine WL.load hS rfl rfl (LdOk.box (by repeat (first | exact List.Mem.head _ | apply List.Mem.tail)) rfl) rfl rfl rfl ?_
      | (refine WL.slit (t := 61) hS rfl rfl rfl rfl rfl ?_; intro w rb hS)
      | (refine WL.box hS rfl rfl rfl rfl rfl ?_; intro w b hS)
      | refine WL.build rfl rfl rfl rfl rfl ?_)
    | (show WC _ _ _ _ _ _; first
      | (show WC _ _ (Code.seq (Code.seq (Code.region 4 _ _) _) _) _ _ _; refine WC.cutS (σ := Option Addr × Nat × World × (Nat → Prop)) [0, 3] (fun (AS, cS, wz, Fz) => [(5, .slice AS sub.length cS)]) (fun (AS, cS, wz, Fz) w => SlAt cEnt Fz wz AS sub ∧ St w0 (fps [.box qb 67 [.slice A0 t0.length c0, .slice A1 t1.length c1, .slice A2 t2.length c2, x, y, z], eC A0 c0 t0, eC A1 c1 t1, eC A2 c2 t2]) w [.box b 64 [str p, .slice A hub.length ca, .slice B side.length cb, str mg, .bool tx, .int .i64 ch, str gv], .box qb 67 [.slice A0 t0.length c0, .slice A1 t1.length c1, .slice A2 t2.length c2, x, y, z], eC A0 c0 t0, eC A1 c1 t1, eC A2 c2 t2] (⟨wz, Fz⟩ :: ZL w0 [.box qb 67 [.slice A0 t0.length c0, .slice A1 t1.length c1, .slice A2 t2.length c2, x, y, z], eC A0 c0 t0, eC A1 c1 t1, eC A2 c2 t2])) ?_ ?_)
      | refine WC.seq ?_
      | refine WC.region ?_
      | refine WC.block ?_
      | refine WC.skip ?_
      | (show WC _ _ (Code.region _ (List.toArray [_, _, _, _, _, _, _, _, _, _, _, _, _, _, _, _, _, _, _, _, _, _, _, _, _, _]) true) _ _ _; refine WC.drawS hS [0,1,2,3,4,5,6,8,9,11,12,13,14,15,16,17,18,19,21,22,24,25] [0,1,2,3,4,5,6,8,9,7,10,11,12,13,14,15,16,17,18,19,21,22,20,23,24,25] (by kernel_rfl) (by kernel_rfl) ?_; clear hS; intro w hS hM)
      | refine WC.condF rfl (by decide) ?_
      | (refine WC.cond rfl (fun h => ?_) (fun h => ?_) <;> (try simp only [Classical.not_not, Bool.not_eq_true', Bool.not_eq_false', Bool.not_eq_eq_eq_not, Bool.not_true, Bool.not_false, beq_iff_eq, beq_eq_false_iff_ne, ne_eq, decide_eq_decide, decide_eq_true_eq, decide_eq_false_iff_not, Bool.and_eq_true, Bool.or_eq_true, Bool.and_eq_false_iff, Bool.or_eq_false_iff] at h) <;> (try (exfalso; first | omega | contradiction))))
    | (show WD _ _ _ _ _ _ _ _ _; first
      | refine WD.pure rfl rfl rfl rfl rfl ?_
      | refine WD.nil ?_
      | refine WD.load rfl rfl (LdOk.box (by repeat (first | exact List.Mem.head _ | apply List.Mem.tail)) rfl) rfl rfl rfl rfl ?_
      | (refine WD.callG rfl rfl (tsub_c t0 p (St.ownSl (sz := 3) (enc := encEnt) (hsz := fun _ => rfl) (l := t0) (by decide) hS (by repeat (first | exact List.Mem.head _ | apply List.Mem.tail))) (by omega) hp) rfl rfl rfl rfl rfl ?_; rintro v w ⟨hu, A5, c5, rfl, hn⟩; have hS := hS.new hu hn; clear hu hn; have hM := hM.new hS; refine ⟨hM.ss hS, ?_⟩)
      | (refine WD.calls hS hM rfl rfl (tsame_c (subE t0 p) hub (St.ownSl (sz := 3) (enc := encEnt) (hsz := fun _ => rfl) (l := subE t0 p) (by decide) hS (by repeat (first | exact List.Mem.head _ | apply List.Mem.tail))) (hS.slO (by repeat (first | exact List.Mem.head _ | apply List.Mem.tail)) hA) (by omega) (by omega)) rfl rfl rfl rfl rfl ?_; clear hS; rintro v w rfl hS; rw [hd0])
      | (refine WD.callG rfl rfl (tsub_c t1 p (St.ownSl (sz := 3) (enc := encEnt) (hsz := fun _ => rfl) (l := t1) (by decide) hS (by repeat (first | exact List.Mem.head _ | apply List.Mem.tail))) (by omega) hp) rfl rfl rfl rfl rfl ?_; rintro v w ⟨hu, A6, c6, rfl, hn⟩; have hS := hS.new hu hn; clear hu hn; have hM := hM.new hS; refine ⟨hM.ss hS, ?_⟩)
      | (refine WD.calls hS hM rfl rfl (tsame_c (subE t1 p) side (St.ownSl (sz := 3) (enc := encEnt) (hsz := fun _ => rfl) (l := subE t1 p) (by decide) hS (by repeat (first | exact List.Mem.head _ | apply List.Mem.tail))) (hS.slO (by repeat (first | exact List.Mem.head _ | apply List.Mem.tail)) hB) (by omega) (by omega)) rfl rfl rfl rfl rfl ?_; clear hS; rintro v w rfl hS; rw [hd1])
      | refine WD.indexArr rfl rfl rfl rfl (by decide) rfl rfl rfl rfl ?_)
    | refine seqQ_n ?_
    | refine blkQ_n ?_)
  · rw [if_pos h] at htg
    subst htg
    exact endQ_n (B, cb, w0, _) ⟨hB, (hS.droplast2 (by repeat (first | exact Pulls.nil | (apply Pulls.cons; focus (repeat (first | exact Pull.here | apply Pull.there)))))).dupZ⟩ ⟨rfl, trivial⟩ ⟨rfl, rfl, trivial⟩
  · rw [if_neg (by omega), if_pos h] at htg
    subst htg
    have hS := hS.boxRow (n := 1) (size := 3) .here rfl (by decide)
    obtain ⟨hk1, hk2⟩ := St.keepEnt (A := some ⟨rb, 0, none⟩) (c := 1) (s := [⟨p, 2, mg⟩]) hS (List.Mem.head _)
    exact endQ_n (some ⟨rb, 0, none⟩, 1, _, _) ⟨hk1, hk2.droplast2 (by repeat (first | exact Pulls.nil | (apply Pulls.cons; focus (repeat (first | exact Pull.here | apply Pull.there)))))⟩ ⟨rfl, trivial⟩ ⟨rfl, rfl, trivial⟩
  · rw [if_neg (by omega), if_neg (by omega), if_pos h] at htg
    subst htg
    have hS := hS.boxRow (n := 1) (size := 3) .here rfl (by decide)
    obtain ⟨hk1, hk2⟩ := St.keepEnt (A := some ⟨rb, 0, none⟩) (c := 1) (s := [⟨p, 2, gv⟩]) hS (List.Mem.head _)
    exact endQ_n (some ⟨rb, 0, none⟩, 1, _, _) ⟨hk1, hk2.droplast2 (by repeat (first | exact Pulls.nil | (apply Pulls.cons; focus (repeat (first | exact Pull.here | apply Pull.there)))))⟩ ⟨rfl, trivial⟩ ⟨rfl, rfl, trivial⟩
  · rw [if_neg (by assumption), if_neg (by assumption), if_neg (by assumption)] at htg
    subst htg
    exact endQ_n (A, ca, w0, _) ⟨hA, (hS.droplast2 (by repeat (first | exact Pulls.nil | (apply Pulls.cons; focus (repeat (first | exact Pull.here | apply Pull.there)))))).dupZ⟩ ⟨rfl, trivial⟩ ⟨rfl, rfl, trivial⟩
  repeat (clear hS)
  rintro ⟨AS, cS, wz, Fz⟩ g w ⟨hsb, hS⟩
  show WC _ _ _ (lf _ [(5, .slice AS sub.length cS)] _ _) _ _
  clear htg hA hB hch hcs hd0 hd1
  cases hr0 : replE t0 p sub with
  | none =>
    have hE0 : E = none := by rw [hse, hr0]
    clear hse
    repeat' (first
      | (show WL _ _ _ _ _ _ _; first
        | refine WL.pure rfl rfl rfl rfl ?_
        | refine WL.nil ?_
        | refine WL.load hS rfl rfl (LdOk.box (by repeat (first | exact List.Mem.head _ | apply List.Mem.tail)) rfl) rfl rfl rfl ?_
        | (refine WL.idxA (j := 0) rfl rfl rfl rfl (by decide) rfl rfl rfl rfl ?_)
        | (refine WL.callG rfl rfl (hrp _ t0 (St.ownSl (sz := 3) (enc := encEnt) (hsz := fun _ => rfl) (l := t0) (by decide) hS (by repeat (first | exact List.Mem.head _ | apply List.Mem.tail))) h0 (hS.slO (by repeat (first | exact List.Mem.head _ | apply List.Mem.tail)) hsb)) rfl rfl rfl ?_; rintro v w ⟨hu, hres⟩; rw [hr0] at hres; first | (obtain ⟨B0, e0, rfl, hn⟩ := hres.yes; replace hS := hS.new hu hn; clear hu hn hres) | (obtain ⟨ee, hee, rfl⟩ := hres.no; replace hS := hS.upd0 hu; clear hu hres))
        | (refine WL.store hS rfl rfl rfl (by repeat (first | exact StB.here rfl | apply StB.there)) rfl rfl rfl ?_; intro w hS)
        | (refine WL.alloc hS rfl rfl rfl rfl rfl rfl ?_; intro w b hS)
        | refine WL.build rfl rfl rfl rfl rfl ?_)
      | (show WC _ _ _ _ _ _; first
        | refine WC.seq ?_
        | refine WC.region ?_
        | refine WC.block ?_
        | refine WC.skip ?_
        | refine WC.ret ?_
        | refine WC.rounds 4 ?_
        | refine WC.condT rfl (by first | (simp [hee]; done) | fail) ?_
        | refine WC.condT rfl (by decide) ?_)
      | refine seqQ_n ?_
      | refine seqQ_r ?_
      | refine blkQ_r ?_
      | refine rdQ_r ?_)
    exact fin1r rfl rfl (.inl ⟨hE0, rfl, hS.mutLp (by repeat (first | exact Pulls.nil | (apply Pulls.cons; focus (repeat (first | exact Pull.here | apply Pull.there)))))⟩)
  | some a =>
  cases hr1 : replE t1 p sub with
  | none =>
    have hE0 : E = none := by rw [hse, hr0, hr1]
    clear hse
    repeat' (first
      | (show WL _ _ _ _ _ _ _; first
        | refine WL.pure rfl rfl rfl rfl ?_
        | refine WL.nil ?_
        | refine WL.load hS rfl rfl (LdOk.box (by repeat (first | exact List.Mem.head _ | apply List.Mem.tail)) rfl) rfl rfl rfl ?_
        | refine WL.add rfl rfl rfl (by omega) rfl rfl rfl ?_
        | (refine WL.idxA (j := 0) rfl rfl rfl rfl (by decide) rfl rfl rfl rfl ?_)
        | (refine WL.idxA (j := 1) rfl rfl rfl rfl (by decide) rfl rfl rfl rfl ?_)
        | (refine WL.indexArr (j := 0) rfl rfl rfl rfl (by decide) rfl rfl rfl ?_)
        | (refine WL.callG rfl rfl (hrp _ t0 (St.ownSl (sz := 3) (enc := encEnt) (hsz := fun _ => rfl) (l := t0) (by decide) hS (by repeat (first | exact List.Mem.head _ | apply List.Mem.tail))) h0 (hS.slO (by repeat (first | exact List.Mem.head _ | apply List.Mem.tail)) hsb)) rfl rfl rfl ?_; rintro v w ⟨hu, hres⟩; rw [hr0] at hres; first | (obtain ⟨B0, e0, rfl, hn⟩ := hres.yes; replace hS := hS.new hu hn; clear hu hn hres) | (obtain ⟨ee, hee, rfl⟩ := hres.no; replace hS := hS.upd0 hu; clear hu hres))
        | (refine WL.callG rfl rfl (hrp _ t1 (St.ownSl (sz := 3) (enc := encEnt) (hsz := fun _ => rfl) (l := t1) (by decide) hS (by repeat (first | exact List.Mem.head _ | apply List.Mem.tail))) h1 (hS.slO (by repeat (first | exact List.Mem.head _ | apply List.Mem.tail)) hsb)) rfl rfl rfl ?_; rintro v w ⟨hu, hres⟩; rw [hr1] at hres; first | (obtain ⟨B1, e1, rfl, hn⟩ := hres.yes; replace hS := hS.new hu hn; clear hu hn hres) | (obtain ⟨ee, hee, rfl⟩ := hres.no; replace hS := hS.upd0 hu; clear hu hres))
        | (refine WL.store hS rfl rfl rfl (by repeat (first | exact StB.here rfl | apply StB.there)) rfl rfl rfl ?_; intro w hS)
        | (refine WL.alloc hS rfl rfl rfl rfl rfl rfl ?_; intro w b hS)
        | refine WL.build rfl rfl rfl rfl rfl ?_)
      | (show WC _ _ _ _ _ _; first
        | refine WC.seq ?_
        | refine WC.region ?_
        | refine WC.block ?_
        | refine WC.skip ?_
        | refine WC.ret ?_
        | refine WC.rounds 4 ?_
        | refine WC.condT rfl (by first | (simp [hee]; done) | fail) ?_
        | refine WC.condT rfl (by decide) ?_
        | refine WC.condF rfl (by decide) ?_)
      | refine seqQ_n ?_
      | refine blkQ_n ?_
      | refine seqQ_r ?_
      | refine blkQ_r ?_
      | refine rdQ_n ?_
      | refine rdQ_r ?_)
    --J
    exact fin1r rfl rfl (.inl ⟨hE0, rfl, hS.mutLp (by repeat (first | exact Pulls.nil | (apply Pulls.cons; focus (repeat (first | exact Pull.here | apply Pull.there)))))⟩)
  | some b' =>
  cases hr2 : replE t2 p sub with
  | none =>
    have hE0 : E = none := by rw [hse, hr0, hr1, hr2]
    clear hse
    repeat' (first
      | (show WL _ _ _ _ _ _ _; first
        | refine WL.pure rfl rfl rfl rfl ?_
        | refine WL.nil ?_
        | refine WL.load hS rfl rfl (LdOk.box (by repeat (first | exact List.Mem.head _ | apply List.Mem.tail)) rfl) rfl rfl rfl ?_
        | refine WL.add rfl rfl rfl (by omega) rfl rfl rfl ?_
        | (refine WL.idxA (j := 0) rfl rfl rfl rfl (by decide) rfl rfl rfl rfl ?_)
        | (refine WL.idxA (j := 1) rfl rfl rfl rfl (by decide) rfl rfl rfl rfl ?_)
        | (refine WL.idxA (j := 2) rfl rfl rfl rfl (by decide) rfl rfl rfl rfl ?_)
        | (refine WL.indexArr (j := 0) rfl rfl rfl rfl (by decide) rfl rfl rfl ?_)
        | (refine WL.indexArr (j := 1) rfl rfl rfl rfl (by decide) rfl rfl rfl ?_)
        | (refine WL.callG rfl rfl (hrp _ t0 (St.ownSl (sz := 3) (enc := encEnt) (hsz := fun _ => rfl) (l := t0) (by decide) hS (by repeat (first | exact List.Mem.head _ | apply List.Mem.tail))) h0 (hS.slO (by repeat (first | exact List.Mem.head _ | apply List.Mem.tail)) hsb)) rfl rfl rfl ?_; rintro v w ⟨hu, hres⟩; rw [hr0] at hres; first | (obtain ⟨B0, e0, rfl, hn⟩ := hres.yes; replace hS := hS.new hu hn; clear hu hn hres) | (obtain ⟨ee, hee, rfl⟩ := hres.no; replace hS := hS.upd0 hu; clear hu hres))
        | (refine WL.callG rfl rfl (hrp _ t1 (St.ownSl (sz := 3) (enc := encEnt) (hsz := fun _ => rfl) (l := t1) (by decide) hS (by repeat (first | exact List.Mem.head _ | apply List.Mem.tail))) h1 (hS.slO (by repeat (first | exact List.Mem.head _ | apply List.Mem.tail)) hsb)) rfl rfl rfl ?_; rintro v w ⟨hu, hres⟩; rw [hr1] at hres; first | (obtain ⟨B1, e1, rfl, hn⟩ := hres.yes; replace hS := hS.new hu hn; clear hu hn hres) | (obtain ⟨ee, hee, rfl⟩ := hres.no; replace hS := hS.upd0 hu; clear hu hres))
        | (refine WL.callG rfl rfl (hrp _ t2 (St.ownSl (sz := 3) (enc := encEnt) (hsz := fun _ => rfl) (l := t2) (by decide) hS (by repeat (first | exact List.Mem.head _ | apply List.Mem.tail))) h2 (hS.slO (by repeat (first | exact List.Mem.head _ | apply List.Mem.tail)) hsb)) rfl rfl rfl ?_; rintro v w ⟨hu, hres⟩; rw [hr2] at hres; first | (obtain ⟨B2, e2, rfl, hn⟩ := hres.yes; replace hS := hS.new hu hn; clear hu hn hres) | (obtain ⟨ee, hee, rfl⟩ := hres.no; replace hS := hS.upd0 hu; clear hu hres))
        | (refine WL.store hS rfl rfl rfl (by repeat (first | exact StB.here rfl | apply StB.there)) rfl rfl rfl ?_; intro w hS)
        | (refine WL.alloc hS rfl rfl rfl rfl rfl rfl ?_; intro w b hS)
        | refine WL.build rfl rfl rfl rfl rfl ?_)
      | (show WC _ _ _ _ _ _; first
        | refine WC.seq ?_
        | refine WC.region ?_
        | refine WC.block ?_
        | refine WC.skip ?_
        | refine WC.ret ?_
        | refine WC.rounds 4 ?_
        | refine WC.condT rfl (by first | (simp [hee]; done) | fail) ?_
        | refine WC.condT rfl (by decide) ?_
        | refine WC.condF rfl (by decide) ?_)
      | refine seqQ_n ?_
      | refine blkQ_n ?_
      | refine seqQ_r ?_
      | refine blkQ_r ?_
      | refine rdQ_n ?_
      | refine rdQ_r ?_)
    exact fin1r rfl rfl (.inl ⟨hE0, rfl, hS.mutLp (by repeat (first | exact Pulls.nil | (apply Pulls.cons; focus (repeat (first | exact Pull.here | apply Pull.there)))))⟩)
  | some d =>
    have hE0 : E = some (a, b', d) := by rw [hse, hr0, hr1, hr2]
    clear hse
    repeat' (first
      | (show WL _ _ _ _ _ _ _; first
        | refine WL.pure rfl rfl rfl rfl ?_
        | refine WL.nil ?_
        | refine WL.load hS rfl rfl (LdOk.box (by repeat (first | exact List.Mem.head _ | apply List.Mem.tail)) rfl) rfl rfl rfl ?_
        | refine WL.add rfl rfl rfl (by omega) rfl rfl rfl ?_
        | (refine WL.idxA (j := 0) rfl rfl rfl rfl (by decide) rfl rfl rfl rfl ?_)
        | (refine WL.idxA (j := 1) rfl rfl rfl rfl (by decide) rfl rfl rfl rfl ?_)
        | (refine WL.idxA (j := 2) rfl rfl rfl rfl (by decide) rfl rfl rfl rfl ?_)
        | (refine WL.indexArr (j := 0) rfl rfl rfl rfl (by decide) rfl rfl rfl ?_)
        | (refine WL.indexArr (j := 1) rfl rfl rfl rfl (by decide) rfl rfl rfl ?_)
        | (refine WL.indexArr (j := 2) rfl rfl rfl rfl (by decide) rfl rfl rfl ?_)
        | (refine WL.callG rfl rfl (hrp _ t0 (St.ownSl (sz := 3) (enc := encEnt) (hsz := fun _ => rfl) (l := t0) (by decide) hS (by repeat (first | exact List.Mem.head _ | apply List.Mem.tail))) h0 (hS.slO (by repeat (first | exact List.Mem.head _ | apply List.Mem.tail)) hsb)) rfl rfl rfl ?_; rintro v w ⟨hu, hres⟩; rw [hr0] at hres; first | (obtain ⟨B0, e0, rfl, hn⟩ := hres.yes; replace hS := hS.new hu hn; clear hu hn hres) | (obtain ⟨ee, hee, rfl⟩ := hres.no; replace hS := hS.upd0 hu; clear hu hres))
        | (refine WL.callG rfl rfl (hrp _ t1 (St.ownSl (sz := 3) (enc := encEnt) (hsz := fun _ => rfl) (l := t1) (by decide) hS (by repeat (first | exact List.Mem.head _ | apply List.Mem.tail))) h1 (hS.slO (by repeat (first | exact List.Mem.head _ | apply List.Mem.tail)) hsb)) rfl rfl rfl ?_; rintro v w ⟨hu, hres⟩; rw [hr1] at hres; first | (obtain ⟨B1, e1, rfl, hn⟩ := hres.yes; replace hS := hS.new hu hn; clear hu hn hres) | (obtain ⟨ee, hee, rfl⟩ := hres.no; replace hS := hS.upd0 hu; clear hu hres))
        | (refine WL.callG rfl rfl (hrp _ t2 (St.ownSl (sz := 3) (enc := encEnt) (hsz := fun _ => rfl) (l := t2) (by decide) hS (by repeat (first | exact List.Mem.head _ | apply List.Mem.tail))) h2 (hS.slO (by repeat (first | exact List.Mem.head _ | apply List.Mem.tail)) hsb)) rfl rfl rfl ?_; rintro v w ⟨hu, hres⟩; rw [hr2] at hres; first | (obtain ⟨B2, e2, rfl, hn⟩ := hres.yes; replace hS := hS.new hu hn; clear hu hn hres) | (obtain ⟨ee, hee, rfl⟩ := hres.no; replace hS := hS.upd0 hu; clear hu hres))
        | (refine WL.store hS rfl rfl rfl (by repeat (first | exact StB.here rfl | apply StB.there)) rfl rfl rfl ?_; intro w hS)
        | (refine WL.alloc hS rfl rfl rfl rfl rfl rfl ?_; intro w b hS)
        | refine WL.build rfl rfl rfl rfl rfl ?_)
      | (show WC _ _ _ _ _ _; first
        | refine WC.seq ?_
        | refine WC.region ?_
        | refine WC.block ?_
        | refine WC.skip ?_
        | refine WC.exit ?_
        | refine WC.ret ?_
        | refine WC.rounds 4 ?_
        | refine WC.condT rfl (by decide) ?_
        | refine WC.condF rfl (by decide) ?_)
      | refine seqQ_n ?_
      | refine blkQ_n ?_
      | refine seqQ_x ?_
      | refine blkQ_hit rfl ?_
      | refine rdQ_n ?_
      | refine rdQ_x ?_)
    --J
    exact fin1r rfl rfl (.inr ⟨a, b', d, hE0, rfl, B0, e0, B1, e1, B2, e2, hS.mutLp (by repeat (first | exact Pulls.nil | (apply Pulls.cons; focus (repeat (first | exact Pull.here | apply Pull.there)))))⟩)
end
end Go.Proofs.YtniacmoniaaolaaGreatDoor

/- What is proved: what Resolve of the package session answers: an outcome in memory of its own. Conditions: conflicts and trees of bounded length. -/
set_option linter.unusedSimpArgs false
set_option linter.unusedVariables false
namespace Go.Proofs.YtniacmoniaaolaaGreatDoor
open Go Go.J Go.RowKit

abbrev sC (A : Option Addr) (c : Nat) (l : List (List UInt8)) : Chunk := .own (.slice A l.length c) 9 1 l.length (strs l)
abbrev cC (A : Option Addr) (c : Nat) (ps : List Cp) (n : Nat) : Chunk := .own (.slice A n c) 64 7 n (cps ps)
theorem sC_snoc {A : Option Addr} {c : Nat} {l : List (List UInt8)} {x : List UInt8} : Chunk.own (.slice A (l.length + 1) c) 9 1 (l.length + 1) (strs l ++ [str x]) = sC A c (l ++ [x]) := by
  unfold sC
  rw [strs_snoc, List.length_append]
  rfl
theorem cC_snoc {A : Option Addr} {c : Nat} {ps : List Cp} {p : Cp} {rest : List Cf} {x : Cf} : Chunk.own (.slice A (rest.length + 1) c) 64 7 (rest.length + 1) (cps ps ++ encCp p) = cC A c (ps ++ [p]) (rest ++ [x]).length := by
  unfold cC
  rw [cps_snoc, List.length_append]
  rfl
theorem setNo {P Q : Prop} {R : List Ent → List Ent → List Ent → Prop} (h : ((none : Option (List Ent × List Ent × List Ent)) = none ∧ P ∧ Q) ∨ ∃ a b d, none = some (a, b, d) ∧ R a b d) : P ∧ Q := by
  rcases h with ⟨_, h⟩ | ⟨_, _, _, h, _⟩
  · exact h
  · cases h
theorem setYes {a b d : List Ent} {P : Prop} {R : List Ent → List Ent → List Ent → Prop} (h : (some (a, b, d) = none ∧ P) ∨ ∃ a' b' d', some (a, b, d) = some (a', b', d') ∧ R a' b' d') : R a b d := by
  rcases h with ⟨h, _⟩ | ⟨a', b', d', h, h2⟩
  · cases h
  · simp only [Option.some.injEq, Prod.mk.injEq] at h
    obtain ⟨rfl, rfl, rfl⟩ := h
    exact h2
variable {w0 : World}
set_option maxHeartbeats 64000000 in
set_option maxRecDepth 100000 in
theorem resolve_c (l : List Cf) (t0 t1 t2 : List Ent) {A A0 A1 A2 : Option Addr} {cap c0 c1 c2 : Nat} (hA : SlAt cCf (Old w0) w0 A l) (hl : l.length ≤ 1048576) (hc : ∀ c ∈ l, FitC c) (hT0 : SlAt cEnt (Old w0) w0 A0 t0) (hT1 : SlAt cEnt (Old w0) w0 A1 t1) (hT2 : SlAt cEnt (Old w0) w0 A2 t2) (hf0 : Fit t0) (hf1 : Fit t1) (hf2 : Fit t2)
    {u0 u1 u2 : List Ent} {rest : List Cf} {done stale : List (List UInt8)} (hR : resolveE l t0 t1 t2 = ⟨u0, u1, u2, rest, done, stale⟩) :
    Cal Tryz.prog 21 [.slice A l.length cap, .agg ⟨[.slice A0 t0.length c0, .slice A1 t1.length c1, .slice A2 t2.length c2]⟩] w0 (fun v w' => ∃ B0 e0 B1 e1 B2 e2 AR cr AD cd AS cs ps fp, v = .agg ⟨[.slice B0 u0.length e0, .slice B1 u1.length e1, .slice B2 u2.length e2, .slice AR rest.length cr, .slice AD done.length cd, .slice AS stale.length cs]⟩ ∧
      ps.map Cp.c = rest ∧ MutL w0 w' [] [eC B0 e0 u0, eC B1 e1 u1, eC B2 e2 u2, cC AR cr ps rest.length, innF ps fp, sC AD cd done, sC AS cs stale]) := by
  refine Cal.mkL (D := []) (InL.none _) (by kernel_rfl) Tryz.func21 rfl rfl fun hS => ?_
  have hmo : ∀ k, Old w0 k → k < w0.heap.size ∧ k ∉ fps [] := fun k h => ⟨h, fun h => (by cases h)⟩
  replace hA := hA.mono hmo
  replace hT0 := hT0.mono hmo
  replace hT1 := hT1.mono hmo
  replace hT2 := hT2.mono hmo
  clear hmo
  have hfit := resolve_fit hf0 hf1 hf2 hc
  have hg0 := hf0.len
  have hg1 := hf1.len
  have hg2 := hf2.len
  have hm1 : True := trivial
  repeat' (first
    | (show WL _ _ _ _ _ _ _; first
      | refine WL.pure rfl rfl rfl rfl ?_
      | refine WL.nil ?_
      | refine WL.load hS rfl rfl (LdOk.box (by repeat (first | exact List.Mem.head _ | apply List.Mem.tail)) rfl) rfl rfl rfl ?_
      | refine WL.add rfl rfl rfl (by omega) rfl rfl rfl ?_
      | (clear hm1; refine WL.alloc (t := 67) hS rfl rfl rfl rfl rfl rfl ?_; intro w zb hS)
      | (refine WL.alloc (t := 67) hS rfl rfl rfl rfl rfl rfl ?_; intro w qb hS)
      | (refine WL.idxA (j := 0) rfl rfl rfl rfl (by decide) rfl rfl rfl rfl ?_)
      | (refine WL.idxA (j := 1) rfl rfl rfl rfl (by decide) rfl rfl rfl rfl ?_)
      | (refine WL.idxA (j := 2) rfl rfl rfl rfl (by decide) rfl rfl rfl rfl ?_)
      | (refine WL.indexArr (j := 0) rfl rfl rfl rfl (by decide) rfl rfl rfl ?_)
      | (refine WL.indexArr (j := 1) rfl rfl rfl rfl (by decide) rfl rfl rfl ?_)
      | (refine WL.indexArr (j := 2) rfl rfl rfl rfl (by decide) rfl rfl rfl ?_)
      | (refine WL.callG rfl rfl (clone_c t0 (hS.slO (by repeat (first | exact List.Mem.head _ | apply List.Mem.tail)) hT0) (by omega)) rfl rfl rfl ?_; rintro v w ⟨hu, B0, e0, rfl, hn⟩; replace hS := hS.new hu hn; clear hu hn)
      | (refine WL.callG rfl rfl (clone_c t1 (hS.slO (by repeat (first | exact List.Mem.head _ | apply List.Mem.tail)) hT1) (by omega)) rfl rfl rfl ?_; rintro v w ⟨hu, B1, e1, rfl, hn⟩; replace hS := hS.new hu hn; clear hu hn)
      | (refine WL.callG rfl rfl (clone_c t2 (hS.slO (by repeat (first | exact List.Mem.head _ | apply List.Mem.tail)) hT2) (by omega)) rfl rfl rfl ?_; rintro v w ⟨hu, B2, e2, rfl, hn⟩; replace hS := hS.new hu hn; clear hu hn)
      | (refine WL.store hS rfl rfl rfl (by repeat (first | exact StB.here rfl | apply StB.there)) rfl rfl rfl ?_; intro w hS)
      | (refine WL.box hS rfl rfl rfl rfl rfl ?_; intro w b hS)
      | refine WL.build rfl rfl rfl rfl rfl ?_)
    | (show WC _ _ _ _ _ _; first
      | refine WC.seq ?_
      | refine WC.region ?_
      | refine WC.block ?_
      | refine WC.skip ?_
      | refine WC.exit ?_
      | (show WC _ _ (Code.loop (Code.seq (Code.region 3 _ _) _)) _ _ _; refine WC.rounds 4 ?_)
      | refine WC.condT rfl (by decide) ?_
      | refine WC.condF rfl (by decide) ?_)
    | refine seqQ_n ?_
    | refine blkQ_n ?_
    | refine seqQ_x ?_
    | refine blkQ_hit rfl ?_
    | refine rdQ_n ?_
    | refine rdQ_x ?_)
  replace hS := ((((hS.cfNil).nilRow 64 7).nilRow 9 1).nilRow 9 1)
  clear hT0 hT1 hT2 hg0 hg1 hg2 hf0 hf1 hf2
  refine WC.loop (σ := Nat) [4, 5, 22, 23] (fun k => [(24, .int .i64 (k : Int))])
    (fun k w => ∃ v0 v1 v2 rst dn stl B0 e0 B1 e1 B2 e2 AR cr AD cd AS cs ps fp, (k ≤ l.length ∧ resolveE (l.take k) t0 t1 t2 = ⟨v0, v1, v2, rst, dn, stl⟩ ∧ ps.map Cp.c = rst) ∧ St w0 (fps []) w [.box zb 67 [.slice none 0 0, .slice none 0 0, .slice none 0 0, .slice none 0 0, .slice none 0 0, .slice none 0 0], .box qb 67 [.slice B0 v0.length e0, .slice B1 v1.length e1, .slice B2 v2.length e2, .slice AR rst.length cr, .slice AD dn.length cd, .slice AS stl.length cs], eC B0 e0 v0, eC B1 e1 v1, eC B2 e2 v2, cC AR cr ps rst.length, innF ps fp, sC AD cd dn, sC AS cs stl] (ZL w0 [])) (fun k => l.length - k) 0
    ⟨t0, t1, t2, [], [], [], B0, e0, B1, e1, B2, e2, none, 0, none, 0, none, 0, [], [], ⟨Nat.zero_le _, rfl, rfl⟩, hS.droplast2 (by repeat (first | exact Pulls.nil | (apply Pulls.cons; focus (repeat (first | exact Pull.here | apply Pull.there)))))⟩ ⟨rfl, trivial⟩ ?_
  clear hS
  rintro k g w ⟨v0, v1, v2, rst, dn, stl, B0, e0, B1, e1, B2, e2, AR, cr, AD, cd, AS, cs, ps, fp, ⟨hk, hre, hps⟩, hS⟩
  show WC _ _ _ (lf _ [(24, .int .i64 (k : Int))] _ _) _ _
  have hfo := hfit k hk
  rw [hre] at hfo
  obtain ⟨hf0, hf1, hf2, hrl, hdl, hsl⟩ := hfo
  dsimp only at hf0 hf1 hf2 hrl hdl hsl
  by_cases hlt : k < l.length
  rotate_left
  · have hke : k = l.length := by omega
    rw [hke, List.take_length, hR] at hre
    simp only [Oc.mk.injEq] at hre
    obtain ⟨rfl, rfl, rfl, rfl, rfl, rfl⟩ := hre
    clear hfit hc hA
    repeat' (first
      | (show WL _ _ _ _ _ _ _; first
        | refine WL.pure rfl rfl rfl rfl ?_
        | refine WL.nil ?_
        | refine WL.load hS rfl rfl (LdOk.box (by repeat (first | exact List.Mem.head _ | apply List.Mem.tail)) rfl) rfl rfl rfl ?_
        | (refine WL.store hS rfl rfl rfl (by repeat (first | exact StB.here rfl | apply StB.there)) rfl rfl rfl ?_; intro w hS))
      | (show WC _ _ _ _ _ _; first
        | refine WC.seq ?_
        | refine WC.region ?_
        | refine WC.exit ?_
        | refine WC.ret ?_
        | refine WC.condF rfl (decide_eq_false (by first | with_reducible assumption | omega)) ?_)
      | refine seqQ_n ?_
      | refine seqQ_x ?_
      | refine blkQ_hit rfl ?_
      | refine rndQ_x ?_)
    exact finC1r hS rfl rfl (LdOk.box (by repeat (first | exact List.Mem.head _ | apply List.Mem.tail)) rfl) ⟨B0, e0, B1, e1, B2, e2, AR, cr, AD, cd, AS, cs, ps, fp, rfl, hps, hS.mutLp (by repeat (first | exact Pulls.nil | (apply Pulls.cons; focus (repeat (first | exact Pull.here | apply Pull.there)))))⟩
  obtain ⟨ga, go, es, rfl, hF, hr, X2, x2, Y2, y2, hes, _, _, hs1, hs2⟩ := hA.at_ hlt
  subst hes
  replace hr : w0.rangeAt ga (go + k * 7) (encCp ⟨l[k], X2, x2, Y2, y2⟩) := hr
  have hfc := hc _ (List.getElem_mem hlt)
  have hst := resolve_take l hlt t0 t1 t2
  rw [hre] at hst
  generalize l[k] = c at *
  have hz1 := hfc.hub.len
  have hz2 := hfc.side.len
  unfold stepO at hst
  obtain ⟨ep, eh, es, em, et, ec, eg⟩ := c
  unfold encCp at hr
  dsimp only at hr hs1 hs2 hz1 hz2 hst
  clear hR hre hA hc hfit
  have hz1 : eh.length ≤ 1048576 := by omega
  have hz2 : es.length ≤ 1048576 := by omega
  have hln : rst.length + 1 = (rst ++ [(⟨ep, eh, es, em, et, ec, eg⟩ : Cf)]).length := by rw [List.length_append]; rfl
  have hpn : ∀ A5 c5 A6 c6, (ps ++ [(⟨⟨ep, eh, es, em, et, ec, eg⟩, A5, c5, A6, c6⟩ : Cp)]).map Cp.c = rst ++ [⟨ep, eh, es, em, et, ec, eg⟩] := fun A5 c5 A6 c6 => by rw [List.map_append, hps]; rfl
  have hsn : stl.length + 1 = (stl ++ [ep]).length := by rw [List.length_append]; rfl
  have hdn : dn.length + 1 = (dn ++ [ep]).length := by rw [List.length_append]; rfl
  by_cases hc0 : ec = 0
  · rw [if_pos hc0] at hst
    subst hc0
    repeat' (first
      | (show WL _ _ _ _ _ _ _; first
        | refine WL.pure rfl rfl rfl rfl ?_
        | refine WL.nil ?_
        | refine WL.load hS rfl rfl (LdOk.box (by repeat (first | exact List.Mem.head _ | apply List.Mem.tail)) rfl) rfl rfl rfl ?_
        | refine WL.add rfl rfl rfl (by omega) rfl rfl rfl ?_
        | (refine WL.load hS rfl rfl (LdOk.snap0 hF hr (by repeat (first | exact List.Mem.head _ | apply List.Mem.tail)) rfl) rfl rfl rfl ?_)
        | (refine WL.app hS rfl rfl rfl rfl (RdOk.box (by repeat (first | exact List.Mem.head _ | apply List.Mem.tail))) rfl rfl (fun A cap => by repeat (first | exact Repl.here | apply Repl.there)) (by omega) rfl rfl rfl ?_; intro A3 cap3 w hS)
        | (refine WL.store hS rfl rfl rfl (by repeat (first | exact StB.here rfl | apply StB.there)) rfl rfl rfl ?_; intro w hS)
        | (refine WL.alloc hS rfl rfl rfl rfl rfl rfl ?_; intro w b hS)
        | refine WL.index rfl rfl rfl rfl (by first | with_reducible assumption | omega) rfl rfl rfl rfl ?_
        | (refine WL.slit hS rfl rfl rfl rfl rfl ?_; intro w b hS))
      | (show WC _ _ _ _ _ _; first
        | refine WC.seq ?_
        | refine WC.region ?_
        | refine WC.block ?_
        | refine WC.skip ?_
        | (show WC _ _ (Code.region _ (List.toArray [_, _, _, _, _, _, _, _, _, _]) true) _ _ _; refine WC.drawV hS [0,1,3,4,6,8] [0,1,3,4,2,6,5] 7 [8,9] (by kernel_rfl) (by kernel_rfl) ?_; clear hS; intro w hS hM)
        | refine WC.condT rfl (by decide) ?_
        | refine WC.condT rfl (decide_eq_true (by first | with_reducible assumption | omega)) ?_)
      | (show WD _ _ _ _ _ _ _ _ _; first
        | refine WD.pure rfl rfl rfl rfl rfl ?_
        | refine WD.nil ?_
        | refine WD.load rfl rfl (LdOk.box (by repeat (first | exact List.Mem.head _ | apply List.Mem.tail)) rfl) rfl rfl rfl rfl ?_
        | (refine WD.callG rfl rfl (clone_c eh (hS.slO (by repeat (first | exact List.Mem.head _ | apply List.Mem.tail)) hs1) hz1) rfl rfl rfl rfl rfl ?_; rintro v w ⟨hu, A5, c5, rfl, hn⟩; have hS := hS.new hu hn; clear hu hn; have hM := hM.new hS; refine ⟨hM.ss hS, ?_⟩)
        | (refine WD.callG rfl rfl (clone_c es (hS.slO (by repeat (first | exact List.Mem.head _ | apply List.Mem.tail)) hs2) hz2) rfl rfl rfl rfl rfl ?_; rintro v w ⟨hu, A6, c6, rfl, hn⟩; have hS := hS.new hu hn; clear hu hn; have hM := hM.new hS; refine ⟨hM.ss hS, ?_⟩)
        | (refine WD.pivStore hS rfl rfl rfl (by repeat (first | exact StB.here rfl | apply StB.there)) rfl rfl rfl rfl ?_; clear hS; intro w hS hM)
        | (refine WD.store hS rfl rfl rfl (by repeat (first | exact StB.here rfl | apply StB.there)) rfl More.none rfl rfl rfl rfl ?_; clear hS; intro w hS hM))
      | refine seqQ_n ?_
      | refine blkQ_n ?_)
    replace hS := hS.droplast2 (D := [innF ps fp, eC A5 c5 eh, eC A6 c6 es, .own (.slice A3 (rst.length + 1) cap3) 64 7 (rst.length + 1) (cps ps ++ encCp ⟨⟨ep, eh, es, em, et, 0, eg⟩, A5, c5, A6, c6⟩), .box zb 67 [.slice none 0 0, .slice none 0 0, .slice none 0 0, .slice none 0 0, .slice none 0 0, .slice none 0 0], .box qb 67 [.slice B0 v0.length e0, .slice B1 v1.length e1, .slice B2 v2.length e2, .slice A3 (rst.length + 1) cap3, .slice AD dn.length cd, .slice AS stl.length cs], eC B0 e0 v0, eC B1 e1 v1, eC B2 e2 v2, sC AD cd dn, sC AS cs stl]) (by repeat (first | exact Pulls.nil | (apply Pulls.cons; focus (repeat (first | exact Pull.here | apply Pull.there)))))
    rw [cps_snoc, hln] at hS
    obtain ⟨fp2, hS2⟩ := St.cfPush (p := ⟨⟨ep, eh, es, em, et, 0, eg⟩, A5, c5, A6, c6⟩) hS
    exact rndQ_n (k + 1) ⟨v0, v1, v2, _, dn, stl, B0, e0, B1, e1, B2, e2, A3, cap3, AD, cd, AS, cs, _, fp2, ⟨by omega, hst, hpn _ _ _ _⟩, hS2.droplast2 (by repeat (first | exact Pulls.nil | (apply Pulls.cons; focus (repeat (first | exact Pull.here | apply Pull.there)))))⟩ (by show l.length - (k + 1) < l.length - k; omega) ⟨vint (by omega), trivial⟩ ⟨rfl, rfl, rfl, rfl, trivial⟩
  rw [if_neg hc0] at hst
  cases hE : settleE v0 v1 v2 ⟨ep, eh, es, em, et, ec, eg⟩ with
  | some T =>
    obtain ⟨a, b', d⟩ := T
    rw [hE] at hst
    dsimp only at hst
    repeat' (first
      | (show WL _ _ _ _ _ _ _; first
        | refine WL.pure rfl rfl rfl rfl ?_
        | refine WL.nil ?_
        | refine WL.load hS rfl rfl (LdOk.box (by repeat (first | exact List.Mem.head _ | apply List.Mem.tail)) rfl) rfl rfl rfl ?_
        | refine WL.add rfl rfl rfl (by omega) rfl rfl rfl ?_
        | (refine WL.load hS rfl rfl (LdOk.snap0 hF hr (by repeat (first | exact List.Mem.head _ | apply List.Mem.tail)) rfl) rfl rfl rfl ?_)
        | (refine WL.callL (D := [.box qb 67 [.slice B0 v0.length e0, .slice B1 v1.length e1, .slice B2 v2.length e2, .slice AR rst.length cr, .slice AD dn.length cd, .slice AS stl.length cs], eC B0 e0 v0, eC B1 e1 v1, eC B2 e2 v2]) hS (by repeat (first | exact Pulls.nil | (apply Pulls.cons; focus (repeat (first | exact Pull.here | apply Pull.there))))) rfl rfl (fun hI => settle_c ⟨ep, eh, es, em, et, ec, eg⟩ (A := A5) (ca := c5) (B := A6) (cb := c6) hI (St.ownSlY (sz := 3) (enc := encEnt) (hsz := fun _ => rfl) (l := eh) (by decide) (hS.pulls (D := [.box qb 67 [.slice B0 v0.length e0, .slice B1 v1.length e1, .slice B2 v2.length e2, .slice AR rst.length cr, .slice AD dn.length cd, .slice AS stl.length cs], eC B0 e0 v0, eC B1 e1 v1, eC B2 e2 v2]) (by repeat (first | exact Pulls.nil | (apply Pulls.cons; focus (repeat (first | exact Pull.here | apply Pull.there)))))) (by repeat (first | exact List.Mem.head _ | apply List.Mem.tail))) (St.ownSlY (sz := 3) (enc := encEnt) (hsz := fun _ => rfl) (l := es) (by decide) (hS.pulls (D := [.box qb 67 [.slice B0 v0.length e0, .slice B1 v1.length e1, .slice B2 v2.length e2, .slice AR rst.length cr, .slice AD dn.length cd, .slice AS stl.length cs], eC B0 e0 v0, eC B1 e1 v1, eC B2 e2 v2]) (by repeat (first | exact Pulls.nil | (apply Pulls.cons; focus (repeat (first | exact Pull.here | apply Pull.there)))))) (by repeat (first | exact List.Mem.head _ | apply List.Mem.tail))) hfc hf0 hf1 hf2) rfl rfl rfl ?_; rintro v w hres hS; rw [hE] at hres; first | (obtain ⟨rfl, hmu⟩ := setNo hres; replace hS := hS _ hmu; clear hmu hres) | (obtain ⟨rfl, G0, g0, G1, g1, G2, g2, hmu⟩ := setYes hres; replace hS := hS _ hmu; clear hmu hres))
        | (refine WL.app hS rfl rfl rfl rfl (RdOk.box (by repeat (first | exact List.Mem.head _ | apply List.Mem.tail))) rfl rfl (fun A cap => by repeat (first | exact Repl.here | apply Repl.there)) (by omega) rfl rfl rfl ?_; intro A3 cap3 w hS)
        | (refine WL.store hS rfl rfl rfl (by repeat (first | exact StB.here rfl | apply StB.there)) rfl rfl rfl ?_; intro w hS)
        | (refine WL.alloc hS rfl rfl rfl rfl rfl rfl ?_; intro w b hS)
        | refine WL.index rfl rfl rfl rfl (by first | with_reducible assumption | omega) rfl rfl rfl rfl ?_
        | (refine WL.slit hS rfl rfl rfl rfl rfl ?_; intro w b hS))
      | (show WC _ _ _ _ _ _; first
        | refine WC.seq ?_
        | refine WC.region ?_
        | refine WC.block ?_
        | refine WC.skip ?_
        | (show WC _ _ (Code.region _ (List.toArray [_, _, _, _, _, _, _, _, _, _]) true) _ _ _; refine WC.drawV hS [0,1,3,4,6,8] [0,1,3,4,2,6,5] 7 [8,9] (by kernel_rfl) (by kernel_rfl) ?_; clear hS; intro w hS hM)
        | refine WC.condT rfl (by with_reducible rfl) ?_
        | refine WC.condT rfl (decide_eq_true (by first | with_reducible assumption | omega)) ?_
        | refine WC.condF rfl (decide_eq_false (by first | with_reducible assumption | omega)) ?_)
      | (show WD _ _ _ _ _ _ _ _ _; first
        | refine WD.pure rfl rfl rfl rfl rfl ?_
        | refine WD.nil ?_
        | refine WD.load rfl rfl (LdOk.box (by repeat (first | exact List.Mem.head _ | apply List.Mem.tail)) rfl) rfl rfl rfl rfl ?_
        | (refine WD.callG rfl rfl (clone_c eh (hS.slO (by repeat (first | exact List.Mem.head _ | apply List.Mem.tail)) hs1) hz1) rfl rfl rfl rfl rfl ?_; rintro v w ⟨hu, A5, c5, rfl, hn⟩; have hS := hS.new hu hn; clear hu hn; have hM := hM.new hS; refine ⟨hM.ss hS, ?_⟩)
        | (refine WD.callG rfl rfl (clone_c es (hS.slO (by repeat (first | exact List.Mem.head _ | apply List.Mem.tail)) hs2) hz2) rfl rfl rfl rfl rfl ?_; rintro v w ⟨hu, A6, c6, rfl, hn⟩; have hS := hS.new hu hn; clear hu hn; have hM := hM.new hS; refine ⟨hM.ss hS, ?_⟩)
        | (refine WD.pivStore hS rfl rfl rfl (by repeat (first | exact StB.here rfl | apply StB.there)) rfl rfl rfl rfl ?_; clear hS; intro w hS hM)
        | (refine WD.store hS rfl rfl rfl (by repeat (first | exact StB.here rfl | apply StB.there)) rfl More.none rfl rfl rfl rfl ?_; clear hS; intro w hS hM))
      | refine seqQ_n ?_
      | refine blkQ_n ?_)
    replace hS := hS.droplast2 (D := [.own (.slice A3 (dn.length + 1) cap3) 9 1 (dn.length + 1) (strs dn ++ [str ep]), .box zb 67 [.slice none 0 0, .slice none 0 0, .slice none 0 0, .slice none 0 0, .slice none 0 0, .slice none 0 0], .box qb 67 [.slice G0 a.length g0, .slice G1 b'.length g1, .slice G2 d.length g2, .slice AR rst.length cr, .slice A3 (dn.length + 1) cap3, .slice AS stl.length cs], eC G0 g0 a, eC G1 g1 b', eC G2 g2 d, cC AR cr ps rst.length, innF ps fp, sC AS cs stl]) (by repeat (first | exact Pulls.nil | (apply Pulls.cons; focus (repeat (first | exact Pull.here | apply Pull.there)))))
    rw [strs_snoc, hdn] at hS
    exact rndQ_n (k + 1) ⟨a, b', d, rst, _, stl, G0, g0, G1, g1, G2, g2, AR, cr, A3, cap3, AS, cs, ps, fp, ⟨by omega, hst, hps⟩, hS.droplast2 (by repeat (first | exact Pulls.nil | (apply Pulls.cons; focus (repeat (first | exact Pull.here | apply Pull.there)))))⟩ (by show l.length - (k + 1) < l.length - k; omega) ⟨vint (by omega), trivial⟩ ⟨rfl, rfl, rfl, rfl, trivial⟩
  | none =>
    rw [hE] at hst
    dsimp only at hst
    repeat' (first
      | (show WL _ _ _ _ _ _ _; first
        | refine WL.pure rfl rfl rfl rfl ?_
        | refine WL.nil ?_
        | refine WL.load hS rfl rfl (LdOk.box (by repeat (first | exact List.Mem.head _ | apply List.Mem.tail)) rfl) rfl rfl rfl ?_
        | (refine WL.load hS rfl rfl (LdOk.snap0 hF hr (by repeat (first | exact List.Mem.head _ | apply List.Mem.tail)) rfl) rfl rfl rfl ?_)
        | (refine WL.callL (D := [.box qb 67 [.slice B0 v0.length e0, .slice B1 v1.length e1, .slice B2 v2.length e2, .slice AR rst.length cr, .slice AD dn.length cd, .slice AS stl.length cs], eC B0 e0 v0, eC B1 e1 v1, eC B2 e2 v2]) hS (by repeat (first | exact Pulls.nil | (apply Pulls.cons; focus (repeat (first | exact Pull.here | apply Pull.there))))) rfl rfl (fun hI => settle_c ⟨ep, eh, es, em, et, ec, eg⟩ (A := A5) (ca := c5) (B := A6) (cb := c6) hI (St.ownSlY (sz := 3) (enc := encEnt) (hsz := fun _ => rfl) (l := eh) (by decide) (hS.pulls (D := [.box qb 67 [.slice B0 v0.length e0, .slice B1 v1.length e1, .slice B2 v2.length e2, .slice AR rst.length cr, .slice AD dn.length cd, .slice AS stl.length cs], eC B0 e0 v0, eC B1 e1 v1, eC B2 e2 v2]) (by repeat (first | exact Pulls.nil | (apply Pulls.cons; focus (repeat (first | exact Pull.here | apply Pull.there)))))) (by repeat (first | exact List.Mem.head _ | apply List.Mem.tail))) (St.ownSlY (sz := 3) (enc := encEnt) (hsz := fun _ => rfl) (l := es) (by decide) (hS.pulls (D := [.box qb 67 [.slice B0 v0.length e0, .slice B1 v1.length e1, .slice B2 v2.length e2, .slice AR rst.length cr, .slice AD dn.length cd, .slice AS stl.length cs], eC B0 e0 v0, eC B1 e1 v1, eC B2 e2 v2]) (by repeat (first | exact Pulls.nil | (apply Pulls.cons; focus (repeat (first | exact Pull.here | apply Pull.there)))))) (by repeat (first | exact List.Mem.head _ | apply List.Mem.tail))) hfc hf0 hf1 hf2) rfl rfl rfl ?_; rintro v w hres hS; rw [hE] at hres; first | (obtain ⟨rfl, hmu⟩ := setNo hres; replace hS := hS _ hmu; clear hmu hres) | (obtain ⟨rfl, G0, g0, G1, g1, G2, g2, hmu⟩ := setYes hres; replace hS := hS _ hmu; clear hmu hres))
        | (refine WL.store hS rfl rfl rfl (by repeat (first | exact StB.here rfl | apply StB.there)) rfl rfl rfl ?_; intro w hS)
        | (refine WL.alloc hS rfl rfl rfl rfl rfl rfl ?_; intro w b hS)
        | refine WL.index rfl rfl rfl rfl (by first | with_reducible assumption | omega) rfl rfl rfl rfl ?_)
      | (show WC _ _ _ _ _ _; first
        | refine WC.seq ?_
        | refine WC.region ?_
        | refine WC.block ?_
        | refine WC.skip ?_
        | (show WC _ _ (Code.region _ (List.toArray [_, _, _, _, _, _, _, _, _, _]) true) _ _ _; refine WC.drawV hS [0,1,3,4,6,8] [0,1,3,4,2,6,5] 7 [8,9] (by kernel_rfl) (by kernel_rfl) ?_; clear hS; intro w hS hM)
        | refine WC.condF rfl (by with_reducible rfl) ?_
        | refine WC.condT rfl (decide_eq_true (by first | with_reducible assumption | omega)) ?_
        | refine WC.condF rfl (decide_eq_false (by first | with_reducible assumption | omega)) ?_)
      | (show WD _ _ _ _ _ _ _ _ _; first
        | refine WD.pure rfl rfl rfl rfl rfl ?_
        | refine WD.nil ?_
        | refine WD.load rfl rfl (LdOk.box (by repeat (first | exact List.Mem.head _ | apply List.Mem.tail)) rfl) rfl rfl rfl rfl ?_
        | (refine WD.callG rfl rfl (clone_c eh (hS.slO (by repeat (first | exact List.Mem.head _ | apply List.Mem.tail)) hs1) hz1) rfl rfl rfl rfl rfl ?_; rintro v w ⟨hu, A5, c5, rfl, hn⟩; have hS := hS.new hu hn; clear hu hn; have hM := hM.new hS; refine ⟨hM.ss hS, ?_⟩)
        | (refine WD.callG rfl rfl (clone_c es (hS.slO (by repeat (first | exact List.Mem.head _ | apply List.Mem.tail)) hs2) hz2) rfl rfl rfl rfl rfl ?_; rintro v w ⟨hu, A6, c6, rfl, hn⟩; have hS := hS.new hu hn; clear hu hn; have hM := hM.new hS; refine ⟨hM.ss hS, ?_⟩)
        | (refine WD.pivStore hS rfl rfl rfl (by repeat (first | exact StB.here rfl | apply StB.there)) rfl rfl rfl rfl ?_; clear hS; intro w hS hM)
        | (refine WD.store hS rfl rfl rfl (by repeat (first | exact StB.here rfl | apply StB.there)) rfl More.none rfl rfl rfl rfl ?_; clear hS; intro w hS hM))
      | refine seqQ_n ?_)
    refine WC.drawLP [cC AR cr ps rst.length, sC AS cs stl] hS (by repeat (first | exact Pulls.nil | (apply Pulls.cons; focus (repeat (first | exact Pull.here | apply Pull.there))))) [0,1,2,5,6,7,11,13] [0,1,2,5,6,7] (.two 3 [] (.two 4 [8,9,10,11] (.piv 12 [13,14]) 8 [] (.two 4 [9,10,11] (.piv 12 [13,14]) 9 [4,10,11] (.piv 12 [13,14]))) 8 [] (.two 3 [] (.two 4 [9,10,11] (.piv 12 [13,14]) 9 [4,10,11] (.piv 12 [13,14])) 9 [3,4,10,11] (.piv 12 [13,14]))) (by kernel_rfl) (by kernel_rfl) ?_
    clear hS
    intro w hS hM
    repeat' (first
      | (show WL _ _ _ _ _ _ _; first
        | refine WL.pure rfl rfl rfl rfl ?_
        | refine WL.nil ?_
        | refine WL.add rfl rfl rfl (by omega) rfl rfl rfl ?_)
      | (show WC _ _ _ _ _ _; first
        | refine WC.region ?_)
      | (show WD _ _ _ _ _ _ _ _ _; first
        | refine WD.pure rfl rfl rfl rfl rfl ?_
        | refine WD.nil ?_
        | refine WD.load rfl rfl (LdOk.box (by repeat (first | exact List.Mem.head _ | apply List.Mem.tail)) rfl) rfl rfl rfl rfl ?_
        | (refine WD.fork ?_ ?_)
        | (refine WD.loadE hS hM rfl rfl (LdOk.box (by repeat (first | exact List.Mem.head _ | apply List.Mem.tail)) rfl) rfl rfl rfl rfl rfl ?_)
        | (refine WD.slit (t := 22) hS hM rfl rfl rfl rfl rfl rfl rfl ?_; clear hS hM; intro w rb hS hM)
        | (refine WD.slit (t := 37) hS hM rfl rfl rfl rfl rfl rfl rfl ?_; clear hS hM; intro w sb hS hM)
        | (refine WD.app (n := rst.length) (size := 7) hS (by repeat (first | exact Pull.here | apply Pull.there)) (by repeat (first | exact More.refl _ _ | refine More.chunk ?_ _)) rfl rfl rfl rfl (RdOk.box (by repeat (first | exact List.Mem.head _ | apply List.Mem.tail))) rfl rfl (by omega) rfl rfl rfl rfl rfl ?_; clear hS hM; intro A3 cap3 w hS hM)
        | (refine WD.app (n := stl.length) (size := 1) hS (by repeat (first | exact Pull.here | apply Pull.there)) (by repeat (first | exact More.refl _ _ | refine More.chunk ?_ _)) rfl rfl rfl rfl (RdOk.box (by repeat (first | exact List.Mem.head _ | apply List.Mem.tail))) rfl rfl (by omega) rfl rfl rfl rfl rfl ?_; clear hS hM; intro A4 cap4 w hS hM)
        | (refine WD.pivStore hS rfl rfl rfl (by repeat (first | exact StB.here rfl | apply StB.there)) rfl rfl rfl rfl ?_; clear hS; intro w hS hM)
        | (refine WD.store hS rfl rfl rfl (by repeat (first | exact StB.here rfl | apply StB.there)) rfl More.none rfl rfl rfl rfl ?_; clear hS; intro w hS hM))
      | (refine WDo.loadE hS hM rfl rfl (LdOk.box (by repeat (first | exact List.Mem.head _ | apply List.Mem.tail)) rfl) rfl rfl rfl rfl ?_)
      | (refine WDo.slit (t := 22) hS hM rfl rfl rfl rfl rfl rfl ?_; clear hS hM; intro w rb hS hM)
      | (refine WDo.slit (t := 37) hS hM rfl rfl rfl rfl rfl rfl ?_; clear hS hM; intro w sb hS hM)
      | (refine WDo.app (n := rst.length) (size := 7) hS (by repeat (first | exact Pull.here | apply Pull.there)) (by repeat (first | exact More.refl _ _ | refine More.chunk ?_ _)) rfl rfl rfl rfl (RdOk.box (by repeat (first | exact List.Mem.head _ | apply List.Mem.tail))) rfl rfl (by omega) rfl rfl rfl rfl ?_; clear hS hM; intro A3 cap3 w hS hM)
      | refine seqQ_n ?_
      | refine blkQ_n ?_)
    all_goals
      replace hS := hS.droplast2 (D := [innF ps fp, eC A5 c5 eh, eC A6 c6 es, .own (.slice A3 (rst.length + 1) cap3) 64 7 (rst.length + 1) (cps ps ++ encCp ⟨⟨ep, eh, es, em, et, ec, eg⟩, A5, c5, A6, c6⟩), .own (.slice A4 (stl.length + 1) cap4) 9 1 (stl.length + 1) (strs stl ++ [str ep]), .box zb 67 [.slice none 0 0, .slice none 0 0, .slice none 0 0, .slice none 0 0, .slice none 0 0, .slice none 0 0], .box qb 67 [.slice B0 v0.length e0, .slice B1 v1.length e1, .slice B2 v2.length e2, .slice A3 (rst.length + 1) cap3, .slice AD dn.length cd, .slice A4 (stl.length + 1) cap4], eC B0 e0 v0, eC B1 e1 v1, eC B2 e2 v2, sC AD cd dn]) (by repeat (first | exact Pulls.nil | (apply Pulls.cons; focus (repeat (first | exact Pull.here | apply Pull.there)))))
      rw [cps_snoc, strs_snoc, hln, hsn] at hS
      obtain ⟨fp2, hS2⟩ := St.cfPush (p := ⟨⟨ep, eh, es, em, et, ec, eg⟩, A5, c5, A6, c6⟩) hS
      exact rndQ_n (k + 1) ⟨v0, v1, v2, _, dn, _, B0, e0, B1, e1, B2, e2, A3, cap3, AD, cd, A4, cap4, _, fp2, ⟨by omega, hst, hpn _ _ _ _⟩, hS2.droplast2 (by repeat (first | exact Pulls.nil | (apply Pulls.cons; focus (repeat (first | exact Pull.here | apply Pull.there)))))⟩ (by show l.length - (k + 1) < l.length - k; omega) ⟨vint (by omega), trivial⟩ ⟨rfl, rfl, rfl, rfl, trivial⟩
end Go.Proofs.YtniacmoniaaolaaGreatDoor

/- What is proved: how the laws' arguments read. Conditions: none. -/
set_option linter.unusedSimpArgs false
set_option linter.unusedVariables false
namespace Go.Proofs.YtniacmoniaaolaaGreatDoor
open Go Go.J Go.RowKit Go.WideShapes Go.ChangeShapes

def QEn4 (e : Ent) (b : Nat) : Prop := e.path.length + e.data.length + 4 ≤ b ∧ -9223372036854775808 ≤ e.kind ∧ e.kind ≤ 9223372036854775807
theorem lst2 {α : Type} {l : List α} (h : l.length = 2) : ∃ a b, l = [a, b] := by match l, h with | [a, b], _ => exact ⟨a, b, rfl⟩
theorem lst3 {α : Type} {l : List α} (h : l.length = 3) : ∃ a b c, l = [a, b, c] := by match l, h with | [a, b, c], _ => exact ⟨a, b, c, rfl⟩
theorem lst7 {α : Type} {l : List α} (h : l.length = 7) : ∃ a b c d e f g, l = [a, b, c, d, e, f, g] := by match l, h with | [a, b, c, d, e, f, g], _ => exact ⟨a, b, c, d, e, f, g, rfl⟩
def NodR (cs : List Value) (b : Nat) : Prop := ∃ (k : Int) (d : List UInt8), cs = [.int .i64 k, str d] ∧ d.length + 3 ≤ b ∧ -9223372036854775808 ≤ k ∧ k ≤ 9223372036854775807
set_option maxRecDepth 100000 in
theorem open_nodS {H : Type} (enc : TypeId × Value → H) (W : World) (fuel : Nat) (cs : List Value) (x : DataW H × List MemPlace) (h : DataW.trod enc Tryz.prog W 0 (fun _ => true) true fuel 58 cs = some x) : NodR cs (Rows.uptoBulk x.1) := by
  obtain ⟨xs, n, _, rfl, hlen, hxl, hf⟩ := DataW.trod_struct Tryz.underlying58 h
  obtain ⟨x0, x1, rfl⟩ := lst2 hxl
  obtain ⟨c0, c1, rfl⟩ := lst2 (hlen.trans (by kernel_rfl))
  obtain ⟨s0, e0, q0⟩ := Opens.int Tryz.underlying3 enc W n [c0] x0 (hf 0 _ rfl)
  obtain ⟨s1, e1, q1⟩ := Opens.str Tryz.underlying9 enc W n [c1] x1 (hf 1 _ rfl)
  have e0 : [c0] = [.int .i64 s0] := e0
  have e1 : [c1] = [str s1] := e1
  simp only [List.cons.injEq, and_true] at e0 e1
  subst e0 e1
  refine ⟨s0, s1, rfl, ?_, q0.1, q0.2.1⟩
  have h1 := q0.2.2
  have h2 : s1.length + 1 ≤ Rows.uptoBulk x1.1 := q1
  simp only [Rows.uptoBulk, Rows.uptoBulkAll, List.map_cons, List.map_nil]
  omega
set_option maxRecDepth 100000 in
theorem open_entS : Opens Tryz.prog 60 cEnt QEn4 := by
  intro H enc W fuel cs x h
  obtain ⟨xs, n, _, rfl, hlen, hxl, hf⟩ := DataW.trod_struct Tryz.underlying60 h
  obtain ⟨x0, x1, rfl⟩ := lst2 hxl
  obtain ⟨c0, c1, c2, rfl⟩ := lst3 (hlen.trans (by kernel_rfl))
  obtain ⟨s0, e0, q0⟩ := Opens.str Tryz.underlying9 enc W n [c0] x0 (hf 0 _ rfl)
  obtain ⟨k, d, e1, q1, q2, q3⟩ := open_nodS enc W n [c1, c2] x1 (hf 1 _ rfl)
  have e0 : [c0] = [str s0] := e0
  simp only [List.cons.injEq, and_true] at e0 e1
  obtain ⟨e1, e2⟩ := e1
  subst e0 e1 e2
  refine ⟨⟨s0, k, d⟩, rfl, ?_, q2, q3⟩
  have h2 : s0.length + 1 ≤ Rows.uptoBulk x0.1 := q0
  simp only [Rows.uptoBulk, Rows.uptoBulkAll, List.map_cons, List.map_nil]
  omega
theorem sum_ge {l : List Nat} : ∀ n ∈ l, n ≤ l.sum := by
  induction l with
  | nil => intro n hn; cases hn
  | cons a l ih =>
    intro n hn
    rw [List.sum_cons]
    rcases List.mem_cons.1 hn with rfl | hn
    · omega
    · have := ih n hn; omega
theorem sum_cnt {c : Nat} {l : List Nat} (h : ∀ n ∈ l, c ≤ n) : c * l.length ≤ l.sum := by
  induction l with
  | nil => exact Nat.le_refl _
  | cons a l ih =>
    have h1 := ih fun n hn => h n (List.mem_cons_of_mem _ hn)
    have h2 := h a (List.mem_cons_self ..)
    rw [List.sum_cons, List.length_cons, Nat.mul_succ]
    omega
theorem fit_of {t : List Ent} {b : Nat} (q : QL QEn4 t b) (hb : b ≤ 1048576) : Fit t := by
  obtain ⟨bs, hl, hq, hs⟩ := q
  have h4 : 4 * bs.length ≤ bs.sum := sum_cnt fun n hn => by
    obtain ⟨i, hi, rfl⟩ := List.getElem_of_mem hn
    have := hq i (by omega) hi
    unfold QEn4 at this
    omega
  refine ⟨by omega, fun e he => ?_⟩
  obtain ⟨i, hi, rfl⟩ := List.getElem_of_mem he
  have h1 := hq i hi (by omega)
  have h2 := sum_ge _ (List.getElem_mem (show i < bs.length by omega))
  unfold QEn4 at h1
  omega
def QCf (c : Cf) (b : Nat) : Prop := (-9223372036854775808 ≤ c.choice ∧ c.choice ≤ 9223372036854775807) ∧ ∃ b1 b2, QL QEn4 c.hub b1 ∧ QL QEn4 c.side b2 ∧ c.path.length + c.merged.length + c.given.length + b1 + b2 + 4 ≤ b
set_option maxRecDepth 100000 in
theorem open_cf : Opens Tryz.prog 64 cCf QCf := by
  intro H enc W fuel cs x h
  obtain ⟨xs, n, _, rfl, hlen, hxl, hf⟩ := DataW.trod_struct Tryz.underlying64 h
  obtain ⟨x0, x1, x2, x3, x4, x5, x6, rfl⟩ := lst7 hxl
  obtain ⟨d0, d1, d2, d3, d4, d5, d6, rfl⟩ := lst7 (hlen.trans (by kernel_rfl))
  obtain ⟨s0, e0, q0⟩ := Opens.str Tryz.underlying9 enc W n [d0] x0 (hf 0 _ rfl)
  obtain ⟨ys, ⟨A, ca, e1, hca, hA⟩, q1⟩ := Opens.slice Tryz.underlying61 (by kernel_rfl) (by decide) open_entS enc W n [d1] x1 (hf 1 _ rfl)
  obtain ⟨zs, ⟨B, cb, e2, hcb, hB⟩, q2⟩ := Opens.slice Tryz.underlying61 (by kernel_rfl) (by decide) open_entS enc W n [d2] x2 (hf 2 _ rfl)
  obtain ⟨s3, e3, q3⟩ := Opens.str Tryz.underlying9 enc W n [d3] x3 (hf 3 _ rfl)
  have h4 := hf 4 _ rfl
  change DataW.trod enc Tryz.prog W 0 _ true n 4 [d4] = some x4 at h4
  obtain ⟨s4, e4, rfl⟩ := DataW.trod_bool Tryz.underlying4 h4
  obtain ⟨s5, e5, q5⟩ := Opens.int Tryz.underlying3 enc W n [d5] x5 (hf 5 _ rfl)
  obtain ⟨s6, e6, q6⟩ := Opens.str Tryz.underlying9 enc W n [d6] x6 (hf 6 _ rfl)
  have e0 : [d0] = [str s0] := e0
  have e3 : [d3] = [str s3] := e3
  have e5 : [d5] = [.int .i64 s5] := e5
  have e6 : [d6] = [str s6] := e6
  simp only [List.cons.injEq, and_true] at e0 e1 e2 e3 e4 e5 e6
  subst e0 e1 e2 e3 e4 e5 e6
  refine ⟨⟨s0, ys, zs, s3, s4, s5, s6⟩, ⟨A, ca, B, cb, rfl, hca, hcb, hA, hB⟩, ⟨q5.1, q5.2.1⟩, _, _, q1, q2, ?_⟩
  have k0 : s0.length + 1 ≤ Rows.uptoBulk x0.1 := q0
  have k3 : s3.length + 1 ≤ Rows.uptoBulk x3.1 := q3
  have k6 : s6.length + 1 ≤ Rows.uptoBulk x6.1 := q6
  simp only [Rows.uptoBulk, Rows.uptoBulkAll, List.map_cons, List.map_nil]
  omega
theorem arg_cfs : Arg Tryz.prog 22 (ASl cCf) (QL QCf) := Arg.slice Tryz.underlying22 (Opens.slice Tryz.underlying22 (by kernel_rfl) (by decide) open_cf)
theorem cfs_fit {l : List Cf} {b : Nat} (q : QL QCf l b) (hb : b ≤ 1048576) : (∀ c ∈ l, FitC c ∧ (-9223372036854775808 ≤ c.choice ∧ c.choice ≤ 9223372036854775807)) ∧ l.length ≤ 262144 := by
  obtain ⟨bs, hl, hq, hs⟩ := q
  have h4 : 4 * bs.length ≤ bs.sum := sum_cnt fun n hn => by
    obtain ⟨i, hi, rfl⟩ := List.getElem_of_mem hn
    obtain ⟨_, b1, b2, _, _, h⟩ := hq i (by omega) hi
    omega
  refine ⟨fun c hc => ?_, by omega⟩
  obtain ⟨i, hi, rfl⟩ := List.getElem_of_mem hc
  obtain ⟨hch, b1, b2, q1, q2, h1⟩ := hq i hi (by omega)
  have h2 := sum_ge _ (List.getElem_mem (show i < bs.length by omega))
  exact ⟨⟨by omega, fit_of q1 (by omega), fit_of q2 (by omega)⟩, hch⟩
theorem kinds_of {t : List Ent} {b : Nat} (q : QL QEn4 t b) : ∀ e ∈ t, -9223372036854775808 ≤ e.kind ∧ e.kind ≤ 9223372036854775807 := by
  obtain ⟨bs, hl, hq, hs⟩ := q
  intro e he
  obtain ⟨i, hi, rfl⟩ := List.getElem_of_mem he
  exact (hq i hi (by omega)).2
/-! ## three trees -/
structure T3 where
  a : List Ent
  b : List Ent
  c : List Ent
instance : Inhabited T3 := ⟨⟨[], [], []⟩⟩
def cT3 : Cod T3 where
  sz := 3
  rd F w cs t := ∃ A0 c0 A1 c1 A2 c2, cs = [.slice A0 t.a.length c0, .slice A1 t.b.length c1, .slice A2 t.c.length c2] ∧ (t.a.length ≤ c0 ∧ t.b.length ≤ c1 ∧ t.c.length ≤ c2) ∧ SlAt cEnt F w A0 t.a ∧ SlAt cEnt F w A1 t.b ∧ SlAt cEnt F w A2 t.c
  len := fun ⟨_, _, _, _, _, _, e, _⟩ => by rw [e]; rfl
  loc := fun ⟨A0, c0, A1, c1, A2, c2, e, h1, h2, h3, h4⟩ hs => ⟨A0, c0, A1, c1, A2, c2, e, h1, h2.loc hs, h3.loc hs, h4.loc hs⟩
  mono := fun ⟨A0, c0, A1, c1, A2, c2, e, h1, h2, h3, h4⟩ hs => ⟨A0, c0, A1, c1, A2, c2, e, h1, h2.mono hs, h3.mono hs, h4.mono hs⟩
def QT3 (t : T3) (b : Nat) : Prop := ∃ b0 b1 b2, QL QEn4 t.a b0 ∧ QL QEn4 t.b b1 ∧ QL QEn4 t.c b2 ∧ b0 + b1 + b2 ≤ b
set_option maxRecDepth 100000 in
theorem open_t3 : Opens Tryz.prog 65 cT3 QT3 := by
  intro H enc W fuel cs x h
  obtain ⟨xs, m, _, rfl, hlen, hxl, hf⟩ := DataW.trod_array Tryz.underlying65 h
  obtain ⟨x0, x1, x2, rfl⟩ := lst3 hxl
  obtain ⟨d0, d1, d2, rfl⟩ := lst3 (hlen.trans (by kernel_rfl))
  have h0 := hf 0 (by decide)
  have h1 := hf 1 (by decide)
  have h2 := hf 2 (by decide)
  change DataW.trod enc Tryz.prog W 0 _ true m 61 [d0] = some x0 at h0
  change DataW.trod enc Tryz.prog W 0 _ true m 61 [d1] = some x1 at h1
  change DataW.trod enc Tryz.prog W 0 _ true m 61 [d2] = some x2 at h2
  obtain ⟨ys, ⟨A0, c0, e0, hc0, hA0⟩, q0⟩ := Opens.slice Tryz.underlying61 (by kernel_rfl) (by decide) open_entS enc W m _ _ h0
  obtain ⟨zs, ⟨A1, c1, e1, hc1, hA1⟩, q1⟩ := Opens.slice Tryz.underlying61 (by kernel_rfl) (by decide) open_entS enc W m _ _ h1
  obtain ⟨us, ⟨A2, c2, e2, hc2, hA2⟩, q2⟩ := Opens.slice Tryz.underlying61 (by kernel_rfl) (by decide) open_entS enc W m _ _ h2
  simp only [List.cons.injEq, and_true] at e0 e1 e2
  subst e0 e1 e2
  refine ⟨⟨ys, zs, us⟩, ⟨A0, c0, A1, c1, A2, c2, rfl, ⟨hc0, hc1, hc2⟩, hA0, hA1, hA2⟩, _, _, _, q0, q1, q2, ?_⟩
  simp only [Rows.uptoBulk, Rows.uptoBulkAll, List.map_cons, List.map_nil]
  omega
theorem okWide_arr {P : Program} {w : World} {r : Reach} {base : Nat} {t e : TypeId} {n : Nat} {v : Value} (ht : P.underlying t = some (.array n e)) (h : Value.okWide P w r base t v) : ∃ cs, v = .agg cs ∧ cs.size = P.cellsOf t := by
  simp only [Value.okWide, ht] at h
  obtain ⟨cs, h1, h2, _⟩ := h
  exact ⟨cs, h1, h2⟩
theorem Arg.arr {α : Type} {P : Program} {t e : TypeId} {n : Nat} {c : Cod α} {Q : α → Nat → Prop} (ht : P.underlying t = some (.array n e)) (ho : Opens P t c Q) : Arg P t (AAgg c) Q := by
  intro H enc W base v d p hk hd
  obtain ⟨cs, rfl, _⟩ := okWide_arr ht hk
  obtain ⟨fuel, hf⟩ := hd
  obtain ⟨y, hy, hq⟩ := ho enc W fuel _ _ hf
  exact ⟨y, ⟨cs.toList, by cases cs; rfl, hy⟩, hq⟩
theorem arg_t3 : Arg Tryz.prog 65 (AAgg cT3) QT3 := Arg.arr Tryz.underlying65 open_t3
end Go.Proofs.YtniacmoniaaolaaGreatDoor

/- What is proved: that the laws' awake answers true. Conditions: none. -/
set_option linter.unusedSimpArgs false
set_option linter.unusedVariables false
namespace Go.Proofs.YtniacmoniaaolaaGreatDoor
open Go Go.J Go.RowKit

def awH : List Ent := [⟨[97], 2, [49]⟩]
def awS : List Ent := [⟨[97], 2, [50]⟩]
def awC : Cf := ⟨[97], awH, awS, [], false, 0, []⟩
def awD : Cf := ⟨[97], awH, awS, [], false, 2, []⟩
theorem aw_tree : checkT awS = 0 := checkT_zero.2 ⟨by decide, fun i h => by
  have hi : i = 0 := by
    have : awS.length = 1 := rfl
    omega
  subst hi
  exact ⟨(by decide : checkE [97] 5 = 0), (by decide : wholeE 2 [50] = true), (by decide : (2 : Int) ≠ 0), fun j hj => (by omega), fun h => absurd (by decide : parentE [97] = []) h⟩⟩
theorem aw_repl {t : List Ent} (h : restE t [97] = []) : replE t [97] awS = some awS := by
  unfold replE
  rw [h]
  have e : sortR ([] ++ awS) = awS := rfl
  rw [e, if_neg]
  rintro (h1 | ⟨x, hx, h1⟩ | h1)
  · exact h1 (by decide)
  · rw [List.mem_singleton.1 hx] at h1
    exact absurd h1 (by decide)
  · exact h1 aw_tree
theorem aw_resolve : resolveE [awD] awH awS [] = ⟨awS, awS, awS, [], [[97]], []⟩ := by
  have h : settleE awH awS [] awD = some (awS, awS, awS) := by
    unfold settleE
    rw [if_pos ⟨by decide, by decide⟩]
    have e : tgtE awD = awS := rfl
    rw [e, show awD.path = [97] from rfl, aw_repl (t := awH) (by decide), aw_repl (t := awS) (by decide), aw_repl (t := []) rfl]
  show stepO ⟨awH, awS, [], [], [], []⟩ awD = _
  unfold stepO
  rw [if_neg (by decide)]
  dsimp only
  rw [h]
  rfl
theorem awFit : Fit awH ∧ Fit awS ∧ Fit [] := ⟨⟨by decide, fun e he => by rw [List.mem_singleton.1 he]; decide⟩, ⟨by decide, fun e he => by rw [List.mem_singleton.1 he]; decide⟩, ⟨by decide, fun e he => (by cases he)⟩⟩
theorem awCho {v : Value} {w w' : World} (h : ChoIs [awC] [97] 2 [] v w w') : ∃ AO oc ps fp, v = .tuple #[.slice AO 1 oc, .int .i64 0] ∧ ps.map Cp.c = [awD] ∧ MutL w w' [] [.own (.slice AO 1 oc) 64 7 1 (cps ps), innF ps fp] := by
  have hi : idxF [awC] [97] = some 0 := rfl
  have hm : mayC [awC] 0 2 [] = true := rfl
  rcases h with ⟨e, _⟩ | ⟨i, e, e2, _⟩ | ⟨i, e, _, h⟩
  · rw [hi] at e; cases e
  · rw [hi] at e
    obtain rfl := Option.some.inj e
    rw [hm] at e2; cases e2
  · rw [hi] at e
    obtain rfl := Option.some.inj e
    exact h
section
variable {w0 w : World} {M : List Nat} {H : List Chunk} {Z : List Snap} {hb sb cb : Nat}
theorem awCf (hS : St w0 M w H Z) (h1 : Chunk.own (.slice (some ⟨cb, 0, none⟩) 1 1) 64 7 1 (cps [⟨awC, some ⟨hb, 0, none⟩, 1, some ⟨sb, 0, none⟩, 1⟩]) ∈ H) (h2 : eC (some ⟨hb, 0, none⟩) 1 awH ∈ H) (h3 : eC (some ⟨sb, 0, none⟩) 1 awS ∈ H) : SlAt cCf (Old w) w (some ⟨cb, 0, none⟩) [awC] := by
  have hrow : RowAt w 64 7 (.slice (some ⟨cb, 0, none⟩) 1 1) 1 (cps [⟨awC, some ⟨hb, 0, none⟩, 1, some ⟨sb, 0, none⟩, 1⟩]) := hS.holds _ h1
  refine cps_sl hrow (fun g hg => (hS.inb _ h1 g (by simp [Chunk.fp, hg])).1) fun p hp => ?_
  rw [List.mem_singleton.1 hp]
  exact ⟨Nat.le_refl _, Nat.le_refl _, St.ownSl (sz := 3) (enc := encEnt) (hsz := fun _ => rfl) (l := awH) (by decide) hS h2, St.ownSl (sz := 3) (enc := encEnt) (hsz := fun _ => rfl) (l := awS) (by decide) hS h3⟩
end
set_option maxHeartbeats 16000000 in
set_option maxRecDepth 100000 in
theorem sawake_c (w0 : World) : Cal Tryz.prog 6 [] w0 (fun v w' => Upd [] w0 w' ∧ v = .bool true) := by
  refine Cal.mk' (by kernel_rfl) Tryz.func6 rfl rfl fun hS => ?_
  obtain ⟨hf0, hf1, hf2⟩ := awFit
  have hcz : ∀ c ∈ [awC], c.hub.length ≤ 1048576 ∧ c.side.length ≤ 1048576 := fun c hc => by rw [List.mem_singleton.1 hc]; exact ⟨by decide, by decide⟩
  have hfc : ∀ c ∈ [awD], FitC c := fun c hc => by rw [List.mem_singleton.1 hc]; exact ⟨by decide, hf0, hf1⟩
  have hrs := aw_resolve
  have hm1 : True := trivial
  repeat' (first
    | (show WL _ _ _ _ _ _ _; first
      | refine WL.pure rfl rfl rfl rfl ?_
      | refine WL.nil ?_
      | refine WL.load hS rfl rfl (LdOk.box (by repeat (first | exact List.Mem.head _ | apply List.Mem.tail)) rfl) rfl rfl rfl ?_
      | (clear hm1; refine WL.slit (t := 61) hS rfl rfl rfl rfl rfl ?_; intro w hb hS; replace hS := hS.boxRow (n := 1) (size := 3) .here rfl (by decide))
      | (refine WL.slit (t := 61) hS rfl rfl rfl rfl rfl ?_; intro w sb hS; replace hS := hS.boxRow (n := 1) (size := 3) .here rfl (by decide))
      | (refine WL.slit (t := 22) hS rfl rfl rfl rfl rfl ?_; intro w cb hS; replace hS := hS.boxRow (n := 1) (size := 7) .here rfl (by decide))
      | (refine WL.callL (D := []) hS .nil rfl rfl (fun hI => choose_c [awC] [97] 2 [] (awCf hS (by repeat (first | exact List.Mem.head _ | apply List.Mem.tail)) (by repeat (first | exact List.Mem.head _ | apply List.Mem.tail)) (by repeat (first | exact List.Mem.head _ | apply List.Mem.tail))) (by decide) (by decide) hcz) rfl rfl rfl ?_; rintro v w hch hS; obtain ⟨AO, oc, ps, fp, rfl, hps, hmu⟩ := awCho hch; replace hS := hS _ hmu; clear hmu hch)
      | (refine WL.callL (D := []) hS .nil rfl rfl (fun hI => resolve_c [awD] awH awS [] (A2 := none) (c2 := 0) (hps ▸ hS.cfsSl (ps := ps) (fp := fp) (by repeat (first | exact List.Mem.head _ | apply List.Mem.tail)) (by repeat (first | exact List.Mem.head _ | apply List.Mem.tail))) (by decide) hfc (St.ownSl (sz := 3) (enc := encEnt) (hsz := fun _ => rfl) (l := awH) (by decide) hS (by repeat (first | exact List.Mem.head _ | apply List.Mem.tail))) (St.ownSl (sz := 3) (enc := encEnt) (hsz := fun _ => rfl) (l := awS) (by decide) hS (by repeat (first | exact List.Mem.head _ | apply List.Mem.tail))) (fun k hk => absurd hk (Nat.not_lt_zero _)) hf0 hf1 hf2 hrs) rfl rfl rfl ?_; rintro v w ⟨B0, e0, B1, e1, B2, e2, AR, cr, AD, cd, AS, cs, ps2, fp2, rfl, hps2, hmu⟩ hS; replace hS := hS _ hmu; clear hmu)
      | (refine WL.indexArr (j := 0) rfl rfl rfl rfl (by decide) rfl rfl rfl ?_)
      | (refine WL.indexArr (j := 2) rfl rfl rfl rfl (by decide) rfl rfl rfl ?_)
      | (refine WL.calls hS rfl rfl (rsameD_c awS awS (A := B0) (St.ownSl (sz := 3) (enc := encEnt) (hsz := fun _ => rfl) (l := awS) (by decide) hS (by repeat (first | exact List.Mem.head _ | apply List.Mem.tail))) (St.ownSl (sz := 3) (enc := encEnt) (hsz := fun _ => rfl) (l := awS) (by decide) hS (by repeat (first | exact List.Mem.head _ | apply List.Mem.tail))) (by decide) (by decide)) rfl rfl rfl ?_; rintro v w rfl hS; rw [decide_eq_true rfl])
      | (refine WL.calls hS rfl rfl (rsameD_c awS awS (A := B2) (St.ownSl (sz := 3) (enc := encEnt) (hsz := fun _ => rfl) (l := awS) (by decide) hS (by repeat (first | exact List.Mem.head _ | apply List.Mem.tail))) (St.ownSl (sz := 3) (enc := encEnt) (hsz := fun _ => rfl) (l := awS) (by decide) hS (by repeat (first | exact List.Mem.head _ | apply List.Mem.tail))) (by decide) (by decide)) rfl rfl rfl ?_; rintro v w rfl hS; rw [decide_eq_true rfl])
      | (refine WL.store hS rfl rfl rfl (by repeat (first | exact StB.here rfl | apply StB.there)) rfl rfl rfl ?_; intro w hS)
      | (refine WL.alloc hS rfl rfl rfl rfl rfl rfl ?_; intro w b hS)
      | refine WL.build rfl rfl rfl rfl rfl ?_)
    | (show WC _ _ _ _ _ _; first
      | refine WC.seq ?_
      | refine WC.region ?_
      | refine WC.ret ?_)
    | refine seqQ_n ?_)
  exact fin1r rfl rfl ⟨hS.upd, rfl⟩
end Go.Proofs.YtniacmoniaaolaaGreatDoor

/- What is proved: entries and conflicts as bytes: plain facts. Conditions: as each names them. -/
set_option linter.unusedSimpArgs false
set_option linter.unusedVariables false
namespace Go.Proofs.YtniacmoniaaolaaGreatDoor
open Go Go.J Go.RowKit

def entE (e : Ent) : List UInt8 := textE e.path ++ putN (zigN e.kind) ++ textE e.data
def entsE (t : List Ent) : List UInt8 := putN t.length ++ t.flatMap entE
def txtN (b : Bool) : Int := if b then 1 else 0
def cfE (c : Cf) : List UInt8 := textE c.path ++ entsE c.hub ++ entsE c.side ++ textE c.merged ++ putN (zigN (txtN c.text)) ++ putN (zigN c.choice) ++ textE c.given
def cfsE (l : List Cf) : List UInt8 := putN l.length ++ l.flatMap cfE
/-- an int -/
def I64 (n : Int) : Prop := -9223372036854775808 ≤ n ∧ n ≤ 9223372036854775807
/-- entries of at most so many bytes -/
def szEnts (t : List Ent) : Nat := (t.map fun e => e.path.length + e.data.length + 40).sum
def szCf (c : Cf) : Nat := c.path.length + c.merged.length + c.given.length + szEnts c.hub + szEnts c.side + 100
def szCfs (l : List Cf) : Nat := (l.map szCf).sum
theorem szEnts_cons (e : Ent) (t : List Ent) : szEnts (e :: t) = e.path.length + e.data.length + 40 + szEnts t := rfl
theorem szEnts_take (t : List Ent) {k : Nat} (h : k < t.length) : szEnts (t.take (k + 1)) = szEnts (t.take k) + (t[k].path.length + t[k].data.length + 40) := by
  unfold szEnts
  rw [List.take_succ_eq_append_getElem h, List.map_append, List.sum_append]
  simp
theorem szEnts_take_le (t : List Ent) (k : Nat) : szEnts (t.take k) ≤ szEnts t := by
  have : t = t.take k ++ t.drop k := (List.take_append_drop k t).symm
  have e : szEnts t = szEnts (t.take k) + szEnts (t.drop k) := by
    unfold szEnts
    rw [← List.sum_append, ← List.map_append, ← this]
  omega
theorem szEnts_len : ∀ t : List Ent, 40 * t.length ≤ szEnts t
  | [] => Nat.le_refl _
  | e :: t => by have := szEnts_len t; rw [szEnts_cons, List.length_cons]; omega
theorem szEnts_mem {t : List Ent} {e : Ent} (h : e ∈ t) : e.path.length + e.data.length + 40 ≤ szEnts t := by
  induction t with
  | nil => cases h
  | cons a t ih =>
    rw [szEnts_cons]
    rcases List.mem_cons.1 h with rfl | h
    · omega
    · have := ih h; omega
theorem szCfs_take (l : List Cf) {k : Nat} (h : k < l.length) : szCfs (l.take (k + 1)) = szCfs (l.take k) + szCf l[k] := by
  unfold szCfs
  rw [List.take_succ_eq_append_getElem h, List.map_append, List.sum_append]
  simp
theorem szCfs_take_le (l : List Cf) (k : Nat) : szCfs (l.take k) ≤ szCfs l := by
  have : l = l.take k ++ l.drop k := (List.take_append_drop k l).symm
  have e : szCfs l = szCfs (l.take k) + szCfs (l.drop k) := by
    unfold szCfs
    rw [← List.sum_append, ← List.map_append, ← this]
  omega
theorem szCfs_len : ∀ l : List Cf, 100 * l.length ≤ szCfs l
  | [] => Nat.le_refl _
  | c :: l => by
    have := szCfs_len l
    have e : szCfs (c :: l) = szCf c + szCfs l := rfl
    have : 100 ≤ szCf c := by unfold szCf; omega
    rw [e, List.length_cons]; omega
theorem szCfs_mem {l : List Cf} {c : Cf} (h : c ∈ l) : szCf c ≤ szCfs l := by
  induction l with
  | nil => cases h
  | cons a l ih =>
    have e : szCfs (a :: l) = szCf a + szCfs l := rfl
    rw [e]
    rcases List.mem_cons.1 h with rfl | h
    · omega
    · have := ih h; omega
theorem textE_le {s : List UInt8} (h : s.length < 18446744073709551616) : (textE s).length ≤ s.length + 10 := by
  have := putN_len10 h
  unfold textE
  rw [List.length_append]
  omega
theorem zig_len {n : Int} (h : I64 n) : (putN (zigN n)).length ≤ 10 := putN_len10 (zig_lt h)
theorem entE_le {e : Ent} (hk : I64 e.kind) (h : e.path.length + e.data.length ≤ 4294967296) : (entE e).length ≤ e.path.length + e.data.length + 30 := by
  have h1 := textE_le (s := e.path) (by omega)
  have h2 := textE_le (s := e.data) (by omega)
  have h3 := zig_len hk
  unfold entE
  rw [List.length_append, List.length_append]
  omega
theorem ents_le : ∀ {t : List Ent}, (∀ e ∈ t, I64 e.kind) → szEnts t ≤ 4294967296 → (t.flatMap entE).length ≤ szEnts t
  | [], _, _ => Nat.zero_le _
  | e :: t, h, hz => by
    rw [szEnts_cons] at hz ⊢
    have h1 := ents_le (t := t) (fun x hx => h x (List.mem_cons_of_mem _ hx)) (by omega)
    have h2 := entE_le (h e (List.mem_cons_self ..)) (by omega)
    rw [List.flatMap_cons, List.length_append]
    omega
theorem entsE_le {t : List Ent} (h : ∀ e ∈ t, I64 e.kind) (hz : szEnts t ≤ 4294967296) : (entsE t).length ≤ szEnts t + 10 := by
  have h1 := ents_le h hz
  have h2 := szEnts_len t
  have h3 := putN_len10 (n := t.length) (by omega)
  unfold entsE
  rw [List.length_append]
  omega
theorem txtN_I (b : Bool) : I64 (txtN b) := by cases b <;> exact ⟨by decide, by decide⟩
/-- conflicts whose numbers are ints -/
structure CfI (c : Cf) : Prop where
  choice : I64 c.choice
  hub : ∀ e ∈ c.hub, I64 e.kind
  side : ∀ e ∈ c.side, I64 e.kind
theorem cfE_le {c : Cf} (h : CfI c) (hz : szCf c ≤ 4294967296) : (cfE c).length ≤ szCf c := by
  unfold szCf at hz ⊢
  have h1 := textE_le (s := c.path) (by omega)
  have h2 := textE_le (s := c.merged) (by omega)
  have h3 := textE_le (s := c.given) (by omega)
  have h4 := entsE_le h.hub (by omega)
  have h5 := entsE_le h.side (by omega)
  have h6 := zig_len (txtN_I c.text)
  have h7 := zig_len h.choice
  unfold cfE
  simp only [List.length_append]
  omega
theorem cfs_le : ∀ {l : List Cf}, (∀ c ∈ l, CfI c) → szCfs l ≤ 4294967296 → (l.flatMap cfE).length ≤ szCfs l
  | [], _, _ => Nat.zero_le _
  | c :: l, h, hz => by
    have e : szCfs (c :: l) = szCf c + szCfs l := rfl
    rw [e] at hz ⊢
    have h1 := cfs_le (l := l) (fun x hx => h x (List.mem_cons_of_mem _ hx)) (by omega)
    have h2 := cfE_le (h c (List.mem_cons_self ..)) (by omega)
    rw [List.flatMap_cons, List.length_append]
    omega
theorem cfsE_le {l : List Cf} (h : ∀ c ∈ l, CfI c) (hz : szCfs l ≤ 4294967296) : (cfsE l).length ≤ szCfs l + 10 := by
  have h1 := cfs_le h hz
  have h2 := szCfs_len l
  have h3 := putN_len10 (n := l.length) (by omega)
  unfold cfsE
  rw [List.length_append]
  omega
theorem flat_take {α : Type} (f : α → List UInt8) (l : List α) {k : Nat} (h : k < l.length) : (l.take (k + 1)).flatMap f = (l.take k).flatMap f ++ f l[k] := by
  rw [List.take_succ_eq_append_getElem h, List.flatMap_append]
  simp
theorem flat_drop {α : Type} (f : α → List UInt8) (l : List α) {k : Nat} (h : k < l.length) : (l.drop k).flatMap f = f l[k] ++ (l.drop (k + 1)).flatMap f := by
  rw [List.drop_eq_getElem_cons h, List.flatMap_cons]
end Go.Proofs.YtniacmoniaaolaaGreatDoor
