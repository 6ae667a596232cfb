/- What is proved: contracts and plain facts that the law leans on (texts put together). Conditions: as each names them. -/
import Derived.Test.YtccfiohagbneaaaGreatDoorM3
set_option linter.unusedSimpArgs false
set_option linter.unusedVariables false
set_option linter.unusedSectionVars false
/- What is proved: what the reference's disk does: Append and Sync. Conditions: a disk without limits, of bounded size. -/
namespace Go.Proofs.YtccfiohagbneaaaGreatDoor
open Go Go.J Go.RowKit
theorem there_file (D : Dk) (p : List UInt8) : thereE D p = D.file p := by
  unfold thereE Dk.file Dk.kind
  cases D.has p <;> cases (D.at p).dir <;> simp
section
variable {dk : Nat} {A : Option Addr} {cap : Nat} {l : List Ri} {D : Dk} {w0 : World}
theorem rfplaceY_c (p : List UInt8) {it : It} (hR : RepL l D.items) (hg : mget D.items p = some it) (hA : RfAt dk A cap l D w0) (hl : l.length ≤ 1048576) :
    Cal Tryz.prog 84 [.pointer (some ⟨dk, 0, none⟩), str p] w0 (fun v w' => Upd [] w0 w' ∧ ∃ i : Nat, l[i]? = some ⟨p, it⟩ ∧ v = .int .i64 (i : Int)) :=
  (rfplace_c p hA hl).mono fun v w' ⟨hu, hp⟩ => ⟨hu, by
    rcases hp with ⟨hp, _⟩ | ⟨i, hi, he, hv⟩
    · exact absurd rfl (hp _ (hR.at_ hg))
    · refine ⟨i, ?_, hv⟩
      have h2 := hR.mem (List.getElem_mem hi)
      rw [he, hg] at h2
      have h3 := Option.some.inj h2
      rw [List.getElem?_eq_getElem hi]
      obtain ⟨q, j⟩ : ∃ x, x = l[i] := ⟨_, rfl⟩
      rw [← j] at he h3 ⊢
      cases q
      simp only at he h3
      rw [he, h3]⟩
theorem rf_pos {p : List UInt8} {it : It} (hR : RepL l D.items) (hg : mget D.items p = some it) : 0 < l.length := List.length_pos_of_mem (hR.at_ hg)
theorem file_get {p : List UInt8} (h : D.file p = 0) : D.may p 1 = 0 ∧ ∃ it, mget D.items p = some it ∧ D.at p = it ∧ it.dir = false := by
  unfold Dk.file Dk.has Dk.at at h
  by_cases hm : D.may p 1 = 0
  · rw [if_neg (fun e => e hm)] at h
    refine ⟨hm, ?_⟩
    unfold Dk.at
    cases hg : mget D.items p with
    | none => rw [hg] at h; simp at h
    | some it =>
      rw [hg] at h
      refine ⟨it, rfl, rfl, ?_⟩
      cases hd : it.dir
      · rfl
      · simp [hd] at h
  · rw [if_pos hm] at h; exact absurd h hm
end
theorem step_items (D : Dk) : D.step.items = D.items := by unfold Dk.step; split <;> rfl
set_option maxHeartbeats 16000000 in
set_option maxRecDepth 100000 in
theorem rfappend_c {dk : Nat} {D : Dk} {fp : List Nat} (p data : List UInt8) {w0 : World} (hi : InL w0 [rfC dk D fp]) (hp : p.length ≤ 1099511627) (hn : D.items.length ≤ 1048576) (hdl : (D.at p).data.length + data.length ≤ 1099511627776) :
    Cal Tryz.prog 25 [.pointer (some ⟨dk, 0, none⟩), str p, str data] w0 (fun v w' => v = .int .i64 (D.append p data).1 ∧ ∃ fp', MutL w0 w' [rfC dk D fp] [rfC dk (D.append p data).2 fp']) := by
  refine Cal.mkL hi (by kernel_rfl) Tryz.func25 rfl rfl fun hS => ?_
  obtain ⟨_, ⟨A, cap, l, hR, rfl⟩, hfp, hS⟩ := St.objOpen hS
  replace hS : St w0 _ w0 (rfL dk A cap l D) _ := hS
  have hl : l.length ≤ 1048576 := by rw [hR.len]; exact hn
  have hth := fun (w : World) (h : RfAt dk A cap l D w) => rfthere_c p hR h hl hp
  rw [there_file] at hth
  unfold Dk.append
  by_cases he : D.file p = 0
  · rw [if_neg (fun e => e he)]
    rw [he] at hth
    obtain ⟨hmay, it, hg, hat, hdir⟩ := file_get he
    have hat2 : D.step.at p = it := by unfold Dk.at; rw [step_items, hg]; rfl
    rw [hat] at hdl
    rw [hat2]
    by_cases hs : D.stepE = 0
    · rw [if_neg (fun e => e hs)]
      have hg2 : mget D.step.items p = some it := by rw [step_items]; exact hg
      have hR2 : RepL l D.step.items := by rw [step_items]; exact hR
      have hpl := fun (w : World) (h : RfAt dk A cap l D.step w) => rfplaceY_c p hR2 hg2 h hl
      obtain ⟨kg, ko, rfl⟩ := hS.own_addr (A := A) (n := l.length) Mm (rf_pos hR hg)
      obtain ⟨dir, dat, kept, loose, anew, stamp⟩ := it
      dsimp only at hdir hdl ⊢
      subst hdir
      have hput := fun (w : World) (hI : InL w (rfL dk (some ⟨kg, ko, none⟩) cap l { D.step with stamps := IntKind.i64.wrap (D.step.stamps + 1) })) => rfput_c ⟨p, ⟨false, dat ++ data, kept, true, anew, IntKind.i64.wrap (D.step.stamps + 1)⟩⟩ (D := { D.step with stamps := IntKind.i64.wrap (D.step.stamps + 1) }) hR2 hI hl
      repeat' (first | (show WL _ _ _ _ _ _ _; first | refine WL.cat (a := dat) (b := data) rfl rfl rfl (by omega) rfl rfl rfl ?_ | refine WL.pure rfl rfl rfl rfl ?_ | refine WL.nil ?_ | refine WL.load hS rfl rfl (LdOk.box Mm rfl) rfl rfl rfl ?_ | (refine WL.calls hS rfl rfl (hth _ (St.rfAt hS Mm Mm)) rfl rfl rfl ?_; rintro v w rfl hS) | (refine WL.calls hS rfl rfl (rffits_c p _ (St.rfAt hS Mm Mm)) rfl rfl rfl ?_; rintro v w rfl hS) | (refine WL.callL (D := rfL dk (some ⟨kg, ko, none⟩) cap l D) hS Pu rfl rfl (fun hI => rfdone_c hI) rfl rfl rfl ?_; rintro v w ⟨rfl, hm⟩ hS; replace hS := hS _ hm; clear hm; rw [hs]) | (refine WL.callL (D := rfL dk (some ⟨kg, ko, none⟩) cap l D.step) hS Pu rfl rfl (fun hI => rfstamped_c ⟨p, ⟨false, dat ++ data, kept, true, anew, stamp⟩⟩ hI) rfl rfl rfl ?_; rintro v w ⟨rfl, hm⟩ hS; replace hS := hS _ hm; clear hm) | (refine WL.callL (D := rfL dk (some ⟨kg, ko, none⟩) cap l { D.step with stamps := IntKind.i64.wrap (D.step.stamps + 1) }) hS Pu rfl rfl (fun hI => hput _ hI) rfl rfl rfl ?_; rintro v w ⟨rfl, A', cap', l', hR', hm⟩ hS; replace hS := hS _ hm; clear hm) | (refine WL.store hS rfl rfl rfl Sb rfl rfl rfl ?_; intro w hS)) | (show WC _ _ _ _ _ _; first | refine WC.seq ?_ | refine WC.region ?_ | refine WC.skip ?_ | refine WC.ret ?_ | (show WC _ _ (Code.region _ (List.toArray [_, _, _, _, _, _, _, _, _, _, _]) true) _ _ _; refine WC.drawP hS [0,1,2,3,4,5,7,8] [0,1,2,3,4,5] (.two 6 [7,8,9,10] .nil 9 [6,7,8,10] .nil) (by kernel_rfl) (by kernel_rfl) ?_; clear hS; intro w hS hM) | refine WC.condT rfl (by decide) ?_ | refine WC.condF rfl (by decide) ?_) | (show WD _ _ _ _ _ _ _ _ _; first | refine WD.pure rfl rfl rfl rfl rfl ?_ | refine WD.nil ?_ | refine WD.load rfl rfl (LdOk.box Mm rfl) rfl rfl rfl rfl ?_ | (refine WD.fork ?_ ?_) | (refine WD.alloc (t := 110) hS hM rfl rfl rfl rfl rfl rfl rfl rfl ?_; clear hS hM; intro w b hS hM) | (refine WD.calls hS hM rfl rfl (hpl _ (St.rfAt hS Mm Mm)) rfl rfl rfl rfl rfl ?_; clear hS; rintro v w ⟨i, hli, rfl⟩ hS; have hil := (List.getElem?_eq_some_iff.1 hli).1) | (refine WD.load rfl rfl (LdOk.ownElemE (enc := encRi) (k := i) (fun _ => rfl) Mm hli rfl rfl) rfl rfl rfl rfl ?_) | (refine WD.store hS rfl rfl rfl Sb rfl (by first | exact .refl _ _ | exact .chunk (.refl _ _) _ | exact .chunk (.chunk (.refl _ _) _) _) rfl rfl rfl rfl ?_; clear hS hM; intro w hS hM) | refine WD.index rfl rfl rfl rfl (by first | with_reducible assumption | omega) rfl rfl rfl rfl rfl ?_) | (refine WDo.alloc (t := 110) hS hM rfl rfl rfl rfl rfl rfl rfl ?_; clear hS hM; intro w b hS hM) | (refine WDo.calls hS hM rfl rfl (hpl _ (St.rfAt hS Mm Mm)) rfl rfl rfl rfl ?_; clear hS; rintro v w ⟨i, hli, rfl⟩ hS; have hil := (List.getElem?_eq_some_iff.1 hli).1) | refine seqQ_n ?_)
      all_goals
        have hS := St.objClose (φ := rfφ dk (D.step.set p ⟨false, dat ++ data, kept, true, anew, stamp⟩)) (hS.pulls (D := rfL dk A' cap' l' (D.step.set p ⟨false, dat ++ data, kept, true, anew, stamp⟩)) Pu) ⟨A', cap', l', hR', rfl⟩
        exact fin1r rfl rfl ⟨rfl, _, hS.mutLp Pu⟩
    · rw [if_pos hs]
      have hR2 : RepL l D.step.items := by rw [step_items]; exact hR
      repeat' (first | (show WL _ _ _ _ _ _ _; first | refine WL.pure rfl rfl rfl rfl ?_ | refine WL.nil ?_ | (refine WL.calls hS rfl rfl (hth _ (St.rfAt hS Mm Mm)) rfl rfl rfl ?_; rintro v w rfl hS) | (refine WL.calls hS rfl rfl (rffits_c p _ (St.rfAt hS Mm Mm)) rfl rfl rfl ?_; rintro v w rfl hS) | (refine WL.callL (D := rfL dk A cap l D) hS Pu rfl rfl (fun hI => rfdone_c hI) rfl rfl rfl ?_; rintro v w ⟨rfl, hm⟩ hS; replace hS := hS _ hm; clear hm)) | (show WC _ _ _ _ _ _; first | refine WC.seq ?_ | refine WC.region ?_ | refine WC.skip ?_ | refine WC.ret ?_ | refine WC.condF rfl (by decide) ?_ | refine WC.condF rfl (decide_eq_false (by first | with_reducible assumption | omega)) ?_) | refine seqQ_n ?_)
      have hS := St.objClose (φ := rfφ dk D.step) (hS.pulls (D := rfL dk A cap l D.step) Pu) ⟨A, cap, l, hR2, rfl⟩
      exact fin1r rfl rfl ⟨rfl, _, hS.mutLp Pu⟩
  · rw [if_pos he]
    repeat' (first | (show WL _ _ _ _ _ _ _; first | refine WL.pure rfl rfl rfl rfl ?_ | refine WL.nil ?_ | (refine WL.calls hS rfl rfl (hth _ (St.rfAt hS Mm Mm)) rfl rfl rfl ?_; rintro v w rfl hS)) | (show WC _ _ _ _ _ _; first | refine WC.seq ?_ | refine WC.region ?_ | refine WC.ret ?_ | refine WC.condT rfl (decide_eq_true (by first | with_reducible assumption | omega)) ?_) | refine seqQ_n ?_ | refine seqQ_r ?_)
    have hS := St.objClose (φ := rfφ dk D) (hS.pulls (D := rfL dk A cap l D) Pu) ⟨A, cap, l, hR, rfl⟩
    exact fin1r rfl rfl ⟨rfl, _, hS.mutLp Pu⟩
set_option maxHeartbeats 16000000 in
set_option maxRecDepth 100000 in
theorem rfsync_c {dk : Nat} {D : Dk} {fp : List Nat} (p : List UInt8) {w0 : World} (hi : InL w0 [rfC dk D fp]) (hp : p.length ≤ 1099511627) (hn : D.items.length ≤ 1048576) :
    Cal Tryz.prog 74 [.pointer (some ⟨dk, 0, none⟩), str p] w0 (fun v w' => v = .int .i64 (D.sync p).1 ∧ ∃ fp', MutL w0 w' [rfC dk D fp] [rfC dk (D.sync p).2 fp']) := by
  refine Cal.mkL hi (by kernel_rfl) Tryz.func74 rfl rfl fun hS => ?_
  obtain ⟨_, ⟨A, cap, l, hR, rfl⟩, hfp, hS⟩ := St.objOpen hS
  replace hS : St w0 _ w0 (rfL dk A cap l D) _ := hS
  have hl : l.length ≤ 1048576 := by rw [hR.len]; exact hn
  have hth := fun (w : World) (h : RfAt dk A cap l D w) => rfthere_c p hR h hl hp
  rw [there_file] at hth
  unfold Dk.sync
  by_cases he : D.file p = 0
  · rw [if_neg (fun e => e he)]
    rw [he] at hth
    obtain ⟨hmay, it, hg, hat, hdir⟩ := file_get he
    have hat2 : D.step.at p = it := by unfold Dk.at; rw [step_items, hg]; rfl
    rw [hat2]
    by_cases hs : D.stepE = 0
    · rw [if_neg (fun e => e hs)]
      have hg2 : mget D.step.items p = some it := by rw [step_items]; exact hg
      have hR2 : RepL l D.step.items := by rw [step_items]; exact hR
      have hpl := fun (w : World) (h : RfAt dk A cap l D.step w) => rfplaceY_c p hR2 hg2 h hl
      obtain ⟨kg, ko, rfl⟩ := hS.own_addr (A := A) (n := l.length) Mm (rf_pos hR hg)
      obtain ⟨dir, dat, kept, loose, anew, stamp⟩ := it
      dsimp only at hdir ⊢
      subst hdir
      have hput := fun (w : World) (hI : InL w (rfL dk (some ⟨kg, ko, none⟩) cap l D.step)) => rfput_c ⟨p, ⟨false, dat, dat, false, false, stamp⟩⟩ (D := D.step) hR2 hI hl
      repeat' (first | (show WL _ _ _ _ _ _ _; first | refine WL.pure rfl rfl rfl rfl ?_ | refine WL.nil ?_ | refine WL.load hS rfl rfl (LdOk.box Mm rfl) rfl rfl rfl ?_ | (refine WL.calls hS rfl rfl (hth _ (St.rfAt hS Mm Mm)) rfl rfl rfl ?_; rintro v w rfl hS) | (refine WL.callL (D := rfL dk (some ⟨kg, ko, none⟩) cap l D) hS Pu rfl rfl (fun hI => rfdone_c hI) rfl rfl rfl ?_; rintro v w ⟨rfl, hm⟩ hS; replace hS := hS _ hm; clear hm; rw [hs]) | (refine WL.callL (D := rfL dk (some ⟨kg, ko, none⟩) cap l D.step) hS Pu rfl rfl (fun hI => hput _ hI) rfl rfl rfl ?_; rintro v w ⟨rfl, A', cap', l', hR', hm⟩ hS; replace hS := hS _ hm; clear hm) | (refine WL.store hS rfl rfl rfl Sb rfl rfl rfl ?_; intro w hS)) | (show WC _ _ _ _ _ _; first | refine WC.seq ?_ | refine WC.region ?_ | refine WC.skip ?_ | refine WC.ret ?_ | (show WC _ _ (Code.region _ (List.toArray [_, _, _, _, _, _, _, _, _, _, _]) true) _ _ _; refine WC.drawP hS [0,1,2,3,4,5,7,8] [0,1,2,3,4,5] (.two 6 [7,8,9,10] .nil 9 [6,7,8,10] .nil) (by kernel_rfl) (by kernel_rfl) ?_; clear hS; intro w hS hM) | refine WC.condT rfl (by decide) ?_ | refine WC.condF rfl (by decide) ?_) | (show WD _ _ _ _ _ _ _ _ _; first | refine WD.pure rfl rfl rfl rfl rfl ?_ | refine WD.nil ?_ | refine WD.load rfl rfl (LdOk.box Mm rfl) rfl rfl rfl rfl ?_ | (refine WD.fork ?_ ?_) | (refine WD.alloc (t := 110) hS hM rfl rfl rfl rfl rfl rfl rfl rfl ?_; clear hS hM; intro w b hS hM) | (refine WD.calls hS hM rfl rfl (hpl _ (St.rfAt hS Mm Mm)) rfl rfl rfl rfl rfl ?_; clear hS; rintro v w ⟨i, hli, rfl⟩ hS; have hil := (List.getElem?_eq_some_iff.1 hli).1) | (refine WD.load rfl rfl (LdOk.ownElemE (enc := encRi) (k := i) (fun _ => rfl) Mm hli rfl rfl) rfl rfl rfl rfl ?_) | (refine WD.store hS rfl rfl rfl Sb rfl (by first | exact .refl _ _ | exact .chunk (.refl _ _) _ | exact .chunk (.chunk (.refl _ _) _) _) rfl rfl rfl rfl ?_; clear hS hM; intro w hS hM) | refine WD.index rfl rfl rfl rfl (by first | with_reducible assumption | omega) rfl rfl rfl rfl rfl ?_) | (refine WDo.alloc (t := 110) hS hM rfl rfl rfl rfl rfl rfl rfl ?_; clear hS hM; intro w b hS hM) | (refine WDo.calls hS hM rfl rfl (hpl _ (St.rfAt hS Mm Mm)) rfl rfl rfl rfl ?_; clear hS; rintro v w ⟨i, hli, rfl⟩ hS; have hil := (List.getElem?_eq_some_iff.1 hli).1) | refine seqQ_n ?_)
      all_goals
        have hS := St.objClose (φ := rfφ dk { D.step with items := mset D.step.items p ⟨false, dat, dat, false, false, stamp⟩ }) (hS.pulls (D := rfL dk A' cap' l' { D.step with items := mset D.step.items p ⟨false, dat, dat, false, false, stamp⟩ }) Pu) ⟨A', cap', l', hR', rfl⟩
        exact fin1r rfl rfl ⟨rfl, _, hS.mutLp Pu⟩
    · rw [if_pos hs]
      have hR2 : RepL l D.step.items := by rw [step_items]; exact hR
      repeat' (first | (show WL _ _ _ _ _ _ _; first | refine WL.pure rfl rfl rfl rfl ?_ | refine WL.nil ?_ | (refine WL.calls hS rfl rfl (hth _ (St.rfAt hS Mm Mm)) rfl rfl rfl ?_; rintro v w rfl hS) | (refine WL.callL (D := rfL dk A cap l D) hS Pu rfl rfl (fun hI => rfdone_c hI) rfl rfl rfl ?_; rintro v w ⟨rfl, hm⟩ hS; replace hS := hS _ hm; clear hm)) | (show WC _ _ _ _ _ _; first | refine WC.seq ?_ | refine WC.region ?_ | refine WC.skip ?_ | refine WC.ret ?_ | refine WC.condF rfl (by decide) ?_ | refine WC.condF rfl (decide_eq_false (by first | with_reducible assumption | omega)) ?_) | refine seqQ_n ?_)
      have hS := St.objClose (φ := rfφ dk D.step) (hS.pulls (D := rfL dk A cap l D.step) Pu) ⟨A, cap, l, hR2, rfl⟩
      exact fin1r rfl rfl ⟨rfl, _, hS.mutLp Pu⟩
  · rw [if_pos he]
    repeat' (first | (show WL _ _ _ _ _ _ _; first | refine WL.pure rfl rfl rfl rfl ?_ | refine WL.nil ?_ | (refine WL.calls hS rfl rfl (hth _ (St.rfAt hS Mm Mm)) rfl rfl rfl ?_; rintro v w rfl hS)) | (show WC _ _ _ _ _ _; first | refine WC.seq ?_ | refine WC.region ?_ | refine WC.ret ?_ | refine WC.condT rfl (decide_eq_true (by first | with_reducible assumption | omega)) ?_) | refine seqQ_n ?_ | refine seqQ_r ?_)
    have hS := St.objClose (φ := rfφ dk D) (hS.pulls (D := rfL dk A cap l D) Pu) ⟨A, cap, l, hR, rfl⟩
    exact fin1r rfl rfl ⟨rfl, _, hS.mutLp Pu⟩
end Go.Proofs.YtccfiohagbneaaaGreatDoor

/- What is proved: what the reference's disk does: Mkdir and Write. Conditions: a disk without limits, of bounded size. -/
namespace Go.Proofs.YtccfiohagbneaaaGreatDoor
open Go Go.J Go.RowKit
theorem may_ok {D : Dk} {p : List UInt8} {n : Int} (h : D.may p n = 0) : checkE p 6 = 0 ∧ n < deepE p := by
  unfold Dk.may at h
  split at h
  · exact absurd h (by decide)
  · split at h
    · exact absurd h (by decide)
    · rename_i hc
      split at h
      · exact absurd h (by decide)
      · exact ⟨Classical.byContradiction hc, by omega⟩
theorem parent_nil {p : List UInt8} (h : checkE p 6 = 0) : parentE p = [] ↔ deepE p = 1 := by
  have hne : p ≠ [] := by rintro rfl; exact absurd h (by decide)
  have hg := lastE_ge p
  have hall : (splitL p).all nameB = true := by
    cases ha : (splitL p).all nameB
    · unfold checkE at h; rw [ha] at h; simp at h
    · rfl
  have hpt := parts p hall
  by_cases h0 : lastE p < 0
  · have e1 : lastE p = -1 := by omega
    have hn : p.count 47 = 0 := count_none p fun i hi => lastL_no p p.length (Nat.le_refl _) i (by show lastE p < _; omega) hi
    refine ⟨fun _ => ?_, fun _ => ?_⟩
    · unfold deepE; rw [if_neg hne, hn]; rfl
    · unfold parentE; rw [e1]; rfl
  · obtain ⟨m, hm⟩ := Int.eq_ofNat_of_zero_le (show 0 ≤ lastE p by omega)
    have hat := lastL_at p p.length m hm
    have hmem : (47 : UInt8) ∈ p := List.mem_of_getElem? hat
    have hc : 0 < p.count 47 := List.count_pos_iff.2 hmem
    refine ⟨fun e => ?_, fun e => ?_⟩
    · have hb := hpt.1
      rw [e] at hb
      have hb : baseE p = p := by unfold joinE at hb; rw [if_pos rfl] at hb; exact hb
      have hl := congrArg List.length hb
      unfold baseE at hl
      rw [List.length_drop] at hl
      have : 0 < p.length := List.length_pos_iff.2 hne
      omega
    · exfalso
      unfold deepE at e
      rw [if_neg hne] at e
      omega
theorem home_under {D : Dk} {p : List UInt8} (h : checkE p 6 = 0) : homeE D p = D.under p := by
  unfold homeE Dk.under
  by_cases h1 : deepE p = 1
  · rw [if_pos ((parent_nil h).2 h1), if_pos h1]
  · rw [if_neg (fun e => h1 ((parent_nil h).1 e)), if_neg h1]
    unfold Dk.kind Dk.has Dk.at
    cases hg : mget D.items (parentE p) with
    | none => rfl
    | some it =>
      dsimp only [Option.isSome, Option.getD]
      obtain ⟨dir, data, kept, loose, anew, stamp⟩ := it
      cases dir <;> rfl
set_option maxHeartbeats 16000000 in
set_option maxRecDepth 100000 in
theorem rfmkdir_c {dk : Nat} {D : Dk} {fp : List Nat} (p : List UInt8) {w0 : World} (hi : InL w0 [rfC dk D fp]) (hp : p.length ≤ 1099511627) (hn : D.items.length ≤ 1048576) :
    Cal Tryz.prog 12 [.pointer (some ⟨dk, 0, none⟩), str p] w0 (fun v w' => v = .int .i64 (D.mkdir p).1 ∧ ∃ fp', MutL w0 w' [rfC dk D fp] [rfC dk (D.mkdir p).2 fp']) := by
  refine Cal.mkL hi (by kernel_rfl) Tryz.func12 rfl rfl fun hS => ?_
  obtain ⟨_, ⟨A, cap, l, hR, rfl⟩, hfp, hS⟩ := St.objOpen hS
  replace hS : St w0 _ w0 (rfL dk A cap l D) _ := hS
  have hl : l.length ≤ 1048576 := by rw [hR.len]; exact hn
  have hmay := fun (w : World) (h : RfAt dk A cap l D w) => rffirst_c p 0 h hp
  have hkc := fun (w : World) (h : RfAt dk A cap l D w) => rfkind_c p hR h hl
  have hhc := fun (w : World) (h : RfAt dk A cap l D w) => rfhome_c p hR h hl hp
  unfold Dk.mkdir
  have hR2 : RepL l D.step.items := by rw [step_items]; exact hR
  by_cases he : D.may p 0 = 0
  · rw [if_neg (fun e => e he)]
    rw [he] at hmay
    rw [home_under (may_ok he).1] at hhc
    cases hu : D.under p
    · rw [if_pos rfl]
      rw [hu] at hhc
      repeat' (first | (show WL _ _ _ _ _ _ _; first | refine WL.pure rfl rfl rfl rfl ?_ | refine WL.nil ?_ | (refine WL.calls hS rfl rfl (hmay _ (St.rfAt hS Mm Mm)) rfl rfl rfl ?_; rintro v w rfl hS) | (refine WL.calls hS rfl rfl (hhc _ (St.rfAt hS Mm Mm)) rfl rfl rfl ?_; rintro v w rfl hS)) | (show WC _ _ _ _ _ _; first | refine WC.seq ?_ | refine WC.region ?_ | refine WC.skip ?_ | refine WC.ret ?_ | refine WC.condT rfl (by decide) ?_ | refine WC.condF rfl (by decide) ?_) | refine seqQ_n ?_ | refine seqQ_r ?_)
      have hS := St.objClose (φ := rfφ dk D) (hS.pulls (D := rfL dk A cap l D) Pu) ⟨A, cap, l, hR, rfl⟩
      exact fin1r rfl rfl ⟨rfl, _, hS.mutLp Pu⟩
    · rw [if_neg (by decide)]
      rw [hu] at hhc
      by_cases hf : D.has p = true ∧ (D.at p).dir = false
      · rw [if_pos hf]
        have hk2 : D.kind p = 2 := by unfold Dk.kind; rw [if_pos hf.1, if_neg (by rw [hf.2]; decide)]
        rw [hk2] at hkc
        repeat' (first | (show WL _ _ _ _ _ _ _; first | refine WL.pure rfl rfl rfl rfl ?_ | refine WL.nil ?_ | (refine WL.calls hS rfl rfl (hmay _ (St.rfAt hS Mm Mm)) rfl rfl rfl ?_; rintro v w rfl hS) | (refine WL.calls hS rfl rfl (hhc _ (St.rfAt hS Mm Mm)) rfl rfl rfl ?_; rintro v w rfl hS) | (refine WL.calls hS rfl rfl (hkc _ (St.rfAt hS Mm Mm)) rfl rfl rfl ?_; rintro v w rfl hS)) | (show WC _ _ _ _ _ _; first | refine WC.seq ?_ | refine WC.region ?_ | refine WC.skip ?_ | refine WC.ret ?_ | refine WC.condT rfl (by decide) ?_ | refine WC.condF rfl (by decide) ?_) | refine seqQ_n ?_ | refine seqQ_r ?_)
        have hS := St.objClose (φ := rfφ dk D) (hS.pulls (D := rfL dk A cap l D) Pu) ⟨A, cap, l, hR, rfl⟩
        exact fin1r rfl rfl ⟨rfl, _, hS.mutLp Pu⟩
      · rw [if_neg hf]
        have hk2 : D.kind p ≠ 2 := by
          unfold Dk.kind
          cases h1 : D.has p
          · simp
          · cases h2 : (D.at p).dir
            · exact absurd ⟨h1, h2⟩ hf
            · simp
        generalize D.kind p = kd at *
        clear hf
        by_cases hs : D.stepE = 0
        · rw [if_neg (fun e => e hs)]
          have hput := fun (w : World) (hI : InL w (rfL dk A cap l D.step)) => rfput_c ⟨p, { It0 with dir := true }⟩ (D := D.step) hR2 hI hl
          repeat' (first | (show WL _ _ _ _ _ _ _; first | refine WL.pure rfl rfl rfl rfl ?_ | refine WL.nil ?_ | (refine WL.calls hS rfl rfl (hmay _ (St.rfAt hS Mm Mm)) rfl rfl rfl ?_; rintro v w rfl hS) | (refine WL.calls hS rfl rfl (hhc _ (St.rfAt hS Mm Mm)) rfl rfl rfl ?_; rintro v w rfl hS) | (refine WL.calls hS rfl rfl (hkc _ (St.rfAt hS Mm Mm)) rfl rfl rfl ?_; rintro v w rfl hS) | (refine WL.callL (D := rfL dk A cap l D) hS Pu rfl rfl (fun hI => rfdone_c hI) rfl rfl rfl ?_; rintro v w ⟨rfl, hm⟩ hS; replace hS := hS _ hm; clear hm; rw [hs]) | (refine WL.callL (D := rfL dk A cap l D.step) hS Pu rfl rfl (fun hI => hput _ hI) rfl rfl rfl ?_; rintro v w ⟨rfl, A', cap', l', hR', hm⟩ hS; replace hS := hS _ hm; clear hm) | refine WL.build rfl rfl rfl rfl rfl ?_) | (show WC _ _ _ _ _ _; first | refine WC.seq ?_ | refine WC.region ?_ | refine WC.skip ?_ | refine WC.ret ?_ | refine WC.condT rfl (by decide) ?_ | refine WC.condF rfl (by decide) ?_ | refine WC.condF rfl (decide_eq_false (by first | with_reducible assumption | omega)) ?_) | refine seqQ_n ?_)
          have hS := St.objClose (φ := rfφ dk { D.step with items := mset D.step.items p { It0 with dir := true } }) (hS.pulls (D := rfL dk A' cap' l' { D.step with items := mset D.step.items p { It0 with dir := true } }) Pu) ⟨A', cap', l', hR', rfl⟩
          exact fin1r rfl rfl ⟨rfl, _, hS.mutLp Pu⟩
        · rw [if_pos hs]
          repeat' (first | (show WL _ _ _ _ _ _ _; first | refine WL.pure rfl rfl rfl rfl ?_ | refine WL.nil ?_ | (refine WL.calls hS rfl rfl (hmay _ (St.rfAt hS Mm Mm)) rfl rfl rfl ?_; rintro v w rfl hS) | (refine WL.calls hS rfl rfl (hhc _ (St.rfAt hS Mm Mm)) rfl rfl rfl ?_; rintro v w rfl hS) | (refine WL.calls hS rfl rfl (hkc _ (St.rfAt hS Mm Mm)) rfl rfl rfl ?_; rintro v w rfl hS) | (refine WL.callL (D := rfL dk A cap l D) hS Pu rfl rfl (fun hI => rfdone_c hI) rfl rfl rfl ?_; rintro v w ⟨rfl, hm⟩ hS; replace hS := hS _ hm; clear hm)) | (show WC _ _ _ _ _ _; first | refine WC.seq ?_ | refine WC.region ?_ | refine WC.skip ?_ | refine WC.ret ?_ | refine WC.condF rfl (by decide) ?_ | refine WC.condF rfl (decide_eq_false (by first | with_reducible assumption | omega)) ?_) | refine seqQ_n ?_)
          have hS := St.objClose (φ := rfφ dk D.step) (hS.pulls (D := rfL dk A cap l D.step) Pu) ⟨A, cap, l, hR2, rfl⟩
          exact fin1r rfl rfl ⟨rfl, _, hS.mutLp Pu⟩
  · rw [if_pos he]
    repeat' (first | (show WL _ _ _ _ _ _ _; first | refine WL.pure rfl rfl rfl rfl ?_ | refine WL.nil ?_ | (refine WL.calls hS rfl rfl (hmay _ (St.rfAt hS Mm Mm)) rfl rfl rfl ?_; rintro v w rfl hS)) | (show WC _ _ _ _ _ _; first | refine WC.seq ?_ | refine WC.region ?_ | refine WC.ret ?_ | refine WC.condT rfl (decide_eq_true (by first | with_reducible assumption | omega)) ?_) | refine seqQ_n ?_ | refine seqQ_r ?_)
    have hS := St.objClose (φ := rfφ dk D) (hS.pulls (D := rfL dk A cap l D) Pu) ⟨A, cap, l, hR, rfl⟩
    exact fin1r rfl rfl ⟨rfl, _, hS.mutLp Pu⟩
set_option maxHeartbeats 16000000 in
set_option maxRecDepth 100000 in
theorem rfwrite_c {dk : Nat} {D : Dk} {fp : List Nat} (p data : List UInt8) {w0 : World} (hi : InL w0 [rfC dk D fp]) (hp : p.length ≤ 1099511627) (hn : D.items.length ≤ 1048576) (hdl : data.length ≤ 1099511627776) (hal : (D.at p).data.length ≤ 1099511627776) :
    Cal Tryz.prog 131 [.pointer (some ⟨dk, 0, none⟩), str p, str data] w0 (fun v w' => v = .int .i64 (D.write p data).1 ∧ ∃ fp', MutL w0 w' [rfC dk D fp] [rfC dk (D.write p data).2 fp']) := by
  refine Cal.mkL hi (by kernel_rfl) Tryz.func131 rfl rfl fun hS => ?_
  obtain ⟨_, ⟨A, cap, l, hR, rfl⟩, hfp, hS⟩ := St.objOpen hS
  replace hS : St w0 _ w0 (rfL dk A cap l D) _ := hS
  have hl : l.length ≤ 1048576 := by rw [hR.len]; exact hn
  have hmay := fun (w : World) (h : RfAt dk A cap l D w) => rffirst_c p 1 h hp
  have hkc := fun (w : World) (h : RfAt dk A cap l D w) => rfkind_c p hR h hl
  have hhc := fun (w : World) (h : RfAt dk A cap l D w) => rfhome_c p hR h hl hp
  unfold Dk.write
  have hR2 : RepL l D.step.items := by rw [step_items]; exact hR
  by_cases he : D.may p 1 = 0
  · rw [if_neg (fun e => e he)]
    rw [he] at hmay
    rw [home_under (may_ok he).1] at hhc
    cases hu : D.under p
    · rw [if_pos rfl]
      rw [hu] at hhc
      repeat' (first | (show WL _ _ _ _ _ _ _; first | refine WL.pure rfl rfl rfl rfl ?_ | refine WL.nil ?_ | (refine WL.calls hS rfl rfl (hmay _ (St.rfAt hS Mm Mm)) rfl rfl rfl ?_; rintro v w rfl hS) | (refine WL.calls hS rfl rfl (hhc _ (St.rfAt hS Mm Mm)) rfl rfl rfl ?_; rintro v w rfl hS)) | (show WC _ _ _ _ _ _; first | refine WC.seq ?_ | refine WC.region ?_ | refine WC.skip ?_ | refine WC.ret ?_ | refine WC.condT rfl (by decide) ?_ | refine WC.condF rfl (by decide) ?_) | refine seqQ_n ?_ | refine seqQ_r ?_)
      have hS := St.objClose (φ := rfφ dk D) (hS.pulls (D := rfL dk A cap l D) Pu) ⟨A, cap, l, hR, rfl⟩
      exact fin1r rfl rfl ⟨rfl, _, hS.mutLp Pu⟩
    · rw [if_neg (by decide)]
      rw [hu] at hhc
      by_cases hf : (D.at p).dir = true
      · rw [if_pos hf]
        have hk2 : D.kind p = 1 := by
          cases hg : mget D.items p with
          | none => unfold Dk.at at hf; rw [hg] at hf; exact absurd hf (by decide)
          | some it => rw [kind_some hg, if_pos (by unfold Dk.at at hf; rw [hg] at hf; exact hf)]
        rw [hk2] at hkc
        repeat' (first | (show WL _ _ _ _ _ _ _; first | refine WL.pure rfl rfl rfl rfl ?_ | refine WL.nil ?_ | (refine WL.calls hS rfl rfl (hmay _ (St.rfAt hS Mm Mm)) rfl rfl rfl ?_; rintro v w rfl hS) | (refine WL.calls hS rfl rfl (hhc _ (St.rfAt hS Mm Mm)) rfl rfl rfl ?_; rintro v w rfl hS) | (refine WL.calls hS rfl rfl (hkc _ (St.rfAt hS Mm Mm)) rfl rfl rfl ?_; rintro v w rfl hS)) | (show WC _ _ _ _ _ _; first | refine WC.seq ?_ | refine WC.region ?_ | refine WC.skip ?_ | refine WC.ret ?_ | refine WC.condT rfl (by decide) ?_ | refine WC.condF rfl (by decide) ?_) | refine seqQ_n ?_ | refine seqQ_r ?_)
        have hS := St.objClose (φ := rfφ dk D) (hS.pulls (D := rfL dk A cap l D) Pu) ⟨A, cap, l, hR, rfl⟩
        exact fin1r rfl rfl ⟨rfl, _, hS.mutLp Pu⟩
      · rw [if_neg hf]
        by_cases hs : D.stepE = 0
        · rw [if_neg (fun e => e hs)]
          have hput := fun (w : World) (hI : InL w (rfL dk A cap l { D.step with stamps := IntKind.i64.wrap (D.step.stamps + 1) })) => rfput_c ⟨p, ⟨false, data, (D.at p).kept, true, true, IntKind.i64.wrap (D.step.stamps + 1)⟩⟩ (D := { D.step with stamps := IntKind.i64.wrap (D.step.stamps + 1) }) hR2 hI hl
          cases hg : mget D.items p with
          | none =>
            have hk2 : D.kind p = 0 := kind_none hg
            rw [hk2] at hkc
            have hat : D.at p = It0 := by unfold Dk.at; rw [hg]; rfl
            rw [hat] at hput ⊢
            repeat' (first | (show WL _ _ _ _ _ _ _; first | refine WL.sub (a := (data.length : Int)) (b := (0 : Int)) rfl rfl rfl (by omega) rfl rfl rfl ?_ | refine WL.pure rfl rfl rfl rfl ?_ | refine WL.nil ?_ | refine WL.load hS rfl rfl (LdOk.box Mm rfl) rfl rfl rfl ?_ | (refine WL.calls hS rfl rfl (hmay _ (St.rfAt hS Mm Mm)) rfl rfl rfl ?_; rintro v w rfl hS) | (refine WL.calls hS rfl rfl (hhc _ (St.rfAt hS Mm Mm)) rfl rfl rfl ?_; rintro v w rfl hS) | (refine WL.calls hS rfl rfl (hkc _ (St.rfAt hS Mm Mm)) rfl rfl rfl ?_; rintro v w rfl hS) | (refine WL.calls hS rfl rfl (rffits_c p _ (St.rfAt hS Mm Mm)) rfl rfl rfl ?_; rintro v w rfl hS) | (refine WL.callL (D := rfL dk A cap l D) hS Pu rfl rfl (fun hI => rfdone_c hI) rfl rfl rfl ?_; rintro v w ⟨rfl, hm⟩ hS; replace hS := hS _ hm; clear hm; rw [hs]) | (refine WL.callL (D := rfL dk A cap l D.step) hS Pu rfl rfl (fun hI => rfstamped_c ⟨p, ⟨false, data, [], true, true, 0⟩⟩ hI) rfl rfl rfl ?_; rintro v w ⟨rfl, hm⟩ hS; replace hS := hS _ hm; clear hm) | (refine WL.callL (D := rfL dk A cap l { D.step with stamps := IntKind.i64.wrap (D.step.stamps + 1) }) hS Pu rfl rfl (fun hI => hput _ hI) rfl rfl rfl ?_; rintro v w ⟨rfl, A', cap', l', hR', hm⟩ hS; replace hS := hS _ hm; clear hm) | (refine WL.store hS rfl rfl rfl Sb rfl rfl rfl ?_; intro w hS) | (refine WL.alloc hS rfl rfl rfl rfl rfl rfl ?_; intro w b hS) | refine WL.build rfl rfl rfl rfl rfl ?_) | (show WC _ _ _ _ _ _; first | refine WC.seq ?_ | refine WC.region ?_ | refine WC.skip ?_ | refine WC.ret ?_ | refine WC.condT rfl (by decide) ?_ | refine WC.condF rfl (by decide) ?_) | refine seqQ_n ?_)
            have hS := St.objClose (φ := rfφ dk (D.step.set p { It0 with data := data, loose := true, anew := true })) (hS.pulls (D := rfL dk A' cap' l' (D.step.set p { It0 with data := data, loose := true, anew := true })) Pu) ⟨A', cap', l', hR', rfl⟩
            exact fin1r rfl rfl ⟨rfl, _, hS.mutLp Pu⟩
          | some it =>
            have hat : D.at p = it := by unfold Dk.at; rw [hg]; rfl
            rw [hat] at hput hf hal ⊢
            have hk2 : D.kind p = 2 := by rw [kind_some hg, if_neg hf]
            rw [hk2] at hkc
            have hpl := fun (w : World) (h : RfAt dk A cap l D w) => rfplaceY_c p hR hg h hl
            obtain ⟨kg, ko, rfl⟩ := hS.own_addr (A := A) (n := l.length) Mm (rf_pos hR hg)
            obtain ⟨dir, dat, kept, loose, anew, stamp⟩ := it
            dsimp only at hf hal hput ⊢
            have hf : dir = false := by cases dir <;> simp_all
            subst hf
            repeat' (first | (show WL _ _ _ _ _ _ _; first | refine WL.sub (a := (data.length : Int)) (b := (dat.length : Int)) rfl rfl rfl (by omega) rfl rfl rfl ?_ | refine WL.pure rfl rfl rfl rfl ?_ | refine WL.nil ?_ | refine WL.load hS rfl rfl (LdOk.box Mm rfl) rfl rfl rfl ?_ | (refine WL.calls hS rfl rfl (hmay _ (St.rfAt hS Mm Mm)) rfl rfl rfl ?_; rintro v w rfl hS) | (refine WL.calls hS rfl rfl (hhc _ (St.rfAt hS Mm Mm)) rfl rfl rfl ?_; rintro v w rfl hS) | (refine WL.calls hS rfl rfl (hkc _ (St.rfAt hS Mm Mm)) rfl rfl rfl ?_; rintro v w rfl hS) | (refine WL.calls hS rfl rfl (rffits_c p _ (St.rfAt hS Mm Mm)) rfl rfl rfl ?_; rintro v w rfl hS) | (refine WL.callL (D := rfL dk (some ⟨kg, ko, none⟩) cap l D) hS Pu rfl rfl (fun hI => rfdone_c hI) rfl rfl rfl ?_; rintro v w ⟨rfl, hm⟩ hS; replace hS := hS _ hm; clear hm; rw [hs]) | (refine WL.callL (D := rfL dk (some ⟨kg, ko, none⟩) cap l D.step) hS Pu rfl rfl (fun hI => rfstamped_c ⟨p, ⟨false, data, kept, true, true, stamp⟩⟩ hI) rfl rfl rfl ?_; rintro v w ⟨rfl, hm⟩ hS; replace hS := hS _ hm; clear hm) | (refine WL.callL (D := rfL dk (some ⟨kg, ko, none⟩) cap l { D.step with stamps := IntKind.i64.wrap (D.step.stamps + 1) }) hS Pu rfl rfl (fun hI => hput _ hI) rfl rfl rfl ?_; rintro v w ⟨rfl, A', cap', l', hR', hm⟩ hS; replace hS := hS _ hm; clear hm) | (refine WL.store hS rfl rfl rfl Sb rfl rfl rfl ?_; intro w hS) | (refine WL.alloc hS rfl rfl rfl rfl rfl rfl ?_; intro w b hS) | refine WL.build rfl rfl rfl rfl rfl ?_) | (show WC _ _ _ _ _ _; first | refine WC.seq ?_ | refine WC.region ?_ | refine WC.skip ?_ | refine WC.ret ?_ | (show WC _ _ (Code.region _ (List.toArray [_, _, _, _, _, _, _, _, _, _]) true) _ _ _; refine WC.drawL [.box b 110 [str p, .bool false, str [], str [], .bool false, .bool false, .int .i64 0]] hS Pu [0,1,2,3,4,5,7,8] [0,1,2,3,4,5,6,7,8,9] (by kernel_rfl) (by kernel_rfl) ?_; clear hS; intro w hS hM) | refine WC.condT rfl (by decide) ?_ | refine WC.condF rfl (by decide) ?_) | (show WD _ _ _ _ _ _ _ _ _; first | refine WD.pure rfl rfl rfl rfl rfl ?_ | refine WD.nil ?_ | refine WD.load rfl rfl (LdOk.box Mm rfl) rfl rfl rfl rfl ?_ | (refine WD.calls hS hM rfl rfl (hpl _ (St.rfAt hS Mm Mm)) rfl rfl rfl rfl rfl ?_; clear hS; rintro v w ⟨i, hli, rfl⟩ hS; have hil := (List.getElem?_eq_some_iff.1 hli).1) | (refine WD.load rfl rfl (LdOk.ownElemE (enc := encRi) (k := i) (fun _ => rfl) Mm hli rfl rfl) rfl rfl rfl rfl ?_) | (refine WD.store hS rfl rfl rfl Sb rfl (by first | exact .refl _ _ | exact .chunk (.refl _ _) _ | exact .chunk (.chunk (.refl _ _) _) _) rfl rfl rfl rfl ?_; clear hS hM; intro w hS hM) | refine WD.index rfl rfl rfl rfl (by first | with_reducible assumption | omega) rfl rfl rfl rfl rfl ?_) | refine seqQ_n ?_)
            have hS := St.objClose (φ := rfφ dk (D.step.set p ⟨false, data, kept, true, true, stamp⟩)) (hS.pulls (D := rfL dk A' cap' l' (D.step.set p ⟨false, data, kept, true, true, stamp⟩)) Pu) ⟨A', cap', l', hR', rfl⟩
            exact fin1r rfl rfl ⟨rfl, _, hS.mutLp Pu⟩
        · rw [if_pos hs]
          cases hg : mget D.items p with
          | none =>
            have hk2 : D.kind p = 0 := kind_none hg
            rw [hk2] at hkc
            repeat' (first | (show WL _ _ _ _ _ _ _; first | refine WL.sub (a := (data.length : Int)) (b := (0 : Int)) rfl rfl rfl (by omega) rfl rfl rfl ?_ | refine WL.pure rfl rfl rfl rfl ?_ | refine WL.nil ?_ | refine WL.load hS rfl rfl (LdOk.box Mm rfl) rfl rfl rfl ?_ | (refine WL.calls hS rfl rfl (hmay _ (St.rfAt hS Mm Mm)) rfl rfl rfl ?_; rintro v w rfl hS) | (refine WL.calls hS rfl rfl (hhc _ (St.rfAt hS Mm Mm)) rfl rfl rfl ?_; rintro v w rfl hS) | (refine WL.calls hS rfl rfl (hkc _ (St.rfAt hS Mm Mm)) rfl rfl rfl ?_; rintro v w rfl hS) | (refine WL.calls hS rfl rfl (rffits_c p _ (St.rfAt hS Mm Mm)) rfl rfl rfl ?_; rintro v w rfl hS) | (refine WL.callL (D := rfL dk A cap l D) hS Pu rfl rfl (fun hI => rfdone_c hI) rfl rfl rfl ?_; rintro v w ⟨rfl, hm⟩ hS; replace hS := hS _ hm; clear hm) | (refine WL.store hS rfl rfl rfl Sb rfl rfl rfl ?_; intro w hS) | (refine WL.alloc hS rfl rfl rfl rfl rfl rfl ?_; intro w b hS) | refine WL.build rfl rfl rfl rfl rfl ?_) | (show WC _ _ _ _ _ _; first | refine WC.seq ?_ | refine WC.region ?_ | refine WC.skip ?_ | refine WC.ret ?_ | refine WC.condF rfl (by decide) ?_ | refine WC.condF rfl (decide_eq_false (by first | with_reducible assumption | omega)) ?_) | refine seqQ_n ?_)
            have hS := St.objClose (φ := rfφ dk D.step) (hS.pulls (D := rfL dk A cap l D.step) Pu) ⟨A, cap, l, hR2, rfl⟩
            exact fin1r rfl rfl ⟨rfl, _, hS.mutLp Pu⟩
          | some it =>
            have hat : D.at p = it := by unfold Dk.at; rw [hg]; rfl
            rw [hat] at hf hal
            have hk2 : D.kind p = 2 := by rw [kind_some hg, if_neg hf]
            rw [hk2] at hkc
            have hpl := fun (w : World) (h : RfAt dk A cap l D w) => rfplaceY_c p hR hg h hl
            obtain ⟨kg, ko, rfl⟩ := hS.own_addr (A := A) (n := l.length) Mm (rf_pos hR hg)
            obtain ⟨dir, dat, kept, loose, anew, stamp⟩ := it
            dsimp only at hf hal
            repeat' (first | (show WL _ _ _ _ _ _ _; first | refine WL.sub (a := (data.length : Int)) (b := (dat.length : Int)) rfl rfl rfl (by omega) rfl rfl rfl ?_ | refine WL.pure rfl rfl rfl rfl ?_ | refine WL.nil ?_ | refine WL.load hS rfl rfl (LdOk.box Mm rfl) rfl rfl rfl ?_ | (refine WL.calls hS rfl rfl (hmay _ (St.rfAt hS Mm Mm)) rfl rfl rfl ?_; rintro v w rfl hS) | (refine WL.calls hS rfl rfl (hhc _ (St.rfAt hS Mm Mm)) rfl rfl rfl ?_; rintro v w rfl hS) | (refine WL.calls hS rfl rfl (hkc _ (St.rfAt hS Mm Mm)) rfl rfl rfl ?_; rintro v w rfl hS) | (refine WL.calls hS rfl rfl (rffits_c p _ (St.rfAt hS Mm Mm)) rfl rfl rfl ?_; rintro v w rfl hS) | (refine WL.callL (D := rfL dk (some ⟨kg, ko, none⟩) cap l D) hS Pu rfl rfl (fun hI => rfdone_c hI) rfl rfl rfl ?_; rintro v w ⟨rfl, hm⟩ hS; replace hS := hS _ hm; clear hm) | (refine WL.store hS rfl rfl rfl Sb rfl rfl rfl ?_; intro w hS) | (refine WL.alloc hS rfl rfl rfl rfl rfl rfl ?_; intro w b hS) | refine WL.build rfl rfl rfl rfl rfl ?_) | (show WC _ _ _ _ _ _; first | refine WC.seq ?_ | refine WC.region ?_ | refine WC.skip ?_ | refine WC.ret ?_ | (show WC _ _ (Code.region _ (List.toArray [_, _, _, _, _, _, _, _, _, _]) true) _ _ _; refine WC.drawL [.box b 110 [str p, .bool false, str [], str [], .bool false, .bool false, .int .i64 0]] hS Pu [0,1,2,3,4,5,7,8] [0,1,2,3,4,5,6,7,8,9] (by kernel_rfl) (by kernel_rfl) ?_; clear hS; intro w hS hM) | refine WC.condT rfl (by decide) ?_ | refine WC.condF rfl (by decide) ?_ | refine WC.condF rfl (decide_eq_false (by first | with_reducible assumption | omega)) ?_) | (show WD _ _ _ _ _ _ _ _ _; first | refine WD.pure rfl rfl rfl rfl rfl ?_ | refine WD.nil ?_ | refine WD.load rfl rfl (LdOk.box Mm rfl) rfl rfl rfl rfl ?_ | (refine WD.calls hS hM rfl rfl (hpl _ (St.rfAt hS Mm Mm)) rfl rfl rfl rfl rfl ?_; clear hS; rintro v w ⟨i, hli, rfl⟩ hS; have hil := (List.getElem?_eq_some_iff.1 hli).1) | (refine WD.load rfl rfl (LdOk.ownElemE (enc := encRi) (k := i) (fun _ => rfl) Mm hli rfl rfl) rfl rfl rfl rfl ?_) | (refine WD.store hS rfl rfl rfl Sb rfl (by first | exact .refl _ _ | exact .chunk (.refl _ _) _ | exact .chunk (.chunk (.refl _ _) _) _) rfl rfl rfl rfl ?_; clear hS hM; intro w hS hM) | refine WD.index rfl rfl rfl rfl (by first | with_reducible assumption | omega) rfl rfl rfl rfl rfl ?_) | refine seqQ_n ?_)
            have hS := St.objClose (φ := rfφ dk D.step) (hS.pulls (D := rfL dk (some ⟨kg, ko, none⟩) cap l D.step) Pu) ⟨some ⟨kg, ko, none⟩, cap, l, hR2, rfl⟩
            exact fin1r rfl rfl ⟨rfl, _, hS.mutLp Pu⟩
  · rw [if_pos he]
    repeat' (first | (show WL _ _ _ _ _ _ _; first | refine WL.pure rfl rfl rfl rfl ?_ | refine WL.nil ?_ | (refine WL.calls hS rfl rfl (hmay _ (St.rfAt hS Mm Mm)) rfl rfl rfl ?_; rintro v w rfl hS)) | (show WC _ _ _ _ _ _; first | refine WC.seq ?_ | refine WC.region ?_ | refine WC.ret ?_ | refine WC.condT rfl (decide_eq_true (by first | with_reducible assumption | omega)) ?_) | refine seqQ_n ?_ | refine seqQ_r ?_)
    have hS := St.objClose (φ := rfφ dk D) (hS.pulls (D := rfL dk A cap l D) Pu) ⟨A, cap, l, hR, rfl⟩
    exact fin1r rfl rfl ⟨rfl, _, hS.mutLp Pu⟩
end Go.Proofs.YtccfiohagbneaaaGreatDoor

/- What is proved: what the reference's disk does: Rename. Conditions: a disk without limits, of bounded size. -/
namespace Go.Proofs.YtccfiohagbneaaaGreatDoor
open Go Go.J Go.RowKit
theorem ris_fld {l : List Ri} {i : Nat} {x : Ri} (h : l[i]? = some x) {j : Nat} (hj : j < 7) : (ris l)[i * 7 + j]? = (encRi x)[j]? := by
  obtain ⟨h1, rfl⟩ := List.getElem?_eq_some_iff.1 h
  exact ris_at h1 hj
theorem del_le (m : List (List UInt8 × It)) (p : List UInt8) : (mdel m p).length ≤ m.length := (mdel_sub m p).length_le
set_option maxHeartbeats 4000000 in
set_option maxRecDepth 100000 in
theorem rfvol_c (p : List UInt8) (w0 : World) (hl : p.length ≤ 1099511627) : Cal Tryz.prog 142 [str p] w0 (fun v w' => Upd [] w0 w' ∧ v = str ((splitL p).headD [])) := by
  refine Cal.mk' (by kernel_rfl) Tryz.func142 rfl rfl fun hS => ?_
  have hsl := splitA_len p []
  change (splitL p).length = _ at hsl
  have hsc := fun (w : World) => rsplit_c p w (by omega)
  obtain ⟨x, L, hL⟩ : ∃ x L, splitL p = x :: L := by
    cases h : splitL p with
    | nil => rw [h] at hsl; simp at hsl
    | cons x L => exact ⟨x, L, rfl⟩
  rw [hL] at hsc ⊢
  clear hL hsl
  repeat' (first | (show WL _ _ _ _ _ _ _; first | refine WL.pure rfl rfl rfl rfl ?_ | refine WL.nil ?_ | (refine WL.callG rfl rfl (hsc _) rfl rfl rfl ?_; rintro v w ⟨hu, As, caps, rfl, hn⟩; have hS := hS.new hu hn; clear hu hn; obtain ⟨kg, ko, rfl⟩ := hS.own_addr (A := As) (n := (x :: L).length) Mm (Nat.succ_pos _)) | (refine WL.index (j := 0) rfl rfl rfl rfl (Nat.succ_pos _) rfl rfl rfl rfl ?_) | (refine WL.load hS rfl rfl (LdOk.ownAt (off := 0) Mm rfl ⟨_, rfl⟩ (show (strs (x :: L))[0]? = some (str x) from rfl) rfl) rfl rfl rfl ?_)) | (show WC _ _ _ _ _ _; first | refine WC.seq ?_ | refine WC.region ?_ | refine WC.ret ?_) | refine seqQ_n ?_)
  exact fin1r rfl rfl ⟨hS.upd, rfl⟩
set_option maxHeartbeats 32000000 in
set_option maxRecDepth 100000 in
theorem rfrename_c {dk : Nat} {D : Dk} {fp : List Nat} (p r : List UInt8) {w0 : World} (hi : InL w0 [rfC dk D fp]) (hp : p.length ≤ 1099511627) (hr : r.length ≤ 1099511627) (hn : D.items.length ≤ 1048576) (hal : (D.at p).data.length ≤ 1099511627776) (hal2 : (D.at r).data.length ≤ 1099511627776) :
    Cal Tryz.prog 132 [.pointer (some ⟨dk, 0, none⟩), str p, str r] w0 (fun v w' => v = .int .i64 (D.rename p r).1 ∧ ∃ fp', MutL w0 w' [rfC dk D fp] [rfC dk (D.rename p r).2 fp']) := by
  refine Cal.mkL hi (by kernel_rfl) Tryz.func132 rfl rfl fun hS => ?_
  obtain ⟨_, ⟨A, cap, l, hR, rfl⟩, hfp, hS⟩ := St.objOpen hS
  replace hS : St w0 _ w0 (rfL dk A cap l D) _ := hS
  have hl : l.length ≤ 1048576 := by rw [hR.len]; exact hn
  have hmay := fun (w : World) (h : RfAt dk A cap l D w) => rffirst_c p 1 h hp
  have hmay2 := fun (w : World) (h : RfAt dk A cap l D w) => rffirst_c r 1 h hr
  have hkc := fun (w : World) (h : RfAt dk A cap l D w) => rfkind_c p hR h hl
  have hkc2 := fun (w : World) (h : RfAt dk A cap l D w) => rfkind_c r hR h hl
  have hhc := fun (w : World) (h : RfAt dk A cap l D w) => rfhome_c r hR h hl hr
  have hR2 : RepL l D.step.items := by rw [step_items]; exact hR
  unfold Dk.rename
  by_cases he : D.may p 1 = 0
  · rw [if_neg (fun e => e he)]
    rw [he] at hmay
    by_cases he2 : D.may r 1 = 0
    · rw [if_neg (fun e => e he2)]
      rw [he2] at hmay2
      rw [home_under (may_ok he2).1] at hhc
      cases hg : mget D.items p with
      | none =>
        rw [if_pos (.inl (by unfold Dk.has; rw [hg]; rfl))]
        rw [kind_none hg] at hkc
        repeat' (first | (show WL _ _ _ _ _ _ _; first | refine WL.pure rfl rfl rfl rfl ?_ | refine WL.nil ?_ | (refine WL.calls hS rfl rfl (hmay _ (St.rfAt hS Mm Mm)) rfl rfl rfl ?_; rintro v w rfl hS) | (refine WL.calls hS rfl rfl (hmay2 _ (St.rfAt hS Mm Mm)) rfl rfl rfl ?_; rintro v w rfl hS) | (refine WL.calls hS rfl rfl (hkc _ (St.rfAt hS Mm Mm)) rfl rfl rfl ?_; rintro v w rfl hS) | refine WL.skip rfl rfl rfl ?_) | (show WC _ _ _ _ _ _; first | refine WC.seq ?_ | refine WC.region ?_ | refine WC.skip ?_ | refine WC.ret ?_ | refine WC.condT rfl (by with_reducible rfl) ?_ | refine WC.condF rfl (by decide) ?_) | refine seqQ_n ?_ | refine seqQ_r ?_)
        have hS := St.objClose (φ := rfφ dk D) (hS.pulls (D := rfL dk A cap l D) Pu) ⟨A, cap, l, hR, rfl⟩
        exact fin1r rfl rfl ⟨rfl, _, hS.mutLp Pu⟩
      | some it =>
        have hat : D.at p = it := by unfold Dk.at; rw [hg]; rfl
        have hhas : D.has p = true := by unfold Dk.has; rw [hg]; rfl
        rw [hat, hhas]
        rw [hat] at hal
        rw [kind_some hg] at hkc
        cases hu : D.under r
        · rw [if_pos (.inr rfl)]
          rw [hu] at hhc
          generalize hkk : (if it.dir = true then (1 : Int) else 2) = kk at *
          have hk0 : kk ≠ 0 := by rw [← hkk]; cases it.dir <;> decide
          repeat' (first | (show WL _ _ _ _ _ _ _; first | refine WL.pure rfl rfl rfl rfl ?_ | refine WL.nil ?_ | (refine WL.calls hS rfl rfl (hmay _ (St.rfAt hS Mm Mm)) rfl rfl rfl ?_; rintro v w rfl hS) | (refine WL.calls hS rfl rfl (hmay2 _ (St.rfAt hS Mm Mm)) rfl rfl rfl ?_; rintro v w rfl hS) | (refine WL.calls hS rfl rfl (hhc _ (St.rfAt hS Mm Mm)) rfl rfl rfl ?_; rintro v w rfl hS) | (refine WL.calls hS rfl rfl (hkc _ (St.rfAt hS Mm Mm)) rfl rfl rfl ?_; rintro v w rfl hS) | ((fail_if_success (refine WL.wanted rfl ?_)); refine WL.guard rfl rfl rfl (fun h => ?_) (fun h => ?_) <;> (try simp only [ZZ0, ZZ1, ZZ2, ZZ3, ZZ4, ZZ5, ZZ6, ZZ7, ZZ8, ZZ9, ZZ10, ZZ11, ZZ12, ZZ13, ZZ14, ZZ15] at h) <;> (try (exfalso; first | omega | contradiction)))) | (show WC _ _ _ _ _ _; first | refine WC.seq ?_ | refine WC.region ?_ | refine WC.skip ?_ | refine WC.ret ?_ | refine WC.condT rfl (by decide) ?_ | refine WC.condF rfl (by decide) ?_) | refine seqQ_n ?_ | refine seqQ_r ?_)
          have hS := St.objClose (φ := rfφ dk D) (hS.pulls (D := rfL dk A cap l D) Pu) ⟨A, cap, l, hR, rfl⟩
          exact fin1r rfl rfl ⟨rfl, _, hS.mutLp Pu⟩
        · rw [if_neg (by simp)]
          rw [hu] at hhc
          by_cases hd : it.dir = true ∨ (D.at r).dir = true
          · rw [if_pos hd]
            obtain ⟨k1, k2, h12, hk1, hk2, hk0⟩ : ∃ k1 k2 : Int, (k1 = 1 ∨ k2 = 1) ∧ (if it.dir = true then (1 : Int) else 2) = k1 ∧ D.kind r = k2 ∧ k1 ≠ 0 := by
              refine ⟨_, _, ?_, rfl, rfl, by cases it.dir <;> decide⟩
              rcases hd with h | h
              · left; rw [h]; rfl
              · right
                cases hg2 : mget D.items r with
                | none => unfold Dk.at at h; rw [hg2] at h; exact absurd h (by decide)
                | some it2 => rw [kind_some hg2, if_pos (by unfold Dk.at at h; rw [hg2] at h; exact h)]
            rw [hk1] at hkc
            rw [hk2] at hkc2
            clear hd
            by_cases h1 : k1 = 1
            · clear h12
              subst h1
              repeat' (first | (show WL _ _ _ _ _ _ _; first | refine WL.pure rfl rfl rfl rfl ?_ | refine WL.nil ?_ | (refine WL.calls hS rfl rfl (hmay _ (St.rfAt hS Mm Mm)) rfl rfl rfl ?_; rintro v w rfl hS) | (refine WL.calls hS rfl rfl (hmay2 _ (St.rfAt hS Mm Mm)) rfl rfl rfl ?_; rintro v w rfl hS) | (refine WL.calls hS rfl rfl (hhc _ (St.rfAt hS Mm Mm)) rfl rfl rfl ?_; rintro v w rfl hS) | (refine WL.calls hS rfl rfl (hkc _ (St.rfAt hS Mm Mm)) rfl rfl rfl ?_; rintro v w rfl hS) | refine WL.skip rfl rfl rfl ?_) | (show WC _ _ _ _ _ _; first | refine WC.seq ?_ | refine WC.region ?_ | refine WC.skip ?_ | refine WC.ret ?_ | refine WC.condT rfl (by with_reducible rfl) ?_ | refine WC.condF rfl (by decide) ?_) | refine seqQ_n ?_ | refine seqQ_r ?_)
              have hS := St.objClose (φ := rfφ dk D) (hS.pulls (D := rfL dk A cap l D) Pu) ⟨A, cap, l, hR, rfl⟩
              exact fin1r rfl rfl ⟨rfl, _, hS.mutLp Pu⟩
            · have h2 : k2 = 1 := by rcases h12 with h | h; exact absurd h h1; exact h
              clear h12
              subst h2
              repeat' (first | (show WL _ _ _ _ _ _ _; first | refine WL.pure rfl rfl rfl rfl ?_ | refine WL.nil ?_ | (refine WL.calls hS rfl rfl (hmay _ (St.rfAt hS Mm Mm)) rfl rfl rfl ?_; rintro v w rfl hS) | (refine WL.calls hS rfl rfl (hmay2 _ (St.rfAt hS Mm Mm)) rfl rfl rfl ?_; rintro v w rfl hS) | (refine WL.calls hS rfl rfl (hhc _ (St.rfAt hS Mm Mm)) rfl rfl rfl ?_; rintro v w rfl hS) | (refine WL.calls hS rfl rfl (hkc _ (St.rfAt hS Mm Mm)) rfl rfl rfl ?_; rintro v w rfl hS) | (refine WL.calls hS rfl rfl (hkc2 _ (St.rfAt hS Mm Mm)) rfl rfl rfl ?_; rintro v w rfl hS) | ((fail_if_success (refine WL.wanted rfl ?_)); refine WL.guard rfl rfl rfl (fun h => ?_) (fun h => ?_) <;> (try simp only [ZZ0, ZZ1, ZZ2, ZZ3, ZZ4, ZZ5, ZZ6, ZZ7, ZZ8, ZZ9, ZZ10, ZZ11, ZZ12, ZZ13, ZZ14, ZZ15] at h) <;> (try (exfalso; first | omega | contradiction)))) | (show WC _ _ _ _ _ _; first | refine WC.seq ?_ | refine WC.region ?_ | refine WC.skip ?_ | refine WC.ret ?_ | refine WC.condT rfl (by decide) ?_ | refine WC.condF rfl (by decide) ?_) | refine seqQ_n ?_ | refine seqQ_r ?_)
              have hS := St.objClose (φ := rfφ dk D) (hS.pulls (D := rfL dk A cap l D) Pu) ⟨A, cap, l, hR, rfl⟩
              exact fin1r rfl rfl ⟨rfl, _, hS.mutLp Pu⟩
          · rw [if_neg hd]
            have hd1 : it.dir = false := by cases h : it.dir <;> simp_all
            have hd2 : (D.at r).dir = false := by cases h : (D.at r).dir <;> simp_all
            clear hd
            obtain ⟨dir, dat, kept, loose, anew, stamp⟩ := it
            dsimp only at hd1 hal hkc ⊢
            subst hd1
            rw [if_neg (by decide)] at hkc
            have hpl := fun (w : World) (h : RfAt dk A cap l D w) => rfplaceY_c p hR hg h hl
            obtain ⟨kg, ko, rfl⟩ := hS.own_addr (A := A) (n := l.length) Mm (rf_pos hR hg)
            have hdrop := fun (w : World) (hI : InL w (rfL dk (some ⟨kg, ko, none⟩) cap l D.step)) => rfdrop_c p hR2 hI hl
            by_cases hs : D.stepE = 0
            · rw [if_neg (fun e => e hs)]
              cases hg2 : mget D.items r with
              | none =>
                rw [kind_none hg2] at hkc2
                rcases Decidable.em (p = r) with hpr | hpr
                all_goals
                  repeat' (first | (show WL _ _ _ _ _ _ _; first | refine WL.pure rfl rfl rfl rfl ?_ | refine WL.nil ?_ | refine WL.load hS rfl rfl (LdOk.box Mm rfl) rfl rfl rfl ?_ | (refine WL.calls hS rfl rfl (hmay _ (St.rfAt hS Mm Mm)) rfl rfl rfl ?_; rintro v w rfl hS) | (refine WL.calls hS rfl rfl (hmay2 _ (St.rfAt hS Mm Mm)) rfl rfl rfl ?_; rintro v w rfl hS) | (refine WL.calls hS rfl rfl (hhc _ (St.rfAt hS Mm Mm)) rfl rfl rfl ?_; rintro v w rfl hS) | (refine WL.calls hS rfl rfl (hkc _ (St.rfAt hS Mm Mm)) rfl rfl rfl ?_; rintro v w rfl hS) | (refine WL.calls hS rfl rfl (hkc2 _ (St.rfAt hS Mm Mm)) rfl rfl rfl ?_; rintro v w rfl hS) | (refine WL.calls hS rfl rfl (rfvol_c p _ hp) rfl rfl rfl ?_; rintro v w rfl hS) | (refine WL.calls hS rfl rfl (rfvol_c r _ hr) rfl rfl rfl ?_; rintro v w rfl hS) | (refine WL.calls hS rfl rfl (rffits_c r _ (St.rfAt hS Mm Mm)) rfl rfl rfl ?_; rintro v w rfl hS) | (refine WL.callL (D := rfL dk (some ⟨kg, ko, none⟩) cap l D) hS Pu rfl rfl (fun hI => rfdone_c hI) rfl rfl rfl ?_; rintro v w ⟨rfl, hm⟩ hS; replace hS := hS _ hm; clear hm; rw [hs]) | (refine WL.callL (D := rfL dk (some ⟨kg, ko, none⟩) cap l D.step) hS Pu rfl rfl (fun hI => hdrop _ hI) rfl rfl rfl ?_; rintro v w ⟨rfl, A1, cap1, l1, hR1, hm⟩ hS; replace hS := hS _ hm; clear hm; have hl1 : l1.length ≤ 1048576 := (by have := hR1.len; have := del_le D.step.items p; have := hR2.len; omega)) | (refine WL.callL (D := rfL dk A1 cap1 l1 (D.step.del p)) hS Pu rfl rfl (fun hI => rfstamped_c ⟨r, ⟨false, dat, kept, loose, anew, stamp⟩⟩ hI) rfl rfl rfl ?_; rintro v w ⟨rfl, hm⟩ hS; replace hS := hS _ hm; clear hm) | (refine WL.callL (D := rfL dk A1 cap1 l1 { D.step.del p with stamps := IntKind.i64.wrap (D.step.stamps + 1) }) hS Pu rfl rfl (fun hI => rfput_c ⟨r, ⟨false, dat, kept, loose, anew, IntKind.i64.wrap (D.step.stamps + 1)⟩⟩ (D := { D.step.del p with stamps := IntKind.i64.wrap (D.step.stamps + 1) }) hR1 hI hl1) rfl rfl rfl ?_; rintro v w ⟨rfl, A', cap', l', hR', hm⟩ hS; replace hS := hS _ hm; clear hm) | (refine WL.store hS rfl rfl rfl Sb rfl rfl rfl ?_; intro w hS) | refine WL.skip rfl rfl rfl ?_ | ((fail_if_success (refine WL.wanted rfl ?_)); refine WL.guard rfl rfl rfl (fun h => ?_) (fun h => ?_) <;> (try simp only [ZZ0, ZZ1, ZZ2, ZZ3, ZZ4, ZZ5, ZZ6, ZZ7, ZZ8, ZZ9, ZZ10, ZZ11, ZZ12, ZZ13, ZZ14, ZZ15] at h) <;> (try (exfalso; first | omega | contradiction)))) | (show WC _ _ _ _ _ _; first | refine WC.seq ?_ | refine WC.region ?_ | refine WC.skip ?_ | refine WC.ret ?_ | (show WC _ _ (Code.region _ (List.toArray [_, _, _, _, _, _, _, _, _, _, _]) true) _ _ _; refine WC.drawP hS [0,1,2,3,4,5,7,8] [0,1,2,3,4,5] (.two 6 [7,8,9,10] .nil 9 [6,7,8,10] .nil) (by kernel_rfl) (by kernel_rfl) ?_; clear hS; intro w hS hM) | refine WC.condF rfl (by with_reducible rfl) ?_ | refine WC.condT rfl (by decide) ?_ | refine WC.condF rfl (by decide) ?_ | (refine WC.cond rfl (fun h => ?_) (fun h => ?_) <;> (try simp only [ZZ0, ZZ1, ZZ2, ZZ3, ZZ4, ZZ5, ZZ6, ZZ7, ZZ8, ZZ9, ZZ10, ZZ11, ZZ12, ZZ13, ZZ14, ZZ15] at h) <;> (try (exfalso; first | omega | contradiction)))) | (show WD _ _ _ _ _ _ _ _ _; first | refine WD.pure rfl rfl rfl rfl rfl ?_ | refine WD.nil ?_ | refine WD.load rfl rfl (LdOk.box Mm rfl) rfl rfl rfl rfl ?_ | (refine WD.fork ?_ ?_) | (refine WD.alloc (t := 110) hS hM rfl rfl rfl rfl rfl rfl rfl rfl ?_; clear hS hM; intro w b hS hM) | (refine WD.calls hS hM rfl rfl (hpl _ (St.rfAt hS Mm Mm)) rfl rfl rfl rfl rfl ?_; clear hS; rintro v w ⟨i, hli, rfl⟩ hS; have hil := (List.getElem?_eq_some_iff.1 hli).1) | (refine WD.load rfl rfl (LdOk.ownElemE (enc := encRi) (k := i) (fun _ => rfl) Mm hli rfl rfl) rfl rfl rfl rfl ?_) | (refine WD.store hS rfl rfl rfl Sb rfl (by first | exact .refl _ _ | exact .chunk (.refl _ _) _ | exact .chunk (.chunk (.refl _ _) _) _) rfl rfl rfl rfl ?_; clear hS hM; intro w hS hM) | refine WD.index rfl rfl rfl rfl (by first | with_reducible assumption | omega) rfl rfl rfl rfl rfl ?_) | (refine WDo.alloc (t := 110) hS hM rfl rfl rfl rfl rfl rfl rfl ?_; clear hS hM; intro w b hS hM) | (refine WDo.calls hS hM rfl rfl (hpl _ (St.rfAt hS Mm Mm)) rfl rfl rfl rfl ?_; clear hS; rintro v w ⟨i, hli, rfl⟩ hS; have hil := (List.getElem?_eq_some_iff.1 hli).1) | refine seqQ_n ?_)
                  all_goals
                    have hS := St.objClose (φ := rfφ dk ((D.step.del p).set r ⟨false, dat, kept, loose, anew, stamp⟩)) (hS.pulls (D := rfL dk A' cap' l' ((D.step.del p).set r ⟨false, dat, kept, loose, anew, stamp⟩)) Pu) ⟨A', cap', l', hR', rfl⟩
                    exact fin1r rfl rfl ⟨rfl, _, hS.mutLp Pu⟩
              | some it2 =>
                have hat2 : D.at r = it2 := by unfold Dk.at; rw [hg2]; rfl
                rw [hat2] at hal2 hd2
                rw [kind_some hg2, hd2, if_neg (by decide)] at hkc2
                have hpl2 := fun (w : World) (h : RfAt dk (some ⟨kg, ko, none⟩) cap l D w) => rfplaceY_c r hR hg2 h hl
                obtain ⟨dir2, dat2, kept2, loose2, anew2, stamp2⟩ := it2
                dsimp only at hd2 hal2
                rcases Decidable.em (p = r) with hpr | hpr
                all_goals
                  repeat' (first | (show WL _ _ _ _ _ _ _; first | refine WL.pure rfl rfl rfl rfl ?_ | refine WL.nil ?_ | refine WL.load hS rfl rfl (LdOk.box Mm rfl) rfl rfl rfl ?_ | (refine WL.calls hS rfl rfl (hmay _ (St.rfAt hS Mm Mm)) rfl rfl rfl ?_; rintro v w rfl hS) | (refine WL.calls hS rfl rfl (hmay2 _ (St.rfAt hS Mm Mm)) rfl rfl rfl ?_; rintro v w rfl hS) | (refine WL.calls hS rfl rfl (hhc _ (St.rfAt hS Mm Mm)) rfl rfl rfl ?_; rintro v w rfl hS) | (refine WL.calls hS rfl rfl (hkc _ (St.rfAt hS Mm Mm)) rfl rfl rfl ?_; rintro v w rfl hS) | (refine WL.calls hS rfl rfl (hkc2 _ (St.rfAt hS Mm Mm)) rfl rfl rfl ?_; rintro v w rfl hS) | (refine WL.calls hS rfl rfl (rfvol_c p _ hp) rfl rfl rfl ?_; rintro v w rfl hS) | (refine WL.calls hS rfl rfl (rfvol_c r _ hr) rfl rfl rfl ?_; rintro v w rfl hS) | (refine WL.calls hS rfl rfl (rffits_c r _ (St.rfAt hS Mm Mm)) rfl rfl rfl ?_; rintro v w rfl hS) | (refine WL.callL (D := rfL dk (some ⟨kg, ko, none⟩) cap l D) hS Pu rfl rfl (fun hI => rfdone_c hI) rfl rfl rfl ?_; rintro v w ⟨rfl, hm⟩ hS; replace hS := hS _ hm; clear hm; rw [hs]) | (refine WL.callL (D := rfL dk (some ⟨kg, ko, none⟩) cap l D.step) hS Pu rfl rfl (fun hI => hdrop _ hI) rfl rfl rfl ?_; rintro v w ⟨rfl, A1, cap1, l1, hR1, hm⟩ hS; replace hS := hS _ hm; clear hm; have hl1 : l1.length ≤ 1048576 := (by have := hR1.len; have := del_le D.step.items p; have := hR2.len; omega)) | (refine WL.callL (D := rfL dk A1 cap1 l1 (D.step.del p)) hS Pu rfl rfl (fun hI => rfstamped_c ⟨r, ⟨false, dat, kept, loose, anew, stamp⟩⟩ hI) rfl rfl rfl ?_; rintro v w ⟨rfl, hm⟩ hS; replace hS := hS _ hm; clear hm) | (refine WL.callL (D := rfL dk A1 cap1 l1 { D.step.del p with stamps := IntKind.i64.wrap (D.step.stamps + 1) }) hS Pu rfl rfl (fun hI => rfput_c ⟨r, ⟨false, dat, kept, loose, anew, IntKind.i64.wrap (D.step.stamps + 1)⟩⟩ (D := { D.step.del p with stamps := IntKind.i64.wrap (D.step.stamps + 1) }) hR1 hI hl1) rfl rfl rfl ?_; rintro v w ⟨rfl, A', cap', l', hR', hm⟩ hS; replace hS := hS _ hm; clear hm) | (refine WL.store hS rfl rfl rfl Sb rfl rfl rfl ?_; intro w hS) | refine WL.skip rfl rfl rfl ?_ | ((fail_if_success (refine WL.wanted rfl ?_)); refine WL.guard rfl rfl rfl (fun h => ?_) (fun h => ?_) <;> (try simp only [ZZ0, ZZ1, ZZ2, ZZ3, ZZ4, ZZ5, ZZ6, ZZ7, ZZ8, ZZ9, ZZ10, ZZ11, ZZ12, ZZ13, ZZ14, ZZ15] at h) <;> (try (exfalso; first | omega | contradiction)))) | (show WC _ _ _ _ _ _; first | refine WC.seq ?_ | refine WC.region ?_ | refine WC.skip ?_ | refine WC.ret ?_ | (show WC _ _ (Code.region _ (List.toArray [_, _, _, _, _, _, _, _, _, _, _]) true) _ _ _; refine WC.drawP hS [0,1,2,3,4,5,7,8] [0,1,2,3,4,5] (.two 6 [7,8,9,10] .nil 9 [6,7,8,10] .nil) (by kernel_rfl) (by kernel_rfl) ?_; clear hS; intro w hS hM) | (show WC _ _ (Code.region _ (List.toArray [_, _, _, _, _, _, _, _, _, _, _, _, _, _]) true) _ _ _; refine WC.drawS hS [0,1,2,3,4,5,6,8,9,10,11,12,13] [0,1,2,3,4,5,6,7,8,9,10,11,12,13] (by kernel_rfl) (by kernel_rfl) ?_; clear hS; intro w hS hM) | refine WC.condF rfl (by with_reducible rfl) ?_ | refine WC.condT rfl (by decide) ?_ | refine WC.condF rfl (by decide) ?_ | (refine WC.cond rfl (fun h => ?_) (fun h => ?_) <;> (try simp only [ZZ0, ZZ1, ZZ2, ZZ3, ZZ4, ZZ5, ZZ6, ZZ7, ZZ8, ZZ9, ZZ10, ZZ11, ZZ12, ZZ13, ZZ14, ZZ15] at h) <;> (try (exfalso; first | omega | contradiction)))) | (show WD _ _ _ _ _ _ _ _ _; first | refine WD.sub (a := (dat.length : Int)) (b := (dat2.length : Int)) rfl rfl rfl (by omega) rfl rfl rfl rfl ?_ | refine WD.sub (a := 0) (b := (dat2.length : Int)) rfl rfl rfl (by omega) rfl rfl rfl rfl ?_ | refine WD.pure rfl rfl rfl rfl rfl ?_ | refine WD.nil ?_ | refine WD.load rfl rfl (LdOk.box Mm rfl) rfl rfl rfl rfl ?_ | (refine WD.fork ?_ ?_) | (refine WD.alloc (t := 110) hS hM rfl rfl rfl rfl rfl rfl rfl rfl ?_; clear hS hM; intro w b hS hM) | (refine WD.calls hS hM rfl rfl (hpl _ (St.rfAt hS Mm Mm)) rfl rfl rfl rfl rfl ?_; clear hS; rintro v w ⟨i, hli, rfl⟩ hS; have hil := (List.getElem?_eq_some_iff.1 hli).1) | (refine WD.load rfl rfl (LdOk.ownElemE (enc := encRi) (k := i) (fun _ => rfl) Mm hli rfl rfl) rfl rfl rfl rfl ?_) | (refine WD.store hS rfl rfl rfl Sb rfl (by first | exact .refl _ _ | exact .chunk (.refl _ _) _ | exact .chunk (.chunk (.refl _ _) _) _) rfl rfl rfl rfl ?_; clear hS hM; intro w hS hM) | (refine WD.calls hS hM rfl rfl (hpl2 _ (St.rfAt hS Mm Mm)) rfl rfl rfl rfl rfl ?_; clear hS; rintro v w ⟨j, hlj, rfl⟩ hS; have hjl := (List.getElem?_eq_some_iff.1 hlj).1) | (refine WD.load rfl rfl (LdOk.ownAt (off := j * 7 + 2) Mm rfl ⟨_, rfl⟩ (ris_fld hlj (by decide)) rfl) rfl rfl rfl rfl ?_) | refine WD.index rfl rfl rfl rfl (by first | with_reducible assumption | omega) rfl rfl rfl rfl rfl ?_) | (refine WDo.alloc (t := 110) hS hM rfl rfl rfl rfl rfl rfl rfl ?_; clear hS hM; intro w b hS hM) | (refine WDo.calls hS hM rfl rfl (hpl _ (St.rfAt hS Mm Mm)) rfl rfl rfl rfl ?_; clear hS; rintro v w ⟨i, hli, rfl⟩ hS; have hil := (List.getElem?_eq_some_iff.1 hli).1) | refine seqQ_n ?_)
                  all_goals
                    have hS := St.objClose (φ := rfφ dk ((D.step.del p).set r ⟨false, dat, kept, loose, anew, stamp⟩)) (hS.pulls (D := rfL dk A' cap' l' ((D.step.del p).set r ⟨false, dat, kept, loose, anew, stamp⟩)) Pu) ⟨A', cap', l', hR', rfl⟩
                    exact fin1r rfl rfl ⟨rfl, _, hS.mutLp Pu⟩
            · rw [if_pos hs]
              cases hg2 : mget D.items r with
              | none =>
                rw [kind_none hg2] at hkc2
                rcases Decidable.em (p = r) with hpr | hpr
                all_goals
                  repeat' (first | (show WL _ _ _ _ _ _ _; first | refine WL.pure rfl rfl rfl rfl ?_ | refine WL.nil ?_ | refine WL.load hS rfl rfl (LdOk.box Mm rfl) rfl rfl rfl ?_ | (refine WL.calls hS rfl rfl (hmay _ (St.rfAt hS Mm Mm)) rfl rfl rfl ?_; rintro v w rfl hS) | (refine WL.calls hS rfl rfl (hmay2 _ (St.rfAt hS Mm Mm)) rfl rfl rfl ?_; rintro v w rfl hS) | (refine WL.calls hS rfl rfl (hhc _ (St.rfAt hS Mm Mm)) rfl rfl rfl ?_; rintro v w rfl hS) | (refine WL.calls hS rfl rfl (hkc _ (St.rfAt hS Mm Mm)) rfl rfl rfl ?_; rintro v w rfl hS) | (refine WL.calls hS rfl rfl (hkc2 _ (St.rfAt hS Mm Mm)) rfl rfl rfl ?_; rintro v w rfl hS) | (refine WL.calls hS rfl rfl (rfvol_c p _ hp) rfl rfl rfl ?_; rintro v w rfl hS) | (refine WL.calls hS rfl rfl (rfvol_c r _ hr) rfl rfl rfl ?_; rintro v w rfl hS) | (refine WL.calls hS rfl rfl (rffits_c r _ (St.rfAt hS Mm Mm)) rfl rfl rfl ?_; rintro v w rfl hS) | (refine WL.callL (D := rfL dk (some ⟨kg, ko, none⟩) cap l D) hS Pu rfl rfl (fun hI => rfdone_c hI) rfl rfl rfl ?_; rintro v w ⟨rfl, hm⟩ hS; replace hS := hS _ hm; clear hm) | refine WL.skip rfl rfl rfl ?_ | ((fail_if_success (refine WL.wanted rfl ?_)); refine WL.guard rfl rfl rfl (fun h => ?_) (fun h => ?_) <;> (try simp only [ZZ0, ZZ1, ZZ2, ZZ3, ZZ4, ZZ5, ZZ6, ZZ7, ZZ8, ZZ9, ZZ10, ZZ11, ZZ12, ZZ13, ZZ14, ZZ15] at h) <;> (try (exfalso; first | omega | contradiction)))) | (show WC _ _ _ _ _ _; first | refine WC.seq ?_ | refine WC.region ?_ | refine WC.skip ?_ | refine WC.ret ?_ | (show WC _ _ (Code.region _ (List.toArray [_, _, _, _, _, _, _, _, _, _, _]) true) _ _ _; refine WC.drawP hS [0,1,2,3,4,5,7,8] [0,1,2,3,4,5] (.two 6 [7,8,9,10] .nil 9 [6,7,8,10] .nil) (by kernel_rfl) (by kernel_rfl) ?_; clear hS; intro w hS hM) | refine WC.condF rfl (by with_reducible rfl) ?_ | refine WC.condF rfl (by decide) ?_ | refine WC.condF rfl (decide_eq_false (by first | with_reducible assumption | omega)) ?_ | (refine WC.cond rfl (fun h => ?_) (fun h => ?_) <;> (try simp only [ZZ0, ZZ1, ZZ2, ZZ3, ZZ4, ZZ5, ZZ6, ZZ7, ZZ8, ZZ9, ZZ10, ZZ11, ZZ12, ZZ13, ZZ14, ZZ15] at h) <;> (try (exfalso; first | omega | contradiction)))) | (show WD _ _ _ _ _ _ _ _ _; first | refine WD.pure rfl rfl rfl rfl rfl ?_ | refine WD.nil ?_ | refine WD.load rfl rfl (LdOk.box Mm rfl) rfl rfl rfl rfl ?_ | (refine WD.fork ?_ ?_) | (refine WD.alloc (t := 110) hS hM rfl rfl rfl rfl rfl rfl rfl rfl ?_; clear hS hM; intro w b hS hM) | (refine WD.calls hS hM rfl rfl (hpl _ (St.rfAt hS Mm Mm)) rfl rfl rfl rfl rfl ?_; clear hS; rintro v w ⟨i, hli, rfl⟩ hS; have hil := (List.getElem?_eq_some_iff.1 hli).1) | (refine WD.load rfl rfl (LdOk.ownElemE (enc := encRi) (k := i) (fun _ => rfl) Mm hli rfl rfl) rfl rfl rfl rfl ?_) | (refine WD.store hS rfl rfl rfl Sb rfl (by first | exact .refl _ _ | exact .chunk (.refl _ _) _ | exact .chunk (.chunk (.refl _ _) _) _) rfl rfl rfl rfl ?_; clear hS hM; intro w hS hM) | refine WD.index rfl rfl rfl rfl (by first | with_reducible assumption | omega) rfl rfl rfl rfl rfl ?_) | (refine WDo.alloc (t := 110) hS hM rfl rfl rfl rfl rfl rfl rfl ?_; clear hS hM; intro w b hS hM) | (refine WDo.calls hS hM rfl rfl (hpl _ (St.rfAt hS Mm Mm)) rfl rfl rfl rfl ?_; clear hS; rintro v w ⟨i, hli, rfl⟩ hS; have hil := (List.getElem?_eq_some_iff.1 hli).1) | refine seqQ_n ?_)
                  all_goals
                    have hS := St.objClose (φ := rfφ dk D.step) (hS.pulls (D := rfL dk (some ⟨kg, ko, none⟩) cap l D.step) Pu) ⟨some ⟨kg, ko, none⟩, cap, l, hR2, rfl⟩
                    exact fin1r rfl rfl ⟨rfl, _, hS.mutLp Pu⟩
              | some it2 =>
                have hat2 : D.at r = it2 := by unfold Dk.at; rw [hg2]; rfl
                rw [hat2] at hal2 hd2
                rw [kind_some hg2, hd2, if_neg (by decide)] at hkc2
                have hpl2 := fun (w : World) (h : RfAt dk (some ⟨kg, ko, none⟩) cap l D w) => rfplaceY_c r hR hg2 h hl
                obtain ⟨dir2, dat2, kept2, loose2, anew2, stamp2⟩ := it2
                dsimp only at hd2 hal2
                rcases Decidable.em (p = r) with hpr | hpr
                all_goals
                  repeat' (first | (show WL _ _ _ _ _ _ _; first | refine WL.pure rfl rfl rfl rfl ?_ | refine WL.nil ?_ | refine WL.load hS rfl rfl (LdOk.box Mm rfl) rfl rfl rfl ?_ | (refine WL.calls hS rfl rfl (hmay _ (St.rfAt hS Mm Mm)) rfl rfl rfl ?_; rintro v w rfl hS) | (refine WL.calls hS rfl rfl (hmay2 _ (St.rfAt hS Mm Mm)) rfl rfl rfl ?_; rintro v w rfl hS) | (refine WL.calls hS rfl rfl (hhc _ (St.rfAt hS Mm Mm)) rfl rfl rfl ?_; rintro v w rfl hS) | (refine WL.calls hS rfl rfl (hkc _ (St.rfAt hS Mm Mm)) rfl rfl rfl ?_; rintro v w rfl hS) | (refine WL.calls hS rfl rfl (hkc2 _ (St.rfAt hS Mm Mm)) rfl rfl rfl ?_; rintro v w rfl hS) | (refine WL.calls hS rfl rfl (rfvol_c p _ hp) rfl rfl rfl ?_; rintro v w rfl hS) | (refine WL.calls hS rfl rfl (rfvol_c r _ hr) rfl rfl rfl ?_; rintro v w rfl hS) | (refine WL.calls hS rfl rfl (rffits_c r _ (St.rfAt hS Mm Mm)) rfl rfl rfl ?_; rintro v w rfl hS) | (refine WL.callL (D := rfL dk (some ⟨kg, ko, none⟩) cap l D) hS Pu rfl rfl (fun hI => rfdone_c hI) rfl rfl rfl ?_; rintro v w ⟨rfl, hm⟩ hS; replace hS := hS _ hm; clear hm) | refine WL.skip rfl rfl rfl ?_ | ((fail_if_success (refine WL.wanted rfl ?_)); refine WL.guard rfl rfl rfl (fun h => ?_) (fun h => ?_) <;> (try simp only [ZZ0, ZZ1, ZZ2, ZZ3, ZZ4, ZZ5, ZZ6, ZZ7, ZZ8, ZZ9, ZZ10, ZZ11, ZZ12, ZZ13, ZZ14, ZZ15] at h) <;> (try (exfalso; first | omega | contradiction)))) | (show WC _ _ _ _ _ _; first | refine WC.seq ?_ | refine WC.region ?_ | refine WC.skip ?_ | refine WC.ret ?_ | (show WC _ _ (Code.region _ (List.toArray [_, _, _, _, _, _, _, _, _, _, _]) true) _ _ _; refine WC.drawP hS [0,1,2,3,4,5,7,8] [0,1,2,3,4,5] (.two 6 [7,8,9,10] .nil 9 [6,7,8,10] .nil) (by kernel_rfl) (by kernel_rfl) ?_; clear hS; intro w hS hM) | (show WC _ _ (Code.region _ (List.toArray [_, _, _, _, _, _, _, _, _, _, _, _, _, _]) true) _ _ _; refine WC.drawS hS [0,1,2,3,4,5,6,8,9,10,11,12,13] [0,1,2,3,4,5,6,7,8,9,10,11,12,13] (by kernel_rfl) (by kernel_rfl) ?_; clear hS; intro w hS hM) | refine WC.condF rfl (by with_reducible rfl) ?_ | refine WC.condT rfl (by decide) ?_ | refine WC.condF rfl (by decide) ?_ | refine WC.condF rfl (decide_eq_false (by first | with_reducible assumption | omega)) ?_ | (refine WC.cond rfl (fun h => ?_) (fun h => ?_) <;> (try simp only [ZZ0, ZZ1, ZZ2, ZZ3, ZZ4, ZZ5, ZZ6, ZZ7, ZZ8, ZZ9, ZZ10, ZZ11, ZZ12, ZZ13, ZZ14, ZZ15] at h) <;> (try (exfalso; first | omega | contradiction)))) | (show WD _ _ _ _ _ _ _ _ _; first | refine WD.sub (a := (dat.length : Int)) (b := (dat2.length : Int)) rfl rfl rfl (by omega) rfl rfl rfl rfl ?_ | refine WD.sub (a := 0) (b := (dat2.length : Int)) rfl rfl rfl (by omega) rfl rfl rfl rfl ?_ | refine WD.pure rfl rfl rfl rfl rfl ?_ | refine WD.nil ?_ | refine WD.load rfl rfl (LdOk.box Mm rfl) rfl rfl rfl rfl ?_ | (refine WD.fork ?_ ?_) | (refine WD.alloc (t := 110) hS hM rfl rfl rfl rfl rfl rfl rfl rfl ?_; clear hS hM; intro w b hS hM) | (refine WD.calls hS hM rfl rfl (hpl _ (St.rfAt hS Mm Mm)) rfl rfl rfl rfl rfl ?_; clear hS; rintro v w ⟨i, hli, rfl⟩ hS; have hil := (List.getElem?_eq_some_iff.1 hli).1) | (refine WD.load rfl rfl (LdOk.ownElemE (enc := encRi) (k := i) (fun _ => rfl) Mm hli rfl rfl) rfl rfl rfl rfl ?_) | (refine WD.store hS rfl rfl rfl Sb rfl (by first | exact .refl _ _ | exact .chunk (.refl _ _) _ | exact .chunk (.chunk (.refl _ _) _) _) rfl rfl rfl rfl ?_; clear hS hM; intro w hS hM) | (refine WD.calls hS hM rfl rfl (hpl2 _ (St.rfAt hS Mm Mm)) rfl rfl rfl rfl rfl ?_; clear hS; rintro v w ⟨j, hlj, rfl⟩ hS; have hjl := (List.getElem?_eq_some_iff.1 hlj).1) | (refine WD.load rfl rfl (LdOk.ownAt (off := j * 7 + 2) Mm rfl ⟨_, rfl⟩ (ris_fld hlj (by decide)) rfl) rfl rfl rfl rfl ?_) | refine WD.index rfl rfl rfl rfl (by first | with_reducible assumption | omega) rfl rfl rfl rfl rfl ?_) | (refine WDo.alloc (t := 110) hS hM rfl rfl rfl rfl rfl rfl rfl ?_; clear hS hM; intro w b hS hM) | (refine WDo.calls hS hM rfl rfl (hpl _ (St.rfAt hS Mm Mm)) rfl rfl rfl rfl ?_; clear hS; rintro v w ⟨i, hli, rfl⟩ hS; have hil := (List.getElem?_eq_some_iff.1 hli).1) | refine seqQ_n ?_)
                  all_goals
                    have hS := St.objClose (φ := rfφ dk D.step) (hS.pulls (D := rfL dk (some ⟨kg, ko, none⟩) cap l D.step) Pu) ⟨some ⟨kg, ko, none⟩, cap, l, hR2, rfl⟩
                    exact fin1r rfl rfl ⟨rfl, _, hS.mutLp Pu⟩
    · rw [if_pos he2]
      repeat' (first | (show WL _ _ _ _ _ _ _; first | refine WL.pure rfl rfl rfl rfl ?_ | refine WL.nil ?_ | (refine WL.calls hS rfl rfl (hmay _ (St.rfAt hS Mm Mm)) rfl rfl rfl ?_; rintro v w rfl hS) | (refine WL.calls hS rfl rfl (hmay2 _ (St.rfAt hS Mm Mm)) rfl rfl rfl ?_; rintro v w rfl hS)) | (show WC _ _ _ _ _ _; first | refine WC.seq ?_ | refine WC.region ?_ | refine WC.skip ?_ | refine WC.ret ?_ | refine WC.condF rfl (by decide) ?_ | refine WC.condT rfl (decide_eq_true (by first | with_reducible assumption | omega)) ?_) | refine seqQ_n ?_ | refine seqQ_r ?_)
      have hS := St.objClose (φ := rfφ dk D) (hS.pulls (D := rfL dk A cap l D) Pu) ⟨A, cap, l, hR, rfl⟩
      exact fin1r rfl rfl ⟨rfl, _, hS.mutLp Pu⟩
  · rw [if_pos he]
    repeat' (first | (show WL _ _ _ _ _ _ _; first | refine WL.pure rfl rfl rfl rfl ?_ | refine WL.nil ?_ | (refine WL.calls hS rfl rfl (hmay _ (St.rfAt hS Mm Mm)) rfl rfl rfl ?_; rintro v w rfl hS)) | (show WC _ _ _ _ _ _; first | refine WC.seq ?_ | refine WC.region ?_ | refine WC.ret ?_ | refine WC.condT rfl (decide_eq_true (by first | with_reducible assumption | omega)) ?_) | refine seqQ_n ?_ | refine seqQ_r ?_)
    have hS := St.objClose (φ := rfφ dk D) (hS.pulls (D := rfL dk A cap l D) Pu) ⟨A, cap, l, hR, rfl⟩
    exact fin1r rfl rfl ⟨rfl, _, hS.mutLp Pu⟩
end Go.Proofs.YtccfiohagbneaaaGreatDoor

/- What is proved: what bytes of which one bit is turned are, and what the disk's Rot does. Conditions: texts of bounded length. -/
namespace Go.Proofs.YtccfiohagbneaaaGreatDoor
open Go Go.J Go.RowKit
def turnK (s : List UInt8) (bit : Int) : Nat := (bit % (8 * (s.length : Int))).toNat
def turnE (s : List UInt8) (bit : Int) : List UInt8 := match s[turnK s bit / 8]? with
  | some c => s.set (turnK s bit / 8) (UInt8.ofNat (c.toNat ^^^ 2 ^ (turnK s bit % 8)))
  | none => s
def Dk.rot (D : Dk) (p : List UInt8) (bit : Int) : Int × Dk := if D.file p ≠ 0 then (D.file p, D) else (0, D.set p { D.at p with data := turnE (D.at p).data bit, kept := turnE (D.at p).kept bit })
end Go.Proofs.YtccfiohagbneaaaGreatDoor

/- What is proved: what the reference's Turn of a bit answers. Conditions: texts of bounded length. -/
namespace Go.Proofs.YtccfiohagbneaaaGreatDoor
open Go Go.J Go.RowKit
end Go.Proofs.YtccfiohagbneaaaGreatDoor

/- What is proved: what the reference's disk answers and does: New, Read, Rot. Conditions: a disk of bounded size. -/
namespace Go.Proofs.YtccfiohagbneaaaGreatDoor
open Go Go.J Go.RowKit
set_option maxHeartbeats 4000000 in
set_option maxRecDepth 100000 in
theorem rfnew_c (w0 : World) : Cal Tryz.prog 10 [] w0 (fun v w' => Upd [] w0 w' ∧ ∃ b fp, v = .pointer (some ⟨b, 0, none⟩) ∧ New w0 w' (rfC b Dk0 fp)) := by
  refine Cal.mk' (by kernel_rfl) Tryz.func10 rfl rfl fun hS => ?_
  repeat' (first | (show WL _ _ _ _ _ _ _; first | refine WL.pure rfl rfl rfl rfl ?_ | refine WL.nil ?_ | (refine WL.box hS rfl rfl rfl rfl rfl ?_; intro w b hS) | refine WL.build rfl rfl rfl rfl rfl ?_) | (show WC _ _ _ _ _ _; first | refine WC.seq ?_ | refine WC.region ?_ | refine WC.ret ?_) | refine seqQ_n ?_)
  have hS := hS.nilRow 110 7
  have hS := St.objClose (φ := rfφ b Dk0) (hS.pulls (D := rfL b none 0 [] Dk0) Pu) ⟨none, 0, [], RepL.nil, rfl⟩
  exact fin1r rfl rfl ⟨hS.upd, b, _, rfl, hS.newOf (List.Mem.head _)⟩
section
variable {dk : Nat} {A : Option Addr} {cap : Nat} {l : List Ri} {D : Dk} {w0 : World}
set_option maxHeartbeats 8000000 in
set_option maxRecDepth 100000 in
theorem rfread_c (p : List UInt8) (hR : RepL l D.items) (hA : RfAt dk A cap l D w0) (hl : l.length ≤ 1048576) : Cal Tryz.prog 28 [.pointer (some ⟨dk, 0, none⟩), str p] w0
    (fun v w' => Upd [] w0 w' ∧ v = .tuple #[str (D.read p).1, .int .i64 (D.read p).2]) := by
  refine Cal.mk' (by kernel_rfl) Tryz.func28 rfl rfl fun hS => ?_
  have hb := hA.box
  have hkc := fun (w : World) (h : RfAt dk A cap l D w) => rfkind_c p hR h hl
  unfold Dk.read
  cases hg : mget D.items p with
  | none =>
    have hh : D.has p = false := by unfold Dk.has; rw [hg]; rfl
    rw [kind_none hg] at hkc
    rw [hh]
    generalize D.down = dn at *
    cases dn
    all_goals
      repeat' (first | (show WL _ _ _ _ _ _ _; first | refine WL.pure rfl rfl rfl rfl ?_ | refine WL.nil ?_ | (refine WL.load hS rfl rfl (LdOk.old hb Mm rfl) rfl rfl rfl ?_) | (refine WL.calls hS rfl rfl (hkc _ (St.rfOld hS hA Mm)) rfl rfl rfl ?_; rintro v w rfl hS)) | (show WC _ _ _ _ _ _; first | refine WC.seq ?_ | refine WC.region ?_ | refine WC.skip ?_ | refine WC.ret ?_ | refine WC.condT rfl (by with_reducible rfl) ?_ | refine WC.condF rfl (by with_reducible rfl) ?_ | refine WC.condT rfl (by decide) ?_) | refine seqQ_n ?_ | refine seqQ_r ?_)
      exact fin2r rfl rfl rfl ⟨hS.upd, rfl⟩
  | some it =>
    have hat : D.at p = it := by unfold Dk.at; rw [hg]; rfl
    have hh : D.has p = true := by unfold Dk.has; rw [hg]; rfl
    rw [kind_some hg] at hkc
    rw [hat, hh, if_neg (show ¬ (true = false) by decide)]
    obtain ⟨i, hi⟩ := List.getElem?_of_mem (hR.at_ hg)
    have hpl := fun (w : World) (h : RfAt dk A cap l D w) => rfplaceY_c p hR hg h hl
    obtain ⟨rb0, ro0, es0, hA0, -⟩ := hA.row.at_ (List.getElem?_eq_some_iff.1 hi).1
    subst hA0
    obtain ⟨dir, dat, kept, loose, anew, stamp⟩ := it
    dsimp only at *
    clear hi
    generalize D.down = dn at *
    cases dn
    case' false => cases dir
    all_goals
      repeat' (first | (show WL _ _ _ _ _ _ _; first | refine WL.pure rfl rfl rfl rfl ?_ | refine WL.nil ?_ | (refine WL.load hS rfl rfl (LdOk.old hb Mm rfl) rfl rfl rfl ?_) | (refine WL.calls hS rfl rfl (hkc _ (St.rfOld hS hA Mm)) rfl rfl rfl ?_; rintro v w rfl hS)) | (show WC _ _ _ _ _ _; first | refine WC.seq ?_ | refine WC.region ?_ | refine WC.skip ?_ | refine WC.ret ?_ | (show WC _ _ (Code.region _ (List.toArray [_, _, _, _, _, _, _, _, _, _, _, _]) true) _ _ _; refine WC.drawS hS [0,1,2,3,4,5,7,8,9,10,11] [0,1,2,3,4,5,6,7,8,9,10,11] (by kernel_rfl) (by kernel_rfl) ?_; clear hS; intro w hS hM) | refine WC.condT rfl (by with_reducible rfl) ?_ | refine WC.condF rfl (by with_reducible rfl) ?_ | refine WC.condF rfl (decide_eq_false (by first | with_reducible assumption | omega)) ?_ | refine WC.condT rfl (by first | (simp; done) | (simp; omega)) ?_ | refine WC.condF rfl (by first | (simp; done) | (simp; omega)) ?_) | (show WD _ _ _ _ _ _ _ _ _; first | refine WD.pure rfl rfl rfl rfl rfl ?_ | refine WD.nil ?_ | (refine WD.load rfl rfl (LdOk.old hb Mm rfl) rfl rfl rfl rfl ?_) | (refine WD.calls hS hM rfl rfl (hpl _ (St.rfOld hS hA Mm)) rfl rfl rfl rfl rfl ?_; clear hS; rintro v w ⟨i, hli, rfl⟩ hS; have hil := (List.getElem?_eq_some_iff.1 hli).1; obtain ⟨rb, ro, es, hAe, hF, hr, hes⟩ := hA.row.at_ hil; have hes : es = encRi l[i] := hes; subst hes; rw [(List.getElem?_eq_some_iff.1 hli).2] at hr; cases hAe; replace hr : w0.rangeAt _ (_ + i * 7) [str p, .bool false, str dat, str kept, .bool loose, .bool anew, .int .i64 stamp] := hr) | (refine WD.load rfl rfl (LdOk.snap (off := 2) hF hr Mm rfl) rfl rfl rfl rfl ?_) | refine WD.index rfl rfl rfl rfl (by first | with_reducible assumption | omega) rfl rfl rfl rfl rfl ?_) | refine seqQ_n ?_ | refine seqQ_r ?_)
      exact fin2r rfl rfl rfl ⟨hS.upd, rfl⟩
end
end Go.Proofs.YtccfiohagbneaaaGreatDoor

/- What is proved: what the reference's checksum answers. Conditions: a text of bounded length. -/
namespace Go.Proofs.YtccfiohagbneaaaGreatDoor
open Go Go.J Go.RowKit
theorem xor_half (a b : Nat) : (a ^^^ b) / 2 = (a / 2) ^^^ (b / 2) := Nat.xor_div_two
theorem xor_odd (a b : Nat) : ((a ^^^ b) % 2 = 1) ↔ ¬ ((a % 2 = 1) ↔ (b % 2 = 1)) := by
  exact Nat.xor_mod_two_eq_one
def refS (a x : Nat) : Nat := if (decide (a % 2 = 1)) ≠ (decide (x % 2 = 1)) then (a / 2) ^^^ 3988292384 else a / 2
theorem refS_crc (a x : Nat) : refS a x ^^^ (x / 2) = crcS (a ^^^ x) := by
  unfold refS crcS
  rw [xor_half]
  have h := xor_odd a x
  by_cases h1 : (a ^^^ x) % 2 = 1
  · have h2 := h.1 h1
    rw [if_pos h1, if_pos (fun e => h2 (decide_eq_decide.1 e)), Nat.xor_assoc, Nat.xor_comm 3988292384, ← Nat.xor_assoc]
  · have h2 : (a % 2 = 1) ↔ (x % 2 = 1) := Classical.byContradiction fun hn => h1 (h.2 hn)
    rw [if_neg h1, if_neg (fun e => e (decide_eq_decide.2 h2)), Nat.xor_zero]
theorem refS_lt {a : Nat} (x : Nat) (h : a < 4294967296) : refS a x < 4294967296 := by
  unfold refS
  split
  · exact Nat.xor_lt_two_pow (n := 32) (by omega) (by omega)
  · omega
theorem sub_xor {c : Nat} (h : c < 4294967296) : 4294967295 - c = 4294967295 ^^^ c := by
  refine Nat.eq_of_testBit_eq fun i => ?_
  rw [show 4294967295 - c = 2 ^ 32 - (c + 1) by omega, Nat.testBit_two_pow_sub_succ (by omega), Nat.testBit_xor, show (4294967295 : Nat) = 2 ^ 32 - 1 from rfl, Nat.testBit_two_pow_sub_one]
  by_cases hi : i < 32
  · rw [decide_eq_true hi]; simp
  · rw [decide_eq_false hi, Nat.testBit_lt_two_pow (Nat.lt_of_lt_of_le (show c < 2 ^ 32 by omega) (Nat.pow_le_pow_right (by decide) (by omega)))]; rfl
set_option maxHeartbeats 8000000 in
set_option maxRecDepth 100000 in
theorem rsum_c (s : List UInt8) (w0 : World) (hl : s.length ≤ 1099511627776) : Cal Tryz.prog 135 [str s] w0 (fun v w' => Upd [] w0 w' ∧ v = .int .u32 ((sumE s : Nat) : Int)) := by
  refine Cal.mk' (by kernel_rfl) Tryz.func135 rfl rfl fun hS => ?_
  repeat' (first | (show WL _ _ _ _ _ _ _; first | refine WL.pure rfl rfl rfl rfl ?_ | refine WL.nil ?_) | (show WC _ _ _ _ _ _; first | refine WC.seq ?_ | refine WC.region ?_ | refine WC.block ?_) | refine seqQ_n ?_)
  refine WC.loop (σ := Nat × Nat) [0] (fun (k, c) => [(3, .int .u32 (c : Int)), (4, .int .i64 (k : Int))]) (fun (k, c) w => k ≤ s.length ∧ c = crcL 4294967295 (s.take k) ∧ St w0 [] w [] _) (fun (k, _) => s.length - k) (0, 4294967295) ⟨Nat.zero_le _, rfl, hS⟩ ⟨rfl, rfl, trivial⟩ ?_
  clear hS
  rintro ⟨k, c⟩ g w ⟨hk, hc, hS⟩
  have hclt : c < 4294967296 := by rw [hc]; exact crcL_lt _ (by omega)
  by_cases hlt : k < s.length
  · have hx : s[k]? = some s[k] := List.getElem?_eq_getElem hlt
    have hnx : crcL 4294967295 (s.take (k + 1)) = crcB c s[k] := by rw [List.take_succ_eq_append_getElem hlt, crcL_snoc, ← hc]
    generalize s[k] = x at *
    clear hc
    have hxt := x.toNat_lt
    repeat' (first | (show WL _ _ _ _ _ _ _; first | refine WL.pure rfl rfl rfl rfl ?_ | refine WL.nil ?_ | refine WL.conv64 rfl rfl rfl (by omega) rfl rfl rfl ?_ | refine WL.idxS rfl rfl rfl rfl (by with_reducible assumption) rfl rfl rfl ?_) | (show WC _ _ _ _ _ _; first | refine WC.seq ?_ | refine WC.region ?_ | refine WC.block ?_ | refine WC.skip ?_ | refine WC.condT rfl (decide_eq_true (by first | with_reducible assumption | omega)) ?_) | refine seqQ_n ?_)
    refine WC.loop (σ := Nat × Nat × Nat) [0, 4] (fun (j, a, y) => [(3, .int .u32 (a : Int)), (5, .int .i64 (y : Int)), (6, .int .i64 (j : Int))]) (fun (j, a, y) w => (j ≤ 8 ∧ crcN (8 - j) (a ^^^ y) = crcB c x ∧ a < 4294967296 ∧ y < 2 ^ (8 - j)) ∧ St w0 [] w [] _) (fun (j, _) => 8 - j) (0, c, x.toNat) ⟨⟨by omega, rfl, hclt, hxt⟩, hS⟩ ⟨rfl, rfl, rfl, trivial⟩ ?_
    clear hS
    rintro ⟨j, a, y⟩ g w ⟨⟨hj, he, halt, hyl⟩, hS⟩
    by_cases h8 : j < 8
    · have hst := refS_crc a y
      have hlt2 := refS_lt y halt
      have h82 : 8 - j = (8 - (j + 1)) + 1 := by omega
      have hy256 : y < 256 := Nat.lt_of_lt_of_le hyl (Nat.pow_le_pow_right (n := 2) (by decide) (show 8 - j ≤ 8 by omega))
      have hyn : y / 2 < 2 ^ (8 - (j + 1)) := by rw [h82, Nat.pow_succ] at hyl; omega
      have hen : crcN (8 - (j + 1)) (refS a y ^^^ (y / 2)) = crcB c x := by rw [hst, ← he, h82]; rfl
      have hxa := u32_xor_nat (a / 2) 3988292384 (by omega) (by omega)
      have hwr : IntKind.u32.wrap ((a : Int) % 2) = (a : Int) % 2 := by rw [IntKind.wrap_u32']; omega
      have hwq : IntKind.u32.wrap ((a : Int) / 2) = (a : Int) / 2 := by rw [IntKind.wrap_u32']; omega
      have hq : (a : Int) / 2 = ((a / 2 : Nat) : Int) := by omega
      clear he hst hyl h82
      have hqy : (y : Int) / 2 = ((y / 2 : Nat) : Int) := by omega
      rcases Nat.mod_two_eq_zero_or_one a with pa | pa <;> rcases Nat.mod_two_eq_zero_or_one y with py | py
      · have hA : decide (((a : Nat) : Int) % 2 = 1) = false := decide_eq_false (by omega)
        have hY : decide (((y : Nat) : Int) % 2 = 1) = false := decide_eq_false (by omega)
        have hR : refS a y = a / 2 := by unfold refS; rw [pa, py]; rfl
        rw [hR] at hen hlt2
        clear hR
        repeat' (first | (show WL _ _ _ _ _ _ _; first | refine WL.pure rfl rfl rfl rfl ?_ | refine WL.nil ?_ | refine WL.add rfl rfl rfl (by omega) rfl rfl rfl ?_ | (refine WL.remK rfl rfl rfl (by omega) (by omega) hwr rfl rfl rfl ?_) | (refine WL.quoK rfl rfl rfl (by omega) (by omega) hwq rfl rfl rfl ?_; rw [hq]) | (refine WL.rem rfl rfl rfl (by omega) (by omega) rfl rfl rfl ?_) | (refine WL.quo rfl rfl rfl (by omega) (by omega) (by omega) rfl rfl rfl ?_; rw [hqy])) | (show WC _ _ _ _ _ _; first | refine WC.seq ?_ | refine WC.region ?_ | refine WC.block ?_ | refine WC.skip ?_ | refine WC.condT rfl (decide_eq_true (by first | with_reducible assumption | omega)) ?_ | refine WC.condF rfl (by first | (simp; done) | (simp; omega)) ?_) | refine seqQ_n ?_ | refine blkQ_n ?_)
        exact rndQ_n (j + 1, a / 2, y / 2) ⟨⟨by omega, hen, hlt2, hyn⟩, hS⟩ (by show 8 - (j + 1) < 8 - j; omega) ⟨rfl, rfl, vint (by omega), trivial⟩ ⟨rfl, rfl, trivial⟩
      · have hA : decide (((a : Nat) : Int) % 2 = 1) = false := decide_eq_false (by omega)
        have hY : decide (((y : Nat) : Int) % 2 = 1) = true := decide_eq_true (by omega)
        have hR : refS a y = (a / 2) ^^^ 3988292384 := by unfold refS; rw [pa, py]; rfl
        rw [hR] at hen hlt2
        clear hR
        repeat' (first | (show WL _ _ _ _ _ _ _; first | refine WL.pure rfl rfl rfl rfl ?_ | refine WL.nil ?_ | refine WL.add rfl rfl rfl (by omega) rfl rfl rfl ?_ | (refine WL.remK rfl rfl rfl (by omega) (by omega) hwr rfl rfl rfl ?_) | (refine WL.quoK rfl rfl rfl (by omega) (by omega) hwq rfl rfl rfl ?_; rw [hq]) | (refine WL.rem rfl rfl rfl (by omega) (by omega) rfl rfl rfl ?_) | (refine WL.quo rfl rfl rfl (by omega) (by omega) (by omega) rfl rfl rfl ?_; rw [hqy])) | (show WC _ _ _ _ _ _; first | refine WC.seq ?_ | refine WC.region ?_ | refine WC.block ?_ | refine WC.skip ?_ | refine WC.condT rfl (decide_eq_true (by first | with_reducible assumption | omega)) ?_ | refine WC.condT rfl (by first | (simp; done) | (simp; omega)) ?_) | refine seqQ_n ?_ | refine blkQ_n ?_)
        exact rndQ_n (j + 1, (a / 2) ^^^ 3988292384, y / 2) ⟨⟨by omega, hen, hlt2, hyn⟩, hS⟩ (by show 8 - (j + 1) < 8 - j; omega) ⟨congrArg (Value.int .u32) hxa, rfl, vint (by omega), trivial⟩ ⟨rfl, rfl, trivial⟩
      · have hA : decide (((a : Nat) : Int) % 2 = 1) = true := decide_eq_true (by omega)
        have hY : decide (((y : Nat) : Int) % 2 = 1) = false := decide_eq_false (by omega)
        have hR : refS a y = (a / 2) ^^^ 3988292384 := by unfold refS; rw [pa, py]; rfl
        rw [hR] at hen hlt2
        clear hR
        repeat' (first | (show WL _ _ _ _ _ _ _; first | refine WL.pure rfl rfl rfl rfl ?_ | refine WL.nil ?_ | refine WL.add rfl rfl rfl (by omega) rfl rfl rfl ?_ | (refine WL.remK rfl rfl rfl (by omega) (by omega) hwr rfl rfl rfl ?_) | (refine WL.quoK rfl rfl rfl (by omega) (by omega) hwq rfl rfl rfl ?_; rw [hq]) | (refine WL.rem rfl rfl rfl (by omega) (by omega) rfl rfl rfl ?_) | (refine WL.quo rfl rfl rfl (by omega) (by omega) (by omega) rfl rfl rfl ?_; rw [hqy])) | (show WC _ _ _ _ _ _; first | refine WC.seq ?_ | refine WC.region ?_ | refine WC.block ?_ | refine WC.skip ?_ | refine WC.condT rfl (decide_eq_true (by first | with_reducible assumption | omega)) ?_ | refine WC.condT rfl (by first | (simp; done) | (simp; omega)) ?_) | refine seqQ_n ?_ | refine blkQ_n ?_)
        exact rndQ_n (j + 1, (a / 2) ^^^ 3988292384, y / 2) ⟨⟨by omega, hen, hlt2, hyn⟩, hS⟩ (by show 8 - (j + 1) < 8 - j; omega) ⟨congrArg (Value.int .u32) hxa, rfl, vint (by omega), trivial⟩ ⟨rfl, rfl, trivial⟩
      · have hA : decide (((a : Nat) : Int) % 2 = 1) = true := decide_eq_true (by omega)
        have hY : decide (((y : Nat) : Int) % 2 = 1) = true := decide_eq_true (by omega)
        have hR : refS a y = a / 2 := by unfold refS; rw [pa, py]; rfl
        rw [hR] at hen hlt2
        clear hR
        repeat' (first | (show WL _ _ _ _ _ _ _; first | refine WL.pure rfl rfl rfl rfl ?_ | refine WL.nil ?_ | refine WL.add rfl rfl rfl (by omega) rfl rfl rfl ?_ | (refine WL.remK rfl rfl rfl (by omega) (by omega) hwr rfl rfl rfl ?_) | (refine WL.quoK rfl rfl rfl (by omega) (by omega) hwq rfl rfl rfl ?_; rw [hq]) | (refine WL.rem rfl rfl rfl (by omega) (by omega) rfl rfl rfl ?_) | (refine WL.quo rfl rfl rfl (by omega) (by omega) (by omega) rfl rfl rfl ?_; rw [hqy])) | (show WC _ _ _ _ _ _; first | refine WC.seq ?_ | refine WC.region ?_ | refine WC.block ?_ | refine WC.skip ?_ | refine WC.condT rfl (decide_eq_true (by first | with_reducible assumption | omega)) ?_ | refine WC.condF rfl (by first | (simp; done) | (simp; omega)) ?_) | refine seqQ_n ?_ | refine blkQ_n ?_)
        exact rndQ_n (j + 1, a / 2, y / 2) ⟨⟨by omega, hen, hlt2, hyn⟩, hS⟩ (by show 8 - (j + 1) < 8 - j; omega) ⟨rfl, rfl, vint (by omega), trivial⟩ ⟨rfl, rfl, trivial⟩
    · obtain rfl : j = 8 := by omega
      have hy0 : y = 0 := by have : y < 2 ^ 0 := hyl; omega
      subst hy0
      have he : a ^^^ 0 = crcB c x := he
      rw [Nat.xor_zero] at he
      subst he
      repeat' (first | (show WL _ _ _ _ _ _ _; first | refine WL.pure rfl rfl rfl rfl ?_ | refine WL.nil ?_ | refine WL.add rfl rfl rfl (by omega) rfl rfl rfl ?_) | (show WC _ _ _ _ _ _; first | refine WC.seq ?_ | refine WC.region ?_ | refine WC.exit ?_ | refine WC.condF rfl (by decide) ?_) | refine seqQ_n ?_ | refine blkQ_n ?_ | refine seqQ_x ?_ | refine blkQ_hit rfl ?_ | refine rndQ_x ?_)
      exact rndQ_n (k + 1, crcB c x) ⟨by omega, hnx.symm, hS⟩ (by show s.length - (k + 1) < s.length - k; omega) ⟨rfl, vint (by omega), trivial⟩ ⟨rfl, trivial⟩
  · have hks : s.take k = s := List.take_of_length_le (by omega)
    rw [hks] at hc
    subst hc
    have hcm := sub_xor hclt
    have hse : sumE s = 4294967295 - crcL 4294967295 s := by rw [hcm]; rfl
    have hwr : IntKind.u32.wrap (4294967295 - ((crcL 4294967295 s : Nat) : Int)) = ((sumE s : Nat) : Int) := by rw [IntKind.wrap_u32', hse]; omega
    clear hse hcm
    repeat' (first | (show WL _ _ _ _ _ _ _; first | refine WL.pure rfl rfl rfl rfl ?_ | refine WL.nil ?_) | (show WC _ _ _ _ _ _; first | refine WC.seq ?_ | refine WC.region ?_ | refine WC.exit ?_ | refine WC.ret ?_ | refine WC.condF rfl (decide_eq_false (by first | with_reducible assumption | omega)) ?_) | refine seqQ_n ?_ | refine seqQ_x ?_ | refine blkQ_hit rfl ?_ | refine rndQ_x ?_)
    exact fin1r rfl rfl ⟨hS.upd, congrArg (Value.int .u32) hwr⟩
end Go.Proofs.YtccfiohagbneaaaGreatDoor

/- What is proved: what the reference's frames are, written, read and looked through. Conditions: texts of bounded length. -/
namespace Go.Proofs.YtccfiohagbneaaaGreatDoor
open Go Go.J Go.RowKit
def leK : Nat → Nat → List UInt8
  | 0, _ => []
  | k + 1, c => UInt8.ofNat (c % 256) :: leK k (c / 256)
theorem leK_four (n : Nat) : leK 4 n = le4 n := by
  have e1 : n / 256 / 256 = n / 65536 := by rw [Nat.div_div_eq_div_mul]
  have e2 : n / 65536 / 256 = n / 16777216 := by rw [Nat.div_div_eq_div_mul]
  simp only [leK, le4, e1, e2]
theorem byteC_snoc (bs : List UInt8) (c : Nat) : byteC bs ++ [.int .u8 (IntKind.u8.wrap ((c : Int) % 256))] = byteC (bs ++ [UInt8.ofNat (c % 256)]) := by
  have e : IntKind.u8.wrap ((c : Int) % 256) = (((UInt8.ofNat (c % 256)).toNat : Nat) : Int) := by rw [Go.J.ofNat_toNat (by omega), IntKind.wrap_u8]; omega
  rw [e]
  simp [byteC]
set_option maxHeartbeats 8000000 in
set_option maxRecDepth 100000 in
theorem rpack_c (s : List UInt8) (w0 : World) (hl : s.length ≤ 1099511627776) : Cal Tryz.prog 73 [str s] w0 (fun v w' => Upd [] w0 w' ∧ v = str (packE s)) := by
  refine Cal.mk' (by kernel_rfl) Tryz.func73 rfl rfl fun hS => ?_
  have hlt := sumE_lt s
  have hk4 := leK_four (sumE s)
  have hp := putN_len10 (n := s.length) (by omega)
  have htl : (textE s).length = (putN s.length).length + s.length := by unfold textE; simp
  have hl4 : (le4 (sumE s)).length = 4 := rfl
  have hpk : textE s ++ le4 (sumE s) = packE s := rfl
  generalize le4 (sumE s) = b4 at *
  repeat' (first | (show WL _ _ _ _ _ _ _; first | refine WL.pure rfl rfl rfl rfl ?_ | refine WL.nil ?_ | (refine WL.calls hS rfl rfl (rsum_c s _ (by omega)) rfl rfl rfl ?_; rintro v w rfl hS)) | (show WC _ _ _ _ _ _; first | refine WC.seq ?_ | refine WC.region ?_ | refine WC.block ?_) | refine seqQ_n ?_)
  generalize sumE s = n at *
  have hS := hS.nilRow 5 1
  refine WC.loop (σ := Nat × Nat × List UInt8 × Option Addr × Nat) [0] (fun (i, c, bs, B, cp) => [(3, .int .u32 (c : Int)), (4, .slice B i cp), (5, .int .i64 (i : Int))])
    (fun (i, c, bs, B, cp) w => (i ≤ 4 ∧ c < 4294967296 ∧ bs ++ leK (4 - i) c = b4) ∧ St w0 [] w [.own (.slice B i cp) 5 1 i (byteC bs)] [⟨w0, Old w0⟩]) (fun (i, _) => 4 - i) (0, n, [], none, 0) ⟨⟨Nat.zero_le _, hlt, hk4⟩, hS⟩ ⟨rfl, rfl, rfl, trivial⟩ ?_
  clear hS hlt hk4
  rintro ⟨i, c, bs, B, cp⟩ g w ⟨⟨hi, hc, hbs⟩, hS⟩
  show WC _ _ _ (lf _ [(3, .int .u32 (c : Int)), (4, .slice B i cp), (5, .int .i64 (i : Int))] _ _) _ _
  by_cases hlt : i < 4
  · have hw1 : IntKind.u32.wrap ((c : Int) % 256) = (c : Int) % 256 := by rw [IntKind.wrap_u32]; omega
    have hw2 : IntKind.u32.wrap ((c : Int) / 256) = (c : Int) / 256 := by rw [IntKind.wrap_u32]; omega
    have hq : (c : Int) / 256 = ((c / 256 : Nat) : Int) := rfl
    have hnx : (bs ++ [UInt8.ofNat (c % 256)]) ++ leK (4 - (i + 1)) (c / 256) = b4 := by
      rw [← hbs, List.append_assoc, show 4 - i = 4 - (i + 1) + 1 by omega]
      rfl
    clear hbs
    repeat' (first | (show WL _ _ _ _ _ _ _; first | refine WL.pure rfl rfl rfl rfl ?_ | refine WL.nil ?_ | refine WL.add rfl rfl rfl (by omega) rfl rfl rfl ?_ | (refine WL.remK rfl rfl rfl (by omega) (by omega) hw1 rfl rfl rfl ?_) | (refine WL.quoK rfl rfl rfl (by omega) (by omega) hw2 rfl rfl rfl ?_; rw [hq]) | (refine WL.app (m := 1) hS rfl rfl rfl rfl (RdOk.box Mm) rfl rfl (fun A cap => Rp) (by omega) rfl rfl rfl ?_; intro A3 cap3 w hS) | (refine WL.slit hS rfl rfl rfl rfl rfl ?_; intro w b hS)) | (show WC _ _ _ _ _ _; first | refine WC.seq ?_ | refine WC.region ?_ | refine WC.block ?_ | refine WC.skip ?_ | refine WC.condT rfl (decide_eq_true (by first | with_reducible assumption | omega)) ?_) | refine seqQ_n ?_ | refine blkQ_n ?_)
    replace hS : St w0 _ w (_ :: .own (.slice A3 (i + 1) cap3) 5 1 (i + 1) (byteC bs ++ [.int .u8 (IntKind.u8.wrap ((c : Int) % 256))]) :: _) _ := hS
    rw [byteC_snoc] at hS
    exact rndQ_n (i + 1, c / 256, bs ++ [UInt8.ofNat (c % 256)], A3, cap3) ⟨⟨by omega, by omega, hnx⟩, hS.droplast2 Pu⟩ (by show 4 - (i + 1) < 4 - i; omega) ⟨rfl, rfl, vint (by omega), trivial⟩ ⟨rfl, trivial⟩
  · have hie : i = 4 := by omega
    subst hie
    have hbs : bs = b4 := by simpa [leK] using hbs
    subst hbs
    repeat' (first | (show WL _ _ _ _ _ _ _; first | refine WL.pure rfl rfl rfl rfl ?_ | refine WL.nil ?_) | (show WC _ _ _ _ _ _; first | refine WC.seq ?_ | refine WC.region ?_ | refine WC.exit ?_ | refine WC.ret ?_ | (show WC _ _ (Code.region _ (List.toArray [_, _, _, _, _, _]) true) _ _ _; refine WC.drawP hS [0,2,4,5] [0,2] (.two 1 [3,4,5] .nil 3 [1,4,5] .nil) (by kernel_rfl) (by kernel_rfl) ?_; clear hS; intro w hS hM) | refine WC.condF rfl (by decide) ?_) | (show WD _ _ _ _ _ _ _ _ _; first | refine WD.pure rfl rfl rfl rfl rfl ?_ | refine WD.nil ?_ | (refine WD.fork ?_ ?_) | (refine WD.calls hS hM rfl rfl (rtextw_c s _ (by omega)) rfl rfl rfl rfl rfl ?_; clear hS; rintro v w rfl hS) | (refine WD.b2s (s := bs) hS hM rfl rfl rfl rfl Mm rfl rfl rfl rfl rfl rfl ?_) | (refine WD.cat rfl rfl rfl (by omega) rfl rfl rfl rfl ?_)) | (refine WDo.calls hS hM rfl rfl (rtextw_c s _ (by omega)) rfl rfl rfl rfl ?_; clear hS; rintro v w rfl hS) | (refine WDo.b2s (s := bs) hS hM rfl rfl rfl rfl Mm rfl rfl rfl rfl rfl ?_) | refine seqQ_n ?_ | refine seqQ_x ?_ | refine blkQ_hit rfl ?_ | refine rndQ_x ?_)
    all_goals exact fin1r rfl rfl ⟨hS.upd, congrArg str hpk⟩
def frV0 (r : List UInt8 × Nat × Int) : Value := .tuple #[str r.1, .int .i64 (r.2.1 : Int), .int .i64 r.2.2]
set_option maxHeartbeats 8000000 in
set_option maxRecDepth 100000 in
theorem rfrd_c (s : List UInt8) (w0 : World) (hl : s.length ≤ 1099511627776) : Cal Tryz.prog 93 [str s] w0 (fun v w' => Upd [] w0 w' ∧ v = frV0 (readE s)) := by
  refine Cal.mk' (by kernel_rfl) Tryz.func93 rfl rfl fun hS => ?_
  have hrt := fun (w0 : World) => rrtext_c s w0 hl
  have hok := rtextE_le s
  unfold readE
  unfold rtextV0 at hrt
  generalize rtextE s = r at *
  obtain ⟨x, u, e⟩ := r
  dsimp only at hok hrt ⊢
  by_cases he : e = 0
  · subst he
    obtain ⟨hul, hxl⟩ := hok rfl
    clear hok
    rw [if_pos rfl]
    by_cases h4 : s.length < u + 4
    · rw [if_pos h4]
      repeat' (first | (show WL _ _ _ _ _ _ _; first | refine WL.pure rfl rfl rfl rfl ?_ | refine WL.nil ?_ | refine WL.sub rfl rfl rfl (by omega) rfl rfl rfl ?_ | (refine WL.calls hS rfl rfl (hrt _) rfl rfl rfl ?_; rintro v w rfl hS)) | (show WC _ _ _ _ _ _; first | refine WC.seq ?_ | refine WC.region ?_ | refine WC.skip ?_ | refine WC.ret ?_ | refine WC.condF rfl (by decide) ?_ | refine WC.condT rfl (decide_eq_true (by first | with_reducible assumption | omega)) ?_) | refine seqQ_n ?_ | refine seqQ_r ?_)
      exact fin3r rfl rfl rfl rfl ⟨hS.upd, rfl⟩
    · rw [if_neg h4]
      by_cases hpk : packE x = s.take (u + 4)
      case' pos => rw [if_pos hpk]
      case' neg => rw [if_neg hpk]; have hpk' : ¬ s.take (u + 4) = packE x := fun e => hpk e.symm
      all_goals
        repeat' (first | (show WL _ _ _ _ _ _ _; first | refine WL.pure rfl rfl rfl rfl ?_ | refine WL.nil ?_ | refine WL.add rfl rfl rfl (by omega) rfl rfl rfl ?_ | refine WL.sub rfl rfl rfl (by omega) rfl rfl rfl ?_ | (refine WL.calls hS rfl rfl (hrt _) rfl rfl rfl ?_; rintro v w rfl hS)) | (show WC _ _ _ _ _ _; first | refine WC.seq ?_ | refine WC.region ?_ | refine WC.skip ?_ | refine WC.ret ?_ | (show WC _ _ (Code.region _ (List.toArray [_, _, _, _, _, _, _]) true) _ _ _; refine WC.drawS hS [0,1,2,3,4,6] [0,1,2,3,4,5,6] (by kernel_rfl) (by kernel_rfl) ?_; clear hS; intro w hS hM) | (refine WC.condT rfl (by first | (simp [hpk']; done) | fail) ?_) | (refine WC.condF rfl (by first | (simp [hpk]; done) | fail) ?_) | refine WC.condF rfl (decide_eq_false (by first | with_reducible assumption | omega)) ?_) | (show WD _ _ _ _ _ _ _ _ _; first | refine WD.pure rfl rfl rfl rfl rfl ?_ | refine WD.nil ?_ | refine WD.add rfl rfl rfl (by omega) rfl rfl rfl rfl ?_ | (refine WD.highS (j := u + 4) rfl rfl rfl (by first | rfl | exact vint (show _ = ((u + 4 : Nat) : Int) by omega)) (by omega) rfl rfl rfl rfl ?_) | (refine WD.calls hS hM rfl rfl (rpack_c x _ (by omega)) rfl rfl rfl rfl rfl ?_; clear hS; rintro v w rfl hS)) | refine seqQ_n ?_ | refine seqQ_r ?_)
        exact fin3r rfl rfl rfl rfl ⟨hS.upd, rfl⟩
  · rw [if_neg he]
    repeat' (first | (show WL _ _ _ _ _ _ _; first | refine WL.pure rfl rfl rfl rfl ?_ | refine WL.nil ?_ | (refine WL.calls hS rfl rfl (hrt _) rfl rfl rfl ?_; rintro v w rfl hS)) | (show WC _ _ _ _ _ _; first | refine WC.seq ?_ | refine WC.region ?_ | refine WC.ret ?_ | refine WC.condT rfl (decide_eq_true (by first | with_reducible assumption | omega)) ?_) | refine seqQ_n ?_ | refine seqQ_r ?_)
    exact fin3r rfl rfl rfl rfl ⟨hS.upd, rfl⟩
set_option maxHeartbeats 8000000 in
set_option maxRecDepth 100000 in
theorem rscan_c (s : List UInt8) (w0 : World) (hl : s.length ≤ 1099511627776) : Cal Tryz.prog 70 [str s] w0
    (fun v w' => Upd [] w0 w' ∧ ∃ A cap, v = scV A (scanE s).1.length cap (scanE s).2.1 (scanE s).2.2 ∧ New w0 w' (.own (.slice A (scanE s).1.length cap) 9 1 (scanE s).1.length (strs (scanE s).1))) := by
  refine Cal.mk' (by kernel_rfl) Tryz.func70 rfl rfl fun hS => ?_
  repeat' (first | (show WL _ _ _ _ _ _ _; first | refine WL.pure rfl rfl rfl rfl ?_ | refine WL.nil ?_) | (show WC _ _ _ _ _ _; first | refine WC.seq ?_ | refine WC.region ?_ | refine WC.block ?_) | refine seqQ_n ?_)
  have hS := hS.nilRow 9 1
  refine WC.loop (σ := Nat × List (List UInt8) × Nat × Option Addr × Nat × Nat) [0] (fun (p, done, n, A, cap, k) => [(5, .slice A n cap), (6, .int .i64 (p : Int))])
    (fun (p, done, n, A, cap, k) w => p ≤ s.length ∧ s.length - p ≤ k ∧ n = done.length ∧ n ≤ p ∧ scanE s = (done ++ (scanF k (s.drop p)).1, p + (scanF k (s.drop p)).2.1, (scanF k (s.drop p)).2.2) ∧ St w0 [] w [.own (.slice A n cap) 9 1 n (strs done)] _)
    (fun (p, _) => s.length - p) (0, [], 0, none, 0, s.length) ⟨Nat.zero_le _, by omega, rfl, Nat.zero_le _, by simp [scanE], hS⟩ ⟨rfl, rfl, trivial⟩ ?_
  clear hS
  rintro ⟨p, done, n, A, cap, k⟩ g w ⟨hp, hk, hn, hnp, hsc, hS⟩
  show WC _ _ _ (lf _ [(5, .slice A n cap), (6, .int .i64 (p : Int))] _ _) _ _
  by_cases hlt : p < s.length
  · have hne : s.drop p ≠ [] := by intro e; have := congrArg List.length e; simp at this; omega
    obtain ⟨k, rfl⟩ : ∃ k', k = k' + 1 := ⟨k - 1, by omega⟩
    have hle := readE_le (s.drop p)
    have hlen : (s.drop p).length = s.length - p := by simp
    have hrc := fun (w0 : World) => rfrd_c (s.drop p) w0 (by omega)
    unfold frV0 at hrc
    rcases hr : readE (s.drop p) with ⟨x, u, e⟩
    rw [hr] at hrc
    simp only [scanF, if_neg hne, hr] at hsc
    rw [hr] at hle
    dsimp only at hrc
    by_cases he : e = 0
    · subst he
      rw [if_pos rfl] at hsc
      obtain ⟨h4, hu, hx⟩ := hle rfl
      dsimp only at h4 hu hx
      rw [hlen] at hu hx
      have hdd : (s.drop p).drop u = s.drop (p + u) := by rw [List.drop_drop]
      rw [hdd] at hsc
      clear hle hr
      repeat' (first | (show WL _ _ _ _ _ _ _; first | refine WL.pure rfl rfl rfl rfl ?_ | refine WL.nil ?_ | refine WL.add rfl rfl rfl (by omega) rfl rfl rfl ?_ | (refine WL.lowS (j := p) rfl rfl rfl rfl (by omega) rfl rfl rfl ?_) | (refine WL.calls hS rfl rfl (hrc _) rfl rfl rfl ?_; rintro v w rfl hS) | (refine WL.app hS rfl rfl rfl rfl (RdOk.box Mm) rfl rfl (fun A cap => Rp) (by omega) rfl rfl rfl ?_; intro A3 cap3 w hS) | (refine WL.slit hS rfl rfl rfl rfl rfl ?_; intro w b hS)) | (show WC _ _ _ _ _ _; first | refine WC.seq ?_ | refine WC.region ?_ | refine WC.block ?_ | refine WC.skip ?_ | refine WC.condF rfl (by decide) ?_ | refine WC.condT rfl (decide_eq_true (by first | with_reducible assumption | omega)) ?_) | refine seqQ_n ?_ | refine blkQ_n ?_)
      exact rndQ_n (p + u, done ++ [x], n + 1, A3, cap3, k) ⟨by omega, by omega, by simp [hn], by omega, by rw [hsc]; simp [Nat.add_assoc], by rw [← strs_snoc]; exact hS.droplast2 Pu⟩ (by show s.length - (p + u) < s.length - p; omega) ⟨rfl, vint (by omega), trivial⟩ ⟨rfl, trivial⟩
    · rw [if_neg he] at hsc
      simp only [List.append_nil, Nat.add_zero] at hsc
      rw [hsc]
      clear hle hr
      repeat' (first | (show WL _ _ _ _ _ _ _; first | refine WL.pure rfl rfl rfl rfl ?_ | refine WL.nil ?_ | (refine WL.lowS (j := p) rfl rfl rfl rfl (by omega) rfl rfl rfl ?_) | (refine WL.calls hS rfl rfl (hrc _) rfl rfl rfl ?_; rintro v w rfl hS)) | (show WC _ _ _ _ _ _; first | refine WC.seq ?_ | refine WC.region ?_ | refine WC.block ?_ | refine WC.skip ?_ | refine WC.ret ?_ | refine WC.condT rfl (decide_eq_true (by first | with_reducible assumption | omega)) ?_) | refine seqQ_n ?_ | refine seqQ_r ?_ | refine blkQ_r ?_ | refine rndQ_r ?_)
      subst hn
      exact fin3r rfl rfl rfl rfl ⟨hS.upd, _, _, rfl, hS.newOf (List.Mem.head _)⟩
  · have hde : s.drop p = [] := List.drop_of_length_le (by omega)
    have hsf : scanF k [] = ([], 0, 0) := by cases k <;> simp [scanF]
    rw [hde, hsf] at hsc
    simp only [List.append_nil, Nat.add_zero] at hsc
    rw [hsc]
    repeat' (first | (show WL _ _ _ _ _ _ _; first | refine WL.pure rfl rfl rfl rfl ?_ | refine WL.nil ?_) | (show WC _ _ _ _ _ _; first | refine WC.seq ?_ | refine WC.region ?_ | refine WC.exit ?_ | refine WC.ret ?_ | refine WC.condF rfl (decide_eq_false (by first | with_reducible assumption | omega)) ?_) | refine seqQ_n ?_ | refine seqQ_x ?_ | refine blkQ_hit rfl ?_ | refine rndQ_x ?_)
    subst hn
    exact fin3r rfl rfl rfl rfl ⟨hS.upd, _, _, rfl, hS.newOf (List.Mem.head _)⟩
end Go.Proofs.YtccfiohagbneaaaGreatDoor

/- What is proved: that Apart of reference 2 answers true of rows of texts that are the call's own. Conditions: rows of bounded length. -/
namespace Go.Proofs.YtccfiohagbneaaaGreatDoor
open Go Go.J Go.RowKit
theorem WD.storeOwn {P : Program} {N : Fz} {f : Fr} {w w0 : World} {Q : Post} {ops : List Oper} {M : List Nat} {H0 H H' : List Chunk} {Z0 Z : List Snap} {q : Qs} {l : List Nat} {i : Nat} {ty : TypeId} {x y : Operand} {g off0 off n cap n' : Nat} {e : TypeId} {size : Nat} {xs vs : List Value} (hS : St w0 M w H Z) (ho : (ix ops i).op = .store ty x y) (hx : ev f x = .pointer (some ⟨g, off0 + off, none⟩)) (hy : cellsO (ev f y) = some vs)
    (hr : Repl (.own (.slice (some ⟨g, off0, none⟩) n cap) e size n' xs) (.own (.slice (some ⟨g, off0, none⟩) n cap) e size n' (xs.take off ++ vs ++ xs.drop (off + vs.length))) H H') (hfit : off + vs.length ≤ xs.length) (h1 : one vs = true) (hn : tySize P ty = some vs.length)
    (hM : More H0 Z0 H' Z) (hq : q.contains i = false) (hi : Nat.blt i ops.length = true) (hg : wants ops f (ix ops i) = true) (hd : (ix ops i).dst = none)
    (h : ∀ w', St w0 M w' H' Z → More H0 Z0 H' Z → WD P N (SS w0 M H0 Z0) ops q l f w' Q) : WD P N (SS w0 M H0 Z0) ops q (i :: l) f w Q := by
  obtain ⟨cs', hrun, hown'⟩ := run_storeOwn (P := P) ho hx (cellsO_eq hy) (hS.holds _ hr.mem) hfit h1 hn
  have hS' := hS.step hr ((Upd.setRow _ _ _).mono (by simp [Chunk.fp, Value.ownBlock])) hown' fun b hb => .inl hb
  exact .unit0 hq hi hg hd hrun (hM.ss hS') (h _ hS' hM)
def mks : List UInt8 := [97, 98, 99, 100, 101, 102, 103, 104, 105, 106, 107, 108, 109, 110, 111, 112, 113, 114, 115, 116, 117, 118, 119, 120, 121, 122]
def encT (s : List UInt8) : List Value := [str s]
def mT (j : Nat) : List UInt8 := [119, 97, 115] ++ (mks.take (j % 26 + 1)).drop (j % 26)
def nT (j : Nat) : List UInt8 := [110, 101, 119] ++ (mks.take (j % 26 + 1)).drop (j % 26)
theorem mks_one {j : Nat} : ((mks.take (j % 26 + 1)).drop (j % 26)).length = 1 := by
  rw [List.length_drop, List.length_take, show mks.length = 26 from rfl]
  omega
theorem rwMapS : ∀ rs : List Rw, rs.flatMap encRw = rs.map Rw.val
  | [] => rfl
  | a :: l => by rw [List.flatMap_cons, List.map_cons, rwMapS l]; rfl
theorem rwAtS {rs : List Rw} {i : Nat} (h : i < rs.length) : (rs.flatMap encRw)[i * 1]? = some rs[i].val := by
  rw [Nat.mul_one, rwMapS, List.getElem?_map, List.getElem?_eq_getElem h]
  rfl
set_option maxHeartbeats 32000000 in
set_option maxRecDepth 100000 in
theorem rapartS_c (rs : List Rw) (cs : List Chunk) {OA : Option Addr} {oc : Nat} {w0 : World} (hi : InL w0 (.own (.slice OA rs.length oc) 56 1 rs.length (rs.flatMap encRw) :: cs)) (hm : MarkIs encT 9 1 mT rs cs 0) (hl : rs.length ≤ 1000) (hz : ∀ r ∈ rs, r.n ≤ 1048576) :
    Cal Tryz.prog 33 [.slice OA rs.length oc] w0 (fun v w' => v = .bool true ∧ MutL w0 w' (.own (.slice OA rs.length oc) 56 1 rs.length (rs.flatMap encRw) :: cs) []) := by
  refine Cal.mkL hi (by kernel_rfl) Tryz.func33 rfl rfl fun hS => ?_
  have hfp : ∀ {w : World}, St w0 (fps (.own (.slice OA rs.length oc) 56 1 rs.length (rs.flatMap encRw) :: cs)) w [] (ZL w0 (.own (.slice OA rs.length oc) 56 1 rs.length (rs.flatMap encRw) :: cs)) → MutL w0 w (.own (.slice OA rs.length oc) 56 1 rs.length (rs.flatMap encRw) :: cs) [] := fun hS => hS.mutLp .nil
  replace hS : St w0 (fps (.own (.slice OA rs.length oc) 56 1 rs.length (rs.flatMap encRw) :: cs)) w0 (.own (.slice OA rs.length oc) 56 1 rs.length (rs.flatMap encRw) :: cs) (ZL w0 (.own (.slice OA rs.length oc) 56 1 rs.length (rs.flatMap encRw) :: cs)) := hS
  generalize ZL w0 (.own (.slice OA rs.length oc) 56 1 rs.length (rs.flatMap encRw) :: cs) = Z0 at *
  generalize fps (.own (.slice OA rs.length oc) 56 1 rs.length (rs.flatMap encRw) :: cs) = M0 at *
  clear hi
  repeat' (first | (show WL _ _ _ _ _ _ _; first | refine WL.pure rfl rfl rfl rfl ?_ | refine WL.nil ?_) | (show WC _ _ _ _ _ _; first | refine WC.seq ?_ | refine WC.region ?_ | refine WC.block ?_) | refine seqQ_n ?_)
  refine WC.loop (σ := Nat × List Chunk) [0, 3] (fun (i, _) => [(4, .int .i64 (i : Int))]) (fun (i, cs) w => (i ≤ rs.length ∧ MarkIs encT 9 1 mT rs cs i) ∧ St w0 M0 w (.own (.slice OA rs.length oc) 56 1 rs.length (rs.flatMap encRw) :: cs) Z0) (fun (i, _) => rs.length - i) (0, cs) ⟨⟨Nat.zero_le _, hm⟩, hS⟩ ⟨rfl, trivial⟩ ?_
  clear hS hm
  rintro ⟨i, cs⟩ g w ⟨⟨hi, hmk⟩, hS⟩
  show WC _ _ _ (lf _ [(4, .int .i64 (i : Int))] _ _) _ _
  by_cases hlt : i < rs.length
  · obtain ⟨og, oo, rfl⟩ := hS.own_addr (A := OA) (n := rs.length) (List.Mem.head _) (by omega)
    obtain ⟨l0, hl0, hci, _⟩ := hmk.at_ i hlt
    have hnx := hmk.next hlt
    have hov := rwAtS hlt
    replace hS := hS.perm ((pfront hci).cons _)
    have hbk := pback (show i < cs.length by rw [hmk.len]; exact hlt) (ownRw encT 9 1 rs[i] (List.replicate rs[i].n (mT i)))
    have hrz := hz _ (List.getElem_mem hlt)
    generalize cs.set i (ownRw encT 9 1 rs[i] (List.replicate rs[i].n (mT i))) = cs2 at *
    generalize cs.eraseIdx i = R at *
    generalize rs[i] = r at *
    obtain ⟨A, n, cap⟩ := r
    dsimp only [Rw.val, ownRw] at *
    clear hmk hci
    repeat' (first | (show WL _ _ _ _ _ _ _; first | refine WL.pure rfl rfl rfl rfl ?_ | refine WL.nil ?_) | (show WC _ _ _ _ _ _; first | refine WC.seq ?_ | refine WC.region ?_ | refine WC.block ?_ | refine WC.skip ?_ | refine WC.condT rfl (decide_eq_true (by first | with_reducible assumption | omega)) ?_) | refine seqQ_n ?_)
    refine WC.loop (σ := Nat × List (List UInt8)) [0, 3, 4] (fun (k, _) => [(5, .int .i64 (k : Int))]) (fun (k, l) w => (k ≤ n ∧ l.length = n ∧ l.take k = List.replicate k (mT i)) ∧ St w0 M0 w (.own (.slice (some ⟨og, oo, none⟩) rs.length oc) 56 1 rs.length (rs.flatMap encRw) :: .own (.slice A n cap) 9 1 n (l.flatMap encT) :: R) Z0) (fun (k, _) => n - k) (0, l0) ⟨⟨Nat.zero_le _, hl0, rfl⟩, hS⟩ ⟨rfl, trivial⟩ ?_
    clear hS hl0
    rintro ⟨k, l⟩ g2 w ⟨⟨hk, hll, hlk⟩, hS⟩
    show WC _ _ _ (lf _ [(5, .int .i64 (k : Int))] _ _) _ _
    by_cases hkl : k < n
    · obtain ⟨ag, ao, rfl⟩ := hS.own_addr (A := A) (n := n) (List.Mem.tail _ (List.Mem.head _)) (by omega)
      have hfs := flat_set (enc := encT) (sz := 1) (fun _ => rfl) (mT i) (l := l) (k := k) (by omega)
      have hfl := flat_len (enc := encT) (sz := 1) (fun _ => rfl) l
      have hnk : (l.set k (mT i)).take (k + 1) = List.replicate (k + 1) (mT i) := by
        rw [List.take_succ_eq_append_getElem (by rw [List.length_set]; omega), List.getElem_set_self, List.take_set_of_le (Nat.le_refl _), hlk, ← List.replicate_succ']
      have hnl : (l.set k (mT i)).length = n := by rw [List.length_set]; exact hll
      have hel : (encT (mT i)).length = 1 := rfl
      have q26 : (i : Int) % 26 = ((i % 26 : Nat) : Int) := rfl
      have hmk1 := mks_one (j := i)
      obtain ⟨HN, rfl⟩ : ∃ h : (l.set k (mT i)).take (k + 1) = List.replicate (k + 1) (mT i), h = hnk := ⟨_, rfl⟩
      clear hlk
      repeat' (first | (show WL _ _ _ _ _ _ _; first | refine WL.pure rfl rfl rfl rfl ?_ | refine WL.nil ?_ | refine WL.add rfl rfl rfl (by omega) rfl rfl rfl ?_ | (refine WL.load hS rfl rfl (LdOk.ownAt Mm rfl ⟨_, rfl⟩ hov rfl) rfl rfl rfl ?_) | refine WL.index rfl rfl rfl rfl (by first | with_reducible assumption | omega) rfl rfl rfl rfl ?_) | (show WC _ _ _ _ _ _; first | refine WC.seq ?_ | refine WC.region ?_ | refine WC.block ?_ | refine WC.skip ?_ | (show WC _ _ (Code.region _ (List.toArray [_, _, _, _, _, _, _, _, _, _, _, _, _, _, _]) true) _ _ _; refine WC.drawL [.own (.slice (some ⟨ag, ao, none⟩) n cap) 9 1 n (l.flatMap encT)] hS Pu [0,1,2,3,4,5,6,7,8,9,10,11,12,13] [0,1,2,3,4,5,6,7,8,9,10,11,12,13,14] (by kernel_rfl) (by kernel_rfl) ?_; clear hS; intro w hS hM) | refine WC.condT rfl (decide_eq_true (by first | with_reducible assumption | omega)) ?_) | (show WD _ _ _ _ _ _ _ _ _; first | refine WD.pure rfl rfl rfl rfl rfl ?_ | refine WD.nil ?_ | refine WD.add rfl rfl rfl (by omega) rfl rfl rfl rfl ?_ | (refine WD.load rfl rfl (LdOk.ownAt Mm rfl ⟨_, rfl⟩ hov rfl) rfl rfl rfl rfl ?_) | (refine WD.rem (a := (i : Int)) rfl rfl rfl (by omega) (by omega) rfl rfl rfl rfl ?_; rw [q26]) | (refine WD.midS (s := mks) (a := i % 26) (b := i % 26 + 1) rfl rfl rfl rfl (by first | rfl | exact vint (show _ = ((i % 26 + 1 : Nat) : Int) by omega)) (by omega) (by show _ ≤ 26; omega) rfl rfl rfl rfl ?_) | (refine WD.cat rfl rfl rfl (by show 3 + _ ≤ _; omega) rfl rfl rfl rfl ?_) | (refine WD.storeOwn (off := k * 1) (vs := encT (mT i)) hS rfl rfl rfl Rp (by rw [hfl, hel]; omega) rfl rfl (by first | exact .refl _ _ | exact .chunk (.refl _ _) _) rfl rfl rfl rfl ?_; clear hS hM; intro w hS hM; rw [hfs] at hS) | refine WD.index rfl rfl rfl rfl (by first | with_reducible assumption | omega) rfl rfl rfl rfl rfl ?_) | refine seqQ_n ?_ | refine blkQ_n ?_)
      exact rndQ_n (k + 1, _) ⟨⟨by omega, hnl, HN⟩, hS.perm (.swap _ _ _)⟩ (by show n - (k + 1) < n - k; omega) ⟨vint (by omega), trivial⟩ ⟨rfl, rfl, rfl, trivial⟩
    · have hkn : k = n := by omega
      subst hkn
      rw [← hll, List.take_length] at hlk
      rw [hll] at hlk
      subst hlk
      replace hS := hS.perm (hbk.cons _)
      repeat' (first | (show WL _ _ _ _ _ _ _; first | refine WL.pure rfl rfl rfl rfl ?_ | refine WL.nil ?_ | refine WL.add rfl rfl rfl (by omega) rfl rfl rfl ?_ | (refine WL.load hS rfl rfl (LdOk.ownAt Mm rfl ⟨_, rfl⟩ hov rfl) rfl rfl rfl ?_) | refine WL.index rfl rfl rfl rfl (by first | with_reducible assumption | omega) rfl rfl rfl rfl ?_) | (show WC _ _ _ _ _ _; first | refine WC.seq ?_ | refine WC.region ?_ | refine WC.exit ?_ | refine WC.condF rfl (decide_eq_false (by first | with_reducible assumption | omega)) ?_) | refine seqQ_n ?_ | refine blkQ_n ?_ | refine seqQ_x ?_ | refine blkQ_hit rfl ?_ | refine rndQ_x ?_)
      exact rndQ_n (i + 1, cs2) ⟨⟨by omega, hnx⟩, hS⟩ (by show rs.length - (i + 1) < rs.length - i; omega) ⟨vint (by omega), trivial⟩ ⟨rfl, rfl, trivial⟩
  · have hie : i = rs.length := by omega
    have hg := hmk.grow (nw := nT) hie
    subst hie
    clear hmk hlt hi
    replace hS := hS.nilRow 56 1
    repeat' (first | (show WL _ _ _ _ _ _ _; first | refine WL.pure rfl rfl rfl rfl ?_ | refine WL.nil ?_) | (show WC _ _ _ _ _ _; first | refine WC.seq ?_ | refine WC.region ?_ | refine WC.block ?_ | refine WC.exit ?_ | refine WC.condF rfl (decide_eq_false (by first | with_reducible assumption | omega)) ?_) | refine seqQ_n ?_ | refine seqQ_x ?_ | refine blkQ_hit rfl ?_ | refine rndQ_x ?_)
    refine WC.loop (σ := Nat × List Rw × Option Addr × Nat × List Chunk) [0, 3] (fun (i, ls, LA, lc, _) => [(6, .slice LA i lc), (7, .int .i64 (i : Int))]) (fun (i, ls, LA, lc, cs) w => (i ≤ rs.length ∧ GrowIs encT 9 1 mT nT rs ls cs i) ∧ St w0 M0 w (.own (.slice LA i lc) 56 1 i (ls.flatMap encRw) :: .own (.slice OA rs.length oc) 56 1 rs.length (rs.flatMap encRw) :: cs) Z0) (fun (i, _) => rs.length - i) (0, [], none, 0, cs) ⟨⟨Nat.zero_le _, hg⟩, hS⟩ ⟨rfl, rfl, trivial⟩ ?_
    clear hS hg
    rintro ⟨i, ls, LA, lc, cs⟩ g2 w ⟨⟨hi, hgr⟩, hS⟩
    show WC _ _ _ (lf _ [(6, .slice LA i lc), (7, .int .i64 (i : Int))] _ _) _ _
    by_cases hlt : i < rs.length
    · obtain ⟨og, oo, rfl⟩ := hS.own_addr (A := OA) (n := rs.length) (List.Mem.tail _ (List.Mem.head _)) (by omega)
      have hci := hgr.at_ i hlt (Nat.le_refl _)
      have hnx := fun {A2 : Option Addr} {cap2 : Nat} {fp : List Nat} => hgr.next hlt (A := A2) (cap := cap2) (fp := fp)
      have hov := rwAtS hlt
      replace hS := hS.perm (((pfront hci).cons _).cons _)
      have hbk := fun {c : Chunk} => pback (cs := cs) (i := i) (show i < cs.length by rw [hgr.len]; exact hlt) c
      have hrz := hz _ (List.getElem_mem hlt)
      have hll := hgr.llen
      generalize cs.eraseIdx i = R at *
      generalize rs[i] = r at *
      obtain ⟨A, n, cap⟩ := r
      dsimp only [Rw.val, ownRw] at *
      clear hgr hci
      repeat' (first | (show WL _ _ _ _ _ _ _; first | refine WL.pure rfl rfl rfl rfl ?_ | refine WL.nil ?_ | (refine WL.load hS rfl rfl (LdOk.ownAt Mm rfl ⟨_, rfl⟩ hov rfl) rfl rfl rfl ?_) | refine WL.index rfl rfl rfl rfl (by first | with_reducible assumption | omega) rfl rfl rfl rfl ?_) | (show WC _ _ _ _ _ _; first | refine WC.seq ?_ | refine WC.region ?_ | refine WC.block ?_ | refine WC.skip ?_ | refine WC.condT rfl (decide_eq_true (by first | with_reducible assumption | omega)) ?_) | refine seqQ_n ?_)
      replace hS := ((hS.pull (.there (.there .here))).objClose (D := [_]) (φ := GrowP encT 9 1 mT nT i ⟨A, n, cap⟩ 0 A cap) (.inl ⟨rfl, rfl, by unfold grw; rw [List.replicate_zero, List.append_nil]; rfl⟩))
      refine WC.loop (σ := Nat × Option Addr × Nat) [0, 3, 6, 7] (fun (k, A2, cap2) => [(8, .slice A2 (n + k) cap2), (9, .int .i64 (k : Int))]) (fun (k, A2, cap2) w => k ≤ 20 ∧ ∃ fp, St w0 M0 w (objC (GrowP encT 9 1 mT nT i ⟨A, n, cap⟩ k A2 cap2) fp :: .own (.slice LA i lc) 56 1 i (ls.flatMap encRw) :: .own (.slice (some ⟨og, oo, none⟩) rs.length oc) 56 1 rs.length (rs.flatMap encRw) :: R) Z0) (fun (k, _) => 20 - k) (0, A, cap) ⟨Nat.zero_le _, _, hS⟩ ⟨rfl, rfl, trivial⟩ ?_
      clear hS
      rintro ⟨k, A2, cap2⟩ g3 w ⟨hk, fp, hS⟩
      show WC _ _ _ (lf _ [(8, .slice A2 (n + k) cap2), (9, .int .i64 (k : Int))] _ _) _ _
      by_cases hk20 : k < 20
      · obtain ⟨D, hD, -, hS⟩ := hS.objOpen
        have q26 : (i : Int) % 26 = ((i % 26 : Nat) : Int) := rfl
        have hmk1 := mks_one (j := i)
        have hgf := grw_flat (enc := encT) (mk := mT) (nw := nT) i n k
        clear hnx hbk hov
        rcases hD with ⟨rfl, rfl, rfl⟩ | ⟨p, rfl⟩
        · dsimp only [List.cons_append, List.nil_append] at hS
          repeat' (first | (show WL _ _ _ _ _ _ _; first | refine WL.pure rfl rfl rfl rfl ?_ | refine WL.nil ?_ | refine WL.add rfl rfl rfl (by omega) rfl rfl rfl ?_ | (refine WL.rem (a := (i : Int)) rfl rfl rfl (by omega) (by omega) rfl rfl rfl ?_; rw [q26]) | (refine WL.midS (s := mks) (i := i % 26) (j := i % 26 + 1) rfl rfl rfl rfl (by first | rfl | exact vint (show _ = ((i % 26 + 1 : Nat) : Int) by omega)) (by omega) (by show _ ≤ 26; omega) rfl rfl rfl ?_) | (refine WL.cat rfl rfl rfl (by show 3 + _ ≤ _; omega) rfl rfl rfl ?_) | (refine WL.slit (t := 56) hS rfl rfl rfl rfl rfl ?_; intro w ob hS) | (refine WL.appK hS rfl rfl rfl rfl (RdOk.box Mm) rfl rfl (by decide) Rp (by omega) rfl rfl rfl (fun w hS => ?_) (fun A3 cap3 w hS => ?_))) | (show WC _ _ _ _ _ _; first | refine WC.seq ?_ | refine WC.region ?_ | refine WC.block ?_ | refine WC.skip ?_ | refine WC.condT rfl (decide_eq_true (by first | with_reducible assumption | omega)) ?_) | refine seqQ_n ?_ | refine blkQ_n ?_)
          · have hS := (hS.drop).objClose (D := [_]) (φ := GrowP encT 9 1 mT nT i ⟨A2, n, cap2⟩ (k + 1) A2 cap2) (.inl ⟨rfl, rfl, by rw [grw_flat]; rfl⟩)
            exact rndQ_n (k + 1, A2, cap2) ⟨by omega, _, hS⟩ (by show 20 - (k + 1) < 20 - k; omega) ⟨rfl, vint (by omega), trivial⟩ ⟨rfl, rfl, rfl, rfl, trivial⟩
          · have hS := ((hS.pull (.there .here)).drop).objClose (D := [_, _]) (φ := GrowP encT 9 1 mT nT i ⟨A2, n, cap2⟩ (k + 1) A3 cap3) (.inr ⟨k, by rw [grw_flat]; rfl⟩)
            exact rndQ_n (k + 1, A3, cap3) ⟨by omega, _, hS⟩ (by show 20 - (k + 1) < 20 - k; omega) ⟨rfl, vint (by omega), trivial⟩ ⟨rfl, rfl, rfl, rfl, trivial⟩
        · dsimp only [List.cons_append, List.nil_append] at hS
          repeat' (first | (show WL _ _ _ _ _ _ _; first | refine WL.pure rfl rfl rfl rfl ?_ | refine WL.nil ?_ | refine WL.add rfl rfl rfl (by omega) rfl rfl rfl ?_ | (refine WL.rem (a := (i : Int)) rfl rfl rfl (by omega) (by omega) rfl rfl rfl ?_; rw [q26]) | (refine WL.midS (s := mks) (i := i % 26) (j := i % 26 + 1) rfl rfl rfl rfl (by first | rfl | exact vint (show _ = ((i % 26 + 1 : Nat) : Int) by omega)) (by omega) (by show _ ≤ 26; omega) rfl rfl rfl ?_) | (refine WL.cat rfl rfl rfl (by show 3 + _ ≤ _; omega) rfl rfl rfl ?_) | (refine WL.slit (t := 56) hS rfl rfl rfl rfl rfl ?_; intro w ob hS) | (refine WL.app hS rfl rfl rfl rfl (RdOk.box Mm) rfl rfl (fun A cap => Rp) (by omega) rfl rfl rfl ?_; intro A3 cap3 w hS)) | (show WC _ _ _ _ _ _; first | refine WC.seq ?_ | refine WC.region ?_ | refine WC.block ?_ | refine WC.skip ?_ | refine WC.condT rfl (decide_eq_true (by first | with_reducible assumption | omega)) ?_) | refine seqQ_n ?_ | refine blkQ_n ?_)
          have hS := (hS.drop).objClose (D := [_, _]) (φ := GrowP encT 9 1 mT nT i ⟨A, n, cap⟩ (k + 1) A3 cap3) (.inr ⟨p, by rw [grw_flat]; rfl⟩)
          exact rndQ_n (k + 1, A3, cap3) ⟨by omega, _, hS⟩ (by show 20 - (k + 1) < 20 - k; omega) ⟨rfl, vint (by omega), trivial⟩ ⟨rfl, rfl, rfl, rfl, trivial⟩
      · obtain rfl : k = 20 := by omega
        have hx := @hnx A2 cap2 fp
        clear hnx hov
        repeat' (first | (show WL _ _ _ _ _ _ _; first | refine WL.pure rfl rfl rfl rfl ?_ | refine WL.nil ?_ | refine WL.add rfl rfl rfl (by omega) rfl rfl rfl ?_ | (refine WL.slit (t := 62) hS rfl rfl rfl rfl rfl ?_; intro w ob hS) | (refine WL.app hS rfl rfl rfl rfl (RdOk.box Mm) rfl rfl (fun A cap => Rp) (by omega) rfl rfl rfl ?_; intro A3 cap3 w hS)) | (show WC _ _ _ _ _ _; first | refine WC.seq ?_ | refine WC.region ?_ | refine WC.exit ?_ | refine WC.condF rfl (by decide) ?_) | refine seqQ_n ?_ | refine blkQ_n ?_ | refine seqQ_x ?_ | refine blkQ_hit rfl ?_ | refine rndQ_x ?_)
        have hS := (((hS.drop.pull (.there (.there .here))).pull (.there (.there .here))).perm ((hbk.cons _).cons _))
        have hle : ls.flatMap encRw ++ [Value.slice A2 (n + 20) cap2] = (ls ++ [(⟨A2, n + 20, cap2⟩ : Rw)]).flatMap encRw := by rw [List.flatMap_append]; rfl
        refine rndQ_n (i + 1, ls ++ [⟨A2, n + 20, cap2⟩], A3, cap3, _) ⟨⟨by omega, hx⟩, ?_⟩ (by show rs.length - (i + 1) < rs.length - i; omega) ⟨rfl, vint (by omega), trivial⟩ ⟨rfl, rfl, trivial⟩
        rw [← hle]
        exact hS
    · have hie : i = rs.length := by omega
      have hrd := hgr.reads (hsz := fun _ => rfl) hie (by decide) hS fun c hc => List.Mem.tail _ (List.Mem.tail _ hc)
      have hro := ownAll (enc := encRw) (hsz := fun _ => rfl) (sz := 1) (by decide) (hS.holds _ (List.Mem.tail _ (List.Mem.head _))) fun b hb => (hS.inb _ (List.Mem.tail _ (List.Mem.head _)) b hb).1
      have hrl := ownAll (enc := encRw) (hsz := fun _ => rfl) (sz := 1) (by decide) (hS.holds _ (List.Mem.head _)) fun b hb => (hS.inb _ (List.Mem.head _) b hb).1
      have hll := hgr.llen
      replace hS := hS.freeze
      subst hie
      clear hgr hlt hi
      generalize w = w3 at *
      repeat' (first | (show WL _ _ _ _ _ _ _; first | refine WL.pure rfl rfl rfl rfl ?_ | refine WL.nil ?_) | (show WC _ _ _ _ _ _; first | refine WC.seq ?_ | refine WC.region ?_ | refine WC.block ?_ | refine WC.exit ?_ | refine WC.condF rfl (decide_eq_false (by first | with_reducible assumption | omega)) ?_) | refine seqQ_n ?_ | refine seqQ_x ?_ | refine blkQ_hit rfl ?_ | refine rndQ_x ?_)
      refine WC.loop (σ := Nat) [0, 3, 6] (fun i => [(10, .int .i64 (i : Int))]) (fun i w => i ≤ rs.length ∧ St w0 M0 w [] (⟨w3, fun b => b < w3.heap.size⟩ :: Z0)) (fun i => rs.length - i) 0 ⟨Nat.zero_le _, hS⟩ ⟨rfl, trivial⟩ ?_
      clear hS
      rintro i g4 w ⟨hi, hS⟩
      show WC _ _ _ (lf _ [(10, .int .i64 (i : Int))] _ _) _ _
      by_cases hlt : i < rs.length
      · obtain ⟨l, hli, hln, hA1, hA2⟩ := hrd i hlt
        obtain ⟨xb, xo, xs, rfl, hxF, hxr, hxe⟩ := hro.at_ hlt
        have hxe : xs = encRw rs[i] := hxe
        subst hxe
        obtain ⟨hl2, hle⟩ := List.getElem?_eq_some_iff.1 hli
        obtain ⟨yb, yo, ys, rfl, hyF, hyr, hye⟩ := hrl.at_ hl2
        have hye : ys = encRw ls[i] := hye
        rw [hle] at hye
        subst hye
        have hrz := hz _ (List.getElem_mem hlt)
        generalize rs[i] = r at *
        obtain ⟨A, n, cap⟩ := r
        obtain ⟨A2, n2, cap2⟩ := l
        dsimp only at hln hA1 hA2 hrz
        subst hln
        have hxr : w3.rangeAt xb (xo + i * 1) [.slice A n cap] := hxr
        have hyr : w3.rangeAt yb (yo + i * 1) [.slice A2 (n + 20) cap2] := hyr
        clear hrd hro hrl hli hle hz
        repeat' (first | (show WL _ _ _ _ _ _ _; first | refine WL.pure rfl rfl rfl rfl ?_ | refine WL.nil ?_) | (show WC _ _ _ _ _ _; first | refine WC.seq ?_ | refine WC.region ?_ | refine WC.block ?_ | refine WC.skip ?_ | refine WC.condT rfl (decide_eq_true (by first | with_reducible assumption | omega)) ?_) | refine seqQ_n ?_)
        refine WC.loop (σ := Nat) [0, 3, 6, 10] (fun k => [(11, .int .i64 (k : Int))]) (fun k w => k ≤ n + 20 ∧ St w0 M0 w [] (⟨w3, fun b => b < w3.heap.size⟩ :: Z0)) (fun k => n + 20 - k) 0 ⟨Nat.zero_le _, hS⟩ ⟨rfl, trivial⟩ ?_
        clear hS
        rintro k g5 w ⟨hk, hS⟩
        show WC _ _ _ (lf _ [(11, .int .i64 (k : Int))] _ _) _ _
        by_cases hkl : k < n + 20
        · obtain ⟨eb, eo, es, rfl, heF, her, hee⟩ := hA2.at_ (k := k) (by simp [grw]; omega)
          have q26 : (i : Int) % 26 = ((i % 26 : Nat) : Int) := rfl
          have hmk1 := mks_one (j := i)
          have hgk := grw_at (mk := mT) (nw := nT) (j := i) hkl
          rw [List.getElem?_eq_getElem (by simp [grw]; omega)] at hgk
          have hgk := Option.some.inj hgk
          have hee : es = encT _ := hee
          rw [hgk] at hee
          by_cases hkn : k < n
          · rw [if_pos hkn] at hee
            subst hee
            have her : w3.rangeAt eb (eo + k * 1) (encT (mT i)) := her
            obtain ⟨fb, fo, es2, rfl, hfF, hfr, hfe⟩ := hA1.at_ (k := k) (by simpa using hkn)
            have hfe : es2 = encT _ := hfe
            rw [List.getElem_replicate] at hfe
            subst hfe
            have hfr : w3.rangeAt fb (fo + k * 1) (encT (mT i)) := hfr
            repeat' (first | (show WL _ _ _ _ _ _ _; first | refine WL.pure rfl rfl rfl rfl ?_ | refine WL.nil ?_ | refine WL.add rfl rfl rfl (by omega) rfl rfl rfl ?_ | (refine WL.rem (a := (i : Int)) rfl rfl rfl (by omega) (by omega) rfl rfl rfl ?_; rw [q26]) | (refine WL.midS (s := mks) (i := i % 26) (j := i % 26 + 1) rfl rfl rfl rfl (by first | rfl | exact vint (show _ = ((i % 26 + 1 : Nat) : Int) by omega)) (by omega) (by show _ ≤ 26; omega) rfl rfl rfl ?_) | (refine WL.cat rfl rfl rfl (by show 3 + _ ≤ _; omega) rfl rfl rfl ?_) | (first | (refine WL.load hS rfl rfl (LdOk.snap0 hyF hyr Mm rfl) rfl rfl rfl ?_) | (refine WL.load hS rfl rfl (LdOk.snap0 hxF hxr Mm rfl) rfl rfl rfl ?_) | (refine WL.load hS rfl rfl (LdOk.snap0 heF her Mm rfl) rfl rfl rfl ?_) | (refine WL.load hS rfl rfl (LdOk.snap0 hfF hfr Mm rfl) rfl rfl rfl ?_)) | refine WL.index rfl rfl rfl rfl (by first | with_reducible assumption | omega) rfl rfl rfl rfl ?_ | ((fail_if_success (refine WL.wanted rfl ?_)); refine WL.guard rfl rfl rfl (fun h => ?_) (fun h => ?_) <;> (try simp only [ZZ0, ZZ1, ZZ2, ZZ3, ZZ4, ZZ5, ZZ6, ZZ7, ZZ8, ZZ9, ZZ10, ZZ11, ZZ12, ZZ13, ZZ14, ZZ15] at h) <;> (try (exfalso; first | omega | contradiction)))) | (show WC _ _ _ _ _ _; first | refine WC.seq ?_ | refine WC.region ?_ | refine WC.block ?_ | refine WC.skip ?_ | refine WC.condT rfl (decide_eq_true (by first | with_reducible assumption | omega)) ?_ | refine WC.condF rfl (decide_eq_false (by first | with_reducible assumption | omega)) ?_ | (refine WC.cond rfl (fun h => ?_) (fun h => ?_) <;> (try simp only [ZZ0, ZZ1, ZZ2, ZZ3, ZZ4, ZZ5, ZZ6, ZZ7, ZZ8, ZZ9, ZZ10, ZZ11, ZZ12, ZZ13, ZZ14, ZZ15] at h) <;> (try (exfalso; first | omega | contradiction)))) | refine seqQ_n ?_ | refine blkQ_n ?_)
            exact rndQ_n (k + 1) ⟨by omega, hS⟩ (by show n + 20 - (k + 1) < n + 20 - k; omega) ⟨vint (by omega), trivial⟩ ⟨rfl, rfl, rfl, rfl, trivial⟩
          · rw [if_neg hkn] at hee
            subst hee
            have her : w3.rangeAt eb (eo + k * 1) (encT (nT i)) := her
            clear hA1
            repeat' (first | (show WL _ _ _ _ _ _ _; first | refine WL.pure rfl rfl rfl rfl ?_ | refine WL.nil ?_ | refine WL.add rfl rfl rfl (by omega) rfl rfl rfl ?_ | (refine WL.rem (a := (i : Int)) rfl rfl rfl (by omega) (by omega) rfl rfl rfl ?_; rw [q26]) | (refine WL.midS (s := mks) (i := i % 26) (j := i % 26 + 1) rfl rfl rfl rfl (by first | rfl | exact vint (show _ = ((i % 26 + 1 : Nat) : Int) by omega)) (by omega) (by show _ ≤ 26; omega) rfl rfl rfl ?_) | (refine WL.cat rfl rfl rfl (by show 3 + _ ≤ _; omega) rfl rfl rfl ?_) | (first | (refine WL.load hS rfl rfl (LdOk.snap0 hyF hyr Mm rfl) rfl rfl rfl ?_) | (refine WL.load hS rfl rfl (LdOk.snap0 hxF hxr Mm rfl) rfl rfl rfl ?_) | (refine WL.load hS rfl rfl (LdOk.snap0 heF her Mm rfl) rfl rfl rfl ?_) | (refine WL.load hS rfl rfl (LdOk.snap0 hfF hfr Mm rfl) rfl rfl rfl ?_)) | refine WL.index rfl rfl rfl rfl (by first | with_reducible assumption | omega) rfl rfl rfl rfl ?_ | refine WL.skip rfl rfl rfl ?_ | ((fail_if_success (refine WL.wanted rfl ?_)); refine WL.guard rfl rfl rfl (fun h => ?_) (fun h => ?_) <;> (try simp only [ZZ0, ZZ1, ZZ2, ZZ3, ZZ4, ZZ5, ZZ6, ZZ7, ZZ8, ZZ9, ZZ10, ZZ11, ZZ12, ZZ13, ZZ14, ZZ15] at h) <;> (try (exfalso; first | omega | contradiction)))) | (show WC _ _ _ _ _ _; first | refine WC.seq ?_ | refine WC.region ?_ | refine WC.block ?_ | refine WC.skip ?_ | refine WC.condF rfl (by with_reducible rfl) ?_ | refine WC.condT rfl (decide_eq_true (by first | with_reducible assumption | omega)) ?_) | refine seqQ_n ?_ | refine blkQ_n ?_)
            exact rndQ_n (k + 1) ⟨by omega, hS⟩ (by show n + 20 - (k + 1) < n + 20 - k; omega) ⟨vint (by omega), trivial⟩ ⟨rfl, rfl, rfl, rfl, trivial⟩
        · repeat' (first | (show WL _ _ _ _ _ _ _; first | refine WL.pure rfl rfl rfl rfl ?_ | refine WL.nil ?_ | refine WL.add rfl rfl rfl (by omega) rfl rfl rfl ?_ | (first | (refine WL.load hS rfl rfl (LdOk.snap0 hyF hyr Mm rfl) rfl rfl rfl ?_) | (refine WL.load hS rfl rfl (LdOk.snap0 hxF hxr Mm rfl) rfl rfl rfl ?_) | (refine WL.load hS rfl rfl (LdOk.snap0 heF her Mm rfl) rfl rfl rfl ?_) | (refine WL.load hS rfl rfl (LdOk.snap0 hfF hfr Mm rfl) rfl rfl rfl ?_)) | refine WL.index rfl rfl rfl rfl (by first | with_reducible assumption | omega) rfl rfl rfl rfl ?_) | (show WC _ _ _ _ _ _; first | refine WC.seq ?_ | refine WC.region ?_ | refine WC.exit ?_ | refine WC.condF rfl (decide_eq_false (by first | with_reducible assumption | omega)) ?_) | refine seqQ_n ?_ | refine blkQ_n ?_ | refine seqQ_x ?_ | refine blkQ_hit rfl ?_ | refine rndQ_x ?_)
          exact rndQ_n (i + 1) ⟨by omega, hS⟩ (by show rs.length - (i + 1) < rs.length - i; omega) ⟨vint (by omega), trivial⟩ ⟨rfl, rfl, rfl, trivial⟩
      · repeat' (first | (show WL _ _ _ _ _ _ _; first | refine WL.pure rfl rfl rfl rfl ?_ | refine WL.nil ?_) | (show WC _ _ _ _ _ _; first | refine WC.seq ?_ | refine WC.region ?_ | refine WC.exit ?_ | refine WC.ret ?_ | refine WC.condF rfl (decide_eq_false (by first | with_reducible assumption | omega)) ?_) | refine seqQ_n ?_ | refine seqQ_x ?_ | refine blkQ_hit rfl ?_ | refine rndQ_x ?_)
        exact fin1r rfl rfl ⟨rfl, hfp (hS.less fun z hz => List.mem_cons_of_mem _ hz)⟩
end Go.Proofs.YtccfiohagbneaaaGreatDoor

/- What is proved: when two lists of texts are told to be alike. Conditions: none. -/
namespace Go.Proofs.YtccfiohagbneaaaGreatDoor
open Go Go.J Go.RowKit
theorem list_ext_get {α : Type} {xs ys : List α} (hl : xs.length = ys.length) (h : ∀ j (h1 : j < xs.length) (h2 : j < ys.length), xs[j] = ys[j]) : xs = ys := List.ext_getElem hl h
set_option maxHeartbeats 4000000 in
set_option maxRecDepth 100000 in
theorem same_c (xs ys : List (List UInt8)) {A B : Option Addr} {ca cb : Nat} {w0 : World} (hA : SlAt cStr (Old w0) w0 A xs) (hB : SlAt cStr (Old w0) w0 B ys) (hlx : xs.length ≤ 4611686018427387904) :
    Cal Tryz.prog 30 [.slice A xs.length ca, .slice B ys.length cb] w0 (fun v w' => Upd [] w0 w' ∧ v = .bool (decide (xs = ys))) := by
  refine Cal.mk' (by kernel_rfl) Tryz.func30 rfl rfl fun hS => ?_
  by_cases hl : xs.length = ys.length
  · repeat' (first | (show WL _ _ _ _ _ _ _; first | refine WL.pure rfl rfl rfl rfl ?_ | refine WL.nil ?_) | (show WC _ _ _ _ _ _; first | refine WC.seq ?_ | refine WC.region ?_ | refine WC.block ?_ | refine WC.skip ?_ | refine WC.condF rfl (decide_eq_false (by first | with_reducible assumption | omega)) ?_) | refine seqQ_n ?_)
    refine WC.loop (σ := Nat) [0, 1] (fun k => [(5, .int .i64 (k : Int))]) (fun k w => k ≤ xs.length ∧ (∀ j (h1 : j < xs.length) (h2 : j < ys.length), j < k → xs[j] = ys[j]) ∧ St w0 [] w [] [⟨w0, Old w0⟩]) (fun k => xs.length - k) 0 ⟨Nat.zero_le _, fun j h1 h2 hj => absurd hj (Nat.not_lt_zero _), hS⟩ ⟨rfl, trivial⟩ ?_
    clear hS
    rintro k g w ⟨hk, hall, hS⟩
    obtain ⟨Hall, rfl⟩ : ∃ h : (∀ j (h1 : j < xs.length) (h2 : j < ys.length), j < k → xs[j] = ys[j]), h = hall := ⟨_, rfl⟩
    by_cases hlt : k < xs.length
    · have hlt2 : k < ys.length := by omega
      obtain ⟨b1, o1, e1, rfl, f1, r1, rfl⟩ := hA.at_ hlt
      obtain ⟨b2, o2, e2, rfl, f2, r2, rfl⟩ := hB.at_ hlt2
      change w0.rangeAt b1 (o1 + k * 1) [str xs[k]] at r1
      change w0.rangeAt b2 (o2 + k * 1) [str ys[k]] at r2
      by_cases he : xs[k] = ys[k]
      · have hnx : ∀ j (h1 : j < xs.length) (h2 : j < ys.length), j < k + 1 → xs[j] = ys[j] := fun j h1 h2 hj => if e : j = k then (by subst e; exact he) else Hall j h1 h2 (by omega)
        clear Hall
        generalize xs[k] = x at *
        generalize ys[k] = y at *
        subst he
        repeat' (first | (show WL _ _ _ _ _ _ _; first | refine WL.pure rfl rfl rfl rfl ?_ | refine WL.nil ?_ | refine WL.add rfl rfl rfl (by omega) rfl rfl rfl ?_) | (show WC _ _ _ _ _ _; first | refine WC.seq ?_ | refine WC.region ?_ | refine WC.block ?_ | refine WC.skip ?_ | (show WC _ _ (Code.region _ (List.toArray [_, _, _, _, _, _, _, _, _]) true) _ _ _; refine WC.drawS hS [0, 1, 2, 3, 4, 5, 6, 7, 8] [0, 1, 2, 3, 4, 5, 6, 7, 8] (by kernel_rfl) (by kernel_rfl) ?_; clear hS; intro w hS hM) | refine WC.condT rfl (decide_eq_true (by first | with_reducible assumption | omega)) ?_ | refine WC.condF rfl (by first | (simp; done) | (simp; omega)) ?_) | (show WD _ _ _ _ _ _ _ _ _; first | refine WD.pure rfl rfl rfl rfl rfl ?_ | refine WD.nil ?_ | (refine WD.load rfl rfl (LdOk.snap0 f1 r1 Mm rfl) rfl rfl rfl rfl ?_) | (refine WD.load rfl rfl (LdOk.snap0 f2 r2 Mm rfl) rfl rfl rfl rfl ?_) | refine WD.index rfl rfl rfl rfl (by first | with_reducible assumption | omega) rfl rfl rfl rfl rfl ?_) | refine seqQ_n ?_ | refine blkQ_n ?_)
        exact rndQ_n (k + 1) ⟨by omega, hnx, hS⟩ (by omega) ⟨vint (by omega), trivial⟩ ⟨rfl, rfl, trivial⟩
      · have hne : ¬ xs = ys := fun h => he (by subst h; rfl)
        clear Hall
        generalize xs[k] = x at *
        generalize ys[k] = y at *
        repeat' (first | (show WL _ _ _ _ _ _ _; first | refine WL.pure rfl rfl rfl rfl ?_ | refine WL.nil ?_) | (show WC _ _ _ _ _ _; first | refine WC.seq ?_ | refine WC.region ?_ | refine WC.block ?_ | refine WC.skip ?_ | refine WC.ret ?_ | (show WC _ _ (Code.region _ (List.toArray [_, _, _, _, _, _, _, _, _]) true) _ _ _; refine WC.drawS hS [0, 1, 2, 3, 4, 5, 6, 7, 8] [0, 1, 2, 3, 4, 5, 6, 7, 8] (by kernel_rfl) (by kernel_rfl) ?_; clear hS; intro w hS hM) | refine WC.condT rfl (decide_eq_true (by first | with_reducible assumption | omega)) ?_) | (show WD _ _ _ _ _ _ _ _ _; first | refine WD.pure rfl rfl rfl rfl rfl ?_ | refine WD.nil ?_ | (refine WD.load rfl rfl (LdOk.snap0 f1 r1 Mm rfl) rfl rfl rfl rfl ?_) | (refine WD.load rfl rfl (LdOk.snap0 f2 r2 Mm rfl) rfl rfl rfl rfl ?_) | refine WD.index rfl rfl rfl rfl (by first | with_reducible assumption | omega) rfl rfl rfl rfl rfl ?_) | refine seqQ_n ?_ | refine seqQ_r ?_ | refine blkQ_r ?_ | refine rndQ_r ?_)
        exact fin1r rfl rfl ⟨hS.upd, vbool (by simp [hne])⟩
    · have heq : xs = ys := list_ext_get hl fun j h1 h2 => Hall j h1 h2 (by omega)
      clear Hall
      repeat' (first | (show WL _ _ _ _ _ _ _; first | refine WL.pure rfl rfl rfl rfl ?_ | refine WL.nil ?_) | (show WC _ _ _ _ _ _; first | refine WC.seq ?_ | refine WC.region ?_ | refine WC.exit ?_ | refine WC.ret ?_ | refine WC.condF rfl (decide_eq_false (by first | with_reducible assumption | omega)) ?_) | refine seqQ_n ?_ | refine seqQ_x ?_ | refine blkQ_hit rfl ?_ | refine rndQ_x ?_)
      exact fin1r rfl rfl ⟨hS.upd, vbool (by simp [heq])⟩
  · have hne : ¬ xs = ys := fun h => hl (by rw [h])
    repeat' (first | (show WL _ _ _ _ _ _ _; first | refine WL.pure rfl rfl rfl rfl ?_ | refine WL.nil ?_) | (show WC _ _ _ _ _ _; first | refine WC.seq ?_ | refine WC.region ?_ | refine WC.ret ?_ | refine WC.condT rfl (decide_eq_true (by first | with_reducible assumption | omega)) ?_) | refine seqQ_n ?_ | refine seqQ_r ?_)
    exact fin1r rfl rfl ⟨hS.upd, vbool (by simp [hne])⟩
end Go.Proofs.YtccfiohagbneaaaGreatDoor

/- What is proved: what the program's disk answers of itself: whether it has stopped, how many steps it did. Conditions: none. -/
namespace Go.Proofs.YtccfiohagbneaaaGreatDoor
open Go Go.J Go.RowKit
set_option maxHeartbeats 4000000 in
set_option maxRecDepth 100000 in
theorem ddown_c {b mb lb : Nat} {D : Dk} {w0 : World} (h : DkIs b mb lb D w0) : Cal Tryz.prog 26 [.pointer (some ⟨b, 0, none⟩)] w0 (fun v w' => Upd [] w0 w' ∧ v = .bool D.down) := by
  refine Cal.mk' (by kernel_rfl) Tryz.func26 rfl rfl fun hS => ?_
  obtain ⟨_, _, _, hb, hm, hlm⟩ := h
  have hb : w0.heap[b]? = some (.cells ⟨[.map (some mb), .map (some lb), .int .i64 D.steps, .int .i64 D.stamps, .int .i64 D.armed, .bool D.down]⟩ 122 (0, 0)) := hb
  repeat' (first | (show WL _ _ _ _ _ _ _; first | refine WL.pure rfl rfl rfl rfl ?_ | refine WL.nil ?_ | (refine WL.load hS rfl rfl (LdOk.old hb Mm rfl) rfl rfl rfl ?_)) | (show WC _ _ _ _ _ _; first | refine WC.seq ?_ | refine WC.region ?_ | refine WC.ret ?_) | refine seqQ_n ?_)
  exact fin1r rfl rfl ⟨hS.upd, rfl⟩
set_option maxHeartbeats 4000000 in
set_option maxRecDepth 100000 in
theorem dstp_c {b mb lb : Nat} {D : Dk} {w0 : World} (h : DkIs b mb lb D w0) : Cal Tryz.prog 32 [.pointer (some ⟨b, 0, none⟩)] w0 (fun v w' => Upd [] w0 w' ∧ v = .int .i64 D.steps) := by
  refine Cal.mk' (by kernel_rfl) Tryz.func32 rfl rfl fun hS => ?_
  obtain ⟨_, _, _, hb, hm, hlm⟩ := h
  have hb : w0.heap[b]? = some (.cells ⟨[.map (some mb), .map (some lb), .int .i64 D.steps, .int .i64 D.stamps, .int .i64 D.armed, .bool D.down]⟩ 122 (0, 0)) := hb
  repeat' (first | (show WL _ _ _ _ _ _ _; first | refine WL.pure rfl rfl rfl rfl ?_ | refine WL.nil ?_ | (refine WL.load hS rfl rfl (LdOk.old hb Mm rfl) rfl rfl rfl ?_)) | (show WC _ _ _ _ _ _; first | refine WC.seq ?_ | refine WC.region ?_ | refine WC.skip ?_ | refine WC.ret ?_ | refine WC.condF rfl (by with_reducible rfl) ?_) | refine seqQ_n ?_)
  exact fin1r rfl rfl ⟨hS.upd, rfl⟩
end Go.Proofs.YtccfiohagbneaaaGreatDoor
