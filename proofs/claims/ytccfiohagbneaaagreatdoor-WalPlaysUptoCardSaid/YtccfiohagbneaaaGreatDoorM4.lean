/- What is proved: contracts and plain facts that the law leans on (texts put together). Conditions: as each names them. -/
import Derived.Test.YtccfiohagbneaaaGreatDoorM3
set_option linter.unusedSimpArgs false
set_option linter.unusedVariables false
/- What is proved: what the reference's disk does: Append and Sync. Conditions: a disk without limits, of bounded size. -/
set_option linter.unusedSimpArgs false
set_option linter.unusedVariables false
namespace Go.Proofs.YtccfiohagbneaaaGreatDoor
open Go Go.J Go.RowKit
theorem there_file (D : Dk) (p : List UInt8) : thereE D p = D.file p := by
  unfold thereE Dk.file Dk.kind
  cases D.has p <;> cases (D.at p).dir <;> simp
section
variable {dk : Nat} {A : Option Addr} {cap : Nat} {l : List Ri} {D : Dk} {w0 : World}
theorem rfplaceY_c (p : List UInt8) {it : It} (hR : RepL l D.items) (hg : mget D.items p = some it) (hA : RfAt dk A cap l D w0) (hl : l.length ≤ 1048576) :
    Cal Tryz.prog 84 [.pointer (some ⟨dk, 0, none⟩), str p] w0 (fun v w' => Upd [] w0 w' ∧ ∃ i : Nat, l[i]? = some ⟨p, it⟩ ∧ v = .int .i64 (i : Int)) :=
  (rfplace_c p hA hl).mono fun v w' ⟨hu, hp⟩ => ⟨hu, by
    rcases hp with ⟨hp, _⟩ | ⟨i, hi, he, hv⟩
    · exact absurd rfl (hp _ (hR.at_ hg))
    · refine ⟨i, ?_, hv⟩
      have h2 := hR.mem (List.getElem_mem hi)
      rw [he, hg] at h2
      have h3 := Option.some.inj h2
      rw [List.getElem?_eq_getElem hi]
      obtain ⟨q, j⟩ : ∃ x, x = l[i] := ⟨_, rfl⟩
      rw [← j] at he h3 ⊢
      cases q
      simp only at he h3
      rw [he, h3]⟩
theorem rf_pos {p : List UInt8} {it : It} (hR : RepL l D.items) (hg : mget D.items p = some it) : 0 < l.length := List.length_pos_of_mem (hR.at_ hg)
theorem file_get {p : List UInt8} (h : D.file p = 0) : D.may p 1 = 0 ∧ ∃ it, mget D.items p = some it ∧ D.at p = it ∧ it.dir = false := by
  unfold Dk.file Dk.has Dk.at at h
  by_cases hm : D.may p 1 = 0
  · rw [if_neg (fun e => e hm)] at h
    refine ⟨hm, ?_⟩
    unfold Dk.at
    cases hg : mget D.items p with
    | none => rw [hg] at h; simp at h
    | some it =>
      rw [hg] at h
      refine ⟨it, rfl, rfl, ?_⟩
      cases hd : it.dir
      · rfl
      · simp [hd] at h
  · rw [if_pos hm] at h; exact absurd h hm
end
theorem step_items (D : Dk) : D.step.items = D.items := by unfold Dk.step; split <;> rfl
set_option maxHeartbeats 16000000 in
set_option maxRecDepth 100000 in
theorem rfappend_c {dk : Nat} {D : Dk} {fp : List Nat} (p data : List UInt8) {w0 : World} (hi : InL w0 [rfC dk D fp]) (hp : p.length ≤ 1099511627) (hn : D.items.length ≤ 1048576) (hdl : (D.at p).data.length + data.length ≤ 1099511627776) :
    Cal Tryz.prog 25 [.pointer (some ⟨dk, 0, none⟩), str p, str data] w0 (fun v w' => v = .int .i64 (D.append p data).1 ∧ ∃ fp', MutL w0 w' [rfC dk D fp] [rfC dk (D.append p data).2 fp']) := by
  refine Cal.mkL hi (by kernel_rfl) Tryz.func25 rfl rfl fun hS => ?_
  obtain ⟨_, ⟨A, cap, l, hR, rfl⟩, hfp, hS⟩ := St.objOpen hS
  replace hS : St w0 _ w0 (rfL dk A cap l D) _ := hS
  have hl : l.length ≤ 1048576 := by rw [hR.len]; exact hn
  have hth := fun (w : World) (h : RfAt dk A cap l D w) => rfthere_c p hR h hl hp
  rw [there_file] at hth
  unfold Dk.append
  by_cases he : D.file p = 0
  · rw [if_neg (fun e => e he)]
    rw [he] at hth
    obtain ⟨hmay, it, hg, hat, hdir⟩ := file_get he
    have hat2 : D.step.at p = it := by unfold Dk.at; rw [step_items, hg]; rfl
    rw [hat] at hdl
    rw [hat2]
    by_cases hs : D.stepE = 0
    · rw [if_neg (fun e => e hs)]
      have hg2 : mget D.step.items p = some it := by rw [step_items]; exact hg
      have hR2 : RepL l D.step.items := by rw [step_items]; exact hR
      have hpl := fun (w : World) (h : RfAt dk A cap l D.step w) => rfplaceY_c p hR2 hg2 h hl
      obtain ⟨kg, ko, rfl⟩ := hS.own_addr (A := A) (n := l.length) (by repeat (first | exact List.Mem.head _ | apply List.Mem.tail)) (rf_pos hR hg)
      obtain ⟨dir, dat, kept, loose, anew, stamp⟩ := it
      dsimp only at hdir hdl ⊢
      subst hdir
      have hput := fun (w : World) (hI : InL w (rfL dk (some ⟨kg, ko, none⟩) cap l { D.step with stamps := IntKind.i64.wrap (D.step.stamps + 1) })) => rfput_c ⟨p, ⟨false, dat ++ data, kept, true, anew, IntKind.i64.wrap (D.step.stamps + 1)⟩⟩ (D := { D.step with stamps := IntKind.i64.wrap (D.step.stamps + 1) }) hR2 hI hl
      repeat' (first
        | (show WL _ _ _ _ _ _ _; first
          | refine WL.cat (a := dat) (b := data) rfl rfl rfl (by omega) rfl rfl rfl ?_
          | refine WL.pure rfl rfl rfl rfl ?_
          | refine WL.nil ?_
          | refine WL.load hS rfl rfl (LdOk.box (by repeat (first | exact List.Mem.head _ | apply List.Mem.tail)) rfl) rfl rfl rfl ?_
          | (refine WL.calls hS rfl rfl (hth _ (St.rfAt hS (by repeat (first | exact List.Mem.head _ | apply List.Mem.tail)) (by repeat (first | exact List.Mem.head _ | apply List.Mem.tail)))) rfl rfl rfl ?_; rintro v w rfl hS)
          | (refine WL.calls hS rfl rfl (rffits_c p _ (St.rfAt hS (by repeat (first | exact List.Mem.head _ | apply List.Mem.tail)) (by repeat (first | exact List.Mem.head _ | apply List.Mem.tail)))) rfl rfl rfl ?_; rintro v w rfl hS)
          | (refine WL.callL (D := rfL dk (some ⟨kg, ko, none⟩) cap l D) hS (by repeat (first | exact Pulls.nil | (apply Pulls.cons; focus (repeat (first | exact Pull.here | apply Pull.there))))) rfl rfl (fun hI => rfdone_c hI) rfl rfl rfl ?_; rintro v w ⟨rfl, hm⟩ hS; replace hS := hS _ hm; clear hm; rw [hs])
          | (refine WL.callL (D := rfL dk (some ⟨kg, ko, none⟩) cap l D.step) hS (by repeat (first | exact Pulls.nil | (apply Pulls.cons; focus (repeat (first | exact Pull.here | apply Pull.there))))) rfl rfl (fun hI => rfstamped_c ⟨p, ⟨false, dat ++ data, kept, true, anew, stamp⟩⟩ hI) rfl rfl rfl ?_; rintro v w ⟨rfl, hm⟩ hS; replace hS := hS _ hm; clear hm)
          | (refine WL.callL (D := rfL dk (some ⟨kg, ko, none⟩) cap l { D.step with stamps := IntKind.i64.wrap (D.step.stamps + 1) }) hS (by repeat (first | exact Pulls.nil | (apply Pulls.cons; focus (repeat (first | exact Pull.here | apply Pull.there))))) rfl rfl (fun hI => hput _ hI) rfl rfl rfl ?_; rintro v w ⟨rfl, A', cap', l', hR', hm⟩ hS; replace hS := hS _ hm; clear hm)
          | (refine WL.store hS rfl rfl rfl (by repeat (first | exact StB.here rfl | apply StB.there)) rfl rfl rfl ?_; intro w hS))
        | (show WC _ _ _ _ _ _; first
          | refine WC.seq ?_
          | refine WC.region ?_
          | refine WC.skip ?_
          | refine WC.ret ?_
          | (show WC _ _ (Code.region _ (List.toArray [_, _, _, _, _, _, _, _, _, _, _]) true) _ _ _; refine WC.drawP hS [0,1,2,3,4,5,7,8] [0,1,2,3,4,5] (.two 6 [7,8,9,10] .nil 9 [6,7,8,10] .nil) (by kernel_rfl) (by kernel_rfl) ?_; clear hS; intro w hS hM)
          | refine WC.condT rfl (by decide) ?_
          | refine WC.condF rfl (by decide) ?_)
        | (show WD _ _ _ _ _ _ _ _ _; first
          | refine WD.pure rfl rfl rfl rfl rfl ?_
          | refine WD.nil ?_
          | refine WD.load rfl rfl (LdOk.box (by repeat (first | exact List.Mem.head _ | apply List.Mem.tail)) rfl) rfl rfl rfl rfl ?_
          | (refine WD.fork ?_ ?_)
          | (refine WD.alloc (t := 110) hS hM rfl rfl rfl rfl rfl rfl rfl rfl ?_; clear hS hM; intro w b hS hM)
          | (refine WD.calls hS hM rfl rfl (hpl _ (St.rfAt hS (by repeat (first | exact List.Mem.head _ | apply List.Mem.tail)) (by repeat (first | exact List.Mem.head _ | apply List.Mem.tail)))) rfl rfl rfl rfl rfl ?_; clear hS; rintro v w ⟨i, hli, rfl⟩ hS; have hil := (List.getElem?_eq_some_iff.1 hli).1)
          | (refine WD.load rfl rfl (LdOk.ownElemE (enc := encRi) (k := i) (fun _ => rfl) (by repeat (first | exact List.Mem.head _ | apply List.Mem.tail)) hli rfl rfl) rfl rfl rfl rfl ?_)
          | (refine WD.store hS rfl rfl rfl (by repeat (first | exact StB.here rfl | apply StB.there)) rfl (by first | exact .refl _ _ | exact .chunk (.refl _ _) _ | exact .chunk (.chunk (.refl _ _) _) _) rfl rfl rfl rfl ?_; clear hS hM; intro w hS hM)
          | refine WD.index rfl rfl rfl rfl (by first | with_reducible assumption | omega) rfl rfl rfl rfl rfl ?_)
        | (refine WDo.alloc (t := 110) hS hM rfl rfl rfl rfl rfl rfl rfl ?_; clear hS hM; intro w b hS hM)
        | (refine WDo.calls hS hM rfl rfl (hpl _ (St.rfAt hS (by repeat (first | exact List.Mem.head _ | apply List.Mem.tail)) (by repeat (first | exact List.Mem.head _ | apply List.Mem.tail)))) rfl rfl rfl rfl ?_; clear hS; rintro v w ⟨i, hli, rfl⟩ hS; have hil := (List.getElem?_eq_some_iff.1 hli).1)
        | refine seqQ_n ?_)
      all_goals
        have hS := St.objClose (φ := rfφ dk (D.step.set p ⟨false, dat ++ data, kept, true, anew, stamp⟩)) (hS.pulls (D := rfL dk A' cap' l' (D.step.set p ⟨false, dat ++ data, kept, true, anew, stamp⟩)) (by repeat (first | exact Pulls.nil | (apply Pulls.cons; focus (repeat (first | exact Pull.here | apply Pull.there)))))) ⟨A', cap', l', hR', rfl⟩
        exact fin1r rfl rfl ⟨rfl, _, hS.mutLp (by repeat (first | exact Pulls.nil | (apply Pulls.cons; focus (repeat (first | exact Pull.here | apply Pull.there)))))⟩
    · rw [if_pos hs]
      have hR2 : RepL l D.step.items := by rw [step_items]; exact hR
      repeat' (first
        | (show WL _ _ _ _ _ _ _; first
          | refine WL.pure rfl rfl rfl rfl ?_
          | refine WL.nil ?_
          | (refine WL.calls hS rfl rfl (hth _ (St.rfAt hS (by repeat (first | exact List.Mem.head _ | apply List.Mem.tail)) (by repeat (first | exact List.Mem.head _ | apply List.Mem.tail)))) rfl rfl rfl ?_; rintro v w rfl hS)
          | (refine WL.calls hS rfl rfl (rffits_c p _ (St.rfAt hS (by repeat (first | exact List.Mem.head _ | apply List.Mem.tail)) (by repeat (first | exact List.Mem.head _ | apply List.Mem.tail)))) rfl rfl rfl ?_; rintro v w rfl hS)
          | (refine WL.callL (D := rfL dk A cap l D) hS (by repeat (first | exact Pulls.nil | (apply Pulls.cons; focus (repeat (first | exact Pull.here | apply Pull.there))))) rfl rfl (fun hI => rfdone_c hI) rfl rfl rfl ?_; rintro v w ⟨rfl, hm⟩ hS; replace hS := hS _ hm; clear hm))
        | (show WC _ _ _ _ _ _; first
          | refine WC.seq ?_
          | refine WC.region ?_
          | refine WC.skip ?_
          | refine WC.ret ?_
          | refine WC.condF rfl (by decide) ?_
          | refine WC.condF rfl (decide_eq_false (by first | with_reducible assumption | omega)) ?_)
        | refine seqQ_n ?_)
      have hS := St.objClose (φ := rfφ dk D.step) (hS.pulls (D := rfL dk A cap l D.step) (by repeat (first | exact Pulls.nil | (apply Pulls.cons; focus (repeat (first | exact Pull.here | apply Pull.there)))))) ⟨A, cap, l, hR2, rfl⟩
      exact fin1r rfl rfl ⟨rfl, _, hS.mutLp (by repeat (first | exact Pulls.nil | (apply Pulls.cons; focus (repeat (first | exact Pull.here | apply Pull.there)))))⟩
  · rw [if_pos he]
    repeat' (first
      | (show WL _ _ _ _ _ _ _; first
        | refine WL.pure rfl rfl rfl rfl ?_
        | refine WL.nil ?_
        | (refine WL.calls hS rfl rfl (hth _ (St.rfAt hS (by repeat (first | exact List.Mem.head _ | apply List.Mem.tail)) (by repeat (first | exact List.Mem.head _ | apply List.Mem.tail)))) rfl rfl rfl ?_; rintro v w rfl hS))
      | (show WC _ _ _ _ _ _; first
        | refine WC.seq ?_
        | refine WC.region ?_
        | refine WC.ret ?_
        | refine WC.condT rfl (decide_eq_true (by first | with_reducible assumption | omega)) ?_)
      | refine seqQ_n ?_
      | refine seqQ_r ?_)
    have hS := St.objClose (φ := rfφ dk D) (hS.pulls (D := rfL dk A cap l D) (by repeat (first | exact Pulls.nil | (apply Pulls.cons; focus (repeat (first | exact Pull.here | apply Pull.there)))))) ⟨A, cap, l, hR, rfl⟩
    exact fin1r rfl rfl ⟨rfl, _, hS.mutLp (by repeat (first | exact Pulls.nil | (apply Pulls.cons; focus (repeat (first | exact Pull.here | apply Pull.there)))))⟩
set_option maxHeartbeats 16000000 in
set_option maxRecDepth 100000 in
theorem rfsync_c {dk : Nat} {D : Dk} {fp : List Nat} (p : List UInt8) {w0 : World} (hi : InL w0 [rfC dk D fp]) (hp : p.length ≤ 1099511627) (hn : D.items.length ≤ 1048576) :
    Cal Tryz.prog 74 [.pointer (some ⟨dk, 0, none⟩), str p] w0 (fun v w' => v = .int .i64 (D.sync p).1 ∧ ∃ fp', MutL w0 w' [rfC dk D fp] [rfC dk (D.sync p).2 fp']) := by
  refine Cal.mkL hi (by kernel_rfl) Tryz.func74 rfl rfl fun hS => ?_
  obtain ⟨_, ⟨A, cap, l, hR, rfl⟩, hfp, hS⟩ := St.objOpen hS
  replace hS : St w0 _ w0 (rfL dk A cap l D) _ := hS
  have hl : l.length ≤ 1048576 := by rw [hR.len]; exact hn
  have hth := fun (w : World) (h : RfAt dk A cap l D w) => rfthere_c p hR h hl hp
  rw [there_file] at hth
  unfold Dk.sync
  by_cases he : D.file p = 0
  · rw [if_neg (fun e => e he)]
    rw [he] at hth
    obtain ⟨hmay, it, hg, hat, hdir⟩ := file_get he
    have hat2 : D.step.at p = it := by unfold Dk.at; rw [step_items, hg]; rfl
    rw [hat2]
    by_cases hs : D.stepE = 0
    · rw [if_neg (fun e => e hs)]
      have hg2 : mget D.step.items p = some it := by rw [step_items]; exact hg
      have hR2 : RepL l D.step.items := by rw [step_items]; exact hR
      have hpl := fun (w : World) (h : RfAt dk A cap l D.step w) => rfplaceY_c p hR2 hg2 h hl
      obtain ⟨kg, ko, rfl⟩ := hS.own_addr (A := A) (n := l.length) (by repeat (first | exact List.Mem.head _ | apply List.Mem.tail)) (rf_pos hR hg)
      obtain ⟨dir, dat, kept, loose, anew, stamp⟩ := it
      dsimp only at hdir ⊢
      subst hdir
      have hput := fun (w : World) (hI : InL w (rfL dk (some ⟨kg, ko, none⟩) cap l D.step)) => rfput_c ⟨p, ⟨false, dat, dat, false, false, stamp⟩⟩ (D := D.step) hR2 hI hl
      repeat' (first
        | (show WL _ _ _ _ _ _ _; first
          | refine WL.pure rfl rfl rfl rfl ?_
          | refine WL.nil ?_
          | refine WL.load hS rfl rfl (LdOk.box (by repeat (first | exact List.Mem.head _ | apply List.Mem.tail)) rfl) rfl rfl rfl ?_
          | (refine WL.calls hS rfl rfl (hth _ (St.rfAt hS (by repeat (first | exact List.Mem.head _ | apply List.Mem.tail)) (by repeat (first | exact List.Mem.head _ | apply List.Mem.tail)))) rfl rfl rfl ?_; rintro v w rfl hS)
          | (refine WL.callL (D := rfL dk (some ⟨kg, ko, none⟩) cap l D) hS (by repeat (first | exact Pulls.nil | (apply Pulls.cons; focus (repeat (first | exact Pull.here | apply Pull.there))))) rfl rfl (fun hI => rfdone_c hI) rfl rfl rfl ?_; rintro v w ⟨rfl, hm⟩ hS; replace hS := hS _ hm; clear hm; rw [hs])
          | (refine WL.callL (D := rfL dk (some ⟨kg, ko, none⟩) cap l D.step) hS (by repeat (first | exact Pulls.nil | (apply Pulls.cons; focus (repeat (first | exact Pull.here | apply Pull.there))))) rfl rfl (fun hI => hput _ hI) rfl rfl rfl ?_; rintro v w ⟨rfl, A', cap', l', hR', hm⟩ hS; replace hS := hS _ hm; clear hm)
          | (refine WL.store hS rfl rfl rfl (by repeat (first | exact StB.here rfl | apply StB.there)) rfl rfl rfl ?_; intro w hS))
        | (show WC _ _ _ _ _ _; first
          | refine WC.seq ?_
          | refine WC.region ?_
          | refine WC.skip ?_
          | refine WC.ret ?_
          | (show WC _ _ (Code.region _ (List.toArray [_, _, _, _, _, _, _, _, _, _, _]) true) _ _ _; refine WC.drawP hS [0,1,2,3,4,5,7,8] [0,1,2,3,4,5] (.two 6 [7,8,9,10] .nil 9 [6,7,8,10] .nil) (by kernel_rfl) (by kernel_rfl) ?_; clear hS; intro w hS hM)
          | refine WC.condT rfl (by decide) ?_
          | refine WC.condF rfl (by decide) ?_)
        | (show WD _ _ _ _ _ _ _ _ _; first
          | refine WD.pure rfl rfl rfl rfl rfl ?_
          | refine WD.nil ?_
          | refine WD.load rfl rfl (LdOk.box (by repeat (first | exact List.Mem.head _ | apply List.Mem.tail)) rfl) rfl rfl rfl rfl ?_
          | (refine WD.fork ?_ ?_)
          | (refine WD.alloc (t := 110) hS hM rfl rfl rfl rfl rfl rfl rfl rfl ?_; clear hS hM; intro w b hS hM)
          | (refine WD.calls hS hM rfl rfl (hpl _ (St.rfAt hS (by repeat (first | exact List.Mem.head _ | apply List.Mem.tail)) (by repeat (first | exact List.Mem.head _ | apply List.Mem.tail)))) rfl rfl rfl rfl rfl ?_; clear hS; rintro v w ⟨i, hli, rfl⟩ hS; have hil := (List.getElem?_eq_some_iff.1 hli).1)
          | (refine WD.load rfl rfl (LdOk.ownElemE (enc := encRi) (k := i) (fun _ => rfl) (by repeat (first | exact List.Mem.head _ | apply List.Mem.tail)) hli rfl rfl) rfl rfl rfl rfl ?_)
          | (refine WD.store hS rfl rfl rfl (by repeat (first | exact StB.here rfl | apply StB.there)) rfl (by first | exact .refl _ _ | exact .chunk (.refl _ _) _ | exact .chunk (.chunk (.refl _ _) _) _) rfl rfl rfl rfl ?_; clear hS hM; intro w hS hM)
          | refine WD.index rfl rfl rfl rfl (by first | with_reducible assumption | omega) rfl rfl rfl rfl rfl ?_)
        | (refine WDo.alloc (t := 110) hS hM rfl rfl rfl rfl rfl rfl rfl ?_; clear hS hM; intro w b hS hM)
        | (refine WDo.calls hS hM rfl rfl (hpl _ (St.rfAt hS (by repeat (first | exact List.Mem.head _ | apply List.Mem.tail)) (by repeat (first | exact List.Mem.head _ | apply List.Mem.tail)))) rfl rfl rfl rfl ?_; clear hS; rintro v w ⟨i, hli, rfl⟩ hS; have hil := (List.getElem?_eq_some_iff.1 hli).1)
        | refine seqQ_n ?_)
      all_goals
        have hS := St.objClose (φ := rfφ dk { D.step with items := mset D.step.items p ⟨false, dat, dat, false, false, stamp⟩ }) (hS.pulls (D := rfL dk A' cap' l' { D.step with items := mset D.step.items p ⟨false, dat, dat, false, false, stamp⟩ }) (by repeat (first | exact Pulls.nil | (apply Pulls.cons; focus (repeat (first | exact Pull.here | apply Pull.there)))))) ⟨A', cap', l', hR', rfl⟩
        exact fin1r rfl rfl ⟨rfl, _, hS.mutLp (by repeat (first | exact Pulls.nil | (apply Pulls.cons; focus (repeat (first | exact Pull.here | apply Pull.there)))))⟩
    · rw [if_pos hs]
      have hR2 : RepL l D.step.items := by rw [step_items]; exact hR
      repeat' (first
        | (show WL _ _ _ _ _ _ _; first
          | refine WL.pure rfl rfl rfl rfl ?_
          | refine WL.nil ?_
          | (refine WL.calls hS rfl rfl (hth _ (St.rfAt hS (by repeat (first | exact List.Mem.head _ | apply List.Mem.tail)) (by repeat (first | exact List.Mem.head _ | apply List.Mem.tail)))) rfl rfl rfl ?_; rintro v w rfl hS)
          | (refine WL.callL (D := rfL dk A cap l D) hS (by repeat (first | exact Pulls.nil | (apply Pulls.cons; focus (repeat (first | exact Pull.here | apply Pull.there))))) rfl rfl (fun hI => rfdone_c hI) rfl rfl rfl ?_; rintro v w ⟨rfl, hm⟩ hS; replace hS := hS _ hm; clear hm))
        | (show WC _ _ _ _ _ _; first
          | refine WC.seq ?_
          | refine WC.region ?_
          | refine WC.skip ?_
          | refine WC.ret ?_
          | refine WC.condF rfl (by decide) ?_
          | refine WC.condF rfl (decide_eq_false (by first | with_reducible assumption | omega)) ?_)
        | refine seqQ_n ?_)
      have hS := St.objClose (φ := rfφ dk D.step) (hS.pulls (D := rfL dk A cap l D.step) (by repeat (first | exact Pulls.nil | (apply Pulls.cons; focus (repeat (first | exact Pull.here | apply Pull.there)))))) ⟨A, cap, l, hR2, rfl⟩
      exact fin1r rfl rfl ⟨rfl, _, hS.mutLp (by repeat (first | exact Pulls.nil | (apply Pulls.cons; focus (repeat (first | exact Pull.here | apply Pull.there)))))⟩
  · rw [if_pos he]
    repeat' (first
      | (show WL _ _ _ _ _ _ _; first
        | refine WL.pure rfl rfl rfl rfl ?_
        | refine WL.nil ?_
        | (refine WL.calls hS rfl rfl (hth _ (St.rfAt hS (by repeat (first | exact List.Mem.head _ | apply List.Mem.tail)) (by repeat (first | exact List.Mem.head _ | apply List.Mem.tail)))) rfl rfl rfl ?_; rintro v w rfl hS))
      | (show WC _ _ _ _ _ _; first
        | refine WC.seq ?_
        | refine WC.region ?_
        | refine WC.ret ?_
        | refine WC.condT rfl (decide_eq_true (by first | with_reducible assumption | omega)) ?_)
      | refine seqQ_n ?_
      | refine seqQ_r ?_)
    have hS := St.objClose (φ := rfφ dk D) (hS.pulls (D := rfL dk A cap l D) (by repeat (first | exact Pulls.nil | (apply Pulls.cons; focus (repeat (first | exact Pull.here | apply Pull.there)))))) ⟨A, cap, l, hR, rfl⟩
    exact fin1r rfl rfl ⟨rfl, _, hS.mutLp (by repeat (first | exact Pulls.nil | (apply Pulls.cons; focus (repeat (first | exact Pull.here | apply Pull.there)))))⟩
end Go.Proofs.YtccfiohagbneaaaGreatDoor

/- What is proved: what the reference's disk does: Mkdir and Write. Conditions: a disk without limits, of bounded size. -/
set_option linter.unusedSimpArgs false
set_option linter.unusedVariables false
namespace Go.Proofs.YtccfiohagbneaaaGreatDoor
open Go Go.J Go.RowKit
theorem may_ok {D : Dk} {p : List UInt8} {n : Int} (h : D.may p n = 0) : checkE p 6 = 0 ∧ n < deepE p := by
  unfold Dk.may at h
  split at h
  · exact absurd h (by decide)
  · split at h
    · exact absurd h (by decide)
    · rename_i hc
      split at h
      · exact absurd h (by decide)
      · exact ⟨Classical.byContradiction hc, by omega⟩
theorem parent_nil {p : List UInt8} (h : checkE p 6 = 0) : parentE p = [] ↔ deepE p = 1 := by
  have hne : p ≠ [] := by rintro rfl; exact absurd h (by decide)
  have hg := lastE_ge p
  have hall : (splitL p).all nameB = true := by
    cases ha : (splitL p).all nameB
    · unfold checkE at h; rw [ha] at h; simp at h
    · rfl
  have hpt := parts p hall
  by_cases h0 : lastE p < 0
  · have e1 : lastE p = -1 := by omega
    have hn : p.count 47 = 0 := count_none p fun i hi => lastL_no p p.length (Nat.le_refl _) i (by show lastE p < _; omega) hi
    refine ⟨fun _ => ?_, fun _ => ?_⟩
    · unfold deepE; rw [if_neg hne, hn]; rfl
    · unfold parentE; rw [e1]; rfl
  · obtain ⟨m, hm⟩ := Int.eq_ofNat_of_zero_le (show 0 ≤ lastE p by omega)
    have hat := lastL_at p p.length m hm
    have hmem : (47 : UInt8) ∈ p := List.mem_of_getElem? hat
    have hc : 0 < p.count 47 := List.count_pos_iff.2 hmem
    refine ⟨fun e => ?_, fun e => ?_⟩
    · have hb := hpt.1
      rw [e] at hb
      have hb : baseE p = p := by unfold joinE at hb; rw [if_pos rfl] at hb; exact hb
      have hl := congrArg List.length hb
      unfold baseE at hl
      rw [List.length_drop] at hl
      have : 0 < p.length := List.length_pos_iff.2 hne
      omega
    · exfalso
      unfold deepE at e
      rw [if_neg hne] at e
      omega
theorem home_under {D : Dk} {p : List UInt8} (h : checkE p 6 = 0) : homeE D p = D.under p := by
  unfold homeE Dk.under
  by_cases h1 : deepE p = 1
  · rw [if_pos ((parent_nil h).2 h1), if_pos h1]
  · rw [if_neg (fun e => h1 ((parent_nil h).1 e)), if_neg h1]
    unfold Dk.kind Dk.has Dk.at
    cases hg : mget D.items (parentE p) with
    | none => rfl
    | some it =>
      dsimp only [Option.isSome, Option.getD]
      obtain ⟨dir, data, kept, loose, anew, stamp⟩ := it
      cases dir <;> rfl
set_option maxHeartbeats 16000000 in
set_option maxRecDepth 100000 in
theorem rfmkdir_c {dk : Nat} {D : Dk} {fp : List Nat} (p : List UInt8) {w0 : World} (hi : InL w0 [rfC dk D fp]) (hp : p.length ≤ 1099511627) (hn : D.items.length ≤ 1048576) :
    Cal Tryz.prog 12 [.pointer (some ⟨dk, 0, none⟩), str p] w0 (fun v w' => v = .int .i64 (D.mkdir p).1 ∧ ∃ fp', MutL w0 w' [rfC dk D fp] [rfC dk (D.mkdir p).2 fp']) := by
  refine Cal.mkL hi (by kernel_rfl) Tryz.func12 rfl rfl fun hS => ?_
  obtain ⟨_, ⟨A, cap, l, hR, rfl⟩, hfp, hS⟩ := St.objOpen hS
  replace hS : St w0 _ w0 (rfL dk A cap l D) _ := hS
  have hl : l.length ≤ 1048576 := by rw [hR.len]; exact hn
  have hmay := fun (w : World) (h : RfAt dk A cap l D w) => rffirst_c p 0 h hp
  have hkc := fun (w : World) (h : RfAt dk A cap l D w) => rfkind_c p hR h hl
  have hhc := fun (w : World) (h : RfAt dk A cap l D w) => rfhome_c p hR h hl hp
  unfold Dk.mkdir
  have hR2 : RepL l D.step.items := by rw [step_items]; exact hR
  by_cases he : D.may p 0 = 0
  · rw [if_neg (fun e => e he)]
    rw [he] at hmay
    rw [home_under (may_ok he).1] at hhc
    cases hu : D.under p
    · rw [if_pos rfl]
      rw [hu] at hhc
      repeat' (first
        | (show WL _ _ _ _ _ _ _; first
          | refine WL.pure rfl rfl rfl rfl ?_
          | refine WL.nil ?_
          | (refine WL.calls hS rfl rfl (hmay _ (St.rfAt hS (by repeat (first | exact List.Mem.head _ | apply List.Mem.tail)) (by repeat (first | exact List.Mem.head _ | apply List.Mem.tail)))) rfl rfl rfl ?_; rintro v w rfl hS)
          | (refine WL.calls hS rfl rfl (hhc _ (St.rfAt hS (by repeat (first | exact List.Mem.head _ | apply List.Mem.tail)) (by repeat (first | exact List.Mem.head _ | apply List.Mem.tail)))) rfl rfl rfl ?_; rintro v w rfl hS))
        | (show WC _ _ _ _ _ _; first
          | refine WC.seq ?_
          | refine WC.region ?_
          | refine WC.skip ?_
          | refine WC.ret ?_
          | refine WC.condT rfl (by decide) ?_
          | refine WC.condF rfl (by decide) ?_)
        | refine seqQ_n ?_
        | refine seqQ_r ?_)
      have hS := St.objClose (φ := rfφ dk D) (hS.pulls (D := rfL dk A cap l D) (by repeat (first | exact Pulls.nil | (apply Pulls.cons; focus (repeat (first | exact Pull.here | apply Pull.there)))))) ⟨A, cap, l, hR, rfl⟩
      exact fin1r rfl rfl ⟨rfl, _, hS.mutLp (by repeat (first | exact Pulls.nil | (apply Pulls.cons; focus (repeat (first | exact Pull.here | apply Pull.there)))))⟩
    · rw [if_neg (by decide)]
      rw [hu] at hhc
      by_cases hf : D.has p = true ∧ (D.at p).dir = false
      · rw [if_pos hf]
        have hk2 : D.kind p = 2 := by unfold Dk.kind; rw [if_pos hf.1, if_neg (by rw [hf.2]; decide)]
        rw [hk2] at hkc
        repeat' (first
          | (show WL _ _ _ _ _ _ _; first
            | refine WL.pure rfl rfl rfl rfl ?_
            | refine WL.nil ?_
            | (refine WL.calls hS rfl rfl (hmay _ (St.rfAt hS (by repeat (first | exact List.Mem.head _ | apply List.Mem.tail)) (by repeat (first | exact List.Mem.head _ | apply List.Mem.tail)))) rfl rfl rfl ?_; rintro v w rfl hS)
            | (refine WL.calls hS rfl rfl (hhc _ (St.rfAt hS (by repeat (first | exact List.Mem.head _ | apply List.Mem.tail)) (by repeat (first | exact List.Mem.head _ | apply List.Mem.tail)))) rfl rfl rfl ?_; rintro v w rfl hS)
            | (refine WL.calls hS rfl rfl (hkc _ (St.rfAt hS (by repeat (first | exact List.Mem.head _ | apply List.Mem.tail)) (by repeat (first | exact List.Mem.head _ | apply List.Mem.tail)))) rfl rfl rfl ?_; rintro v w rfl hS))
          | (show WC _ _ _ _ _ _; first
            | refine WC.seq ?_
            | refine WC.region ?_
            | refine WC.skip ?_
            | refine WC.ret ?_
            | refine WC.condT rfl (by decide) ?_
            | refine WC.condF rfl (by decide) ?_)
          | refine seqQ_n ?_
          | refine seqQ_r ?_)
        have hS := St.objClose (φ := rfφ dk D) (hS.pulls (D := rfL dk A cap l D) (by repeat (first | exact Pulls.nil | (apply Pulls.cons; focus (repeat (first | exact Pull.here | apply Pull.there)))))) ⟨A, cap, l, hR, rfl⟩
        exact fin1r rfl rfl ⟨rfl, _, hS.mutLp (by repeat (first | exact Pulls.nil | (apply Pulls.cons; focus (repeat (first | exact Pull.here | apply Pull.there)))))⟩
      · rw [if_neg hf]
        have hk2 : D.kind p ≠ 2 := by
          unfold Dk.kind
          cases h1 : D.has p
          · simp
          · cases h2 : (D.at p).dir
            · exact absurd ⟨h1, h2⟩ hf
            · simp
        generalize D.kind p = kd at *
        clear hf
        by_cases hs : D.stepE = 0
        · rw [if_neg (fun e => e hs)]
          have hput := fun (w : World) (hI : InL w (rfL dk A cap l D.step)) => rfput_c ⟨p, { It0 with dir := true }⟩ (D := D.step) hR2 hI hl
          repeat' (first
            | (show WL _ _ _ _ _ _ _; first
              | refine WL.pure rfl rfl rfl rfl ?_
              | refine WL.nil ?_
              | (refine WL.calls hS rfl rfl (hmay _ (St.rfAt hS (by repeat (first | exact List.Mem.head _ | apply List.Mem.tail)) (by repeat (first | exact List.Mem.head _ | apply List.Mem.tail)))) rfl rfl rfl ?_; rintro v w rfl hS)
              | (refine WL.calls hS rfl rfl (hhc _ (St.rfAt hS (by repeat (first | exact List.Mem.head _ | apply List.Mem.tail)) (by repeat (first | exact List.Mem.head _ | apply List.Mem.tail)))) rfl rfl rfl ?_; rintro v w rfl hS)
              | (refine WL.calls hS rfl rfl (hkc _ (St.rfAt hS (by repeat (first | exact List.Mem.head _ | apply List.Mem.tail)) (by repeat (first | exact List.Mem.head _ | apply List.Mem.tail)))) rfl rfl rfl ?_; rintro v w rfl hS)
              | (refine WL.callL (D := rfL dk A cap l D) hS (by repeat (first | exact Pulls.nil | (apply Pulls.cons; focus (repeat (first | exact Pull.here | apply Pull.there))))) rfl rfl (fun hI => rfdone_c hI) rfl rfl rfl ?_; rintro v w ⟨rfl, hm⟩ hS; replace hS := hS _ hm; clear hm; rw [hs])
              | (refine WL.callL (D := rfL dk A cap l D.step) hS (by repeat (first | exact Pulls.nil | (apply Pulls.cons; focus (repeat (first | exact Pull.here | apply Pull.there))))) rfl rfl (fun hI => hput _ hI) rfl rfl rfl ?_; rintro v w ⟨rfl, A', cap', l', hR', hm⟩ hS; replace hS := hS _ hm; clear hm)
              | refine WL.build rfl rfl rfl rfl rfl ?_)
            | (show WC _ _ _ _ _ _; first
              | refine WC.seq ?_
              | refine WC.region ?_
              | refine WC.skip ?_
              | refine WC.ret ?_
              | refine WC.condT rfl (by decide) ?_
              | refine WC.condF rfl (by decide) ?_
              | refine WC.condF rfl (decide_eq_false (by first | with_reducible assumption | omega)) ?_)
            | refine seqQ_n ?_)
          have hS := St.objClose (φ := rfφ dk { D.step with items := mset D.step.items p { It0 with dir := true } }) (hS.pulls (D := rfL dk A' cap' l' { D.step with items := mset D.step.items p { It0 with dir := true } }) (by repeat (first | exact Pulls.nil | (apply Pulls.cons; focus (repeat (first | exact Pull.here | apply Pull.there)))))) ⟨A', cap', l', hR', rfl⟩
          exact fin1r rfl rfl ⟨rfl, _, hS.mutLp (by repeat (first | exact Pulls.nil | (apply Pulls.cons; focus (repeat (first | exact Pull.here | apply Pull.there)))))⟩
        · rw [if_pos hs]
          repeat' (first
            | (show WL _ _ _ _ _ _ _; first
              | refine WL.pure rfl rfl rfl rfl ?_
              | refine WL.nil ?_
              | (refine WL.calls hS rfl rfl (hmay _ (St.rfAt hS (by repeat (first | exact List.Mem.head _ | apply List.Mem.tail)) (by repeat (first | exact List.Mem.head _ | apply List.Mem.tail)))) rfl rfl rfl ?_; rintro v w rfl hS)
              | (refine WL.calls hS rfl rfl (hhc _ (St.rfAt hS (by repeat (first | exact List.Mem.head _ | apply List.Mem.tail)) (by repeat (first | exact List.Mem.head _ | apply List.Mem.tail)))) rfl rfl rfl ?_; rintro v w rfl hS)
              | (refine WL.calls hS rfl rfl (hkc _ (St.rfAt hS (by repeat (first | exact List.Mem.head _ | apply List.Mem.tail)) (by repeat (first | exact List.Mem.head _ | apply List.Mem.tail)))) rfl rfl rfl ?_; rintro v w rfl hS)
              | (refine WL.callL (D := rfL dk A cap l D) hS (by repeat (first | exact Pulls.nil | (apply Pulls.cons; focus (repeat (first | exact Pull.here | apply Pull.there))))) rfl rfl (fun hI => rfdone_c hI) rfl rfl rfl ?_; rintro v w ⟨rfl, hm⟩ hS; replace hS := hS _ hm; clear hm))
            | (show WC _ _ _ _ _ _; first
              | refine WC.seq ?_
              | refine WC.region ?_
              | refine WC.skip ?_
              | refine WC.ret ?_
              | refine WC.condF rfl (by decide) ?_
              | refine WC.condF rfl (decide_eq_false (by first | with_reducible assumption | omega)) ?_)
            | refine seqQ_n ?_)
          have hS := St.objClose (φ := rfφ dk D.step) (hS.pulls (D := rfL dk A cap l D.step) (by repeat (first | exact Pulls.nil | (apply Pulls.cons; focus (repeat (first | exact Pull.here | apply Pull.there)))))) ⟨A, cap, l, hR2, rfl⟩
          exact fin1r rfl rfl ⟨rfl, _, hS.mutLp (by repeat (first | exact Pulls.nil | (apply Pulls.cons; focus (repeat (first | exact Pull.here | apply Pull.there)))))⟩
  · rw [if_pos he]
    repeat' (first
      | (show WL _ _ _ _ _ _ _; first
        | refine WL.pure rfl rfl rfl rfl ?_
        | refine WL.nil ?_
        | (refine WL.calls hS rfl rfl (hmay _ (St.rfAt hS (by repeat (first | exact List.Mem.head _ | apply List.Mem.tail)) (by repeat (first | exact List.Mem.head _ | apply List.Mem.tail)))) rfl rfl rfl ?_; rintro v w rfl hS))
      | (show WC _ _ _ _ _ _; first
        | refine WC.seq ?_
        | refine WC.region ?_
        | refine WC.ret ?_
        | refine WC.condT rfl (decide_eq_true (by first | with_reducible assumption | omega)) ?_)
      | refine seqQ_n ?_
      | refine seqQ_r ?_)
    have hS := St.objClose (φ := rfφ dk D) (hS.pulls (D := rfL dk A cap l D) (by repeat (first | exact Pulls.nil | (apply Pulls.cons; focus (repeat (first | exact Pull.here | apply Pull.there)))))) ⟨A, cap, l, hR, rfl⟩
    exact fin1r rfl rfl ⟨rfl, _, hS.mutLp (by repeat (first | exact Pulls.nil | (apply Pulls.cons; focus (repeat (first | exact Pull.here | apply Pull.there)))))⟩
set_option maxHeartbeats 16000000 in
set_option maxRecDepth 100000 in
theorem rfwrite_c {dk : Nat} {D : Dk} {fp : List Nat} (p data : List UInt8) {w0 : World} (hi : InL w0 [rfC dk D fp]) (hp : p.length ≤ 1099511627) (hn : D.items.length ≤ 1048576) (hdl : data.length ≤ 1099511627776) (hal : (D.at p).data.length ≤ 1099511627776) :
    Cal Tryz.prog 131 [.pointer (some ⟨dk, 0, none⟩), str p, str data] w0 (fun v w' => v = .int .i64 (D.write p data).1 ∧ ∃ fp', MutL w0 w' [rfC dk D fp] [rfC dk (D.write p data).2 fp']) := by
  refine Cal.mkL hi (by kernel_rfl) Tryz.func131 rfl rfl fun hS => ?_
  obtain ⟨_, ⟨A, cap, l, hR, rfl⟩, hfp, hS⟩ := St.objOpen hS
  replace hS : St w0 _ w0 (rfL dk A cap l D) _ := hS
  have hl : l.length ≤ 1048576 := by rw [hR.len]; exact hn
  have hmay := fun (w : World) (h : RfAt dk A cap l D w) => rffirst_c p 1 h hp
  have hkc := fun (w : World) (h : RfAt dk A cap l D w) => rfkind_c p hR h hl
  have hhc := fun (w : World) (h : RfAt dk A cap l D w) => rfhome_c p hR h hl hp
  unfold Dk.write
  have hR2 : RepL l D.step.items := by rw [step_items]; exact hR
  by_cases he : D.may p 1 = 0
  · rw [if_neg (fun e => e he)]
    rw [he] at hmay
    rw [home_under (may_ok he).1] at hhc
    cases hu : D.under p
    · rw [if_pos rfl]
      rw [hu] at hhc
      repeat' (first
        | (show WL _ _ _ _ _ _ _; first
          | refine WL.pure rfl rfl rfl rfl ?_
          | refine WL.nil ?_
          | (refine WL.calls hS rfl rfl (hmay _ (St.rfAt hS (by repeat (first | exact List.Mem.head _ | apply List.Mem.tail)) (by repeat (first | exact List.Mem.head _ | apply List.Mem.tail)))) rfl rfl rfl ?_; rintro v w rfl hS)
          | (refine WL.calls hS rfl rfl (hhc _ (St.rfAt hS (by repeat (first | exact List.Mem.head _ | apply List.Mem.tail)) (by repeat (first | exact List.Mem.head _ | apply List.Mem.tail)))) rfl rfl rfl ?_; rintro v w rfl hS))
        | (show WC _ _ _ _ _ _; first
          | refine WC.seq ?_
          | refine WC.region ?_
          | refine WC.skip ?_
          | refine WC.ret ?_
          | refine WC.condT rfl (by decide) ?_
          | refine WC.condF rfl (by decide) ?_)
        | refine seqQ_n ?_
        | refine seqQ_r ?_)
      have hS := St.objClose (φ := rfφ dk D) (hS.pulls (D := rfL dk A cap l D) (by repeat (first | exact Pulls.nil | (apply Pulls.cons; focus (repeat (first | exact Pull.here | apply Pull.there)))))) ⟨A, cap, l, hR, rfl⟩
      exact fin1r rfl rfl ⟨rfl, _, hS.mutLp (by repeat (first | exact Pulls.nil | (apply Pulls.cons; focus (repeat (first | exact Pull.here | apply Pull.there)))))⟩
    · rw [if_neg (by decide)]
      rw [hu] at hhc
      by_cases hf : (D.at p).dir = true
      · rw [if_pos hf]
        have hk2 : D.kind p = 1 := by
          cases hg : mget D.items p with
          | none => unfold Dk.at at hf; rw [hg] at hf; exact absurd hf (by decide)
          | some it => rw [kind_some hg, if_pos (by unfold Dk.at at hf; rw [hg] at hf; exact hf)]
        rw [hk2] at hkc
        repeat' (first
          | (show WL _ _ _ _ _ _ _; first
            | refine WL.pure rfl rfl rfl rfl ?_
            | refine WL.nil ?_
            | (refine WL.calls hS rfl rfl (hmay _ (St.rfAt hS (by repeat (first | exact List.Mem.head _ | apply List.Mem.tail)) (by repeat (first | exact List.Mem.head _ | apply List.Mem.tail)))) rfl rfl rfl ?_; rintro v w rfl hS)
            | (refine WL.calls hS rfl rfl (hhc _ (St.rfAt hS (by repeat (first | exact List.Mem.head _ | apply List.Mem.tail)) (by repeat (first | exact List.Mem.head _ | apply List.Mem.tail)))) rfl rfl rfl ?_; rintro v w rfl hS)
            | (refine WL.calls hS rfl rfl (hkc _ (St.rfAt hS (by repeat (first | exact List.Mem.head _ | apply List.Mem.tail)) (by repeat (first | exact List.Mem.head _ | apply List.Mem.tail)))) rfl rfl rfl ?_; rintro v w rfl hS))
          | (show WC _ _ _ _ _ _; first
            | refine WC.seq ?_
            | refine WC.region ?_
            | refine WC.skip ?_
            | refine WC.ret ?_
            | refine WC.condT rfl (by decide) ?_
            | refine WC.condF rfl (by decide) ?_)
          | refine seqQ_n ?_
          | refine seqQ_r ?_)
        have hS := St.objClose (φ := rfφ dk D) (hS.pulls (D := rfL dk A cap l D) (by repeat (first | exact Pulls.nil | (apply Pulls.cons; focus (repeat (first | exact Pull.here | apply Pull.there)))))) ⟨A, cap, l, hR, rfl⟩
        exact fin1r rfl rfl ⟨rfl, _, hS.mutLp (by repeat (first | exact Pulls.nil | (apply Pulls.cons; focus (repeat (first | exact Pull.here | apply Pull.there)))))⟩
      · rw [if_neg hf]
        by_cases hs : D.stepE = 0
        · rw [if_neg (fun e => e hs)]
          have hput := fun (w : World) (hI : InL w (rfL dk A cap l { D.step with stamps := IntKind.i64.wrap (D.step.stamps + 1) })) => rfput_c ⟨p, ⟨false, data, (D.at p).kept, true, true, IntKind.i64.wrap (D.step.stamps + 1)⟩⟩ (D := { D.step with stamps := IntKind.i64.wrap (D.step.stamps + 1) }) hR2 hI hl
          cases hg : mget D.items p with
          | none =>
            have hk2 : D.kind p = 0 := kind_none hg
            rw [hk2] at hkc
            have hat : D.at p = It0 := by unfold Dk.at; rw [hg]; rfl
            rw [hat] at hput ⊢
            repeat' (first
              | (show WL _ _ _ _ _ _ _; first
                | refine WL.sub (a := (data.length : Int)) (b := (0 : Int)) rfl rfl rfl (by omega) rfl rfl rfl ?_
                | refine WL.pure rfl rfl rfl rfl ?_
                | refine WL.nil ?_
                | refine WL.load hS rfl rfl (LdOk.box (by repeat (first | exact List.Mem.head _ | apply List.Mem.tail)) rfl) rfl rfl rfl ?_
                | (refine WL.calls hS rfl rfl (hmay _ (St.rfAt hS (by repeat (first | exact List.Mem.head _ | apply List.Mem.tail)) (by repeat (first | exact List.Mem.head _ | apply List.Mem.tail)))) rfl rfl rfl ?_; rintro v w rfl hS)
                | (refine WL.calls hS rfl rfl (hhc _ (St.rfAt hS (by repeat (first | exact List.Mem.head _ | apply List.Mem.tail)) (by repeat (first | exact List.Mem.head _ | apply List.Mem.tail)))) rfl rfl rfl ?_; rintro v w rfl hS)
                | (refine WL.calls hS rfl rfl (hkc _ (St.rfAt hS (by repeat (first | exact List.Mem.head _ | apply List.Mem.tail)) (by repeat (first | exact List.Mem.head _ | apply List.Mem.tail)))) rfl rfl rfl ?_; rintro v w rfl hS)
                | (refine WL.calls hS rfl rfl (rffits_c p _ (St.rfAt hS (by repeat (first | exact List.Mem.head _ | apply List.Mem.tail)) (by repeat (first | exact List.Mem.head _ | apply List.Mem.tail)))) rfl rfl rfl ?_; rintro v w rfl hS)
                | (refine WL.callL (D := rfL dk A cap l D) hS (by repeat (first | exact Pulls.nil | (apply Pulls.cons; focus (repeat (first | exact Pull.here | apply Pull.there))))) rfl rfl (fun hI => rfdone_c hI) rfl rfl rfl ?_; rintro v w ⟨rfl, hm⟩ hS; replace hS := hS _ hm; clear hm; rw [hs])
                | (refine WL.callL (D := rfL dk A cap l D.step) hS (by repeat (first | exact Pulls.nil | (apply Pulls.cons; focus (repeat (first | exact Pull.here | apply Pull.there))))) rfl rfl (fun hI => rfstamped_c ⟨p, ⟨false, data, [], true, true, 0⟩⟩ hI) rfl rfl rfl ?_; rintro v w ⟨rfl, hm⟩ hS; replace hS := hS _ hm; clear hm)
                | (refine WL.callL (D := rfL dk A cap l { D.step with stamps := IntKind.i64.wrap (D.step.stamps + 1) }) hS (by repeat (first | exact Pulls.nil | (apply Pulls.cons; focus (repeat (first | exact Pull.here | apply Pull.there))))) rfl rfl (fun hI => hput _ hI) rfl rfl rfl ?_; rintro v w ⟨rfl, A', cap', l', hR', hm⟩ hS; replace hS := hS _ hm; clear hm)
                | (refine WL.store hS rfl rfl rfl (by repeat (first | exact StB.here rfl | apply StB.there)) rfl rfl rfl ?_; intro w hS)
                | (refine WL.alloc hS rfl rfl rfl rfl rfl rfl ?_; intro w b hS)
                | refine WL.build rfl rfl rfl rfl rfl ?_)
              | (show WC _ _ _ _ _ _; first
                | refine WC.seq ?_
                | refine WC.region ?_
                | refine WC.skip ?_
                | refine WC.ret ?_
                | refine WC.condT rfl (by decide) ?_
                | refine WC.condF rfl (by decide) ?_)
              | refine seqQ_n ?_)
            have hS := St.objClose (φ := rfφ dk (D.step.set p { It0 with data := data, loose := true, anew := true })) (hS.pulls (D := rfL dk A' cap' l' (D.step.set p { It0 with data := data, loose := true, anew := true })) (by repeat (first | exact Pulls.nil | (apply Pulls.cons; focus (repeat (first | exact Pull.here | apply Pull.there)))))) ⟨A', cap', l', hR', rfl⟩
            exact fin1r rfl rfl ⟨rfl, _, hS.mutLp (by repeat (first | exact Pulls.nil | (apply Pulls.cons; focus (repeat (first | exact Pull.here | apply Pull.there)))))⟩
          | some it =>
            have hat : D.at p = it := by unfold Dk.at; rw [hg]; rfl
            rw [hat] at hput hf hal ⊢
            have hk2 : D.kind p = 2 := by rw [kind_some hg, if_neg hf]
            rw [hk2] at hkc
            have hpl := fun (w : World) (h : RfAt dk A cap l D w) => rfplaceY_c p hR hg h hl
            obtain ⟨kg, ko, rfl⟩ := hS.own_addr (A := A) (n := l.length) (by repeat (first | exact List.Mem.head _ | apply List.Mem.tail)) (rf_pos hR hg)
            obtain ⟨dir, dat, kept, loose, anew, stamp⟩ := it
            dsimp only at hf hal hput ⊢
            have hf : dir = false := by cases dir <;> simp_all
            subst hf
            repeat' (first
              | (show WL _ _ _ _ _ _ _; first
                | refine WL.sub (a := (data.length : Int)) (b := (dat.length : Int)) rfl rfl rfl (by omega) rfl rfl rfl ?_
                | refine WL.pure rfl rfl rfl rfl ?_
                | refine WL.nil ?_
                | refine WL.load hS rfl rfl (LdOk.box (by repeat (first | exact List.Mem.head _ | apply List.Mem.tail)) rfl) rfl rfl rfl ?_
                | (refine WL.calls hS rfl rfl (hmay _ (St.rfAt hS (by repeat (first | exact List.Mem.head _ | apply List.Mem.tail)) (by repeat (first | exact List.Mem.head _ | apply List.Mem.tail)))) rfl rfl rfl ?_; rintro v w rfl hS)
                | (refine WL.calls hS rfl rfl (hhc _ (St.rfAt hS (by repeat (first | exact List.Mem.head _ | apply List.Mem.tail)) (by repeat (first | exact List.Mem.head _ | apply List.Mem.tail)))) rfl rfl rfl ?_; rintro v w rfl hS)
                | (refine WL.calls hS rfl rfl (hkc _ (St.rfAt hS (by repeat (first | exact List.Mem.head _ | apply List.Mem.tail)) (by repeat (first | exact List.Mem.head _ | apply List.Mem.tail)))) rfl rfl rfl ?_; rintro v w rfl hS)
                | (refine WL.calls hS rfl rfl (rffits_c p _ (St.rfAt hS (by repeat (first | exact List.Mem.head _ | apply List.Mem.tail)) (by repeat (first | exact List.Mem.head _ | apply List.Mem.tail)))) rfl rfl rfl ?_; rintro v w rfl hS)
                | (refine WL.callL (D := rfL dk (some ⟨kg, ko, none⟩) cap l D) hS (by repeat (first | exact Pulls.nil | (apply Pulls.cons; focus (repeat (first | exact Pull.here | apply Pull.there))))) rfl rfl (fun hI => rfdone_c hI) rfl rfl rfl ?_; rintro v w ⟨rfl, hm⟩ hS; replace hS := hS _ hm; clear hm; rw [hs])
                | (refine WL.callL (D := rfL dk (some ⟨kg, ko, none⟩) cap l D.step) hS (by repeat (first | exact Pulls.nil | (apply Pulls.cons; focus (repeat (first | exact Pull.here | apply Pull.there))))) rfl rfl (fun hI => rfstamped_c ⟨p, ⟨false, data, kept, true, true, stamp⟩⟩ hI) rfl rfl rfl ?_; rintro v w ⟨rfl, hm⟩ hS; replace hS := hS _ hm; clear hm)
                | (refine WL.callL (D := rfL dk (some ⟨kg, ko, none⟩) cap l { D.step with stamps := IntKind.i64.wrap (D.step.stamps + 1) }) hS (by repeat (first | exact Pulls.nil | (apply Pulls.cons; focus (repeat (first | exact Pull.here | apply Pull.there))))) rfl rfl (fun hI => hput _ hI) rfl rfl rfl ?_; rintro v w ⟨rfl, A', cap', l', hR', hm⟩ hS; replace hS := hS _ hm; clear hm)
                | (refine WL.store hS rfl rfl rfl (by repeat (first | exact StB.here rfl | apply StB.there)) rfl rfl rfl ?_; intro w hS)
                | (refine WL.alloc hS rfl rfl rfl rfl rfl rfl ?_; intro w b hS)
                | refine WL.build rfl rfl rfl rfl rfl ?_)
              | (show WC _ _ _ _ _ _; first
                | refine WC.seq ?_
                | refine WC.region ?_
                | refine WC.skip ?_
                | refine WC.ret ?_
                | (show WC _ _ (Code.region _ (List.toArray [_, _, _, _, _, _, _, _, _, _]) true) _ _ _; refine WC.drawL [.box b 110 [str p, .bool false, str [], str [], .bool false, .bool false, .int .i64 0]] hS (by repeat (first | exact Pulls.nil | (apply Pulls.cons; focus (repeat (first | exact Pull.here | apply Pull.there))))) [0,1,2,3,4,5,7,8] [0,1,2,3,4,5,6,7,8,9] (by kernel_rfl) (by kernel_rfl) ?_; clear hS; intro w hS hM)
                | refine WC.condT rfl (by decide) ?_
                | refine WC.condF rfl (by decide) ?_)
              | (show WD _ _ _ _ _ _ _ _ _; first
                | refine WD.pure rfl rfl rfl rfl rfl ?_
                | refine WD.nil ?_
                | refine WD.load rfl rfl (LdOk.box (by repeat (first | exact List.Mem.head _ | apply List.Mem.tail)) rfl) rfl rfl rfl rfl ?_
                | (refine WD.calls hS hM rfl rfl (hpl _ (St.rfAt hS (by repeat (first | exact List.Mem.head _ | apply List.Mem.tail)) (by repeat (first | exact List.Mem.head _ | apply List.Mem.tail)))) rfl rfl rfl rfl rfl ?_; clear hS; rintro v w ⟨i, hli, rfl⟩ hS; have hil := (List.getElem?_eq_some_iff.1 hli).1)
                | (refine WD.load rfl rfl (LdOk.ownElemE (enc := encRi) (k := i) (fun _ => rfl) (by repeat (first | exact List.Mem.head _ | apply List.Mem.tail)) hli rfl rfl) rfl rfl rfl rfl ?_)
                | (refine WD.store hS rfl rfl rfl (by repeat (first | exact StB.here rfl | apply StB.there)) rfl (by first | exact .refl _ _ | exact .chunk (.refl _ _) _ | exact .chunk (.chunk (.refl _ _) _) _) rfl rfl rfl rfl ?_; clear hS hM; intro w hS hM)
                | refine WD.index rfl rfl rfl rfl (by first | with_reducible assumption | omega) rfl rfl rfl rfl rfl ?_)
              | refine seqQ_n ?_)
            have hS := St.objClose (φ := rfφ dk (D.step.set p ⟨false, data, kept, true, true, stamp⟩)) (hS.pulls (D := rfL dk A' cap' l' (D.step.set p ⟨false, data, kept, true, true, stamp⟩)) (by repeat (first | exact Pulls.nil | (apply Pulls.cons; focus (repeat (first | exact Pull.here | apply Pull.there)))))) ⟨A', cap', l', hR', rfl⟩
            exact fin1r rfl rfl ⟨rfl, _, hS.mutLp (by repeat (first | exact Pulls.nil | (apply Pulls.cons; focus (repeat (first | exact Pull.here | apply Pull.there)))))⟩
        · rw [if_pos hs]
          cases hg : mget D.items p with
          | none =>
            have hk2 : D.kind p = 0 := kind_none hg
            rw [hk2] at hkc
            repeat' (first
              | (show WL _ _ _ _ _ _ _; first
                | refine WL.sub (a := (data.length : Int)) (b := (0 : Int)) rfl rfl rfl (by omega) rfl rfl rfl ?_
                | refine WL.pure rfl rfl rfl rfl ?_
                | refine WL.nil ?_
                | refine WL.load hS rfl rfl (LdOk.box (by repeat (first | exact List.Mem.head _ | apply List.Mem.tail)) rfl) rfl rfl rfl ?_
                | (refine WL.calls hS rfl rfl (hmay _ (St.rfAt hS (by repeat (first | exact List.Mem.head _ | apply List.Mem.tail)) (by repeat (first | exact List.Mem.head _ | apply List.Mem.tail)))) rfl rfl rfl ?_; rintro v w rfl hS)
                | (refine WL.calls hS rfl rfl (hhc _ (St.rfAt hS (by repeat (first | exact List.Mem.head _ | apply List.Mem.tail)) (by repeat (first | exact List.Mem.head _ | apply List.Mem.tail)))) rfl rfl rfl ?_; rintro v w rfl hS)
                | (refine WL.calls hS rfl rfl (hkc _ (St.rfAt hS (by repeat (first | exact List.Mem.head _ | apply List.Mem.tail)) (by repeat (first | exact List.Mem.head _ | apply List.Mem.tail)))) rfl rfl rfl ?_; rintro v w rfl hS)
                | (refine WL.calls hS rfl rfl (rffits_c p _ (St.rfAt hS (by repeat (first | exact List.Mem.head _ | apply List.Mem.tail)) (by repeat (first | exact List.Mem.head _ | apply List.Mem.tail)))) rfl rfl rfl ?_; rintro v w rfl hS)
                | (refine WL.callL (D := rfL dk A cap l D) hS (by repeat (first | exact Pulls.nil | (apply Pulls.cons; focus (repeat (first | exact Pull.here | apply Pull.there))))) rfl rfl (fun hI => rfdone_c hI) rfl rfl rfl ?_; rintro v w ⟨rfl, hm⟩ hS; replace hS := hS _ hm; clear hm)
                | (refine WL.store hS rfl rfl rfl (by repeat (first | exact StB.here rfl | apply StB.there)) rfl rfl rfl ?_; intro w hS)
                | (refine WL.alloc hS rfl rfl rfl rfl rfl rfl ?_; intro w b hS)
                | refine WL.build rfl rfl rfl rfl rfl ?_)
              | (show WC _ _ _ _ _ _; first
                | refine WC.seq ?_
                | refine WC.region ?_
                | refine WC.skip ?_
                | refine WC.ret ?_
                | refine WC.condF rfl (by decide) ?_
                | refine WC.condF rfl (decide_eq_false (by first | with_reducible assumption | omega)) ?_)
              | refine seqQ_n ?_)
            have hS := St.objClose (φ := rfφ dk D.step) (hS.pulls (D := rfL dk A cap l D.step) (by repeat (first | exact Pulls.nil | (apply Pulls.cons; focus (repeat (first | exact Pull.here | apply Pull.there)))))) ⟨A, cap, l, hR2, rfl⟩
            exact fin1r rfl rfl ⟨rfl, _, hS.mutLp (by repeat (first | exact Pulls.nil | (apply Pulls.cons; focus (repeat (first | exact Pull.here | apply Pull.there)))))⟩
          | some it =>
            have hat : D.at p = it := by unfold Dk.at; rw [hg]; rfl
            rw [hat] at hf hal
            have hk2 : D.kind p = 2 := by rw [kind_some hg, if_neg hf]
            rw [hk2] at hkc
            have hpl := fun (w : World) (h : RfAt dk A cap l D w) => rfplaceY_c p hR hg h hl
            obtain ⟨kg, ko, rfl⟩ := hS.own_addr (A := A) (n := l.length) (by repeat (first | exact List.Mem.head _ | apply List.Mem.tail)) (rf_pos hR hg)
            obtain ⟨dir, dat, kept, loose, anew, stamp⟩ := it
            dsimp only at hf hal
            repeat' (first
              | (show WL _ _ _ _ _ _ _; first
                | refine WL.sub (a := (data.length : Int)) (b := (dat.length : Int)) rfl rfl rfl (by omega) rfl rfl rfl ?_
                | refine WL.pure rfl rfl rfl rfl ?_
                | refine WL.nil ?_
                | refine WL.load hS rfl rfl (LdOk.box (by repeat (first | exact List.Mem.head _ | apply List.Mem.tail)) rfl) rfl rfl rfl ?_
                | (refine WL.calls hS rfl rfl (hmay _ (St.rfAt hS (by repeat (first | exact List.Mem.head _ | apply List.Mem.tail)) (by repeat (first | exact List.Mem.head _ | apply List.Mem.tail)))) rfl rfl rfl ?_; rintro v w rfl hS)
                | (refine WL.calls hS rfl rfl (hhc _ (St.rfAt hS (by repeat (first | exact List.Mem.head _ | apply List.Mem.tail)) (by repeat (first | exact List.Mem.head _ | apply List.Mem.tail)))) rfl rfl rfl ?_; rintro v w rfl hS)
                | (refine WL.calls hS rfl rfl (hkc _ (St.rfAt hS (by repeat (first | exact List.Mem.head _ | apply List.Mem.tail)) (by repeat (first | exact List.Mem.head _ | apply List.Mem.tail)))) rfl rfl rfl ?_; rintro v w rfl hS)
                | (refine WL.calls hS rfl rfl (rffits_c p _ (St.rfAt hS (by repeat (first | exact List.Mem.head _ | apply List.Mem.tail)) (by repeat (first | exact List.Mem.head _ | apply List.Mem.tail)))) rfl rfl rfl ?_; rintro v w rfl hS)
                | (refine WL.callL (D := rfL dk (some ⟨kg, ko, none⟩) cap l D) hS (by repeat (first | exact Pulls.nil | (apply Pulls.cons; focus (repeat (first | exact Pull.here | apply Pull.there))))) rfl rfl (fun hI => rfdone_c hI) rfl rfl rfl ?_; rintro v w ⟨rfl, hm⟩ hS; replace hS := hS _ hm; clear hm)
                | (refine WL.store hS rfl rfl rfl (by repeat (first | exact StB.here rfl | apply StB.there)) rfl rfl rfl ?_; intro w hS)
                | (refine WL.alloc hS rfl rfl rfl rfl rfl rfl ?_; intro w b hS)
                | refine WL.build rfl rfl rfl rfl rfl ?_)
              | (show WC _ _ _ _ _ _; first
                | refine WC.seq ?_
                | refine WC.region ?_
                | refine WC.skip ?_
                | refine WC.ret ?_
                | (show WC _ _ (Code.region _ (List.toArray [_, _, _, _, _, _, _, _, _, _]) true) _ _ _; refine WC.drawL [.box b 110 [str p, .bool false, str [], str [], .bool false, .bool false, .int .i64 0]] hS (by repeat (first | exact Pulls.nil | (apply Pulls.cons; focus (repeat (first | exact Pull.here | apply Pull.there))))) [0,1,2,3,4,5,7,8] [0,1,2,3,4,5,6,7,8,9] (by kernel_rfl) (by kernel_rfl) ?_; clear hS; intro w hS hM)
                | refine WC.condT rfl (by decide) ?_
                | refine WC.condF rfl (by decide) ?_
                | refine WC.condF rfl (decide_eq_false (by first | with_reducible assumption | omega)) ?_)
              | (show WD _ _ _ _ _ _ _ _ _; first
                | refine WD.pure rfl rfl rfl rfl rfl ?_
                | refine WD.nil ?_
                | refine WD.load rfl rfl (LdOk.box (by repeat (first | exact List.Mem.head _ | apply List.Mem.tail)) rfl) rfl rfl rfl rfl ?_
                | (refine WD.calls hS hM rfl rfl (hpl _ (St.rfAt hS (by repeat (first | exact List.Mem.head _ | apply List.Mem.tail)) (by repeat (first | exact List.Mem.head _ | apply List.Mem.tail)))) rfl rfl rfl rfl rfl ?_; clear hS; rintro v w ⟨i, hli, rfl⟩ hS; have hil := (List.getElem?_eq_some_iff.1 hli).1)
                | (refine WD.load rfl rfl (LdOk.ownElemE (enc := encRi) (k := i) (fun _ => rfl) (by repeat (first | exact List.Mem.head _ | apply List.Mem.tail)) hli rfl rfl) rfl rfl rfl rfl ?_)
                | (refine WD.store hS rfl rfl rfl (by repeat (first | exact StB.here rfl | apply StB.there)) rfl (by first | exact .refl _ _ | exact .chunk (.refl _ _) _ | exact .chunk (.chunk (.refl _ _) _) _) rfl rfl rfl rfl ?_; clear hS hM; intro w hS hM)
                | refine WD.index rfl rfl rfl rfl (by first | with_reducible assumption | omega) rfl rfl rfl rfl rfl ?_)
              | refine seqQ_n ?_)
            have hS := St.objClose (φ := rfφ dk D.step) (hS.pulls (D := rfL dk (some ⟨kg, ko, none⟩) cap l D.step) (by repeat (first | exact Pulls.nil | (apply Pulls.cons; focus (repeat (first | exact Pull.here | apply Pull.there)))))) ⟨some ⟨kg, ko, none⟩, cap, l, hR2, rfl⟩
            exact fin1r rfl rfl ⟨rfl, _, hS.mutLp (by repeat (first | exact Pulls.nil | (apply Pulls.cons; focus (repeat (first | exact Pull.here | apply Pull.there)))))⟩
  · rw [if_pos he]
    repeat' (first
      | (show WL _ _ _ _ _ _ _; first
        | refine WL.pure rfl rfl rfl rfl ?_
        | refine WL.nil ?_
        | (refine WL.calls hS rfl rfl (hmay _ (St.rfAt hS (by repeat (first | exact List.Mem.head _ | apply List.Mem.tail)) (by repeat (first | exact List.Mem.head _ | apply List.Mem.tail)))) rfl rfl rfl ?_; rintro v w rfl hS))
      | (show WC _ _ _ _ _ _; first
        | refine WC.seq ?_
        | refine WC.region ?_
        | refine WC.ret ?_
        | refine WC.condT rfl (decide_eq_true (by first | with_reducible assumption | omega)) ?_)
      | refine seqQ_n ?_
      | refine seqQ_r ?_)
    have hS := St.objClose (φ := rfφ dk D) (hS.pulls (D := rfL dk A cap l D) (by repeat (first | exact Pulls.nil | (apply Pulls.cons; focus (repeat (first | exact Pull.here | apply Pull.there)))))) ⟨A, cap, l, hR, rfl⟩
    exact fin1r rfl rfl ⟨rfl, _, hS.mutLp (by repeat (first | exact Pulls.nil | (apply Pulls.cons; focus (repeat (first | exact Pull.here | apply Pull.there)))))⟩
end Go.Proofs.YtccfiohagbneaaaGreatDoor

/- What is proved: what the reference's disk does: Rename. Conditions: a disk without limits, of bounded size. -/
set_option linter.unusedSimpArgs false
set_option linter.unusedVariables false
namespace Go.Proofs.YtccfiohagbneaaaGreatDoor
open Go Go.J Go.RowKit
theorem ris_fld {l : List Ri} {i : Nat} {x : Ri} (h : l[i]? = some x) {j : Nat} (hj : j < 7) : (ris l)[i * 7 + j]? = (encRi x)[j]? := by
  obtain ⟨h1, rfl⟩ := List.getElem?_eq_some_iff.1 h
  exact ris_at h1 hj
theorem del_le (m : List (List UInt8 × It)) (p : List UInt8) : (mdel m p).length ≤ m.length := (mdel_sub m p).length_le
set_option maxHeartbeats 4000000 in
set_option maxRecDepth 100000 in
theorem rfvol_c (p : List UInt8) (w0 : World) (hl : p.length ≤ 1099511627) : Cal Tryz.prog 142 [str p] w0 (fun v w' => Upd [] w0 w' ∧ v = str ((splitL p).headD [])) := by
  refine Cal.mk' (by kernel_rfl) Tryz.func142 rfl rfl fun hS => ?_
  have hsl := splitA_len p []
  change (splitL p).length = _ at hsl
  have hsc := fun (w : World) => rsplit_c p w (by omega)
  obtain ⟨x, L, hL⟩ : ∃ x L, splitL p = x :: L := by
    cases h : splitL p with
    | nil => rw [h] at hsl; simp at hsl
    | cons x L => exact ⟨x, L, rfl⟩
  rw [hL] at hsc ⊢
  clear hL hsl
  repeat' (first
    | (show WL _ _ _ _ _ _ _; first
      | refine WL.pure rfl rfl rfl rfl ?_
      | refine WL.nil ?_
      | (refine WL.callG rfl rfl (hsc _) rfl rfl rfl ?_; rintro v w ⟨hu, As, caps, rfl, hn⟩; have hS := hS.new hu hn; clear hu hn; obtain ⟨kg, ko, rfl⟩ := hS.own_addr (A := As) (n := (x :: L).length) (by repeat (first | exact List.Mem.head _ | apply List.Mem.tail)) (Nat.succ_pos _))
      | (refine WL.index (j := 0) rfl rfl rfl rfl (Nat.succ_pos _) rfl rfl rfl rfl ?_)
      | (refine WL.load hS rfl rfl (LdOk.ownAt (off := 0) (by repeat (first | exact List.Mem.head _ | apply List.Mem.tail)) rfl ⟨_, rfl⟩ (show (strs (x :: L))[0]? = some (str x) from rfl) rfl) rfl rfl rfl ?_))
    | (show WC _ _ _ _ _ _; first
      | refine WC.seq ?_
      | refine WC.region ?_
      | refine WC.ret ?_)
    | refine seqQ_n ?_)
  exact fin1r rfl rfl ⟨hS.upd, rfl⟩
set_option maxHeartbeats 32000000 in
set_option maxRecDepth 100000 in
theorem rfrename_c {dk : Nat} {D : Dk} {fp : List Nat} (p r : List UInt8) {w0 : World} (hi : InL w0 [rfC dk D fp]) (hp : p.length ≤ 1099511627) (hr : r.length ≤ 1099511627) (hn : D.items.length ≤ 1048576) (hal : (D.at p).data.length ≤ 1099511627776) (hal2 : (D.at r).data.length ≤ 1099511627776) :
    Cal Tryz.prog 132 [.pointer (some ⟨dk, 0, none⟩), str p, str r] w0 (fun v w' => v = .int .i64 (D.rename p r).1 ∧ ∃ fp', MutL w0 w' [rfC dk D fp] [rfC dk (D.rename p r).2 fp']) := by
  refine Cal.mkL hi (by kernel_rfl) Tryz.func132 rfl rfl fun hS => ?_
  obtain ⟨_, ⟨A, cap, l, hR, rfl⟩, hfp, hS⟩ := St.objOpen hS
  replace hS : St w0 _ w0 (rfL dk A cap l D) _ := hS
  have hl : l.length ≤ 1048576 := by rw [hR.len]; exact hn
  have hmay := fun (w : World) (h : RfAt dk A cap l D w) => rffirst_c p 1 h hp
  have hmay2 := fun (w : World) (h : RfAt dk A cap l D w) => rffirst_c r 1 h hr
  have hkc := fun (w : World) (h : RfAt dk A cap l D w) => rfkind_c p hR h hl
  have hkc2 := fun (w : World) (h : RfAt dk A cap l D w) => rfkind_c r hR h hl
  have hhc := fun (w : World) (h : RfAt dk A cap l D w) => rfhome_c r hR h hl hr
  have hR2 : RepL l D.step.items := by rw [step_items]; exact hR
  unfold Dk.rename
  by_cases he : D.may p 1 = 0
  · rw [if_neg (fun e => e he)]
    rw [he] at hmay
    by_cases he2 : D.may r 1 = 0
    · rw [if_neg (fun e => e he2)]
      rw [he2] at hmay2
      rw [home_under (may_ok he2).1] at hhc
      cases hg : mget D.items p with
      | none =>
        rw [if_pos (.inl (by unfold Dk.has; rw [hg]; rfl))]
        rw [kind_none hg] at hkc
        repeat' (first
          | (show WL _ _ _ _ _ _ _; first
            | refine WL.pure rfl rfl rfl rfl ?_
            | refine WL.nil ?_
            | (refine WL.calls hS rfl rfl (hmay _ (St.rfAt hS (by repeat (first | exact List.Mem.head _ | apply List.Mem.tail)) (by repeat (first | exact List.Mem.head _ | apply List.Mem.tail)))) rfl rfl rfl ?_; rintro v w rfl hS)
            | (refine WL.calls hS rfl rfl (hmay2 _ (St.rfAt hS (by repeat (first | exact List.Mem.head _ | apply List.Mem.tail)) (by repeat (first | exact List.Mem.head _ | apply List.Mem.tail)))) rfl rfl rfl ?_; rintro v w rfl hS)
            | (refine WL.calls hS rfl rfl (hkc _ (St.rfAt hS (by repeat (first | exact List.Mem.head _ | apply List.Mem.tail)) (by repeat (first | exact List.Mem.head _ | apply List.Mem.tail)))) rfl rfl rfl ?_; rintro v w rfl hS)
            | refine WL.skip rfl rfl rfl ?_)
          | (show WC _ _ _ _ _ _; first
            | refine WC.seq ?_
            | refine WC.region ?_
            | refine WC.skip ?_
            | refine WC.ret ?_
            | refine WC.condT rfl (by with_reducible rfl) ?_
            | refine WC.condF rfl (by decide) ?_)
          | refine seqQ_n ?_
          | refine seqQ_r ?_)
        have hS := St.objClose (φ := rfφ dk D) (hS.pulls (D := rfL dk A cap l D) (by repeat (first | exact Pulls.nil | (apply Pulls.cons; focus (repeat (first | exact Pull.here | apply Pull.there)))))) ⟨A, cap, l, hR, rfl⟩
        exact fin1r rfl rfl ⟨rfl, _, hS.mutLp (by repeat (first | exact Pulls.nil | (apply Pulls.cons; focus (repeat (first | exact Pull.here | apply Pull.there)))))⟩
      | some it =>
        have hat : D.at p = it := by unfold Dk.at; rw [hg]; rfl
        have hhas : D.has p = true := by unfold Dk.has; rw [hg]; rfl
        rw [hat, hhas]
        rw [hat] at hal
        rw [kind_some hg] at hkc
        cases hu : D.under r
        · rw [if_pos (.inr rfl)]
          rw [hu] at hhc
          generalize hkk : (if it.dir = true then (1 : Int) else 2) = kk at *
          have hk0 : kk ≠ 0 := by rw [← hkk]; cases it.dir <;> decide
          repeat' (first
            | (show WL _ _ _ _ _ _ _; first
              | refine WL.pure rfl rfl rfl rfl ?_
              | refine WL.nil ?_
              | (refine WL.calls hS rfl rfl (hmay _ (St.rfAt hS (by repeat (first | exact List.Mem.head _ | apply List.Mem.tail)) (by repeat (first | exact List.Mem.head _ | apply List.Mem.tail)))) rfl rfl rfl ?_; rintro v w rfl hS)
              | (refine WL.calls hS rfl rfl (hmay2 _ (St.rfAt hS (by repeat (first | exact List.Mem.head _ | apply List.Mem.tail)) (by repeat (first | exact List.Mem.head _ | apply List.Mem.tail)))) rfl rfl rfl ?_; rintro v w rfl hS)
              | (refine WL.calls hS rfl rfl (hhc _ (St.rfAt hS (by repeat (first | exact List.Mem.head _ | apply List.Mem.tail)) (by repeat (first | exact List.Mem.head _ | apply List.Mem.tail)))) rfl rfl rfl ?_; rintro v w rfl hS)
              | (refine WL.calls hS rfl rfl (hkc _ (St.rfAt hS (by repeat (first | exact List.Mem.head _ | apply List.Mem.tail)) (by repeat (first | exact List.Mem.head _ | apply List.Mem.tail)))) rfl rfl rfl ?_; rintro v w rfl hS)
              | ((fail_if_success (refine WL.wanted rfl ?_)); refine WL.guard rfl rfl rfl (fun h => ?_) (fun h => ?_) <;> (try simp only [Classical.not_not, Bool.not_eq_true', Bool.not_eq_false', Bool.not_eq_eq_eq_not, Bool.not_true, Bool.not_false, beq_iff_eq, beq_eq_false_iff_ne, ne_eq, decide_eq_decide, decide_eq_true_eq, decide_eq_false_iff_not, Bool.and_eq_true, Bool.or_eq_true, Bool.and_eq_false_iff, Bool.or_eq_false_iff] at h) <;> (try (exfalso; first | omega | contradiction))))
            | (show WC _ _ _ _ _ _; first
              | refine WC.seq ?_
              | refine WC.region ?_
              | refine WC.skip ?_
              | refine WC.ret ?_
              | refine WC.condT rfl (by decide) ?_
              | refine WC.condF rfl (by decide) ?_)
            | refine seqQ_n ?_
            | refine seqQ_r ?_)
          have hS := St.objClose (φ := rfφ dk D) (hS.pulls (D := rfL dk A cap l D) (by repeat (first | exact Pulls.nil | (apply Pulls.cons; focus (repeat (first | exact Pull.here | apply Pull.there)))))) ⟨A, cap, l, hR, rfl⟩
          exact fin1r rfl rfl ⟨rfl, _, hS.mutLp (by repeat (first | exact Pulls.nil | (apply Pulls.cons; focus (repeat (first | exact Pull.here | apply Pull.there)))))⟩
        · rw [if_neg (by simp)]
          rw [hu] at hhc
          by_cases hd : it.dir = true ∨ (D.at r).dir = true
          · rw [if_pos hd]
            obtain ⟨k1, k2, h12, hk1, hk2, hk0⟩ : ∃ k1 k2 : Int, (k1 = 1 ∨ k2 = 1) ∧ (if it.dir = true then (1 : Int) else 2) = k1 ∧ D.kind r = k2 ∧ k1 ≠ 0 := by
              refine ⟨_, _, ?_, rfl, rfl, by cases it.dir <;> decide⟩
              rcases hd with h | h
              · left; rw [h]; rfl
              · right
                cases hg2 : mget D.items r with
                | none => unfold Dk.at at h; rw [hg2] at h; exact absurd h (by decide)
                | some it2 => rw [kind_some hg2, if_pos (by unfold Dk.at at h; rw [hg2] at h; exact h)]
            rw [hk1] at hkc
            rw [hk2] at hkc2
            clear hd
            by_cases h1 : k1 = 1
            · clear h12
              subst h1
              repeat' (first
                | (show WL _ _ _ _ _ _ _; first
                  | refine WL.pure rfl rfl rfl rfl ?_
                  | refine WL.nil ?_
                  | (refine WL.calls hS rfl rfl (hmay _ (St.rfAt hS (by repeat (first | exact List.Mem.head _ | apply List.Mem.tail)) (by repeat (first | exact List.Mem.head _ | apply List.Mem.tail)))) rfl rfl rfl ?_; rintro v w rfl hS)
                  | (refine WL.calls hS rfl rfl (hmay2 _ (St.rfAt hS (by repeat (first | exact List.Mem.head _ | apply List.Mem.tail)) (by repeat (first | exact List.Mem.head _ | apply List.Mem.tail)))) rfl rfl rfl ?_; rintro v w rfl hS)
                  | (refine WL.calls hS rfl rfl (hhc _ (St.rfAt hS (by repeat (first | exact List.Mem.head _ | apply List.Mem.tail)) (by repeat (first | exact List.Mem.head _ | apply List.Mem.tail)))) rfl rfl rfl ?_; rintro v w rfl hS)
                  | (refine WL.calls hS rfl rfl (hkc _ (St.rfAt hS (by repeat (first | exact List.Mem.head _ | apply List.Mem.tail)) (by repeat (first | exact List.Mem.head _ | apply List.Mem.tail)))) rfl rfl rfl ?_; rintro v w rfl hS)
                  | refine WL.skip rfl rfl rfl ?_)
                | (show WC _ _ _ _ _ _; first
                  | refine WC.seq ?_
                  | refine WC.region ?_
                  | refine WC.skip ?_
                  | refine WC.ret ?_
                  | refine WC.condT rfl (by with_reducible rfl) ?_
                  | refine WC.condF rfl (by decide) ?_)
                | refine seqQ_n ?_
                | refine seqQ_r ?_)
              have hS := St.objClose (φ := rfφ dk D) (hS.pulls (D := rfL dk A cap l D) (by repeat (first | exact Pulls.nil | (apply Pulls.cons; focus (repeat (first | exact Pull.here | apply Pull.there)))))) ⟨A, cap, l, hR, rfl⟩
              exact fin1r rfl rfl ⟨rfl, _, hS.mutLp (by repeat (first | exact Pulls.nil | (apply Pulls.cons; focus (repeat (first | exact Pull.here | apply Pull.there)))))⟩
            · have h2 : k2 = 1 := by rcases h12 with h | h; exact absurd h h1; exact h
              clear h12
              subst h2
              repeat' (first
                | (show WL _ _ _ _ _ _ _; first
                  | refine WL.pure rfl rfl rfl rfl ?_
                  | refine WL.nil ?_
                  | (refine WL.calls hS rfl rfl (hmay _ (St.rfAt hS (by repeat (first | exact List.Mem.head _ | apply List.Mem.tail)) (by repeat (first | exact List.Mem.head _ | apply List.Mem.tail)))) rfl rfl rfl ?_; rintro v w rfl hS)
                  | (refine WL.calls hS rfl rfl (hmay2 _ (St.rfAt hS (by repeat (first | exact List.Mem.head _ | apply List.Mem.tail)) (by repeat (first | exact List.Mem.head _ | apply List.Mem.tail)))) rfl rfl rfl ?_; rintro v w rfl hS)
                  | (refine WL.calls hS rfl rfl (hhc _ (St.rfAt hS (by repeat (first | exact List.Mem.head _ | apply List.Mem.tail)) (by repeat (first | exact List.Mem.head _ | apply List.Mem.tail)))) rfl rfl rfl ?_; rintro v w rfl hS)
                  | (refine WL.calls hS rfl rfl (hkc _ (St.rfAt hS (by repeat (first | exact List.Mem.head _ | apply List.Mem.tail)) (by repeat (first | exact List.Mem.head _ | apply List.Mem.tail)))) rfl rfl rfl ?_; rintro v w rfl hS)
                  | (refine WL.calls hS rfl rfl (hkc2 _ (St.rfAt hS (by repeat (first | exact List.Mem.head _ | apply List.Mem.tail)) (by repeat (first | exact List.Mem.head _ | apply List.Mem.tail)))) rfl rfl rfl ?_; rintro v w rfl hS)
                  | ((fail_if_success (refine WL.wanted rfl ?_)); refine WL.guard rfl rfl rfl (fun h => ?_) (fun h => ?_) <;> (try simp only [Classical.not_not, Bool.not_eq_true', Bool.not_eq_false', Bool.not_eq_eq_eq_not, Bool.not_true, Bool.not_false, beq_iff_eq, beq_eq_false_iff_ne, ne_eq, decide_eq_decide, decide_eq_true_eq, decide_eq_false_iff_not, Bool.and_eq_true, Bool.or_eq_true, Bool.and_eq_false_iff, Bool.or_eq_false_iff] at h) <;> (try (exfalso; first | omega | contradiction))))
                | (show WC _ _ _ _ _ _; first
                  | refine WC.seq ?_
                  | refine WC.region ?_
                  | refine WC.skip ?_
                  | refine WC.ret ?_
                  | refine WC.condT rfl (by decide) ?_
                  | refine WC.condF rfl (by decide) ?_)
                | refine seqQ_n ?_
                | refine seqQ_r ?_)
              have hS := St.objClose (φ := rfφ dk D) (hS.pulls (D := rfL dk A cap l D) (by repeat (first | exact Pulls.nil | (apply Pulls.cons; focus (repeat (first | exact Pull.here | apply Pull.there)))))) ⟨A, cap, l, hR, rfl⟩
              exact fin1r rfl rfl ⟨rfl, _, hS.mutLp (by repeat (first | exact Pulls.nil | (apply Pulls.cons; focus (repeat (first | exact Pull.here | apply Pull.there)))))⟩
          · rw [if_neg hd]
            have hd1 : it.dir = false := by cases h : it.dir <;> simp_all
            have hd2 : (D.at r).dir = false := by cases h : (D.at r).dir <;> simp_all
            clear hd
            obtain ⟨dir, dat, kept, loose, anew, stamp⟩ := it
            dsimp only at hd1 hal hkc ⊢
            subst hd1
            rw [if_neg (by decide)] at hkc
            have hpl := fun (w : World) (h : RfAt dk A cap l D w) => rfplaceY_c p hR hg h hl
            obtain ⟨kg, ko, rfl⟩ := hS.own_addr (A := A) (n := l.length) (by repeat (first | exact List.Mem.head _ | apply List.Mem.tail)) (rf_pos hR hg)
            have hdrop := fun (w : World) (hI : InL w (rfL dk (some ⟨kg, ko, none⟩) cap l D.step)) => rfdrop_c p hR2 hI hl
            by_cases hs : D.stepE = 0
            · rw [if_neg (fun e => e hs)]
              cases hg2 : mget D.items r with
              | none =>
                rw [kind_none hg2] at hkc2
                rcases Decidable.em (p = r) with hpr | hpr
                all_goals
                  repeat' (first
                    | (show WL _ _ _ _ _ _ _; first
                      | refine WL.pure rfl rfl rfl rfl ?_
                      | refine WL.nil ?_
                      | refine WL.load hS rfl rfl (LdOk.box (by repeat (first | exact List.Mem.head _ | apply List.Mem.tail)) rfl) rfl rfl rfl ?_
                      | (refine WL.calls hS rfl rfl (hmay _ (St.rfAt hS (by repeat (first | exact List.Mem.head _ | apply List.Mem.tail)) (by repeat (first | exact List.Mem.head _ | apply List.Mem.tail)))) rfl rfl rfl ?_; rintro v w rfl hS)
                      | (refine WL.calls hS rfl rfl (hmay2 _ (St.rfAt hS (by repeat (first | exact List.Mem.head _ | apply List.Mem.tail)) (by repeat (first | exact List.Mem.head _ | apply List.Mem.tail)))) rfl rfl rfl ?_; rintro v w rfl hS)
                      | (refine WL.calls hS rfl rfl (hhc _ (St.rfAt hS (by repeat (first | exact List.Mem.head _ | apply List.Mem.tail)) (by repeat (first | exact List.Mem.head _ | apply List.Mem.tail)))) rfl rfl rfl ?_; rintro v w rfl hS)
                      | (refine WL.calls hS rfl rfl (hkc _ (St.rfAt hS (by repeat (first | exact List.Mem.head _ | apply List.Mem.tail)) (by repeat (first | exact List.Mem.head _ | apply List.Mem.tail)))) rfl rfl rfl ?_; rintro v w rfl hS)
                      | (refine WL.calls hS rfl rfl (hkc2 _ (St.rfAt hS (by repeat (first | exact List.Mem.head _ | apply List.Mem.tail)) (by repeat (first | exact List.Mem.head _ | apply List.Mem.tail)))) rfl rfl rfl ?_; rintro v w rfl hS)
                      | (refine WL.calls hS rfl rfl (rfvol_c p _ hp) rfl rfl rfl ?_; rintro v w rfl hS)
                      | (refine WL.calls hS rfl rfl (rfvol_c r _ hr) rfl rfl rfl ?_; rintro v w rfl hS)
                      | (refine WL.calls hS rfl rfl (rffits_c r _ (St.rfAt hS (by repeat (first | exact List.Mem.head _ | apply List.Mem.tail)) (by repeat (first | exact List.Mem.head _ | apply List.Mem.tail)))) rfl rfl rfl ?_; rintro v w rfl hS)
                      | (refine WL.callL (D := rfL dk (some ⟨kg, ko, none⟩) cap l D) hS (by repeat (first | exact Pulls.nil | (apply Pulls.cons; focus (repeat (first | exact Pull.here | apply Pull.there))))) rfl rfl (fun hI => rfdone_c hI) rfl rfl rfl ?_; rintro v w ⟨rfl, hm⟩ hS; replace hS := hS _ hm; clear hm; rw [hs])
                      | (refine WL.callL (D := rfL dk (some ⟨kg, ko, none⟩) cap l D.step) hS (by repeat (first | exact Pulls.nil | (apply Pulls.cons; focus (repeat (first | exact Pull.here | apply Pull.there))))) rfl rfl (fun hI => hdrop _ hI) rfl rfl rfl ?_; rintro v w ⟨rfl, A1, cap1, l1, hR1, hm⟩ hS; replace hS := hS _ hm; clear hm; have hl1 : l1.length ≤ 1048576 := (by have := hR1.len; have := del_le D.step.items p; have := hR2.len; omega))
                      | (refine WL.callL (D := rfL dk A1 cap1 l1 (D.step.del p)) hS (by repeat (first | exact Pulls.nil | (apply Pulls.cons; focus (repeat (first | exact Pull.here | apply Pull.there))))) rfl rfl (fun hI => rfstamped_c ⟨r, ⟨false, dat, kept, loose, anew, stamp⟩⟩ hI) rfl rfl rfl ?_; rintro v w ⟨rfl, hm⟩ hS; replace hS := hS _ hm; clear hm)
                      | (refine WL.callL (D := rfL dk A1 cap1 l1 { D.step.del p with stamps := IntKind.i64.wrap (D.step.stamps + 1) }) hS (by repeat (first | exact Pulls.nil | (apply Pulls.cons; focus (repeat (first | exact Pull.here | apply Pull.there))))) rfl rfl (fun hI => rfput_c ⟨r, ⟨false, dat, kept, loose, anew, IntKind.i64.wrap (D.step.stamps + 1)⟩⟩ (D := { D.step.del p with stamps := IntKind.i64.wrap (D.step.stamps + 1) }) hR1 hI hl1) rfl rfl rfl ?_; rintro v w ⟨rfl, A', cap', l', hR', hm⟩ hS; replace hS := hS _ hm; clear hm)
                      | (refine WL.store hS rfl rfl rfl (by repeat (first | exact StB.here rfl | apply StB.there)) rfl rfl rfl ?_; intro w hS)
                      | refine WL.skip rfl rfl rfl ?_
                      | ((fail_if_success (refine WL.wanted rfl ?_)); refine WL.guard rfl rfl rfl (fun h => ?_) (fun h => ?_) <;> (try simp only [Classical.not_not, Bool.not_eq_true', Bool.not_eq_false', Bool.not_eq_eq_eq_not, Bool.not_true, Bool.not_false, beq_iff_eq, beq_eq_false_iff_ne, ne_eq, decide_eq_decide, decide_eq_true_eq, decide_eq_false_iff_not, Bool.and_eq_true, Bool.or_eq_true, Bool.and_eq_false_iff, Bool.or_eq_false_iff] at h) <;> (try (exfalso; first | omega | contradiction))))
                    | (show WC _ _ _ _ _ _; first
                      | refine WC.seq ?_
                      | refine WC.region ?_
                      | refine WC.skip ?_
                      | refine WC.ret ?_
                      | (show WC _ _ (Code.region _ (List.toArray [_, _, _, _, _, _, _, _, _, _, _]) true) _ _ _; refine WC.drawP hS [0,1,2,3,4,5,7,8] [0,1,2,3,4,5] (.two 6 [7,8,9,10] .nil 9 [6,7,8,10] .nil) (by kernel_rfl) (by kernel_rfl) ?_; clear hS; intro w hS hM)
                      | refine WC.condF rfl (by with_reducible rfl) ?_
                      | refine WC.condT rfl (by decide) ?_
                      | refine WC.condF rfl (by decide) ?_
                      | (refine WC.cond rfl (fun h => ?_) (fun h => ?_) <;> (try simp only [Classical.not_not, Bool.not_eq_true', Bool.not_eq_false', Bool.not_eq_eq_eq_not, Bool.not_true, Bool.not_false, beq_iff_eq, beq_eq_false_iff_ne, ne_eq, decide_eq_decide, decide_eq_true_eq, decide_eq_false_iff_not, Bool.and_eq_true, Bool.or_eq_true, Bool.and_eq_false_iff, Bool.or_eq_false_iff] at h) <;> (try (exfalso; first | omega | contradiction))))
                    | (show WD _ _ _ _ _ _ _ _ _; first
                      | refine WD.pure rfl rfl rfl rfl rfl ?_
                      | refine WD.nil ?_
                      | refine WD.load rfl rfl (LdOk.box (by repeat (first | exact List.Mem.head _ | apply List.Mem.tail)) rfl) rfl rfl rfl rfl ?_
                      | (refine WD.fork ?_ ?_)
                      | (refine WD.alloc (t := 110) hS hM rfl rfl rfl rfl rfl rfl rfl rfl ?_; clear hS hM; intro w b hS hM)
                      | (refine WD.calls hS hM rfl rfl (hpl _ (St.rfAt hS (by repeat (first | exact List.Mem.head _ | apply List.Mem.tail)) (by repeat (first | exact List.Mem.head _ | apply List.Mem.tail)))) rfl rfl rfl rfl rfl ?_; clear hS; rintro v w ⟨i, hli, rfl⟩ hS; have hil := (List.getElem?_eq_some_iff.1 hli).1)
                      | (refine WD.load rfl rfl (LdOk.ownElemE (enc := encRi) (k := i) (fun _ => rfl) (by repeat (first | exact List.Mem.head _ | apply List.Mem.tail)) hli rfl rfl) rfl rfl rfl rfl ?_)
                      | (refine WD.store hS rfl rfl rfl (by repeat (first | exact StB.here rfl | apply StB.there)) rfl (by first | exact .refl _ _ | exact .chunk (.refl _ _) _ | exact .chunk (.chunk (.refl _ _) _) _) rfl rfl rfl rfl ?_; clear hS hM; intro w hS hM)
                      | refine WD.index rfl rfl rfl rfl (by first | with_reducible assumption | omega) rfl rfl rfl rfl rfl ?_)
                    | (refine WDo.alloc (t := 110) hS hM rfl rfl rfl rfl rfl rfl rfl ?_; clear hS hM; intro w b hS hM)
                    | (refine WDo.calls hS hM rfl rfl (hpl _ (St.rfAt hS (by repeat (first | exact List.Mem.head _ | apply List.Mem.tail)) (by repeat (first | exact List.Mem.head _ | apply List.Mem.tail)))) rfl rfl rfl rfl ?_; clear hS; rintro v w ⟨i, hli, rfl⟩ hS; have hil := (List.getElem?_eq_some_iff.1 hli).1)
                    | refine seqQ_n ?_)
                  all_goals
                    have hS := St.objClose (φ := rfφ dk ((D.step.del p).set r ⟨false, dat, kept, loose, anew, stamp⟩)) (hS.pulls (D := rfL dk A' cap' l' ((D.step.del p).set r ⟨false, dat, kept, loose, anew, stamp⟩)) (by repeat (first | exact Pulls.nil | (apply Pulls.cons; focus (repeat (first | exact Pull.here | apply Pull.there)))))) ⟨A', cap', l', hR', rfl⟩
                    exact fin1r rfl rfl ⟨rfl, _, hS.mutLp (by repeat (first | exact Pulls.nil | (apply Pulls.cons; focus (repeat (first | exact Pull.here | apply Pull.there)))))⟩
              | some it2 =>
                have hat2 : D.at r = it2 := by unfold Dk.at; rw [hg2]; rfl
                rw [hat2] at hal2 hd2
                rw [kind_some hg2, hd2, if_neg (by decide)] at hkc2
                have hpl2 := fun (w : World) (h : RfAt dk (some ⟨kg, ko, none⟩) cap l D w) => rfplaceY_c r hR hg2 h hl
                obtain ⟨dir2, dat2, kept2, loose2, anew2, stamp2⟩ := it2
                dsimp only at hd2 hal2
                rcases Decidable.em (p = r) with hpr | hpr
                all_goals
                  repeat' (first
                    | (show WL _ _ _ _ _ _ _; first
                      | refine WL.pure rfl rfl rfl rfl ?_
                      | refine WL.nil ?_
                      | refine WL.load hS rfl rfl (LdOk.box (by repeat (first | exact List.Mem.head _ | apply List.Mem.tail)) rfl) rfl rfl rfl ?_
                      | (refine WL.calls hS rfl rfl (hmay _ (St.rfAt hS (by repeat (first | exact List.Mem.head _ | apply List.Mem.tail)) (by repeat (first | exact List.Mem.head _ | apply List.Mem.tail)))) rfl rfl rfl ?_; rintro v w rfl hS)
                      | (refine WL.calls hS rfl rfl (hmay2 _ (St.rfAt hS (by repeat (first | exact List.Mem.head _ | apply List.Mem.tail)) (by repeat (first | exact List.Mem.head _ | apply List.Mem.tail)))) rfl rfl rfl ?_; rintro v w rfl hS)
                      | (refine WL.calls hS rfl rfl (hhc _ (St.rfAt hS (by repeat (first | exact List.Mem.head _ | apply List.Mem.tail)) (by repeat (first | exact List.Mem.head _ | apply List.Mem.tail)))) rfl rfl rfl ?_; rintro v w rfl hS)
                      | (refine WL.calls hS rfl rfl (hkc _ (St.rfAt hS (by repeat (first | exact List.Mem.head _ | apply List.Mem.tail)) (by repeat (first | exact List.Mem.head _ | apply List.Mem.tail)))) rfl rfl rfl ?_; rintro v w rfl hS)
                      | (refine WL.calls hS rfl rfl (hkc2 _ (St.rfAt hS (by repeat (first | exact List.Mem.head _ | apply List.Mem.tail)) (by repeat (first | exact List.Mem.head _ | apply List.Mem.tail)))) rfl rfl rfl ?_; rintro v w rfl hS)
                      | (refine WL.calls hS rfl rfl (rfvol_c p _ hp) rfl rfl rfl ?_; rintro v w rfl hS)
                      | (refine WL.calls hS rfl rfl (rfvol_c r _ hr) rfl rfl rfl ?_; rintro v w rfl hS)
                      | (refine WL.calls hS rfl rfl (rffits_c r _ (St.rfAt hS (by repeat (first | exact List.Mem.head _ | apply List.Mem.tail)) (by repeat (first | exact List.Mem.head _ | apply List.Mem.tail)))) rfl rfl rfl ?_; rintro v w rfl hS)
                      | (refine WL.callL (D := rfL dk (some ⟨kg, ko, none⟩) cap l D) hS (by repeat (first | exact Pulls.nil | (apply Pulls.cons; focus (repeat (first | exact Pull.here | apply Pull.there))))) rfl rfl (fun hI => rfdone_c hI) rfl rfl rfl ?_; rintro v w ⟨rfl, hm⟩ hS; replace hS := hS _ hm; clear hm; rw [hs])
                      | (refine WL.callL (D := rfL dk (some ⟨kg, ko, none⟩) cap l D.step) hS (by repeat (first | exact Pulls.nil | (apply Pulls.cons; focus (repeat (first | exact Pull.here | apply Pull.there))))) rfl rfl (fun hI => hdrop _ hI) rfl rfl rfl ?_; rintro v w ⟨rfl, A1, cap1, l1, hR1, hm⟩ hS; replace hS := hS _ hm; clear hm; have hl1 : l1.length ≤ 1048576 := (by have := hR1.len; have := del_le D.step.items p; have := hR2.len; omega))
                      | (refine WL.callL (D := rfL dk A1 cap1 l1 (D.step.del p)) hS (by repeat (first | exact Pulls.nil | (apply Pulls.cons; focus (repeat (first | exact Pull.here | apply Pull.there))))) rfl rfl (fun hI => rfstamped_c ⟨r, ⟨false, dat, kept, loose, anew, stamp⟩⟩ hI) rfl rfl rfl ?_; rintro v w ⟨rfl, hm⟩ hS; replace hS := hS _ hm; clear hm)
                      | (refine WL.callL (D := rfL dk A1 cap1 l1 { D.step.del p with stamps := IntKind.i64.wrap (D.step.stamps + 1) }) hS (by repeat (first | exact Pulls.nil | (apply Pulls.cons; focus (repeat (first | exact Pull.here | apply Pull.there))))) rfl rfl (fun hI => rfput_c ⟨r, ⟨false, dat, kept, loose, anew, IntKind.i64.wrap (D.step.stamps + 1)⟩⟩ (D := { D.step.del p with stamps := IntKind.i64.wrap (D.step.stamps + 1) }) hR1 hI hl1) rfl rfl rfl ?_; rintro v w ⟨rfl, A', cap', l', hR', hm⟩ hS; replace hS := hS _ hm; clear hm)
                      | (refine WL.store hS rfl rfl rfl (by repeat (first | exact StB.here rfl | apply StB.there)) rfl rfl rfl ?_; intro w hS)
                      | refine WL.skip rfl rfl rfl ?_
                      | ((fail_if_success (refine WL.wanted rfl ?_)); refine WL.guard rfl rfl rfl (fun h => ?_) (fun h => ?_) <;> (try simp only [Classical.not_not, Bool.not_eq_true', Bool.not_eq_false', Bool.not_eq_eq_eq_not, Bool.not_true, Bool.not_false, beq_iff_eq, beq_eq_false_iff_ne, ne_eq, decide_eq_decide, decide_eq_true_eq, decide_eq_false_iff_not, Bool.and_eq_true, Bool.or_eq_true, Bool.and_eq_false_iff, Bool.or_eq_false_iff] at h) <;> (try (exfalso; first | omega | contradiction))))
                    | (show WC _ _ _ _ _ _; first
                      | refine WC.seq ?_
                      | refine WC.region ?_
                      | refine WC.skip ?_
                      | refine WC.ret ?_
                      | (show WC _ _ (Code.region _ (List.toArray [_, _, _, _, _, _, _, _, _, _, _]) true) _ _ _; refine WC.drawP hS [0,1,2,3,4,5,7,8] [0,1,2,3,4,5] (.two 6 [7,8,9,10] .nil 9 [6,7,8,10] .nil) (by kernel_rfl) (by kernel_rfl) ?_; clear hS; intro w hS hM)
                      | (show WC _ _ (Code.region _ (List.toArray [_, _, _, _, _, _, _, _, _, _, _, _, _, _]) true) _ _ _; refine WC.drawS hS [0,1,2,3,4,5,6,8,9,10,11,12,13] [0,1,2,3,4,5,6,7,8,9,10,11,12,13] (by kernel_rfl) (by kernel_rfl) ?_; clear hS; intro w hS hM)
                      | refine WC.condF rfl (by with_reducible rfl) ?_
                      | refine WC.condT rfl (by decide) ?_
                      | refine WC.condF rfl (by decide) ?_
                      | (refine WC.cond rfl (fun h => ?_) (fun h => ?_) <;> (try simp only [Classical.not_not, Bool.not_eq_true', Bool.not_eq_false', Bool.not_eq_eq_eq_not, Bool.not_true, Bool.not_false, beq_iff_eq, beq_eq_false_iff_ne, ne_eq, decide_eq_decide, decide_eq_true_eq, decide_eq_false_iff_not, Bool.and_eq_true, Bool.or_eq_true, Bool.and_eq_false_iff, Bool.or_eq_false_iff] at h) <;> (try (exfalso; first | omega | contradiction))))
                    | (show WD _ _ _ _ _ _ _ _ _; first
                      | refine WD.sub (a := (dat.length : Int)) (b := (dat2.length : Int)) rfl rfl rfl (by omega) rfl rfl rfl rfl ?_
                      | refine WD.sub (a := 0) (b := (dat2.length : Int)) rfl rfl rfl (by omega) rfl rfl rfl rfl ?_
                      | refine WD.pure rfl rfl rfl rfl rfl ?_
                      | refine WD.nil ?_
                      | refine WD.load rfl rfl (LdOk.box (by repeat (first | exact List.Mem.head _ | apply List.Mem.tail)) rfl) rfl rfl rfl rfl ?_
                      | (refine WD.fork ?_ ?_)
                      | (refine WD.alloc (t := 110) hS hM rfl rfl rfl rfl rfl rfl rfl rfl ?_; clear hS hM; intro w b hS hM)
                      | (refine WD.calls hS hM rfl rfl (hpl _ (St.rfAt hS (by repeat (first | exact List.Mem.head _ | apply List.Mem.tail)) (by repeat (first | exact List.Mem.head _ | apply List.Mem.tail)))) rfl rfl rfl rfl rfl ?_; clear hS; rintro v w ⟨i, hli, rfl⟩ hS; have hil := (List.getElem?_eq_some_iff.1 hli).1)
                      | (refine WD.load rfl rfl (LdOk.ownElemE (enc := encRi) (k := i) (fun _ => rfl) (by repeat (first | exact List.Mem.head _ | apply List.Mem.tail)) hli rfl rfl) rfl rfl rfl rfl ?_)
                      | (refine WD.store hS rfl rfl rfl (by repeat (first | exact StB.here rfl | apply StB.there)) rfl (by first | exact .refl _ _ | exact .chunk (.refl _ _) _ | exact .chunk (.chunk (.refl _ _) _) _) rfl rfl rfl rfl ?_; clear hS hM; intro w hS hM)
                      | (refine WD.calls hS hM rfl rfl (hpl2 _ (St.rfAt hS (by repeat (first | exact List.Mem.head _ | apply List.Mem.tail)) (by repeat (first | exact List.Mem.head _ | apply List.Mem.tail)))) rfl rfl rfl rfl rfl ?_; clear hS; rintro v w ⟨j, hlj, rfl⟩ hS; have hjl := (List.getElem?_eq_some_iff.1 hlj).1)
                      | (refine WD.load rfl rfl (LdOk.ownAt (off := j * 7 + 2) (by repeat (first | exact List.Mem.head _ | apply List.Mem.tail)) rfl ⟨_, rfl⟩ (ris_fld hlj (by decide)) rfl) rfl rfl rfl rfl ?_)
                      | refine WD.index rfl rfl rfl rfl (by first | with_reducible assumption | omega) rfl rfl rfl rfl rfl ?_)
                    | (refine WDo.alloc (t := 110) hS hM rfl rfl rfl rfl rfl rfl rfl ?_; clear hS hM; intro w b hS hM)
                    | (refine WDo.calls hS hM rfl rfl (hpl _ (St.rfAt hS (by repeat (first | exact List.Mem.head _ | apply List.Mem.tail)) (by repeat (first | exact List.Mem.head _ | apply List.Mem.tail)))) rfl rfl rfl rfl ?_; clear hS; rintro v w ⟨i, hli, rfl⟩ hS; have hil := (List.getElem?_eq_some_iff.1 hli).1)
                    | refine seqQ_n ?_)
                  all_goals
                    have hS := St.objClose (φ := rfφ dk ((D.step.del p).set r ⟨false, dat, kept, loose, anew, stamp⟩)) (hS.pulls (D := rfL dk A' cap' l' ((D.step.del p).set r ⟨false, dat, kept, loose, anew, stamp⟩)) (by repeat (first | exact Pulls.nil | (apply Pulls.cons; focus (repeat (first | exact Pull.here | apply Pull.there)))))) ⟨A', cap', l', hR', rfl⟩
                    exact fin1r rfl rfl ⟨rfl, _, hS.mutLp (by repeat (first | exact Pulls.nil | (apply Pulls.cons; focus (repeat (first | exact Pull.here | apply Pull.there)))))⟩
            · rw [if_pos hs]
              cases hg2 : mget D.items r with
              | none =>
                rw [kind_none hg2] at hkc2
                rcases Decidable.em (p = r) with hpr | hpr
                all_goals
                  repeat' (first
                    | (show WL _ _ _ _ _ _ _; first
                      | refine WL.pure rfl rfl rfl rfl ?_
                      | refine WL.nil ?_
                      | refine WL.load hS rfl rfl (LdOk.box (by repeat (first | exact List.Mem.head _ | apply List.Mem.tail)) rfl) rfl rfl rfl ?_
                      | (refine WL.calls hS rfl rfl (hmay _ (St.rfAt hS (by repeat (first | exact List.Mem.head _ | apply List.Mem.tail)) (by repeat (first | exact List.Mem.head _ | apply List.Mem.tail)))) rfl rfl rfl ?_; rintro v w rfl hS)
                      | (refine WL.calls hS rfl rfl (hmay2 _ (St.rfAt hS (by repeat (first | exact List.Mem.head _ | apply List.Mem.tail)) (by repeat (first | exact List.Mem.head _ | apply List.Mem.tail)))) rfl rfl rfl ?_; rintro v w rfl hS)
                      | (refine WL.calls hS rfl rfl (hhc _ (St.rfAt hS (by repeat (first | exact List.Mem.head _ | apply List.Mem.tail)) (by repeat (first | exact List.Mem.head _ | apply List.Mem.tail)))) rfl rfl rfl ?_; rintro v w rfl hS)
                      | (refine WL.calls hS rfl rfl (hkc _ (St.rfAt hS (by repeat (first | exact List.Mem.head _ | apply List.Mem.tail)) (by repeat (first | exact List.Mem.head _ | apply List.Mem.tail)))) rfl rfl rfl ?_; rintro v w rfl hS)
                      | (refine WL.calls hS rfl rfl (hkc2 _ (St.rfAt hS (by repeat (first | exact List.Mem.head _ | apply List.Mem.tail)) (by repeat (first | exact List.Mem.head _ | apply List.Mem.tail)))) rfl rfl rfl ?_; rintro v w rfl hS)
                      | (refine WL.calls hS rfl rfl (rfvol_c p _ hp) rfl rfl rfl ?_; rintro v w rfl hS)
                      | (refine WL.calls hS rfl rfl (rfvol_c r _ hr) rfl rfl rfl ?_; rintro v w rfl hS)
                      | (refine WL.calls hS rfl rfl (rffits_c r _ (St.rfAt hS (by repeat (first | exact List.Mem.head _ | apply List.Mem.tail)) (by repeat (first | exact List.Mem.head _ | apply List.Mem.tail)))) rfl rfl rfl ?_; rintro v w rfl hS)
                      | (refine WL.callL (D := rfL dk (some ⟨kg, ko, none⟩) cap l D) hS (by repeat (first | exact Pulls.nil | (apply Pulls.cons; focus (repeat (first | exact Pull.here | apply Pull.there))))) rfl rfl (fun hI => rfdone_c hI) rfl rfl rfl ?_; rintro v w ⟨rfl, hm⟩ hS; replace hS := hS _ hm; clear hm)
                      | refine WL.skip rfl rfl rfl ?_
                      | ((fail_if_success (refine WL.wanted rfl ?_)); refine WL.guard rfl rfl rfl (fun h => ?_) (fun h => ?_) <;> (try simp only [Classical.not_not, Bool.not_eq_true', Bool.not_eq_false', Bool.not_eq_eq_eq_not, Bool.not_true, Bool.not_false, beq_iff_eq, beq_eq_false_iff_ne, ne_eq, decide_eq_decide, decide_eq_true_eq, decide_eq_false_iff_not, Bool.and_eq_true, Bool.or_eq_true, Bool.and_eq_false_iff, Bool.or_eq_false_iff] at h) <;> (try (exfalso; first | omega | contradiction))))
                    | (show WC _ _ _ _ _ _; first
                      | refine WC.seq ?_
                      | refine WC.region ?_
                      | refine WC.skip ?_
                      | refine WC.ret ?_
                      | (show WC _ _ (Code.region _ (List.toArray [_, _, _, _, _, _, _, _, _, _, _]) true) _ _ _; refine WC.drawP hS [0,1,2,3,4,5,7,8] [0,1,2,3,4,5] (.two 6 [7,8,9,10] .nil 9 [6,7,8,10] .nil) (by kernel_rfl) (by kernel_rfl) ?_; clear hS; intro w hS hM)
                      | refine WC.condF rfl (by with_reducible rfl) ?_
                      | refine WC.condF rfl (by decide) ?_
                      | refine WC.condF rfl (decide_eq_false (by first | with_reducible assumption | omega)) ?_
                      | (refine WC.cond rfl (fun h => ?_) (fun h => ?_) <;> (try simp only [Classical.not_not, Bool.not_eq_true', Bool.not_eq_false', Bool.not_eq_eq_eq_not, Bool.not_true, Bool.not_false, beq_iff_eq, beq_eq_false_iff_ne, ne_eq, decide_eq_decide, decide_eq_true_eq, decide_eq_false_iff_not, Bool.and_eq_true, Bool.or_eq_true, Bool.and_eq_false_iff, Bool.or_eq_false_iff] at h) <;> (try (exfalso; first | omega | contradiction))))
                    | (show WD _ _ _ _ _ _ _ _ _; first
                      | refine WD.pure rfl rfl rfl rfl rfl ?_
                      | refine WD.nil ?_
                      | refine WD.load rfl rfl (LdOk.box (by repeat (first | exact List.Mem.head _ | apply List.Mem.tail)) rfl) rfl rfl rfl rfl ?_
                      | (refine WD.fork ?_ ?_)
                      | (refine WD.alloc (t := 110) hS hM rfl rfl rfl rfl rfl rfl rfl rfl ?_; clear hS hM; intro w b hS hM)
                      | (refine WD.calls hS hM rfl rfl (hpl _ (St.rfAt hS (by repeat (first | exact List.Mem.head _ | apply List.Mem.tail)) (by repeat (first | exact List.Mem.head _ | apply List.Mem.tail)))) rfl rfl rfl rfl rfl ?_; clear hS; rintro v w ⟨i, hli, rfl⟩ hS; have hil := (List.getElem?_eq_some_iff.1 hli).1)
                      | (refine WD.load rfl rfl (LdOk.ownElemE (enc := encRi) (k := i) (fun _ => rfl) (by repeat (first | exact List.Mem.head _ | apply List.Mem.tail)) hli rfl rfl) rfl rfl rfl rfl ?_)
                      | (refine WD.store hS rfl rfl rfl (by repeat (first | exact StB.here rfl | apply StB.there)) rfl (by first | exact .refl _ _ | exact .chunk (.refl _ _) _ | exact .chunk (.chunk (.refl _ _) _) _) rfl rfl rfl rfl ?_; clear hS hM; intro w hS hM)
                      | refine WD.index rfl rfl rfl rfl (by first | with_reducible assumption | omega) rfl rfl rfl rfl rfl ?_)
                    | (refine WDo.alloc (t := 110) hS hM rfl rfl rfl rfl rfl rfl rfl ?_; clear hS hM; intro w b hS hM)
                    | (refine WDo.calls hS hM rfl rfl (hpl _ (St.rfAt hS (by repeat (first | exact List.Mem.head _ | apply List.Mem.tail)) (by repeat (first | exact List.Mem.head _ | apply List.Mem.tail)))) rfl rfl rfl rfl ?_; clear hS; rintro v w ⟨i, hli, rfl⟩ hS; have hil := (List.getElem?_eq_some_iff.1 hli).1)
                    | refine seqQ_n ?_)
                  all_goals
                    have hS := St.objClose (φ := rfφ dk D.step) (hS.pulls (D := rfL dk (some ⟨kg, ko, none⟩) cap l D.step) (by repeat (first | exact Pulls.nil | (apply Pulls.cons; focus (repeat (first | exact Pull.here | apply Pull.there)))))) ⟨some ⟨kg, ko, none⟩, cap, l, hR2, rfl⟩
                    exact fin1r rfl rfl ⟨rfl, _, hS.mutLp (by repeat (first | exact Pulls.nil | (apply Pulls.cons; focus (repeat (first | exact Pull.here | apply Pull.there)))))⟩
              | some it2 =>
                have hat2 : D.at r = it2 := by unfold Dk.at; rw [hg2]; rfl
                rw [hat2] at hal2 hd2
                rw [kind_some hg2, hd2, if_neg (by decide)] at hkc2
                have hpl2 := fun (w : World) (h : RfAt dk (some ⟨kg, ko, none⟩) cap l D w) => rfplaceY_c r hR hg2 h hl
                obtain ⟨dir2, dat2, kept2, loose2, anew2, stamp2⟩ := it2
                dsimp only at hd2 hal2
                rcases Decidable.em (p = r) with hpr | hpr
                all_goals
                  repeat' (first
                    | (show WL _ _ _ _ _ _ _; first
                      | refine WL.pure rfl rfl rfl rfl ?_
                      | refine WL.nil ?_
                      | refine WL.load hS rfl rfl (LdOk.box (by repeat (first | exact List.Mem.head _ | apply List.Mem.tail)) rfl) rfl rfl rfl ?_
                      | (refine WL.calls hS rfl rfl (hmay _ (St.rfAt hS (by repeat (first | exact List.Mem.head _ | apply List.Mem.tail)) (by repeat (first | exact List.Mem.head _ | apply List.Mem.tail)))) rfl rfl rfl ?_; rintro v w rfl hS)
                      | (refine WL.calls hS rfl rfl (hmay2 _ (St.rfAt hS (by repeat (first | exact List.Mem.head _ | apply List.Mem.tail)) (by repeat (first | exact List.Mem.head _ | apply List.Mem.tail)))) rfl rfl rfl ?_; rintro v w rfl hS)
                      | (refine WL.calls hS rfl rfl (hhc _ (St.rfAt hS (by repeat (first | exact List.Mem.head _ | apply List.Mem.tail)) (by repeat (first | exact List.Mem.head _ | apply List.Mem.tail)))) rfl rfl rfl ?_; rintro v w rfl hS)
                      | (refine WL.calls hS rfl rfl (hkc _ (St.rfAt hS (by repeat (first | exact List.Mem.head _ | apply List.Mem.tail)) (by repeat (first | exact List.Mem.head _ | apply List.Mem.tail)))) rfl rfl rfl ?_; rintro v w rfl hS)
                      | (refine WL.calls hS rfl rfl (hkc2 _ (St.rfAt hS (by repeat (first | exact List.Mem.head _ | apply List.Mem.tail)) (by repeat (first | exact List.Mem.head _ | apply List.Mem.tail)))) rfl rfl rfl ?_; rintro v w rfl hS)
                      | (refine WL.calls hS rfl rfl (rfvol_c p _ hp) rfl rfl rfl ?_; rintro v w rfl hS)
                      | (refine WL.calls hS rfl rfl (rfvol_c r _ hr) rfl rfl rfl ?_; rintro v w rfl hS)
                      | (refine WL.calls hS rfl rfl (rffits_c r _ (St.rfAt hS (by repeat (first | exact List.Mem.head _ | apply List.Mem.tail)) (by repeat (first | exact List.Mem.head _ | apply List.Mem.tail)))) rfl rfl rfl ?_; rintro v w rfl hS)
                      | (refine WL.callL (D := rfL dk (some ⟨kg, ko, none⟩) cap l D) hS (by repeat (first | exact Pulls.nil | (apply Pulls.cons; focus (repeat (first | exact Pull.here | apply Pull.there))))) rfl rfl (fun hI => rfdone_c hI) rfl rfl rfl ?_; rintro v w ⟨rfl, hm⟩ hS; replace hS := hS _ hm; clear hm)
                      | refine WL.skip rfl rfl rfl ?_
                      | ((fail_if_success (refine WL.wanted rfl ?_)); refine WL.guard rfl rfl rfl (fun h => ?_) (fun h => ?_) <;> (try simp only [Classical.not_not, Bool.not_eq_true', Bool.not_eq_false', Bool.not_eq_eq_eq_not, Bool.not_true, Bool.not_false, beq_iff_eq, beq_eq_false_iff_ne, ne_eq, decide_eq_decide, decide_eq_true_eq, decide_eq_false_iff_not, Bool.and_eq_true, Bool.or_eq_true, Bool.and_eq_false_iff, Bool.or_eq_false_iff] at h) <;> (try (exfalso; first | omega | contradiction))))
                    | (show WC _ _ _ _ _ _; first
                      | refine WC.seq ?_
                      | refine WC.region ?_
                      | refine WC.skip ?_
                      | refine WC.ret ?_
                      | (show WC _ _ (Code.region _ (List.toArray [_, _, _, _, _, _, _, _, _, _, _]) true) _ _ _; refine WC.drawP hS [0,1,2,3,4,5,7,8] [0,1,2,3,4,5] (.two 6 [7,8,9,10] .nil 9 [6,7,8,10] .nil) (by kernel_rfl) (by kernel_rfl) ?_; clear hS; intro w hS hM)
                      | (show WC _ _ (Code.region _ (List.toArray [_, _, _, _, _, _, _, _, _, _, _, _, _, _]) true) _ _ _; refine WC.drawS hS [0,1,2,3,4,5,6,8,9,10,11,12,13] [0,1,2,3,4,5,6,7,8,9,10,11,12,13] (by kernel_rfl) (by kernel_rfl) ?_; clear hS; intro w hS hM)
                      | refine WC.condF rfl (by with_reducible rfl) ?_
                      | refine WC.condT rfl (by decide) ?_
                      | refine WC.condF rfl (by decide) ?_
                      | refine WC.condF rfl (decide_eq_false (by first | with_reducible assumption | omega)) ?_
                      | (refine WC.cond rfl (fun h => ?_) (fun h => ?_) <;> (try simp only [Classical.not_not, Bool.not_eq_true', Bool.not_eq_false', Bool.not_eq_eq_eq_not, Bool.not_true, Bool.not_false, beq_iff_eq, beq_eq_false_iff_ne, ne_eq, decide_eq_decide, decide_eq_true_eq, decide_eq_false_iff_not, Bool.and_eq_true, Bool.or_eq_true, Bool.and_eq_false_iff, Bool.or_eq_false_iff] at h) <;> (try (exfalso; first | omega | contradiction))))
                    | (show WD _ _ _ _ _ _ _ _ _; first
                      | refine WD.sub (a := (dat.length : Int)) (b := (dat2.length : Int)) rfl rfl rfl (by omega) rfl rfl rfl rfl ?_
                      | refine WD.sub (a := 0) (b := (dat2.length : Int)) rfl rfl rfl (by omega) rfl rfl rfl rfl ?_
                      | refine WD.pure rfl rfl rfl rfl rfl ?_
                      | refine WD.nil ?_
                      | refine WD.load rfl rfl (LdOk.box (by repeat (first | exact List.Mem.head _ | apply List.Mem.tail)) rfl) rfl rfl rfl rfl ?_
                      | (refine WD.fork ?_ ?_)
                      | (refine WD.alloc (t := 110) hS hM rfl rfl rfl rfl rfl rfl rfl rfl ?_; clear hS hM; intro w b hS hM)
                      | (refine WD.calls hS hM rfl rfl (hpl _ (St.rfAt hS (by repeat (first | exact List.Mem.head _ | apply List.Mem.tail)) (by repeat (first | exact List.Mem.head _ | apply List.Mem.tail)))) rfl rfl rfl rfl rfl ?_; clear hS; rintro v w ⟨i, hli, rfl⟩ hS; have hil := (List.getElem?_eq_some_iff.1 hli).1)
                      | (refine WD.load rfl rfl (LdOk.ownElemE (enc := encRi) (k := i) (fun _ => rfl) (by repeat (first | exact List.Mem.head _ | apply List.Mem.tail)) hli rfl rfl) rfl rfl rfl rfl ?_)
                      | (refine WD.store hS rfl rfl rfl (by repeat (first | exact StB.here rfl | apply StB.there)) rfl (by first | exact .refl _ _ | exact .chunk (.refl _ _) _ | exact .chunk (.chunk (.refl _ _) _) _) rfl rfl rfl rfl ?_; clear hS hM; intro w hS hM)
                      | (refine WD.calls hS hM rfl rfl (hpl2 _ (St.rfAt hS (by repeat (first | exact List.Mem.head _ | apply List.Mem.tail)) (by repeat (first | exact List.Mem.head _ | apply List.Mem.tail)))) rfl rfl rfl rfl rfl ?_; clear hS; rintro v w ⟨j, hlj, rfl⟩ hS; have hjl := (List.getElem?_eq_some_iff.1 hlj).1)
                      | (refine WD.load rfl rfl (LdOk.ownAt (off := j * 7 + 2) (by repeat (first | exact List.Mem.head _ | apply List.Mem.tail)) rfl ⟨_, rfl⟩ (ris_fld hlj (by decide)) rfl) rfl rfl rfl rfl ?_)
                      | refine WD.index rfl rfl rfl rfl (by first | with_reducible assumption | omega) rfl rfl rfl rfl rfl ?_)
                    | (refine WDo.alloc (t := 110) hS hM rfl rfl rfl rfl rfl rfl rfl ?_; clear hS hM; intro w b hS hM)
                    | (refine WDo.calls hS hM rfl rfl (hpl _ (St.rfAt hS (by repeat (first | exact List.Mem.head _ | apply List.Mem.tail)) (by repeat (first | exact List.Mem.head _ | apply List.Mem.tail)))) rfl rfl rfl rfl ?_; clear hS; rintro v w ⟨i, hli, rfl⟩ hS; have hil := (List.getElem?_eq_some_iff.1 hli).1)
                    | refine seqQ_n ?_)
                  all_goals
                    have hS := St.objClose (φ := rfφ dk D.step) (hS.pulls (D := rfL dk (some ⟨kg, ko, none⟩) cap l D.step) (by repeat (first | exact Pulls.nil | (apply Pulls.cons; focus (repeat (first | exact Pull.here | apply Pull.there)))))) ⟨some ⟨kg, ko, none⟩, cap, l, hR2, rfl⟩
                    exact fin1r rfl rfl ⟨rfl, _, hS.mutLp (by repeat (first | exact Pulls.nil | (apply Pulls.cons; focus (repeat (first | exact Pull.here | apply Pull.there)))))⟩
    · rw [if_pos he2]
      repeat' (first
        | (show WL _ _ _ _ _ _ _; first
          | refine WL.pure rfl rfl rfl rfl ?_
          | refine WL.nil ?_
          | (refine WL.calls hS rfl rfl (hmay _ (St.rfAt hS (by repeat (first | exact List.Mem.head _ | apply List.Mem.tail)) (by repeat (first | exact List.Mem.head _ | apply List.Mem.tail)))) rfl rfl rfl ?_; rintro v w rfl hS)
          | (refine WL.calls hS rfl rfl (hmay2 _ (St.rfAt hS (by repeat (first | exact List.Mem.head _ | apply List.Mem.tail)) (by repeat (first | exact List.Mem.head _ | apply List.Mem.tail)))) rfl rfl rfl ?_; rintro v w rfl hS))
        | (show WC _ _ _ _ _ _; first
          | refine WC.seq ?_
          | refine WC.region ?_
          | refine WC.skip ?_
          | refine WC.ret ?_
          | refine WC.condF rfl (by decide) ?_
          | refine WC.condT rfl (decide_eq_true (by first | with_reducible assumption | omega)) ?_)
        | refine seqQ_n ?_
        | refine seqQ_r ?_)
      have hS := St.objClose (φ := rfφ dk D) (hS.pulls (D := rfL dk A cap l D) (by repeat (first | exact Pulls.nil | (apply Pulls.cons; focus (repeat (first | exact Pull.here | apply Pull.there)))))) ⟨A, cap, l, hR, rfl⟩
      exact fin1r rfl rfl ⟨rfl, _, hS.mutLp (by repeat (first | exact Pulls.nil | (apply Pulls.cons; focus (repeat (first | exact Pull.here | apply Pull.there)))))⟩
  · rw [if_pos he]
    repeat' (first
      | (show WL _ _ _ _ _ _ _; first
        | refine WL.pure rfl rfl rfl rfl ?_
        | refine WL.nil ?_
        | (refine WL.calls hS rfl rfl (hmay _ (St.rfAt hS (by repeat (first | exact List.Mem.head _ | apply List.Mem.tail)) (by repeat (first | exact List.Mem.head _ | apply List.Mem.tail)))) rfl rfl rfl ?_; rintro v w rfl hS))
      | (show WC _ _ _ _ _ _; first
        | refine WC.seq ?_
        | refine WC.region ?_
        | refine WC.ret ?_
        | refine WC.condT rfl (decide_eq_true (by first | with_reducible assumption | omega)) ?_)
      | refine seqQ_n ?_
      | refine seqQ_r ?_)
    have hS := St.objClose (φ := rfφ dk D) (hS.pulls (D := rfL dk A cap l D) (by repeat (first | exact Pulls.nil | (apply Pulls.cons; focus (repeat (first | exact Pull.here | apply Pull.there)))))) ⟨A, cap, l, hR, rfl⟩
    exact fin1r rfl rfl ⟨rfl, _, hS.mutLp (by repeat (first | exact Pulls.nil | (apply Pulls.cons; focus (repeat (first | exact Pull.here | apply Pull.there)))))⟩
end Go.Proofs.YtccfiohagbneaaaGreatDoor

/- What is proved: what bytes of which one bit is turned are, and what the disk's Rot does. Conditions: texts of bounded length. -/
set_option linter.unusedSimpArgs false
set_option linter.unusedVariables false
namespace Go.Proofs.YtccfiohagbneaaaGreatDoor
open Go Go.J Go.RowKit

/-- bytes of which one bit is turned -/
def turnK (s : List UInt8) (bit : Int) : Nat := (bit % (8 * (s.length : Int))).toNat
def turnE (s : List UInt8) (bit : Int) : List UInt8 := match s[turnK s bit / 8]? with
  | some c => s.set (turnK s bit / 8) (UInt8.ofNat (c.toNat ^^^ 2 ^ (turnK s bit % 8)))
  | none => s
theorem pow_lt256 {m : Nat} (h : m < 8) : 2 ^ m < 256 := by
  have : (2 : Nat) ^ m ≤ 2 ^ 7 := Nat.pow_le_pow_right (by omega) (by omega)
  omega
theorem turn_byte (c : UInt8) (m : Nat) (h : m < 8) : bits .xor .u8 (c.toNat : Int) (shlI .u8 1 (m : Int)) = (((UInt8.ofNat (c.toNat ^^^ 2 ^ m)).toNat : Nat) : Int) := by
  have hc := c.toNat_lt
  have hp := pow_lt256 h
  have e : shlI .u8 1 (m : Int) = ((2 ^ m : Nat) : Int) := by
    unfold shlI
    rw [show min (m : Int).toNat IntKind.u8.bits = m from by simp [IntKind.bits]; omega, IntKind.wrap_u8']
    have : (1 : Int) * 2 ^ m = ((2 ^ m : Nat) : Int) := by simp
    rw [this]; generalize (2 : Nat) ^ m = p at hp; omega
  rw [e, u8_xor_nat _ _ (by omega) hp]
  have hx : c.toNat ^^^ 2 ^ m < 256 := Nat.xor_lt_two_pow (n := 8) (by omega) (by omega)
  rw [ofNat_toNat hx]
theorem turnE_len (s : List UInt8) (bit : Int) : (turnE s bit).length = s.length := by
  unfold turnE
  split
  · rw [List.length_set]
  · rfl
set_option maxHeartbeats 4000000 in
set_option maxRecDepth 100000 in
theorem turn_c (s : List UInt8) (bit : Int) (w0 : World) (hl : s.length ≤ 1099511627776) : Cal Tryz.prog 82 [str s, .int .i64 bit] w0 (fun v w' => Upd [] w0 w' ∧ v = str (turnE s bit)) := by
  refine Cal.mk' (by kernel_rfl) Tryz.func82 rfl rfl fun hS => ?_
  by_cases h0 : s = []
  · subst h0
    repeat' (first
      | (show WL _ _ _ _ _ _ _; first
        | refine WL.pure rfl rfl rfl rfl ?_
        | refine WL.nil ?_)
      | (show WC _ _ _ _ _ _; first
        | refine WC.seq ?_
        | refine WC.region ?_
        | refine WC.ret ?_
        | refine WC.condT rfl (by decide) ?_)
      | refine seqQ_n ?_
      | refine seqQ_r ?_)
    exact fin1r rfl rfl ⟨hS.upd, rfl⟩
  · have hpos : 0 < s.length := by
      rcases Nat.eq_zero_or_pos s.length with h | h
      · exact absurd (List.eq_nil_of_length_eq_zero h) h0
      · exact h
    have hn8 : (0 : Int) < 8 * (s.length : Int) := by omega
    have hb := tmod_bound bit hn8
    have he0 := Int.emod_nonneg bit (show (8 * (s.length : Int)) ≠ 0 by omega)
    have he1 := Int.emod_lt_of_pos bit hn8
    obtain ⟨k, hk⟩ : ∃ k : Nat, bit % (8 * (s.length : Int)) = (k : Int) := ⟨_, (Int.toNat_of_nonneg he0).symm⟩
    have hkk : turnK s bit = k := by unfold turnK; rw [hk]; rfl
    have hk8 : k / 8 < s.length := by omega
    have hm := turn_byte s[k / 8] (k % 8) (by omega)
    have hT : turnE s bit = s.set (k / 8) (UInt8.ofNat (s[k / 8].toNat ^^^ 2 ^ (k % 8))) := by unfold turnE; rw [hkk, List.getElem?_eq_getElem hk8]
    have hj : s[k / 8]? = some s[k / 8] := List.getElem?_eq_getElem hk8
    rw [hT]
    generalize s[k / 8] = c at *
    generalize UInt8.ofNat (c.toNat ^^^ 2 ^ (k % 8)) = c' at *
    clear hT hkk
    have q1 : ((k : Int) / 8) = ((k / 8 : Nat) : Int) := rfl
    have q2 : ((k : Int) % 8) = ((k % 8 : Nat) : Int) := rfl
    repeat' (first
      | (show WL _ _ _ _ _ _ _; first
        | refine WL.pure rfl rfl rfl rfl ?_
        | refine WL.nil ?_
        | refine WL.add rfl rfl rfl (by omega) rfl rfl rfl ?_
        | (refine WL.mul rfl rfl rfl (by omega) rfl rfl rfl ?_)
        | (refine WL.remT rfl rfl rfl hn8 rfl rfl rfl ?_; rw [tmod_twice bit hn8, hk])
        | (refine WL.remT rfl rfl rfl hn8 rfl rfl rfl ?_)
        | (refine WL.s2b hS rfl rfl rfl rfl rfl rfl rfl ?_; intro w b cap hcap hS)
        | (refine WL.b2sBs hS rfl rfl rfl rfl (by repeat (first | exact List.Mem.head _ | apply List.Mem.tail)) (by rw [List.length_set]) rfl rfl rfl ?_))
      | (show WC _ _ _ _ _ _; first
        | refine WC.seq ?_
        | refine WC.region ?_
        | refine WC.skip ?_
        | refine WC.ret ?_
        | (show WC _ _ (Code.region _ (List.toArray [_, _, _, _, _, _, _, _, _, _, _]) true) _ _ _; refine WC.drawV hS [0,1,2,3,4,5,6,7,8,9] [0,1,2,3,4,5,6,7,8,9] 10 [] (by kernel_rfl) (by kernel_rfl) ?_; clear hS; intro w hS hM)
        | refine WC.condF rfl (decide_eq_false (by first | with_reducible assumption | omega)) ?_)
      | (show WD _ _ _ _ _ _ _ _ _; first
        | refine WD.pure rfl rfl rfl rfl rfl ?_
        | refine WD.nil ?_
        | (refine WD.quo rfl rfl rfl (by omega) (by omega) (by omega) rfl rfl rfl rfl ?_; rw [q1])
        | (refine WD.rem rfl rfl rfl (by omega) (by omega) rfl rfl rfl rfl ?_; rw [q2])
        | (refine WD.shl rfl rfl rfl (by omega) rfl rfl rfl rfl ?_)
        | (refine WD.load rfl rfl (LdOk.bs (by repeat (first | exact List.Mem.head _ | apply List.Mem.tail)) hj rfl ⟨_, rfl⟩) rfl rfl rfl rfl ?_)
        | (refine WD.pivBs hS rfl rfl (vint hm) (by repeat (first | exact Repl.here | apply Repl.there)) hk8 rfl rfl rfl rfl ?_; clear hS; intro w hS hM)
        | refine WD.index rfl rfl rfl rfl (by first | with_reducible assumption | omega) rfl rfl rfl rfl rfl ?_)
      | refine seqQ_n ?_)
    exact fin1r rfl rfl ⟨hS.upd, rfl⟩
def Dk.rot (D : Dk) (p : List UInt8) (bit : Int) : Int × Dk := if D.file p ≠ 0 then (D.file p, D) else (0, D.set p { D.at p with data := turnE (D.at p).data bit, kept := turnE (D.at p).kept bit })
set_option maxHeartbeats 4000000 in
set_option maxRecDepth 100000 in
theorem rot_c {q mb lb : Nat} {D : Dk} (p : List UInt8) (bit : Int) {w0 : World} (hc : (dkC q mb lb D).holds w0) (hi : inB (dkC q mb lb D) w0) (hl : p.length ≤ 1099511627) (hdl : (D.at p).data.length ≤ 1099511627776) (hkl : (D.at p).kept.length ≤ 1099511627776) :
    Cal Tryz.prog 22 [.pointer (some ⟨q, 0, none⟩), str p, .int .i64 bit] w0 (fun v w' => v = .int .i64 (D.rot p bit).1 ∧ Mut w0 w' (dkC q mb lb D) (dkC q mb lb (D.rot p bit).2)) := by
  refine Cal.mkM hc hi (by kernel_rfl) Tryz.func22 rfl rfl fun hS => ?_
  by_cases he : D.file p = 0
  · have hR : D.rot p bit = (0, D.set p { D.at p with data := turnE (D.at p).data bit, kept := turnE (D.at p).kept bit }) := by unfold Dk.rot; rw [if_neg (by simp [he])]
    rw [hR]
    have hlk := look_it D.items p
    have hat : D.at p = (mget D.items p).getD It0 := rfl
    rw [← hat] at hlk
    clear hat hR
    generalize D.at p = it at *
    obtain ⟨dir, dat, kept, loose, anew, stamp⟩ := it
    dsimp only at *
    repeat' (first
      | (show WL _ _ _ _ _ _ _; first
        | refine WL.pure rfl rfl rfl rfl ?_
        | refine WL.nil ?_
        | refine WL.load hS rfl rfl (LdOk.box (by repeat (first | exact List.Mem.head _ | apply List.Mem.tail)) rfl) rfl rfl rfl ?_
        | (refine WL.calls hS rfl rfl (dfile_c p (hS.holds (dkC q mb lb D) (by repeat (first | exact List.Mem.head _ | apply List.Mem.tail))).1 hl) rfl rfl rfl ?_; rintro v w rfl hS; rw [he])
        | (refine WL.load hS rfl rfl (LdOk.dk (D := D) (by repeat (first | exact List.Mem.head _ | apply List.Mem.tail)) rfl) rfl rfl rfl ?_)
        | (refine WL.mget hS rfl rfl rfl rfl (MapOk.dk (D := D) (by repeat (first | exact List.Mem.head _ | apply List.Mem.tail))) hlk rfl rfl rfl ?_)
        | (refine WL.callL (D := [dkC q mb lb D]) hS (by repeat (first | exact Pulls.nil | (apply Pulls.cons; focus (repeat (first | exact Pull.here | apply Pull.there))))) rfl rfl (fun hI => dset_c p ⟨dir, turnE dat bit, turnE kept bit, loose, anew, stamp⟩ hI.head hI.headB) rfl rfl rfl ?_; rintro v w ⟨rfl, hm⟩ hS; replace hS := hS _ (.of1 hm); clear hm)
        | (refine WL.store hS rfl rfl rfl (by repeat (first | exact StB.here rfl | apply StB.there)) rfl rfl rfl ?_; intro w hS)
        | (refine WL.alloc hS rfl rfl rfl rfl rfl rfl ?_; intro w b hS))
      | (show WC _ _ _ _ _ _; first
        | refine WC.seq ?_
        | refine WC.region ?_
        | refine WC.skip ?_
        | refine WC.ret ?_
        | (show WC _ _ (Code.region _ (List.toArray [_, _, _, _, _, _, _, _, _, _, _, _]) true) _ _ _; refine WC.drawV hS [0,1,2,4,5,6,8,10] [0,1,2,4,5,6,3,8,7] 9 [10,11] (by kernel_rfl) (by kernel_rfl) ?_; clear hS; intro w hS hM)
        | refine WC.condF rfl (by decide) ?_)
      | (show WD _ _ _ _ _ _ _ _ _; first
        | refine WD.pure rfl rfl rfl rfl rfl ?_
        | refine WD.nil ?_
        | refine WD.load rfl rfl (LdOk.box (by repeat (first | exact List.Mem.head _ | apply List.Mem.tail)) rfl) rfl rfl rfl rfl ?_
        | (refine WD.calls hS hM rfl rfl (turn_c dat bit _ hdl) rfl rfl rfl rfl rfl ?_; clear hS; rintro v w rfl hS)
        | (refine WD.calls hS hM rfl rfl (turn_c kept bit _ hkl) rfl rfl rfl rfl rfl ?_; clear hS; rintro v w rfl hS)
        | (refine WD.pivStore hS rfl rfl rfl (by repeat (first | exact StB.here rfl | apply StB.there)) rfl rfl rfl rfl ?_; clear hS; intro w hS hM)
        | (refine WD.store hS rfl rfl rfl (by repeat (first | exact StB.here rfl | apply StB.there)) rfl More.none rfl rfl rfl rfl ?_; clear hS; intro w hS hM))
      | refine seqQ_n ?_)
    exact fin1r rfl rfl ⟨rfl, hS.mutOf (by repeat (first | exact List.Mem.head _ | apply List.Mem.tail))⟩
  · have hR : D.rot p bit = (D.file p, D) := by unfold Dk.rot; rw [if_pos he]
    rw [hR]
    repeat' (first
      | (show WL _ _ _ _ _ _ _; first
        | refine WL.pure rfl rfl rfl rfl ?_
        | refine WL.nil ?_
        | (refine WL.calls hS rfl rfl (dfile_c p (hS.holds (dkC q mb lb D) (by repeat (first | exact List.Mem.head _ | apply List.Mem.tail))).1 hl) rfl rfl rfl ?_; rintro v w rfl hS))
      | (show WC _ _ _ _ _ _; first
        | refine WC.seq ?_
        | refine WC.region ?_
        | refine WC.ret ?_
        | refine WC.condT rfl (decide_eq_true (by first | with_reducible assumption | omega)) ?_)
      | refine seqQ_n ?_
      | refine seqQ_r ?_)
    exact fin1r rfl rfl ⟨rfl, hS.mutOf (by repeat (first | exact List.Mem.head _ | apply List.Mem.tail))⟩
end Go.Proofs.YtccfiohagbneaaaGreatDoor

/- What is proved: what the reference's Turn of a bit answers. Conditions: texts of bounded length. -/
set_option linter.unusedSimpArgs false
set_option linter.unusedVariables false
namespace Go.Proofs.YtccfiohagbneaaaGreatDoor
open Go Go.J Go.RowKit
theorem turn_num : ∀ c < 256, ∀ m < 8, (c ^^^ 2 ^ m) = if c / 2 ^ m % 2 = 1 then c - 2 ^ m else c + 2 ^ m := by decide +kernel
theorem turn_low : ∀ c < 256, ∀ m < 8, c / 2 ^ m % 2 = 1 → 2 ^ m ≤ c := by decide +kernel
theorem tmod_low (a : Int) {n : Int} (hn : 0 < n) (h : Int.tmod a n < 0) : Int.tmod a n + n = a % n := by
  have h1 := tmod_twice a hn
  have h2 := tmod_bound a hn
  rw [Int.tmod_eq_of_lt (by omega) (by omega)] at h1
  exact h1
theorem tmod_up (a : Int) {n : Int} (hn : 0 < n) (h : ¬ Int.tmod a n < 0) : Int.tmod a n = a % n := by
  have h1 := tmod_twice a hn
  have h2 := tmod_bound a hn
  rw [Int.tmod_eq_emod_of_nonneg (by omega), Int.add_emod_right, Int.emod_eq_of_lt (by omega) (by omega)] at h1
  exact h1
theorem set_parts (s : List UInt8) {k : Nat} (h : k < s.length) (c : UInt8) : s.take k ++ [c] ++ s.drop (k + 1) = s.set k c := by
  rw [List.set_eq_take_append_cons_drop, if_pos h, List.append_assoc]; rfl
set_option maxHeartbeats 16000000 in
set_option maxRecDepth 100000 in
theorem rturn_c (s : List UInt8) (bit : Int) (w0 : World) (hl : s.length ≤ 1099511627776) : Cal Tryz.prog 85 [str s, .int .i64 bit] w0 (fun v w' => Upd [] w0 w' ∧ v = str (turnE s bit)) := by
  refine Cal.mk' (by kernel_rfl) Tryz.func85 rfl rfl fun hS => ?_
  by_cases h0 : s = []
  · subst h0
    repeat' (first
      | (show WL _ _ _ _ _ _ _; first
        | refine WL.pure rfl rfl rfl rfl ?_
        | refine WL.nil ?_)
      | (show WC _ _ _ _ _ _; first
        | refine WC.seq ?_
        | refine WC.region ?_
        | refine WC.ret ?_
        | refine WC.condT rfl (by decide) ?_)
      | refine seqQ_n ?_
      | refine seqQ_r ?_)
    exact fin1r rfl rfl ⟨hS.upd, rfl⟩
  · have hpos : 0 < s.length := List.length_pos_iff.2 h0
    have hn8 : (0 : Int) < 8 * (s.length : Int) := by omega
    have he0 := Int.emod_nonneg bit (show (8 * (s.length : Int)) ≠ 0 by omega)
    have he1 := Int.emod_lt_of_pos bit hn8
    have htb := tmod_bound bit hn8
    have htl := tmod_low bit hn8
    have htu := tmod_up bit hn8
    obtain ⟨k, hk⟩ : ∃ k : Nat, bit % (8 * (s.length : Int)) = (k : Int) := ⟨_, (Int.toNat_of_nonneg he0).symm⟩
    have hkk : turnK s bit = k := by unfold turnK; rw [hk]; rfl
    have hk8 : k / 8 < s.length := by omega
    have hT : turnE s bit = s.set (k / 8) (UInt8.ofNat (s[k / 8].toNat ^^^ 2 ^ (k % 8))) := by unfold turnE; rw [hkk, List.getElem?_eq_getElem hk8]
    have hj : s[k / 8]? = some s[k / 8] := List.getElem?_eq_getElem hk8
    have hsp := fun c => set_parts s hk8 c
    rw [hT]
    rw [hk] at htl htu he1
    generalize s[k / 8] = c at *
    clear hT hkk hk he0
    have q1 : ((k : Int) / 8) = ((k / 8 : Nat) : Int) := rfl
    have q2 : ((k : Int) % 8) = ((k % 8 : Nat) : Int) := rfl
    have hm8 : k % 8 < 8 := by omega
    generalize k / 8 = q at *
    generalize k % 8 = m at *
    have hc := c.toNat_lt
    have hnum := turn_num c.toNat hc m hm8
    have hlow := turn_low c.toNat hc m hm8
    have hp := pow_lt256 hm8
    have hx256 : c.toNat ^^^ 2 ^ m < 256 := Nat.xor_lt_two_pow (n := 8) (by omega) (by omega)
    generalize c.toNat ^^^ 2 ^ m = x at *
    have hinv : ∀ i, i ≤ m → 2 ^ i ≤ 128 := fun i hi => by
      have : (2 : Nat) ^ i ≤ 2 ^ 7 := Nat.pow_le_pow_right (by omega) (by omega)
      omega
    generalize ht : Int.tmod bit (8 * (s.length : Int)) = t at *
    have hcase : (if t < 0 then t + 8 * (s.length : Int) else t) = (k : Int) := by
      split
      · exact htl (by assumption)
      · exact htu (by assumption)
    clear htl htu
    by_cases hneg : t < 0
    case' pos => rw [if_pos hneg] at hcase
    case' neg => rw [if_neg hneg] at hcase; subst hcase
    all_goals
      repeat' (first
        | (show WL _ _ _ _ _ _ _; first
          | (refine WL.add (a := t) (b := 8 * (s.length : Int)) rfl rfl rfl (by omega) rfl rfl rfl ?_; rw [hcase])
          | refine WL.pure rfl rfl rfl rfl ?_
          | refine WL.nil ?_
          | (refine WL.mul rfl rfl rfl (by omega) rfl rfl rfl ?_)
          | (refine WL.remT rfl rfl rfl hn8 rfl rfl rfl ?_; rw [ht]))
        | (show WC _ _ _ _ _ _; first
          | refine WC.seq ?_
          | refine WC.region ?_
          | refine WC.block ?_
          | refine WC.skip ?_
          | refine WC.condT rfl (decide_eq_true (by first | with_reducible assumption | omega)) ?_
          | refine WC.condF rfl (decide_eq_false (by first | with_reducible assumption | omega)) ?_)
        | refine seqQ_n ?_)
      refine WC.loop (σ := Nat) [0, 1] (fun i => [(6, .int .i64 ((2 ^ i : Nat) : Int)), (7, .int .i64 (i : Int))]) (fun i w => i ≤ m ∧ St w0 [] w [] [⟨w0, Old w0⟩]) (fun i => m - i) 0 ⟨Nat.zero_le _, hS⟩ ⟨rfl, rfl, trivial⟩ ?_
      clear hS
      rintro i g w ⟨hi, hS⟩
      show WC _ _ _ (lf _ [(6, .int .i64 ((2 ^ i : Nat) : Int)), (7, .int .i64 (i : Int))] _ _) _ _
      have hpw := hinv i hi
      by_cases hlt : i < m
      · have hsucc : ((2 ^ (i + 1) : Nat) : Int) = 2 * ((2 ^ i : Nat) : Int) := by rw [Nat.pow_succ]; omega
        generalize 2 ^ i = pw at *
        clear hnum hlow hinv
        repeat' (first
          | (show WL _ _ _ _ _ _ _; first
            | refine WL.pure rfl rfl rfl rfl ?_
            | refine WL.nil ?_
            | refine WL.add rfl rfl rfl (by omega) rfl rfl rfl ?_
            | (refine WL.rem rfl rfl rfl (by omega) (by omega) rfl rfl rfl ?_; rw [q2])
            | (refine WL.mul rfl rfl rfl (by omega) rfl rfl rfl ?_))
          | (show WC _ _ _ _ _ _; first
            | refine WC.seq ?_
            | refine WC.region ?_
            | refine WC.block ?_
            | refine WC.skip ?_
            | refine WC.condT rfl (decide_eq_true (by first | with_reducible assumption | omega)) ?_)
          | refine seqQ_n ?_
          | refine blkQ_n ?_)
        exact rndQ_n (i + 1) ⟨by omega, hS⟩ (by show m - (i + 1) < m - i; omega) ⟨vint hsucc.symm, vint (by omega), trivial⟩ ⟨rfl, rfl, trivial⟩
      · have hie : i = m := by omega
        subst hie
        have hone : 1 ≤ 2 ^ i := Nat.one_le_two_pow
        generalize 2 ^ i = pw at *
        have q3 : ((c.toNat : Int) / (pw : Int)) = ((c.toNat / pw : Nat) : Int) := rfl
        have hdle : c.toNat / pw ≤ c.toNat := Nat.div_le_self _ _
        generalize c.toNat / pw = dv at *
        clear hinv
        by_cases hd : dv % 2 = 1
        case' pos =>
          rw [if_pos hd] at hnum
          have hlw := hlow hd
          have hcell : IntKind.u8.wrap ((c.toNat : Int) - (pw : Int)) = (((UInt8.ofNat x).toNat : Nat) : Int) := by rw [Go.J.ofNat_toNat (by omega), IntKind.wrap_u8]; omega
        case' neg =>
          rw [if_neg hd] at hnum
          have hxx : x < 256 := hx256
          have hcell : IntKind.u8.wrap ((c.toNat : Int) + (pw : Int)) = (((UInt8.ofNat x).toNat : Nat) : Int) := by rw [Go.J.ofNat_toNat (by omega), IntKind.wrap_u8]; omega
        all_goals
          clear hlow hnum
          generalize UInt8.ofNat x = c' at *
          repeat' (first
            | (show WL _ _ _ _ _ _ _; first
              | refine WL.pure rfl rfl rfl rfl ?_
              | refine WL.nil ?_
              | refine WL.add rfl rfl rfl (by omega) rfl rfl rfl ?_
              | refine WL.sub rfl rfl rfl (by omega) rfl rfl rfl ?_
              | (refine WL.quo (a := (k : Int)) (b := 8) rfl rfl rfl (by omega) (by omega) (by omega) rfl rfl rfl ?_; rw [q1])
              | (refine WL.quo (a := (c.toNat : Int)) (b := (pw : Int)) rfl rfl rfl (by omega) (by omega) (by omega) rfl rfl rfl ?_; rw [q3])
              | (refine WL.rem (a := (k : Int)) rfl rfl rfl (by omega) (by omega) rfl rfl rfl ?_; rw [q2])
              | (refine WL.rem (a := (dv : Int)) rfl rfl rfl (by omega) (by omega) rfl rfl rfl ?_)
              | (refine WL.idxS rfl rfl rfl rfl hj rfl rfl rfl ?_)
              | refine WL.conv64 rfl rfl rfl (by omega) rfl rfl rfl ?_)
            | (show WC _ _ _ _ _ _; first
              | refine WC.seq ?_
              | refine WC.region ?_
              | refine WC.exit ?_
              | refine WC.ret ?_
              | (show WC _ _ (Code.region _ (List.toArray [_, _, _, _, _, _, _, _, _, _, _, _, _, _, _, _]) true) _ _ _; refine WC.drawS hS [0,1,2,3,4,5,8,9,10,11,12,13,14,15] [0,1,2,3,4,5,9,10,11,12,13,6,7,8,14,15] (by kernel_rfl) (by kernel_rfl) ?_; clear hS; intro w hS hM)
              | refine WC.condT rfl (decide_eq_true (by first | with_reducible assumption | omega)) ?_
              | refine WC.condF rfl (decide_eq_false (by first | with_reducible assumption | omega)) ?_)
            | (show WD _ _ _ _ _ _ _ _ _; first
              | refine WD.pure rfl rfl rfl rfl rfl ?_
              | refine WD.nil ?_
              | refine WD.add rfl rfl rfl (by omega) rfl rfl rfl rfl ?_
              | (refine WD.quo (a := (k : Int)) (b := 8) rfl rfl rfl (by omega) (by omega) (by omega) rfl rfl rfl rfl ?_; rw [q1])
              | (refine WD.b2sBox (s := [c']) hS hM rfl rfl (by kernel_rfl) rfl (by repeat (first | exact List.Mem.head _ | apply List.Mem.tail)) (congrArg (fun x => [Value.int .u8 x]) hcell) rfl (by decide) rfl rfl rfl rfl rfl ?_)
              | (refine WD.highS (j := q) rfl rfl rfl rfl (by omega) rfl rfl rfl rfl ?_)
              | (refine WD.lowS (j := q + 1) rfl rfl rfl (by first | rfl | exact vint (show _ = ((q + 1 : Nat) : Int) by omega)) (by omega) rfl rfl rfl rfl ?_)
              | (refine WD.cat rfl rfl rfl (by first | (simp; omega) | fail) rfl rfl rfl rfl ?_)
              | (refine WD.slit hS hM rfl rfl rfl rfl rfl rfl rfl ?_; intro w b hS hM))
            | refine seqQ_n ?_
            | refine seqQ_x ?_
            | refine blkQ_hit rfl ?_
            | refine rndQ_x ?_)
          exact fin1r rfl rfl ⟨hS.upd, congrArg str (hsp c')⟩
end Go.Proofs.YtccfiohagbneaaaGreatDoor

/- What is proved: what the reference's disk answers and does: New, Read, Rot. Conditions: a disk of bounded size. -/
set_option linter.unusedSimpArgs false
set_option linter.unusedVariables false
namespace Go.Proofs.YtccfiohagbneaaaGreatDoor
open Go Go.J Go.RowKit
set_option maxHeartbeats 4000000 in
set_option maxRecDepth 100000 in
theorem rfnew_c (w0 : World) : Cal Tryz.prog 10 [] w0 (fun v w' => Upd [] w0 w' ∧ ∃ b fp, v = .pointer (some ⟨b, 0, none⟩) ∧ New w0 w' (rfC b Dk0 fp)) := by
  refine Cal.mk' (by kernel_rfl) Tryz.func10 rfl rfl fun hS => ?_
  repeat' (first
    | (show WL _ _ _ _ _ _ _; first
      | refine WL.pure rfl rfl rfl rfl ?_
      | refine WL.nil ?_
      | (refine WL.box hS rfl rfl rfl rfl rfl ?_; intro w b hS)
      | refine WL.build rfl rfl rfl rfl rfl ?_)
    | (show WC _ _ _ _ _ _; first
      | refine WC.seq ?_
      | refine WC.region ?_
      | refine WC.ret ?_)
    | refine seqQ_n ?_)
  have hS := hS.nilRow 110 7
  have hS := St.objClose (φ := rfφ b Dk0) (hS.pulls (D := rfL b none 0 [] Dk0) (by repeat (first | exact Pulls.nil | (apply Pulls.cons; focus (repeat (first | exact Pull.here | apply Pull.there)))))) ⟨none, 0, [], RepL.nil, rfl⟩
  exact fin1r rfl rfl ⟨hS.upd, b, _, rfl, hS.newOf (List.Mem.head _)⟩
section
variable {dk : Nat} {A : Option Addr} {cap : Nat} {l : List Ri} {D : Dk} {w0 : World}
set_option maxHeartbeats 8000000 in
set_option maxRecDepth 100000 in
theorem rfread_c (p : List UInt8) (hR : RepL l D.items) (hA : RfAt dk A cap l D w0) (hl : l.length ≤ 1048576) : Cal Tryz.prog 28 [.pointer (some ⟨dk, 0, none⟩), str p] w0
    (fun v w' => Upd [] w0 w' ∧ v = .tuple #[str (D.read p).1, .int .i64 (D.read p).2]) := by
  refine Cal.mk' (by kernel_rfl) Tryz.func28 rfl rfl fun hS => ?_
  have hb := hA.box
  have hkc := fun (w : World) (h : RfAt dk A cap l D w) => rfkind_c p hR h hl
  unfold Dk.read
  cases hg : mget D.items p with
  | none =>
    have hh : D.has p = false := by unfold Dk.has; rw [hg]; rfl
    rw [kind_none hg] at hkc
    rw [hh]
    generalize D.down = dn at *
    cases dn
    all_goals
      repeat' (first
        | (show WL _ _ _ _ _ _ _; first
          | refine WL.pure rfl rfl rfl rfl ?_
          | refine WL.nil ?_
          | (refine WL.load hS rfl rfl (LdOk.old hb (by repeat (first | exact List.Mem.head _ | apply List.Mem.tail)) rfl) rfl rfl rfl ?_)
          | (refine WL.calls hS rfl rfl (hkc _ (St.rfOld hS hA (by repeat (first | exact List.Mem.head _ | apply List.Mem.tail)))) rfl rfl rfl ?_; rintro v w rfl hS))
        | (show WC _ _ _ _ _ _; first
          | refine WC.seq ?_
          | refine WC.region ?_
          | refine WC.skip ?_
          | refine WC.ret ?_
          | refine WC.condT rfl (by with_reducible rfl) ?_
          | refine WC.condF rfl (by with_reducible rfl) ?_
          | refine WC.condT rfl (by decide) ?_)
        | refine seqQ_n ?_
        | refine seqQ_r ?_)
      exact fin2r rfl rfl rfl ⟨hS.upd, rfl⟩
  | some it =>
    have hat : D.at p = it := by unfold Dk.at; rw [hg]; rfl
    have hh : D.has p = true := by unfold Dk.has; rw [hg]; rfl
    rw [kind_some hg] at hkc
    rw [hat, hh, if_neg (show ¬ (true = false) by decide)]
    obtain ⟨i, hi⟩ := List.getElem?_of_mem (hR.at_ hg)
    have hpl := fun (w : World) (h : RfAt dk A cap l D w) => rfplaceY_c p hR hg h hl
    obtain ⟨rb0, ro0, es0, hA0, -⟩ := hA.row.at_ (List.getElem?_eq_some_iff.1 hi).1
    subst hA0
    obtain ⟨dir, dat, kept, loose, anew, stamp⟩ := it
    dsimp only at *
    clear hi
    generalize D.down = dn at *
    cases dn
    case' false => cases dir
    all_goals
      repeat' (first
        | (show WL _ _ _ _ _ _ _; first
          | refine WL.pure rfl rfl rfl rfl ?_
          | refine WL.nil ?_
          | (refine WL.load hS rfl rfl (LdOk.old hb (by repeat (first | exact List.Mem.head _ | apply List.Mem.tail)) rfl) rfl rfl rfl ?_)
          | (refine WL.calls hS rfl rfl (hkc _ (St.rfOld hS hA (by repeat (first | exact List.Mem.head _ | apply List.Mem.tail)))) rfl rfl rfl ?_; rintro v w rfl hS))
        | (show WC _ _ _ _ _ _; first
          | refine WC.seq ?_
          | refine WC.region ?_
          | refine WC.skip ?_
          | refine WC.ret ?_
          | (show WC _ _ (Code.region _ (List.toArray [_, _, _, _, _, _, _, _, _, _, _, _]) true) _ _ _; refine WC.drawS hS [0,1,2,3,4,5,7,8,9,10,11] [0,1,2,3,4,5,6,7,8,9,10,11] (by kernel_rfl) (by kernel_rfl) ?_; clear hS; intro w hS hM)
          | refine WC.condT rfl (by with_reducible rfl) ?_
          | refine WC.condF rfl (by with_reducible rfl) ?_
          | refine WC.condF rfl (decide_eq_false (by first | with_reducible assumption | omega)) ?_
          | refine WC.condT rfl (by first | (simp; done) | (simp; omega)) ?_
          | refine WC.condF rfl (by first | (simp; done) | (simp; omega)) ?_)
        | (show WD _ _ _ _ _ _ _ _ _; first
          | refine WD.pure rfl rfl rfl rfl rfl ?_
          | refine WD.nil ?_
          | (refine WD.load rfl rfl (LdOk.old hb (by repeat (first | exact List.Mem.head _ | apply List.Mem.tail)) rfl) rfl rfl rfl rfl ?_)
          | (refine WD.calls hS hM rfl rfl (hpl _ (St.rfOld hS hA (by repeat (first | exact List.Mem.head _ | apply List.Mem.tail)))) rfl rfl rfl rfl rfl ?_; clear hS; rintro v w ⟨i, hli, rfl⟩ hS; have hil := (List.getElem?_eq_some_iff.1 hli).1; obtain ⟨rb, ro, es, hAe, hF, hr, hes⟩ := hA.row.at_ hil; have hes : es = encRi l[i] := hes; subst hes; rw [(List.getElem?_eq_some_iff.1 hli).2] at hr; cases hAe; replace hr : w0.rangeAt _ (_ + i * 7) [str p, .bool false, str dat, str kept, .bool loose, .bool anew, .int .i64 stamp] := hr)
          | (refine WD.load rfl rfl (LdOk.snap (off := 2) hF hr (by repeat (first | exact List.Mem.head _ | apply List.Mem.tail)) rfl) rfl rfl rfl rfl ?_)
          | refine WD.index rfl rfl rfl rfl (by first | with_reducible assumption | omega) rfl rfl rfl rfl rfl ?_)
        | refine seqQ_n ?_
        | refine seqQ_r ?_)
      exact fin2r rfl rfl rfl ⟨hS.upd, rfl⟩
end
set_option maxHeartbeats 16000000 in
set_option maxRecDepth 100000 in
theorem rfrot_c {dk : Nat} {D : Dk} {fp : List Nat} (p : List UInt8) (bit : Int) {w0 : World} (hi : InL w0 [rfC dk D fp]) (hp : p.length ≤ 1099511627) (hn : D.items.length ≤ 1048576) (hdl : (D.at p).data.length ≤ 1099511627776) (hkl : (D.at p).kept.length ≤ 1099511627776) :
    Cal Tryz.prog 23 [.pointer (some ⟨dk, 0, none⟩), str p, .int .i64 bit] w0 (fun v w' => v = .int .i64 (D.rot p bit).1 ∧ ∃ fp', MutL w0 w' [rfC dk D fp] [rfC dk (D.rot p bit).2 fp']) := by
  refine Cal.mkL hi (by kernel_rfl) Tryz.func23 rfl rfl fun hS => ?_
  obtain ⟨_, ⟨A, cap, l, hR, rfl⟩, hfp, hS⟩ := St.objOpen hS
  replace hS : St w0 _ w0 (rfL dk A cap l D) _ := hS
  have hl : l.length ≤ 1048576 := by rw [hR.len]; exact hn
  have hth := fun (w : World) (h : RfAt dk A cap l D w) => rfthere_c p hR h hl hp
  rw [there_file] at hth
  unfold Dk.rot
  by_cases he : D.file p = 0
  · rw [if_neg (fun e => e he)]
    rw [he] at hth
    obtain ⟨hmay, it, hg, hat, hdir⟩ := file_get he
    rw [hat] at hdl hkl ⊢
    have hpl := fun (w : World) (h : RfAt dk A cap l D w) => rfplaceY_c p hR hg h hl
    obtain ⟨kg, ko, rfl⟩ := hS.own_addr (A := A) (n := l.length) (by repeat (first | exact List.Mem.head _ | apply List.Mem.tail)) (rf_pos hR hg)
    obtain ⟨dir, dat, kept, loose, anew, stamp⟩ := it
    dsimp only at hdir hdl hkl ⊢
    subst hdir
    have htd := fun w => rturn_c dat bit w hdl
    have htk := fun w => rturn_c kept bit w hkl
    generalize turnE dat bit = dat2 at *
    generalize turnE kept bit = kept2 at *
    have hput := fun (w : World) (hI : InL w (rfL dk (some ⟨kg, ko, none⟩) cap l { D with stamps := IntKind.i64.wrap (D.stamps + 1) })) => rfput_c ⟨p, ⟨false, dat2, kept2, loose, anew, IntKind.i64.wrap (D.stamps + 1)⟩⟩ (D := { D with stamps := IntKind.i64.wrap (D.stamps + 1) }) hR hI hl
    repeat' (first
      | (show WL _ _ _ _ _ _ _; first
        | refine WL.pure rfl rfl rfl rfl ?_
        | refine WL.nil ?_
        | refine WL.load hS rfl rfl (LdOk.box (by repeat (first | exact List.Mem.head _ | apply List.Mem.tail)) rfl) rfl rfl rfl ?_
        | (refine WL.calls hS rfl rfl (hth _ (St.rfAt hS (by repeat (first | exact List.Mem.head _ | apply List.Mem.tail)) (by repeat (first | exact List.Mem.head _ | apply List.Mem.tail)))) rfl rfl rfl ?_; rintro v w rfl hS)
        | (refine WL.callL (D := rfL dk (some ⟨kg, ko, none⟩) cap l D) hS (by repeat (first | exact Pulls.nil | (apply Pulls.cons; focus (repeat (first | exact Pull.here | apply Pull.there))))) rfl rfl (fun hI => rfstamped_c ⟨p, ⟨false, dat2, kept2, loose, anew, stamp⟩⟩ hI) rfl rfl rfl ?_; rintro v w ⟨rfl, hm⟩ hS; replace hS := hS _ hm; clear hm)
        | (refine WL.callL (D := rfL dk (some ⟨kg, ko, none⟩) cap l { D with stamps := IntKind.i64.wrap (D.stamps + 1) }) hS (by repeat (first | exact Pulls.nil | (apply Pulls.cons; focus (repeat (first | exact Pull.here | apply Pull.there))))) rfl rfl (fun hI => hput _ hI) rfl rfl rfl ?_; rintro v w ⟨rfl, A', cap', l', hR', hm⟩ hS; replace hS := hS _ hm; clear hm))
      | (show WC _ _ _ _ _ _; first
        | refine WC.seq ?_
        | refine WC.region ?_
        | refine WC.skip ?_
        | refine WC.ret ?_
        | (show WC _ _ (Code.region _ (List.toArray [_, _, _, _, _, _, _, _, _, _, _]) true) _ _ _; refine WC.drawP hS [0,1,2,3,4,5,7,8] [0,1,2,3,4,5] (.two 6 [7,8,9,10] .nil 9 [6,7,8,10] .nil) (by kernel_rfl) (by kernel_rfl) ?_; clear hS; intro w hS hM)
        | (show WC _ _ (Code.region _ (List.toArray [_, _, _, _, _, _, _, _, _, _, _, _]) true) _ _ _; refine WC.drawV hS [0,1,2,4,5,6,8,10] [0,1,2,4,5,6,3,8,7] 9 [10,11] (by kernel_rfl) (by kernel_rfl) ?_; clear hS; intro w hS hM)
        | refine WC.condF rfl (by decide) ?_)
      | (show WD _ _ _ _ _ _ _ _ _; first
        | refine WD.pure rfl rfl rfl rfl rfl ?_
        | refine WD.nil ?_
        | refine WD.load rfl rfl (LdOk.box (by repeat (first | exact List.Mem.head _ | apply List.Mem.tail)) rfl) rfl rfl rfl rfl ?_
        | (refine WD.fork ?_ ?_)
        | (refine WD.alloc (t := 110) hS hM rfl rfl rfl rfl rfl rfl rfl rfl ?_; clear hS hM; intro w b hS hM)
        | (refine WD.calls hS hM rfl rfl (hpl _ (St.rfAt hS (by repeat (first | exact List.Mem.head _ | apply List.Mem.tail)) (by repeat (first | exact List.Mem.head _ | apply List.Mem.tail)))) rfl rfl rfl rfl rfl ?_; clear hS; rintro v w ⟨i, hli, rfl⟩ hS; have hil := (List.getElem?_eq_some_iff.1 hli).1)
        | (refine WD.calls hS hM rfl rfl (htd _) rfl rfl rfl rfl rfl ?_; clear hS; rintro v w rfl hS)
        | (refine WD.calls hS hM rfl rfl (htk _) rfl rfl rfl rfl rfl ?_; clear hS; rintro v w rfl hS)
        | (refine WD.pivStore hS rfl rfl rfl (by repeat (first | exact StB.here rfl | apply StB.there)) rfl rfl rfl rfl ?_; clear hS; intro w hS hM)
        | (refine WD.load rfl rfl (LdOk.ownElemE (enc := encRi) (k := i) (fun _ => rfl) (by repeat (first | exact List.Mem.head _ | apply List.Mem.tail)) hli rfl rfl) rfl rfl rfl rfl ?_)
        | (refine WD.store hS rfl rfl rfl (by repeat (first | exact StB.here rfl | apply StB.there)) rfl (by first | exact .refl _ _ | exact .chunk (.refl _ _) _ | exact .chunk (.chunk (.refl _ _) _) _ | exact More.none) rfl rfl rfl rfl ?_; clear hS hM; intro w hS hM)
        | refine WD.index rfl rfl rfl rfl (by first | with_reducible assumption | omega) rfl rfl rfl rfl rfl ?_)
      | (refine WDo.alloc (t := 110) hS hM rfl rfl rfl rfl rfl rfl rfl ?_; clear hS hM; intro w b hS hM)
      | (refine WDo.calls hS hM rfl rfl (hpl _ (St.rfAt hS (by repeat (first | exact List.Mem.head _ | apply List.Mem.tail)) (by repeat (first | exact List.Mem.head _ | apply List.Mem.tail)))) rfl rfl rfl rfl ?_; clear hS; rintro v w ⟨i, hli, rfl⟩ hS; have hil := (List.getElem?_eq_some_iff.1 hli).1)
      | refine seqQ_n ?_)
    all_goals
      have hS := St.objClose (φ := rfφ dk (D.set p ⟨false, dat2, kept2, loose, anew, stamp⟩)) (hS.pulls (D := rfL dk A' cap' l' (D.set p ⟨false, dat2, kept2, loose, anew, stamp⟩)) (by repeat (first | exact Pulls.nil | (apply Pulls.cons; focus (repeat (first | exact Pull.here | apply Pull.there)))))) ⟨A', cap', l', hR', rfl⟩
      exact fin1r rfl rfl ⟨rfl, _, hS.mutLp (by repeat (first | exact Pulls.nil | (apply Pulls.cons; focus (repeat (first | exact Pull.here | apply Pull.there)))))⟩
  · rw [if_pos he]
    repeat' (first
      | (show WL _ _ _ _ _ _ _; first
        | refine WL.pure rfl rfl rfl rfl ?_
        | refine WL.nil ?_
        | (refine WL.calls hS rfl rfl (hth _ (St.rfAt hS (by repeat (first | exact List.Mem.head _ | apply List.Mem.tail)) (by repeat (first | exact List.Mem.head _ | apply List.Mem.tail)))) rfl rfl rfl ?_; rintro v w rfl hS))
      | (show WC _ _ _ _ _ _; first
        | refine WC.seq ?_
        | refine WC.region ?_
        | refine WC.ret ?_
        | refine WC.condT rfl (decide_eq_true (by first | with_reducible assumption | omega)) ?_)
      | refine seqQ_n ?_
      | refine seqQ_r ?_)
    have hS := St.objClose (φ := rfφ dk D) (hS.pulls (D := rfL dk A cap l D) (by repeat (first | exact Pulls.nil | (apply Pulls.cons; focus (repeat (first | exact Pull.here | apply Pull.there)))))) ⟨A, cap, l, hR, rfl⟩
    exact fin1r rfl rfl ⟨rfl, _, hS.mutLp (by repeat (first | exact Pulls.nil | (apply Pulls.cons; focus (repeat (first | exact Pull.here | apply Pull.there)))))⟩
end Go.Proofs.YtccfiohagbneaaaGreatDoor
