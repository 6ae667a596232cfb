/- What is proved: contracts and plain facts that the law leans on (texts put together). Conditions: as each names them. -/
import Derived.Test.YtccfiohagbneaaaGreatDoorM3
import Derived.Test.YtccfiohagbneaaaGreatDoorRows
import Derived.ProofKit
import Derived.ChangeSame
import Derived.OpenShut
import Derived.Deep.Slices
set_option linter.unusedSimpArgs false
set_option linter.unusedVariables false
/- What is proved: what the reference's disk does: Append and Sync. Conditions: a disk without limits, of bounded size. -/
set_option linter.unusedSimpArgs false
set_option linter.unusedVariables false
namespace Go.Proofs.YtccfiohagbneaaaGreatDoor
open Go Go.J Go.RowKit
theorem there_file (D : Dk) (p : List UInt8) : thereE D p = D.file p := by
  unfold thereE Dk.file Dk.kind
  cases D.has p <;> cases (D.at p).dir <;> simp
section
variable {dk : Nat} {A : Option Addr} {cap : Nat} {l : List Ri} {D : Dk} {w0 : World}
theorem rfplaceY_c (p : List UInt8) {it : It} (hR : RepL l D.items) (hg : mget D.items p = some it) (hA : RfAt dk A cap l D w0) (hl : l.length ≤ 1048576) :
    Cal Tryz.prog 84 [.pointer (some ⟨dk, 0, none⟩), str p] w0 (fun v w' => Upd [] w0 w' ∧ ∃ i : Nat, l[i]? = some ⟨p, it⟩ ∧ v = .int .i64 (i : Int)) :=
  (rfplace_c p hA hl).mono fun v w' ⟨hu, hp⟩ => ⟨hu, by
    rcases hp with ⟨hp, _⟩ | ⟨i, hi, he, hv⟩
    · exact absurd rfl (hp _ (hR.at_ hg))
    · refine ⟨i, ?_, hv⟩
      have h2 := hR.mem (List.getElem_mem hi)
      rw [he, hg] at h2
      have h3 := Option.some.inj h2
      rw [List.getElem?_eq_getElem hi]
      obtain ⟨q, j⟩ : ∃ x, x = l[i] := ⟨_, rfl⟩
      rw [← j] at he h3 ⊢
      cases q
      simp only at he h3
      rw [he, h3]⟩
theorem rf_pos {p : List UInt8} {it : It} (hR : RepL l D.items) (hg : mget D.items p = some it) : 0 < l.length := List.length_pos_of_mem (hR.at_ hg)
theorem file_get {p : List UInt8} (h : D.file p = 0) : D.may p 1 = 0 ∧ ∃ it, mget D.items p = some it ∧ D.at p = it ∧ it.dir = false := by
  unfold Dk.file Dk.has Dk.at at h
  by_cases hm : D.may p 1 = 0
  · rw [if_neg (fun e => e hm)] at h
    refine ⟨hm, ?_⟩
    unfold Dk.at
    cases hg : mget D.items p with
    | none => rw [hg] at h; simp at h
    | some it =>
      rw [hg] at h
      refine ⟨it, rfl, rfl, ?_⟩
      cases hd : it.dir
      · rfl
      · simp [hd] at h
  · rw [if_pos hm] at h; exact absurd h hm
end
theorem step_items (D : Dk) : D.step.items = D.items := by unfold Dk.step; split <;> rfl
set_option maxHeartbeats 16000000 in
set_option maxRecDepth 100000 in
theorem rfappend_c {dk : Nat} {D : Dk} {fp : List Nat} (p data : List UInt8) {w0 : World} (hi : InL w0 [rfC dk D fp]) (hp : p.length ≤ 1099511627) (hn : D.items.length ≤ 1048576) (hdl : (D.at p).data.length + data.length ≤ 1099511627776) :
    Cal Tryz.prog 25 [.pointer (some ⟨dk, 0, none⟩), str p, str data] w0 (fun v w' => v = .int .i64 (D.append p data).1 ∧ ∃ fp', MutL w0 w' [rfC dk D fp] [rfC dk (D.append p data).2 fp']) := by
  refine Cal.mkL hi (by kernel_rfl) Tryz.func25 rfl rfl fun hS => ?_
  obtain ⟨_, ⟨A, cap, l, hR, rfl⟩, hfp, hS⟩ := St.objOpen hS
  replace hS : St w0 _ w0 (rfL dk A cap l D) _ := hS
  have hl : l.length ≤ 1048576 := by rw [hR.len]; exact hn
  have hth := fun (w : World) (h : RfAt dk A cap l D w) => rfthere_c p hR h hl hp
  rw [there_file] at hth
  unfold Dk.append
  by_cases he : D.file p = 0
  · rw [if_neg (fun e => e he)]
    rw [he] at hth
    obtain ⟨hmay, it, hg, hat, hdir⟩ := file_get he
    have hat2 : D.step.at p = it := by unfold Dk.at; rw [step_items, hg]; rfl
    rw [hat] at hdl
    rw [hat2]
    by_cases hs : D.stepE = 0
    · rw [if_neg (fun e => e hs)]
      have hg2 : mget D.step.items p = some it := by rw [step_items]; exact hg
      have hR2 : RepL l D.step.items := by rw [step_items]; exact hR
      have hpl := fun (w : World) (h : RfAt dk A cap l D.step w) => rfplaceY_c p hR2 hg2 h hl
      obtain ⟨kg, ko, rfl⟩ := hS.own_addr (A := A) (n := l.length) (by repeat (first | exact List.Mem.head _ | apply List.Mem.tail)) (rf_pos hR hg)
      obtain ⟨dir, dat, kept, loose, anew, stamp⟩ := it
      dsimp only at hdir hdl ⊢
      subst hdir
      have hput := fun (w : World) (hI : InL w (rfL dk (some ⟨kg, ko, none⟩) cap l { D.step with stamps := IntKind.i64.wrap (D.step.stamps + 1) })) => rfput_c ⟨p, ⟨false, dat ++ data, kept, true, anew, IntKind.i64.wrap (D.step.stamps + 1)⟩⟩ (D := { D.step with stamps := IntKind.i64.wrap (D.step.stamps + 1) }) hR2 hI hl
      repeat' (first
        | (show WL _ _ _ _ _ _ _; first
          | refine WL.cat (a := dat) (b := data) rfl rfl rfl (by omega) rfl rfl rfl ?_
          | refine WL.pure rfl rfl rfl rfl ?_
          | refine WL.nil ?_
          | refine WL.load hS rfl rfl (LdOk.box (by repeat (first | exact List.Mem.head _ | apply List.Mem.tail)) rfl) rfl rfl rfl ?_
          | (refine WL.calls hS rfl rfl (hth _ (St.rfAt hS (by repeat (first | exact List.Mem.head _ | apply List.Mem.tail)) (by repeat (first | exact List.Mem.head _ | apply List.Mem.tail)))) rfl rfl rfl ?_; rintro v w rfl hS)
          | (refine WL.calls hS rfl rfl (rffits_c p _ (St.rfAt hS (by repeat (first | exact List.Mem.head _ | apply List.Mem.tail)) (by repeat (first | exact List.Mem.head _ | apply List.Mem.tail)))) rfl rfl rfl ?_; rintro v w rfl hS)
          | (refine WL.callL (D := rfL dk (some ⟨kg, ko, none⟩) cap l D) hS (by repeat (first | exact Pulls.nil | (apply Pulls.cons; focus (repeat (first | exact Pull.here | apply Pull.there))))) rfl rfl (fun hI => rfdone_c hI) rfl rfl rfl ?_; rintro v w ⟨rfl, hm⟩ hS; replace hS := hS _ hm; clear hm; rw [hs])
          | (refine WL.callL (D := rfL dk (some ⟨kg, ko, none⟩) cap l D.step) hS (by repeat (first | exact Pulls.nil | (apply Pulls.cons; focus (repeat (first | exact Pull.here | apply Pull.there))))) rfl rfl (fun hI => rfstamped_c ⟨p, ⟨false, dat ++ data, kept, true, anew, stamp⟩⟩ hI) rfl rfl rfl ?_; rintro v w ⟨rfl, hm⟩ hS; replace hS := hS _ hm; clear hm)
          | (refine WL.callL (D := rfL dk (some ⟨kg, ko, none⟩) cap l { D.step with stamps := IntKind.i64.wrap (D.step.stamps + 1) }) hS (by repeat (first | exact Pulls.nil | (apply Pulls.cons; focus (repeat (first | exact Pull.here | apply Pull.there))))) rfl rfl (fun hI => hput _ hI) rfl rfl rfl ?_; rintro v w ⟨rfl, A', cap', l', hR', hm⟩ hS; replace hS := hS _ hm; clear hm)
          | (refine WL.store hS rfl rfl rfl (by repeat (first | exact StB.here rfl | apply StB.there)) rfl rfl rfl ?_; intro w hS))
        | (show WC _ _ _ _ _ _; first
          | refine WC.seq ?_
          | refine WC.region ?_
          | refine WC.skip ?_
          | refine WC.ret ?_
          | (show WC _ _ (Code.region _ (List.toArray [_, _, _, _, _, _, _, _, _, _, _]) true) _ _ _; refine WC.drawP hS [0,1,2,3,4,5,7,8] [0,1,2,3,4,5] (.two 6 [7,8,9,10] .nil 9 [6,7,8,10] .nil) (by kernel_rfl) (by kernel_rfl) ?_; clear hS; intro w hS hM)
          | refine WC.condT rfl (by decide) ?_
          | refine WC.condF rfl (by decide) ?_)
        | (show WD _ _ _ _ _ _ _ _ _; first
          | refine WD.pure rfl rfl rfl rfl rfl ?_
          | refine WD.nil ?_
          | refine WD.load rfl rfl (LdOk.box (by repeat (first | exact List.Mem.head _ | apply List.Mem.tail)) rfl) rfl rfl rfl rfl ?_
          | (refine WD.fork ?_ ?_)
          | (refine WD.alloc (t := 110) hS hM rfl rfl rfl rfl rfl rfl rfl rfl ?_; clear hS hM; intro w b hS hM)
          | (refine WD.calls hS hM rfl rfl (hpl _ (St.rfAt hS (by repeat (first | exact List.Mem.head _ | apply List.Mem.tail)) (by repeat (first | exact List.Mem.head _ | apply List.Mem.tail)))) rfl rfl rfl rfl rfl ?_; clear hS; rintro v w ⟨i, hli, rfl⟩ hS; have hil := (List.getElem?_eq_some_iff.1 hli).1)
          | (refine WD.load rfl rfl (LdOk.ownElemE (enc := encRi) (k := i) (fun _ => rfl) (by repeat (first | exact List.Mem.head _ | apply List.Mem.tail)) hli rfl rfl) rfl rfl rfl rfl ?_)
          | (refine WD.store hS rfl rfl rfl (by repeat (first | exact StB.here rfl | apply StB.there)) rfl (by first | exact .refl _ _ | exact .chunk (.refl _ _) _ | exact .chunk (.chunk (.refl _ _) _) _) rfl rfl rfl rfl ?_; clear hS hM; intro w hS hM)
          | refine WD.index rfl rfl rfl rfl (by first | with_reducible assumption | omega) rfl rfl rfl rfl rfl ?_)
        | (refine WDo.alloc (t := 110) hS hM rfl rfl rfl rfl rfl rfl rfl ?_; clear hS hM; intro w b hS hM)
        | (refine WDo.calls hS hM rfl rfl (hpl _ (St.rfAt hS (by repeat (first | exact List.Mem.head _ | apply List.Mem.tail)) (by repeat (first | exact List.Mem.head _ | apply List.Mem.tail)))) rfl rfl rfl rfl ?_; clear hS; rintro v w ⟨i, hli, rfl⟩ hS; have hil := (List.getElem?_eq_some_iff.1 hli).1)
        | refine seqQ_n ?_)
      all_goals
        have hS := St.objClose (φ := rfφ dk (D.step.set p ⟨false, dat ++ data, kept, true, anew, stamp⟩)) (hS.pulls (D := rfL dk A' cap' l' (D.step.set p ⟨false, dat ++ data, kept, true, anew, stamp⟩)) (by repeat (first | exact Pulls.nil | (apply Pulls.cons; focus (repeat (first | exact Pull.here | apply Pull.there)))))) ⟨A', cap', l', hR', rfl⟩
        exact fin1r rfl rfl ⟨rfl, _, hS.mutLp (by repeat (first | exact Pulls.nil | (apply Pulls.cons; focus (repeat (first | exact Pull.here | apply Pull.there)))))⟩
    · rw [if_pos hs]
      have hR2 : RepL l D.step.items := by rw [step_items]; exact hR
      repeat' (first
        | (show WL _ _ _ _ _ _ _; first
          | refine WL.pure rfl rfl rfl rfl ?_
          | refine WL.nil ?_
          | (refine WL.calls hS rfl rfl (hth _ (St.rfAt hS (by repeat (first | exact List.Mem.head _ | apply List.Mem.tail)) (by repeat (first | exact List.Mem.head _ | apply List.Mem.tail)))) rfl rfl rfl ?_; rintro v w rfl hS)
          | (refine WL.calls hS rfl rfl (rffits_c p _ (St.rfAt hS (by repeat (first | exact List.Mem.head _ | apply List.Mem.tail)) (by repeat (first | exact List.Mem.head _ | apply List.Mem.tail)))) rfl rfl rfl ?_; rintro v w rfl hS)
          | (refine WL.callL (D := rfL dk A cap l D) hS (by repeat (first | exact Pulls.nil | (apply Pulls.cons; focus (repeat (first | exact Pull.here | apply Pull.there))))) rfl rfl (fun hI => rfdone_c hI) rfl rfl rfl ?_; rintro v w ⟨rfl, hm⟩ hS; replace hS := hS _ hm; clear hm))
        | (show WC _ _ _ _ _ _; first
          | refine WC.seq ?_
          | refine WC.region ?_
          | refine WC.skip ?_
          | refine WC.ret ?_
          | refine WC.condF rfl (by decide) ?_
          | refine WC.condF rfl (decide_eq_false (by first | with_reducible assumption | omega)) ?_)
        | refine seqQ_n ?_)
      have hS := St.objClose (φ := rfφ dk D.step) (hS.pulls (D := rfL dk A cap l D.step) (by repeat (first | exact Pulls.nil | (apply Pulls.cons; focus (repeat (first | exact Pull.here | apply Pull.there)))))) ⟨A, cap, l, hR2, rfl⟩
      exact fin1r rfl rfl ⟨rfl, _, hS.mutLp (by repeat (first | exact Pulls.nil | (apply Pulls.cons; focus (repeat (first | exact Pull.here | apply Pull.there)))))⟩
  · rw [if_pos he]
    repeat' (first
      | (show WL _ _ _ _ _ _ _; first
        | refine WL.pure rfl rfl rfl rfl ?_
        | refine WL.nil ?_
        | (refine WL.calls hS rfl rfl (hth _ (St.rfAt hS (by repeat (first | exact List.Mem.head _ | apply List.Mem.tail)) (by repeat (first | exact List.Mem.head _ | apply List.Mem.tail)))) rfl rfl rfl ?_; rintro v w rfl hS))
      | (show WC _ _ _ _ _ _; first
        | refine WC.seq ?_
        | refine WC.region ?_
        | refine WC.ret ?_
        | refine WC.condT rfl (decide_eq_true (by first | with_reducible assumption | omega)) ?_)
      | refine seqQ_n ?_
      | refine seqQ_r ?_)
    have hS := St.objClose (φ := rfφ dk D) (hS.pulls (D := rfL dk A cap l D) (by repeat (first | exact Pulls.nil | (apply Pulls.cons; focus (repeat (first | exact Pull.here | apply Pull.there)))))) ⟨A, cap, l, hR, rfl⟩
    exact fin1r rfl rfl ⟨rfl, _, hS.mutLp (by repeat (first | exact Pulls.nil | (apply Pulls.cons; focus (repeat (first | exact Pull.here | apply Pull.there)))))⟩
set_option maxHeartbeats 16000000 in
set_option maxRecDepth 100000 in
theorem rfsync_c {dk : Nat} {D : Dk} {fp : List Nat} (p : List UInt8) {w0 : World} (hi : InL w0 [rfC dk D fp]) (hp : p.length ≤ 1099511627) (hn : D.items.length ≤ 1048576) :
    Cal Tryz.prog 74 [.pointer (some ⟨dk, 0, none⟩), str p] w0 (fun v w' => v = .int .i64 (D.sync p).1 ∧ ∃ fp', MutL w0 w' [rfC dk D fp] [rfC dk (D.sync p).2 fp']) := by
  refine Cal.mkL hi (by kernel_rfl) Tryz.func74 rfl rfl fun hS => ?_
  obtain ⟨_, ⟨A, cap, l, hR, rfl⟩, hfp, hS⟩ := St.objOpen hS
  replace hS : St w0 _ w0 (rfL dk A cap l D) _ := hS
  have hl : l.length ≤ 1048576 := by rw [hR.len]; exact hn
  have hth := fun (w : World) (h : RfAt dk A cap l D w) => rfthere_c p hR h hl hp
  rw [there_file] at hth
  unfold Dk.sync
  by_cases he : D.file p = 0
  · rw [if_neg (fun e => e he)]
    rw [he] at hth
    obtain ⟨hmay, it, hg, hat, hdir⟩ := file_get he
    have hat2 : D.step.at p = it := by unfold Dk.at; rw [step_items, hg]; rfl
    rw [hat2]
    by_cases hs : D.stepE = 0
    · rw [if_neg (fun e => e hs)]
      have hg2 : mget D.step.items p = some it := by rw [step_items]; exact hg
      have hR2 : RepL l D.step.items := by rw [step_items]; exact hR
      have hpl := fun (w : World) (h : RfAt dk A cap l D.step w) => rfplaceY_c p hR2 hg2 h hl
      obtain ⟨kg, ko, rfl⟩ := hS.own_addr (A := A) (n := l.length) (by repeat (first | exact List.Mem.head _ | apply List.Mem.tail)) (rf_pos hR hg)
      obtain ⟨dir, dat, kept, loose, anew, stamp⟩ := it
      dsimp only at hdir ⊢
      subst hdir
      have hput := fun (w : World) (hI : InL w (rfL dk (some ⟨kg, ko, none⟩) cap l D.step)) => rfput_c ⟨p, ⟨false, dat, dat, false, false, stamp⟩⟩ (D := D.step) hR2 hI hl
      repeat' (first
        | (show WL _ _ _ _ _ _ _; first
          | refine WL.pure rfl rfl rfl rfl ?_
          | refine WL.nil ?_
          | refine WL.load hS rfl rfl (LdOk.box (by repeat (first | exact List.Mem.head _ | apply List.Mem.tail)) rfl) rfl rfl rfl ?_
          | (refine WL.calls hS rfl rfl (hth _ (St.rfAt hS (by repeat (first | exact List.Mem.head _ | apply List.Mem.tail)) (by repeat (first | exact List.Mem.head _ | apply List.Mem.tail)))) rfl rfl rfl ?_; rintro v w rfl hS)
          | (refine WL.callL (D := rfL dk (some ⟨kg, ko, none⟩) cap l D) hS (by repeat (first | exact Pulls.nil | (apply Pulls.cons; focus (repeat (first | exact Pull.here | apply Pull.there))))) rfl rfl (fun hI => rfdone_c hI) rfl rfl rfl ?_; rintro v w ⟨rfl, hm⟩ hS; replace hS := hS _ hm; clear hm; rw [hs])
          | (refine WL.callL (D := rfL dk (some ⟨kg, ko, none⟩) cap l D.step) hS (by repeat (first | exact Pulls.nil | (apply Pulls.cons; focus (repeat (first | exact Pull.here | apply Pull.there))))) rfl rfl (fun hI => hput _ hI) rfl rfl rfl ?_; rintro v w ⟨rfl, A', cap', l', hR', hm⟩ hS; replace hS := hS _ hm; clear hm)
          | (refine WL.store hS rfl rfl rfl (by repeat (first | exact StB.here rfl | apply StB.there)) rfl rfl rfl ?_; intro w hS))
        | (show WC _ _ _ _ _ _; first
          | refine WC.seq ?_
          | refine WC.region ?_
          | refine WC.skip ?_
          | refine WC.ret ?_
          | (show WC _ _ (Code.region _ (List.toArray [_, _, _, _, _, _, _, _, _, _, _]) true) _ _ _; refine WC.drawP hS [0,1,2,3,4,5,7,8] [0,1,2,3,4,5] (.two 6 [7,8,9,10] .nil 9 [6,7,8,10] .nil) (by kernel_rfl) (by kernel_rfl) ?_; clear hS; intro w hS hM)
          | refine WC.condT rfl (by decide) ?_
          | refine WC.condF rfl (by decide) ?_)
        | (show WD _ _ _ _ _ _ _ _ _; first
          | refine WD.pure rfl rfl rfl rfl rfl ?_
          | refine WD.nil ?_
          | refine WD.load rfl rfl (LdOk.box (by repeat (first | exact List.Mem.head _ | apply List.Mem.tail)) rfl) rfl rfl rfl rfl ?_
          | (refine WD.fork ?_ ?_)
          | (refine WD.alloc (t := 110) hS hM rfl rfl rfl rfl rfl rfl rfl rfl ?_; clear hS hM; intro w b hS hM)
          | (refine WD.calls hS hM rfl rfl (hpl _ (St.rfAt hS (by repeat (first | exact List.Mem.head _ | apply List.Mem.tail)) (by repeat (first | exact List.Mem.head _ | apply List.Mem.tail)))) rfl rfl rfl rfl rfl ?_; clear hS; rintro v w ⟨i, hli, rfl⟩ hS; have hil := (List.getElem?_eq_some_iff.1 hli).1)
          | (refine WD.load rfl rfl (LdOk.ownElemE (enc := encRi) (k := i) (fun _ => rfl) (by repeat (first | exact List.Mem.head _ | apply List.Mem.tail)) hli rfl rfl) rfl rfl rfl rfl ?_)
          | (refine WD.store hS rfl rfl rfl (by repeat (first | exact StB.here rfl | apply StB.there)) rfl (by first | exact .refl _ _ | exact .chunk (.refl _ _) _ | exact .chunk (.chunk (.refl _ _) _) _) rfl rfl rfl rfl ?_; clear hS hM; intro w hS hM)
          | refine WD.index rfl rfl rfl rfl (by first | with_reducible assumption | omega) rfl rfl rfl rfl rfl ?_)
        | (refine WDo.alloc (t := 110) hS hM rfl rfl rfl rfl rfl rfl rfl ?_; clear hS hM; intro w b hS hM)
        | (refine WDo.calls hS hM rfl rfl (hpl _ (St.rfAt hS (by repeat (first | exact List.Mem.head _ | apply List.Mem.tail)) (by repeat (first | exact List.Mem.head _ | apply List.Mem.tail)))) rfl rfl rfl rfl ?_; clear hS; rintro v w ⟨i, hli, rfl⟩ hS; have hil := (List.getElem?_eq_some_iff.1 hli).1)
        | refine seqQ_n ?_)
      all_goals
        have hS := St.objClose (φ := rfφ dk { D.step with items := mset D.step.items p ⟨false, dat, dat, false, false, stamp⟩ }) (hS.pulls (D := rfL dk A' cap' l' { D.step with items := mset D.step.items p ⟨false, dat, dat, false, false, stamp⟩ }) (by repeat (first | exact Pulls.nil | (apply Pulls.cons; focus (repeat (first | exact Pull.here | apply Pull.there)))))) ⟨A', cap', l', hR', rfl⟩
        exact fin1r rfl rfl ⟨rfl, _, hS.mutLp (by repeat (first | exact Pulls.nil | (apply Pulls.cons; focus (repeat (first | exact Pull.here | apply Pull.there)))))⟩
    · rw [if_pos hs]
      have hR2 : RepL l D.step.items := by rw [step_items]; exact hR
      repeat' (first
        | (show WL _ _ _ _ _ _ _; first
          | refine WL.pure rfl rfl rfl rfl ?_
          | refine WL.nil ?_
          | (refine WL.calls hS rfl rfl (hth _ (St.rfAt hS (by repeat (first | exact List.Mem.head _ | apply List.Mem.tail)) (by repeat (first | exact List.Mem.head _ | apply List.Mem.tail)))) rfl rfl rfl ?_; rintro v w rfl hS)
          | (refine WL.callL (D := rfL dk A cap l D) hS (by repeat (first | exact Pulls.nil | (apply Pulls.cons; focus (repeat (first | exact Pull.here | apply Pull.there))))) rfl rfl (fun hI => rfdone_c hI) rfl rfl rfl ?_; rintro v w ⟨rfl, hm⟩ hS; replace hS := hS _ hm; clear hm))
        | (show WC _ _ _ _ _ _; first
          | refine WC.seq ?_
          | refine WC.region ?_
          | refine WC.skip ?_
          | refine WC.ret ?_
          | refine WC.condF rfl (by decide) ?_
          | refine WC.condF rfl (decide_eq_false (by first | with_reducible assumption | omega)) ?_)
        | refine seqQ_n ?_)
      have hS := St.objClose (φ := rfφ dk D.step) (hS.pulls (D := rfL dk A cap l D.step) (by repeat (first | exact Pulls.nil | (apply Pulls.cons; focus (repeat (first | exact Pull.here | apply Pull.there)))))) ⟨A, cap, l, hR2, rfl⟩
      exact fin1r rfl rfl ⟨rfl, _, hS.mutLp (by repeat (first | exact Pulls.nil | (apply Pulls.cons; focus (repeat (first | exact Pull.here | apply Pull.there)))))⟩
  · rw [if_pos he]
    repeat' (first
      | (show WL _ _ _ _ _ _ _; first
        | refine WL.pure rfl rfl rfl rfl ?_
        | refine WL.nil ?_
        | (refine WL.calls hS rfl rfl (hth _ (St.rfAt hS (by repeat (first | exact List.Mem.head _ | apply List.Mem.tail)) (by repeat (first | exact List.Mem.head _ | apply List.Mem.tail)))) rfl rfl rfl ?_; rintro v w rfl hS))
      | (show WC _ _ _ _ _ _; first
        | refine WC.seq ?_
        | refine WC.region ?_
        | refine WC.ret ?_
        | refine WC.condT rfl (decide_eq_true (by first | with_reducible assumption | omega)) ?_)
      | refine seqQ_n ?_
      | refine seqQ_r ?_)
    have hS := St.objClose (φ := rfφ dk D) (hS.pulls (D := rfL dk A cap l D) (by repeat (first | exact Pulls.nil | (apply Pulls.cons; focus (repeat (first | exact Pull.here | apply Pull.there)))))) ⟨A, cap, l, hR, rfl⟩
    exact fin1r rfl rfl ⟨rfl, _, hS.mutLp (by repeat (first | exact Pulls.nil | (apply Pulls.cons; focus (repeat (first | exact Pull.here | apply Pull.there)))))⟩
end Go.Proofs.YtccfiohagbneaaaGreatDoor

/- What is proved: what the reference's disk does: Mkdir and Write. Conditions: a disk without limits, of bounded size. -/
set_option linter.unusedSimpArgs false
set_option linter.unusedVariables false
namespace Go.Proofs.YtccfiohagbneaaaGreatDoor
open Go Go.J Go.RowKit
theorem may_ok {D : Dk} {p : List UInt8} {n : Int} (h : D.may p n = 0) : checkE p 6 = 0 ∧ n < deepE p := by
  unfold Dk.may at h
  split at h
  · exact absurd h (by decide)
  · split at h
    · exact absurd h (by decide)
    · rename_i hc
      split at h
      · exact absurd h (by decide)
      · exact ⟨Classical.byContradiction hc, by omega⟩
theorem parent_nil {p : List UInt8} (h : checkE p 6 = 0) : parentE p = [] ↔ deepE p = 1 := by
  have hne : p ≠ [] := by rintro rfl; exact absurd h (by decide)
  have hg := lastE_ge p
  have hall : (splitL p).all nameB = true := by
    cases ha : (splitL p).all nameB
    · unfold checkE at h; rw [ha] at h; simp at h
    · rfl
  have hpt := parts p hall
  by_cases h0 : lastE p < 0
  · have e1 : lastE p = -1 := by omega
    have hn : p.count 47 = 0 := count_none p fun i hi => lastL_no p p.length (Nat.le_refl _) i (by show lastE p < _; omega) hi
    refine ⟨fun _ => ?_, fun _ => ?_⟩
    · unfold deepE; rw [if_neg hne, hn]; rfl
    · unfold parentE; rw [e1]; rfl
  · obtain ⟨m, hm⟩ := Int.eq_ofNat_of_zero_le (show 0 ≤ lastE p by omega)
    have hat := lastL_at p p.length m hm
    have hmem : (47 : UInt8) ∈ p := List.mem_of_getElem? hat
    have hc : 0 < p.count 47 := List.count_pos_iff.2 hmem
    refine ⟨fun e => ?_, fun e => ?_⟩
    · have hb := hpt.1
      rw [e] at hb
      have hb : baseE p = p := by unfold joinE at hb; rw [if_pos rfl] at hb; exact hb
      have hl := congrArg List.length hb
      unfold baseE at hl
      rw [List.length_drop] at hl
      have : 0 < p.length := List.length_pos_iff.2 hne
      omega
    · exfalso
      unfold deepE at e
      rw [if_neg hne] at e
      omega
theorem home_under {D : Dk} {p : List UInt8} (h : checkE p 6 = 0) : homeE D p = D.under p := by
  unfold homeE Dk.under
  by_cases h1 : deepE p = 1
  · rw [if_pos ((parent_nil h).2 h1), if_pos h1]
  · rw [if_neg (fun e => h1 ((parent_nil h).1 e)), if_neg h1]
    unfold Dk.kind Dk.has Dk.at
    cases hg : mget D.items (parentE p) with
    | none => rfl
    | some it =>
      dsimp only [Option.isSome, Option.getD]
      obtain ⟨dir, data, kept, loose, anew, stamp⟩ := it
      cases dir <;> rfl
set_option maxHeartbeats 16000000 in
set_option maxRecDepth 100000 in
theorem rfmkdir_c {dk : Nat} {D : Dk} {fp : List Nat} (p : List UInt8) {w0 : World} (hi : InL w0 [rfC dk D fp]) (hp : p.length ≤ 1099511627) (hn : D.items.length ≤ 1048576) :
    Cal Tryz.prog 12 [.pointer (some ⟨dk, 0, none⟩), str p] w0 (fun v w' => v = .int .i64 (D.mkdir p).1 ∧ ∃ fp', MutL w0 w' [rfC dk D fp] [rfC dk (D.mkdir p).2 fp']) := by
  refine Cal.mkL hi (by kernel_rfl) Tryz.func12 rfl rfl fun hS => ?_
  obtain ⟨_, ⟨A, cap, l, hR, rfl⟩, hfp, hS⟩ := St.objOpen hS
  replace hS : St w0 _ w0 (rfL dk A cap l D) _ := hS
  have hl : l.length ≤ 1048576 := by rw [hR.len]; exact hn
  have hmay := fun (w : World) (h : RfAt dk A cap l D w) => rffirst_c p 0 h hp
  have hkc := fun (w : World) (h : RfAt dk A cap l D w) => rfkind_c p hR h hl
  have hhc := fun (w : World) (h : RfAt dk A cap l D w) => rfhome_c p hR h hl hp
  unfold Dk.mkdir
  have hR2 : RepL l D.step.items := by rw [step_items]; exact hR
  by_cases he : D.may p 0 = 0
  · rw [if_neg (fun e => e he)]
    rw [he] at hmay
    rw [home_under (may_ok he).1] at hhc
    cases hu : D.under p
    · rw [if_pos rfl]
      rw [hu] at hhc
      repeat' (first
        | (show WL _ _ _ _ _ _ _; first
          | refine WL.pure rfl rfl rfl rfl ?_
          | refine WL.nil ?_
          | (refine WL.calls hS rfl rfl (hmay _ (St.rfAt hS (by repeat (first | exact List.Mem.head _ | apply List.Mem.tail)) (by repeat (first | exact List.Mem.head _ | apply List.Mem.tail)))) rfl rfl rfl ?_; rintro v w rfl hS)
          | (refine WL.calls hS rfl rfl (hhc _ (St.rfAt hS (by repeat (first | exact List.Mem.head _ | apply List.Mem.tail)) (by repeat (first | exact List.Mem.head _ | apply List.Mem.tail)))) rfl rfl rfl ?_; rintro v w rfl hS))
        | (show WC _ _ _ _ _ _; first
          | refine WC.seq ?_
          | refine WC.region ?_
          | refine WC.skip ?_
          | refine WC.ret ?_
          | refine WC.condT rfl (by decide) ?_
          | refine WC.condF rfl (by decide) ?_)
        | refine seqQ_n ?_
        | refine seqQ_r ?_)
      have hS := St.objClose (φ := rfφ dk D) (hS.pulls (D := rfL dk A cap l D) (by repeat (first | exact Pulls.nil | (apply Pulls.cons; focus (repeat (first | exact Pull.here | apply Pull.there)))))) ⟨A, cap, l, hR, rfl⟩
      exact fin1r rfl rfl ⟨rfl, _, hS.mutLp (by repeat (first | exact Pulls.nil | (apply Pulls.cons; focus (repeat (first | exact Pull.here | apply Pull.there)))))⟩
    · rw [if_neg (by decide)]
      rw [hu] at hhc
      by_cases hf : D.has p = true ∧ (D.at p).dir = false
      · rw [if_pos hf]
        have hk2 : D.kind p = 2 := by unfold Dk.kind; rw [if_pos hf.1, if_neg (by rw [hf.2]; decide)]
        rw [hk2] at hkc
        repeat' (first
          | (show WL _ _ _ _ _ _ _; first
            | refine WL.pure rfl rfl rfl rfl ?_
            | refine WL.nil ?_
            | (refine WL.calls hS rfl rfl (hmay _ (St.rfAt hS (by repeat (first | exact List.Mem.head _ | apply List.Mem.tail)) (by repeat (first | exact List.Mem.head _ | apply List.Mem.tail)))) rfl rfl rfl ?_; rintro v w rfl hS)
            | (refine WL.calls hS rfl rfl (hhc _ (St.rfAt hS (by repeat (first | exact List.Mem.head _ | apply List.Mem.tail)) (by repeat (first | exact List.Mem.head _ | apply List.Mem.tail)))) rfl rfl rfl ?_; rintro v w rfl hS)
            | (refine WL.calls hS rfl rfl (hkc _ (St.rfAt hS (by repeat (first | exact List.Mem.head _ | apply List.Mem.tail)) (by repeat (first | exact List.Mem.head _ | apply List.Mem.tail)))) rfl rfl rfl ?_; rintro v w rfl hS))
          | (show WC _ _ _ _ _ _; first
            | refine WC.seq ?_
            | refine WC.region ?_
            | refine WC.skip ?_
            | refine WC.ret ?_
            | refine WC.condT rfl (by decide) ?_
            | refine WC.condF rfl (by decide) ?_)
          | refine seqQ_n ?_
          | refine seqQ_r ?_)
        have hS := St.objClose (φ := rfφ dk D) (hS.pulls (D := rfL dk A cap l D) (by repeat (first | exact Pulls.nil | (apply Pulls.cons; focus (repeat (first | exact Pull.here | apply Pull.there)))))) ⟨A, cap, l, hR, rfl⟩
        exact fin1r rfl rfl ⟨rfl, _, hS.mutLp (by repeat (first | exact Pulls.nil | (apply Pulls.cons; focus (repeat (first | exact Pull.here | apply Pull.there)))))⟩
      · rw [if_neg hf]
        have hk2 : D.kind p ≠ 2 := by
          unfold Dk.kind
          cases h1 : D.has p
          · simp
          · cases h2 : (D.at p).dir
            · exact absurd ⟨h1, h2⟩ hf
            · simp
        generalize D.kind p = kd at *
        clear hf
        by_cases hs : D.stepE = 0
        · rw [if_neg (fun e => e hs)]
          have hput := fun (w : World) (hI : InL w (rfL dk A cap l D.step)) => rfput_c ⟨p, { It0 with dir := true }⟩ (D := D.step) hR2 hI hl
          repeat' (first
            | (show WL _ _ _ _ _ _ _; first
              | refine WL.pure rfl rfl rfl rfl ?_
              | refine WL.nil ?_
              | (refine WL.calls hS rfl rfl (hmay _ (St.rfAt hS (by repeat (first | exact List.Mem.head _ | apply List.Mem.tail)) (by repeat (first | exact List.Mem.head _ | apply List.Mem.tail)))) rfl rfl rfl ?_; rintro v w rfl hS)
              | (refine WL.calls hS rfl rfl (hhc _ (St.rfAt hS (by repeat (first | exact List.Mem.head _ | apply List.Mem.tail)) (by repeat (first | exact List.Mem.head _ | apply List.Mem.tail)))) rfl rfl rfl ?_; rintro v w rfl hS)
              | (refine WL.calls hS rfl rfl (hkc _ (St.rfAt hS (by repeat (first | exact List.Mem.head _ | apply List.Mem.tail)) (by repeat (first | exact List.Mem.head _ | apply List.Mem.tail)))) rfl rfl rfl ?_; rintro v w rfl hS)
              | (refine WL.callL (D := rfL dk A cap l D) hS (by repeat (first | exact Pulls.nil | (apply Pulls.cons; focus (repeat (first | exact Pull.here | apply Pull.there))))) rfl rfl (fun hI => rfdone_c hI) rfl rfl rfl ?_; rintro v w ⟨rfl, hm⟩ hS; replace hS := hS _ hm; clear hm; rw [hs])
              | (refine WL.callL (D := rfL dk A cap l D.step) hS (by repeat (first | exact Pulls.nil | (apply Pulls.cons; focus (repeat (first | exact Pull.here | apply Pull.there))))) rfl rfl (fun hI => hput _ hI) rfl rfl rfl ?_; rintro v w ⟨rfl, A', cap', l', hR', hm⟩ hS; replace hS := hS _ hm; clear hm)
              | refine WL.build rfl rfl rfl rfl rfl ?_)
            | (show WC _ _ _ _ _ _; first
              | refine WC.seq ?_
              | refine WC.region ?_
              | refine WC.skip ?_
              | refine WC.ret ?_
              | refine WC.condT rfl (by decide) ?_
              | refine WC.condF rfl (by decide) ?_
              | refine WC.condF rfl (decide_eq_false (by first | with_reducible assumption | omega)) ?_)
            | refine seqQ_n ?_)
          have hS := St.objClose (φ := rfφ dk { D.step with items := mset D.step.items p { It0 with dir := true } }) (hS.pulls (D := rfL dk A' cap' l' { D.step with items := mset D.step.items p { It0 with dir := true } }) (by repeat (first | exact Pulls.nil | (apply Pulls.cons; focus (repeat (first | exact Pull.here | apply Pull.there)))))) ⟨A', cap', l', hR', rfl⟩
          exact fin1r rfl rfl ⟨rfl, _, hS.mutLp (by repeat (first | exact Pulls.nil | (apply Pulls.cons; focus (repeat (first | exact Pull.here | apply Pull.there)))))⟩
        · rw [if_pos hs]
          repeat' (first
            | (show WL _ _ _ _ _ _ _; first
              | refine WL.pure rfl rfl rfl rfl ?_
              | refine WL.nil ?_
              | (refine WL.calls hS rfl rfl (hmay _ (St.rfAt hS (by repeat (first | exact List.Mem.head _ | apply List.Mem.tail)) (by repeat (first | exact List.Mem.head _ | apply List.Mem.tail)))) rfl rfl rfl ?_; rintro v w rfl hS)
              | (refine WL.calls hS rfl rfl (hhc _ (St.rfAt hS (by repeat (first | exact List.Mem.head _ | apply List.Mem.tail)) (by repeat (first | exact List.Mem.head _ | apply List.Mem.tail)))) rfl rfl rfl ?_; rintro v w rfl hS)
              | (refine WL.calls hS rfl rfl (hkc _ (St.rfAt hS (by repeat (first | exact List.Mem.head _ | apply List.Mem.tail)) (by repeat (first | exact List.Mem.head _ | apply List.Mem.tail)))) rfl rfl rfl ?_; rintro v w rfl hS)
              | (refine WL.callL (D := rfL dk A cap l D) hS (by repeat (first | exact Pulls.nil | (apply Pulls.cons; focus (repeat (first | exact Pull.here | apply Pull.there))))) rfl rfl (fun hI => rfdone_c hI) rfl rfl rfl ?_; rintro v w ⟨rfl, hm⟩ hS; replace hS := hS _ hm; clear hm))
            | (show WC _ _ _ _ _ _; first
              | refine WC.seq ?_
              | refine WC.region ?_
              | refine WC.skip ?_
              | refine WC.ret ?_
              | refine WC.condF rfl (by decide) ?_
              | refine WC.condF rfl (decide_eq_false (by first | with_reducible assumption | omega)) ?_)
            | refine seqQ_n ?_)
          have hS := St.objClose (φ := rfφ dk D.step) (hS.pulls (D := rfL dk A cap l D.step) (by repeat (first | exact Pulls.nil | (apply Pulls.cons; focus (repeat (first | exact Pull.here | apply Pull.there)))))) ⟨A, cap, l, hR2, rfl⟩
          exact fin1r rfl rfl ⟨rfl, _, hS.mutLp (by repeat (first | exact Pulls.nil | (apply Pulls.cons; focus (repeat (first | exact Pull.here | apply Pull.there)))))⟩
  · rw [if_pos he]
    repeat' (first
      | (show WL _ _ _ _ _ _ _; first
        | refine WL.pure rfl rfl rfl rfl ?_
        | refine WL.nil ?_
        | (refine WL.calls hS rfl rfl (hmay _ (St.rfAt hS (by repeat (first | exact List.Mem.head _ | apply List.Mem.tail)) (by repeat (first | exact List.Mem.head _ | apply List.Mem.tail)))) rfl rfl rfl ?_; rintro v w rfl hS))
      | (show WC _ _ _ _ _ _; first
        | refine WC.seq ?_
        | refine WC.region ?_
        | refine WC.ret ?_
        | refine WC.condT rfl (decide_eq_true (by first | with_reducible assumption | omega)) ?_)
      | refine seqQ_n ?_
      | refine seqQ_r ?_)
    have hS := St.objClose (φ := rfφ dk D) (hS.pulls (D := rfL dk A cap l D) (by repeat (first | exact Pulls.nil | (apply Pulls.cons; focus (repeat (first | exact Pull.here | apply Pull.there)))))) ⟨A, cap, l, hR, rfl⟩
    exact fin1r rfl rfl ⟨rfl, _, hS.mutLp (by repeat (first | exact Pulls.nil | (apply Pulls.cons; focus (repeat (first | exact Pull.here | apply Pull.there)))))⟩
set_option maxHeartbeats 16000000 in
set_option maxRecDepth 100000 in
theorem rfwrite_c {dk : Nat} {D : Dk} {fp : List Nat} (p data : List UInt8) {w0 : World} (hi : InL w0 [rfC dk D fp]) (hp : p.length ≤ 1099511627) (hn : D.items.length ≤ 1048576) (hdl : data.length ≤ 1099511627776) (hal : (D.at p).data.length ≤ 1099511627776) :
    Cal Tryz.prog 131 [.pointer (some ⟨dk, 0, none⟩), str p, str data] w0 (fun v w' => v = .int .i64 (D.write p data).1 ∧ ∃ fp', MutL w0 w' [rfC dk D fp] [rfC dk (D.write p data).2 fp']) := by
  refine Cal.mkL hi (by kernel_rfl) Tryz.func131 rfl rfl fun hS => ?_
  obtain ⟨_, ⟨A, cap, l, hR, rfl⟩, hfp, hS⟩ := St.objOpen hS
  replace hS : St w0 _ w0 (rfL dk A cap l D) _ := hS
  have hl : l.length ≤ 1048576 := by rw [hR.len]; exact hn
  have hmay := fun (w : World) (h : RfAt dk A cap l D w) => rffirst_c p 1 h hp
  have hkc := fun (w : World) (h : RfAt dk A cap l D w) => rfkind_c p hR h hl
  have hhc := fun (w : World) (h : RfAt dk A cap l D w) => rfhome_c p hR h hl hp
  unfold Dk.write
  have hR2 : RepL l D.step.items := by rw [step_items]; exact hR
  by_cases he : D.may p 1 = 0
  · rw [if_neg (fun e => e he)]
    rw [he] at hmay
    rw [home_under (may_ok he).1] at hhc
    cases hu : D.under p
    · rw [if_pos rfl]
      rw [hu] at hhc
      repeat' (first
        | (show WL _ _ _ _ _ _ _; first
          | refine WL.pure rfl rfl rfl rfl ?_
          | refine WL.nil ?_
          | (refine WL.calls hS rfl rfl (hmay _ (St.rfAt hS (by repeat (first | exact List.Mem.head _ | apply List.Mem.tail)) (by repeat (first | exact List.Mem.head _ | apply List.Mem.tail)))) rfl rfl rfl ?_; rintro v w rfl hS)
          | (refine WL.calls hS rfl rfl (hhc _ (St.rfAt hS (by repeat (first | exact List.Mem.head _ | apply List.Mem.tail)) (by repeat (first | exact List.Mem.head _ | apply List.Mem.tail)))) rfl rfl rfl ?_; rintro v w rfl hS))
        | (show WC _ _ _ _ _ _; first
          | refine WC.seq ?_
          | refine WC.region ?_
          | refine WC.skip ?_
          | refine WC.ret ?_
          | refine WC.condT rfl (by decide) ?_
          | refine WC.condF rfl (by decide) ?_)
        | refine seqQ_n ?_
        | refine seqQ_r ?_)
      have hS := St.objClose (φ := rfφ dk D) (hS.pulls (D := rfL dk A cap l D) (by repeat (first | exact Pulls.nil | (apply Pulls.cons; focus (repeat (first | exact Pull.here | apply Pull.there)))))) ⟨A, cap, l, hR, rfl⟩
      exact fin1r rfl rfl ⟨rfl, _, hS.mutLp (by repeat (first | exact Pulls.nil | (apply Pulls.cons; focus (repeat (first | exact Pull.here | apply Pull.there)))))⟩
    · rw [if_neg (by decide)]
      rw [hu] at hhc
      by_cases hf : (D.at p).dir = true
      · rw [if_pos hf]
        have hk2 : D.kind p = 1 := by
          cases hg : mget D.items p with
          | none => unfold Dk.at at hf; rw [hg] at hf; exact absurd hf (by decide)
          | some it => rw [kind_some hg, if_pos (by unfold Dk.at at hf; rw [hg] at hf; exact hf)]
        rw [hk2] at hkc
        repeat' (first
          | (show WL _ _ _ _ _ _ _; first
            | refine WL.pure rfl rfl rfl rfl ?_
            | refine WL.nil ?_
            | (refine WL.calls hS rfl rfl (hmay _ (St.rfAt hS (by repeat (first | exact List.Mem.head _ | apply List.Mem.tail)) (by repeat (first | exact List.Mem.head _ | apply List.Mem.tail)))) rfl rfl rfl ?_; rintro v w rfl hS)
            | (refine WL.calls hS rfl rfl (hhc _ (St.rfAt hS (by repeat (first | exact List.Mem.head _ | apply List.Mem.tail)) (by repeat (first | exact List.Mem.head _ | apply List.Mem.tail)))) rfl rfl rfl ?_; rintro v w rfl hS)
            | (refine WL.calls hS rfl rfl (hkc _ (St.rfAt hS (by repeat (first | exact List.Mem.head _ | apply List.Mem.tail)) (by repeat (first | exact List.Mem.head _ | apply List.Mem.tail)))) rfl rfl rfl ?_; rintro v w rfl hS))
          | (show WC _ _ _ _ _ _; first
            | refine WC.seq ?_
            | refine WC.region ?_
            | refine WC.skip ?_
            | refine WC.ret ?_
            | refine WC.condT rfl (by decide) ?_
            | refine WC.condF rfl (by decide) ?_)
          | refine seqQ_n ?_
          | refine seqQ_r ?_)
        have hS := St.objClose (φ := rfφ dk D) (hS.pulls (D := rfL dk A cap l D) (by repeat (first | exact Pulls.nil | (apply Pulls.cons; focus (repeat (first | exact Pull.here | apply Pull.there)))))) ⟨A, cap, l, hR, rfl⟩
        exact fin1r rfl rfl ⟨rfl, _, hS.mutLp (by repeat (first | exact Pulls.nil | (apply Pulls.cons; focus (repeat (first | exact Pull.here | apply Pull.there)))))⟩
      · rw [if_neg hf]
        by_cases hs : D.stepE = 0
        · rw [if_neg (fun e => e hs)]
          have hput := fun (w : World) (hI : InL w (rfL dk A cap l { D.step with stamps := IntKind.i64.wrap (D.step.stamps + 1) })) => rfput_c ⟨p, ⟨false, data, (D.at p).kept, true, true, IntKind.i64.wrap (D.step.stamps + 1)⟩⟩ (D := { D.step with stamps := IntKind.i64.wrap (D.step.stamps + 1) }) hR2 hI hl
          cases hg : mget D.items p with
          | none =>
            have hk2 : D.kind p = 0 := kind_none hg
            rw [hk2] at hkc
            have hat : D.at p = It0 := by unfold Dk.at; rw [hg]; rfl
            rw [hat] at hput ⊢
            repeat' (first
              | (show WL _ _ _ _ _ _ _; first
                | refine WL.sub (a := (data.length : Int)) (b := (0 : Int)) rfl rfl rfl (by omega) rfl rfl rfl ?_
                | refine WL.pure rfl rfl rfl rfl ?_
                | refine WL.nil ?_
                | refine WL.load hS rfl rfl (LdOk.box (by repeat (first | exact List.Mem.head _ | apply List.Mem.tail)) rfl) rfl rfl rfl ?_
                | (refine WL.calls hS rfl rfl (hmay _ (St.rfAt hS (by repeat (first | exact List.Mem.head _ | apply List.Mem.tail)) (by repeat (first | exact List.Mem.head _ | apply List.Mem.tail)))) rfl rfl rfl ?_; rintro v w rfl hS)
                | (refine WL.calls hS rfl rfl (hhc _ (St.rfAt hS (by repeat (first | exact List.Mem.head _ | apply List.Mem.tail)) (by repeat (first | exact List.Mem.head _ | apply List.Mem.tail)))) rfl rfl rfl ?_; rintro v w rfl hS)
                | (refine WL.calls hS rfl rfl (hkc _ (St.rfAt hS (by repeat (first | exact List.Mem.head _ | apply List.Mem.tail)) (by repeat (first | exact List.Mem.head _ | apply List.Mem.tail)))) rfl rfl rfl ?_; rintro v w rfl hS)
                | (refine WL.calls hS rfl rfl (rffits_c p _ (St.rfAt hS (by repeat (first | exact List.Mem.head _ | apply List.Mem.tail)) (by repeat (first | exact List.Mem.head _ | apply List.Mem.tail)))) rfl rfl rfl ?_; rintro v w rfl hS)
                | (refine WL.callL (D := rfL dk A cap l D) hS (by repeat (first | exact Pulls.nil | (apply Pulls.cons; focus (repeat (first | exact Pull.here | apply Pull.there))))) rfl rfl (fun hI => rfdone_c hI) rfl rfl rfl ?_; rintro v w ⟨rfl, hm⟩ hS; replace hS := hS _ hm; clear hm; rw [hs])
                | (refine WL.callL (D := rfL dk A cap l D.step) hS (by repeat (first | exact Pulls.nil | (apply Pulls.cons; focus (repeat (first | exact Pull.here | apply Pull.there))))) rfl rfl (fun hI => rfstamped_c ⟨p, ⟨false, data, [], true, true, 0⟩⟩ hI) rfl rfl rfl ?_; rintro v w ⟨rfl, hm⟩ hS; replace hS := hS _ hm; clear hm)
                | (refine WL.callL (D := rfL dk A cap l { D.step with stamps := IntKind.i64.wrap (D.step.stamps + 1) }) hS (by repeat (first | exact Pulls.nil | (apply Pulls.cons; focus (repeat (first | exact Pull.here | apply Pull.there))))) rfl rfl (fun hI => hput _ hI) rfl rfl rfl ?_; rintro v w ⟨rfl, A', cap', l', hR', hm⟩ hS; replace hS := hS _ hm; clear hm)
                | (refine WL.store hS rfl rfl rfl (by repeat (first | exact StB.here rfl | apply StB.there)) rfl rfl rfl ?_; intro w hS)
                | (refine WL.alloc hS rfl rfl rfl rfl rfl rfl ?_; intro w b hS)
                | refine WL.build rfl rfl rfl rfl rfl ?_)
              | (show WC _ _ _ _ _ _; first
                | refine WC.seq ?_
                | refine WC.region ?_
                | refine WC.skip ?_
                | refine WC.ret ?_
                | refine WC.condT rfl (by decide) ?_
                | refine WC.condF rfl (by decide) ?_)
              | refine seqQ_n ?_)
            have hS := St.objClose (φ := rfφ dk (D.step.set p { It0 with data := data, loose := true, anew := true })) (hS.pulls (D := rfL dk A' cap' l' (D.step.set p { It0 with data := data, loose := true, anew := true })) (by repeat (first | exact Pulls.nil | (apply Pulls.cons; focus (repeat (first | exact Pull.here | apply Pull.there)))))) ⟨A', cap', l', hR', rfl⟩
            exact fin1r rfl rfl ⟨rfl, _, hS.mutLp (by repeat (first | exact Pulls.nil | (apply Pulls.cons; focus (repeat (first | exact Pull.here | apply Pull.there)))))⟩
          | some it =>
            have hat : D.at p = it := by unfold Dk.at; rw [hg]; rfl
            rw [hat] at hput hf hal ⊢
            have hk2 : D.kind p = 2 := by rw [kind_some hg, if_neg hf]
            rw [hk2] at hkc
            have hpl := fun (w : World) (h : RfAt dk A cap l D w) => rfplaceY_c p hR hg h hl
            obtain ⟨kg, ko, rfl⟩ := hS.own_addr (A := A) (n := l.length) (by repeat (first | exact List.Mem.head _ | apply List.Mem.tail)) (rf_pos hR hg)
            obtain ⟨dir, dat, kept, loose, anew, stamp⟩ := it
            dsimp only at hf hal hput ⊢
            have hf : dir = false := by cases dir <;> simp_all
            subst hf
            repeat' (first
              | (show WL _ _ _ _ _ _ _; first
                | refine WL.sub (a := (data.length : Int)) (b := (dat.length : Int)) rfl rfl rfl (by omega) rfl rfl rfl ?_
                | refine WL.pure rfl rfl rfl rfl ?_
                | refine WL.nil ?_
                | refine WL.load hS rfl rfl (LdOk.box (by repeat (first | exact List.Mem.head _ | apply List.Mem.tail)) rfl) rfl rfl rfl ?_
                | (refine WL.calls hS rfl rfl (hmay _ (St.rfAt hS (by repeat (first | exact List.Mem.head _ | apply List.Mem.tail)) (by repeat (first | exact List.Mem.head _ | apply List.Mem.tail)))) rfl rfl rfl ?_; rintro v w rfl hS)
                | (refine WL.calls hS rfl rfl (hhc _ (St.rfAt hS (by repeat (first | exact List.Mem.head _ | apply List.Mem.tail)) (by repeat (first | exact List.Mem.head _ | apply List.Mem.tail)))) rfl rfl rfl ?_; rintro v w rfl hS)
                | (refine WL.calls hS rfl rfl (hkc _ (St.rfAt hS (by repeat (first | exact List.Mem.head _ | apply List.Mem.tail)) (by repeat (first | exact List.Mem.head _ | apply List.Mem.tail)))) rfl rfl rfl ?_; rintro v w rfl hS)
                | (refine WL.calls hS rfl rfl (rffits_c p _ (St.rfAt hS (by repeat (first | exact List.Mem.head _ | apply List.Mem.tail)) (by repeat (first | exact List.Mem.head _ | apply List.Mem.tail)))) rfl rfl rfl ?_; rintro v w rfl hS)
                | (refine WL.callL (D := rfL dk (some ⟨kg, ko, none⟩) cap l D) hS (by repeat (first | exact Pulls.nil | (apply Pulls.cons; focus (repeat (first | exact Pull.here | apply Pull.there))))) rfl rfl (fun hI => rfdone_c hI) rfl rfl rfl ?_; rintro v w ⟨rfl, hm⟩ hS; replace hS := hS _ hm; clear hm; rw [hs])
                | (refine WL.callL (D := rfL dk (some ⟨kg, ko, none⟩) cap l D.step) hS (by repeat (first | exact Pulls.nil | (apply Pulls.cons; focus (repeat (first | exact Pull.here | apply Pull.there))))) rfl rfl (fun hI => rfstamped_c ⟨p, ⟨false, data, kept, true, true, stamp⟩⟩ hI) rfl rfl rfl ?_; rintro v w ⟨rfl, hm⟩ hS; replace hS := hS _ hm; clear hm)
                | (refine WL.callL (D := rfL dk (some ⟨kg, ko, none⟩) cap l { D.step with stamps := IntKind.i64.wrap (D.step.stamps + 1) }) hS (by repeat (first | exact Pulls.nil | (apply Pulls.cons; focus (repeat (first | exact Pull.here | apply Pull.there))))) rfl rfl (fun hI => hput _ hI) rfl rfl rfl ?_; rintro v w ⟨rfl, A', cap', l', hR', hm⟩ hS; replace hS := hS _ hm; clear hm)
                | (refine WL.store hS rfl rfl rfl (by repeat (first | exact StB.here rfl | apply StB.there)) rfl rfl rfl ?_; intro w hS)
                | (refine WL.alloc hS rfl rfl rfl rfl rfl rfl ?_; intro w b hS)
                | refine WL.build rfl rfl rfl rfl rfl ?_)
              | (show WC _ _ _ _ _ _; first
                | refine WC.seq ?_
                | refine WC.region ?_
                | refine WC.skip ?_
                | refine WC.ret ?_
                | (show WC _ _ (Code.region _ (List.toArray [_, _, _, _, _, _, _, _, _, _]) true) _ _ _; refine WC.drawL [.box b 110 [str p, .bool false, str [], str [], .bool false, .bool false, .int .i64 0]] hS (by repeat (first | exact Pulls.nil | (apply Pulls.cons; focus (repeat (first | exact Pull.here | apply Pull.there))))) [0,1,2,3,4,5,7,8] [0,1,2,3,4,5,6,7,8,9] (by kernel_rfl) (by kernel_rfl) ?_; clear hS; intro w hS hM)
                | refine WC.condT rfl (by decide) ?_
                | refine WC.condF rfl (by decide) ?_)
              | (show WD _ _ _ _ _ _ _ _ _; first
                | refine WD.pure rfl rfl rfl rfl rfl ?_
                | refine WD.nil ?_
                | refine WD.load rfl rfl (LdOk.box (by repeat (first | exact List.Mem.head _ | apply List.Mem.tail)) rfl) rfl rfl rfl rfl ?_
                | (refine WD.calls hS hM rfl rfl (hpl _ (St.rfAt hS (by repeat (first | exact List.Mem.head _ | apply List.Mem.tail)) (by repeat (first | exact List.Mem.head _ | apply List.Mem.tail)))) rfl rfl rfl rfl rfl ?_; clear hS; rintro v w ⟨i, hli, rfl⟩ hS; have hil := (List.getElem?_eq_some_iff.1 hli).1)
                | (refine WD.load rfl rfl (LdOk.ownElemE (enc := encRi) (k := i) (fun _ => rfl) (by repeat (first | exact List.Mem.head _ | apply List.Mem.tail)) hli rfl rfl) rfl rfl rfl rfl ?_)
                | (refine WD.store hS rfl rfl rfl (by repeat (first | exact StB.here rfl | apply StB.there)) rfl (by first | exact .refl _ _ | exact .chunk (.refl _ _) _ | exact .chunk (.chunk (.refl _ _) _) _) rfl rfl rfl rfl ?_; clear hS hM; intro w hS hM)
                | refine WD.index rfl rfl rfl rfl (by first | with_reducible assumption | omega) rfl rfl rfl rfl rfl ?_)
              | refine seqQ_n ?_)
            have hS := St.objClose (φ := rfφ dk (D.step.set p ⟨false, data, kept, true, true, stamp⟩)) (hS.pulls (D := rfL dk A' cap' l' (D.step.set p ⟨false, data, kept, true, true, stamp⟩)) (by repeat (first | exact Pulls.nil | (apply Pulls.cons; focus (repeat (first | exact Pull.here | apply Pull.there)))))) ⟨A', cap', l', hR', rfl⟩
            exact fin1r rfl rfl ⟨rfl, _, hS.mutLp (by repeat (first | exact Pulls.nil | (apply Pulls.cons; focus (repeat (first | exact Pull.here | apply Pull.there)))))⟩
        · rw [if_pos hs]
          cases hg : mget D.items p with
          | none =>
            have hk2 : D.kind p = 0 := kind_none hg
            rw [hk2] at hkc
            repeat' (first
              | (show WL _ _ _ _ _ _ _; first
                | refine WL.sub (a := (data.length : Int)) (b := (0 : Int)) rfl rfl rfl (by omega) rfl rfl rfl ?_
                | refine WL.pure rfl rfl rfl rfl ?_
                | refine WL.nil ?_
                | refine WL.load hS rfl rfl (LdOk.box (by repeat (first | exact List.Mem.head _ | apply List.Mem.tail)) rfl) rfl rfl rfl ?_
                | (refine WL.calls hS rfl rfl (hmay _ (St.rfAt hS (by repeat (first | exact List.Mem.head _ | apply List.Mem.tail)) (by repeat (first | exact List.Mem.head _ | apply List.Mem.tail)))) rfl rfl rfl ?_; rintro v w rfl hS)
                | (refine WL.calls hS rfl rfl (hhc _ (St.rfAt hS (by repeat (first | exact List.Mem.head _ | apply List.Mem.tail)) (by repeat (first | exact List.Mem.head _ | apply List.Mem.tail)))) rfl rfl rfl ?_; rintro v w rfl hS)
                | (refine WL.calls hS rfl rfl (hkc _ (St.rfAt hS (by repeat (first | exact List.Mem.head _ | apply List.Mem.tail)) (by repeat (first | exact List.Mem.head _ | apply List.Mem.tail)))) rfl rfl rfl ?_; rintro v w rfl hS)
                | (refine WL.calls hS rfl rfl (rffits_c p _ (St.rfAt hS (by repeat (first | exact List.Mem.head _ | apply List.Mem.tail)) (by repeat (first | exact List.Mem.head _ | apply List.Mem.tail)))) rfl rfl rfl ?_; rintro v w rfl hS)
                | (refine WL.callL (D := rfL dk A cap l D) hS (by repeat (first | exact Pulls.nil | (apply Pulls.cons; focus (repeat (first | exact Pull.here | apply Pull.there))))) rfl rfl (fun hI => rfdone_c hI) rfl rfl rfl ?_; rintro v w ⟨rfl, hm⟩ hS; replace hS := hS _ hm; clear hm)
                | (refine WL.store hS rfl rfl rfl (by repeat (first | exact StB.here rfl | apply StB.there)) rfl rfl rfl ?_; intro w hS)
                | (refine WL.alloc hS rfl rfl rfl rfl rfl rfl ?_; intro w b hS)
                | refine WL.build rfl rfl rfl rfl rfl ?_)
              | (show WC _ _ _ _ _ _; first
                | refine WC.seq ?_
                | refine WC.region ?_
                | refine WC.skip ?_
                | refine WC.ret ?_
                | refine WC.condF rfl (by decide) ?_
                | refine WC.condF rfl (decide_eq_false (by first | with_reducible assumption | omega)) ?_)
              | refine seqQ_n ?_)
            have hS := St.objClose (φ := rfφ dk D.step) (hS.pulls (D := rfL dk A cap l D.step) (by repeat (first | exact Pulls.nil | (apply Pulls.cons; focus (repeat (first | exact Pull.here | apply Pull.there)))))) ⟨A, cap, l, hR2, rfl⟩
            exact fin1r rfl rfl ⟨rfl, _, hS.mutLp (by repeat (first | exact Pulls.nil | (apply Pulls.cons; focus (repeat (first | exact Pull.here | apply Pull.there)))))⟩
          | some it =>
            have hat : D.at p = it := by unfold Dk.at; rw [hg]; rfl
            rw [hat] at hf hal
            have hk2 : D.kind p = 2 := by rw [kind_some hg, if_neg hf]
            rw [hk2] at hkc
            have hpl := fun (w : World) (h : RfAt dk A cap l D w) => rfplaceY_c p hR hg h hl
            obtain ⟨kg, ko, rfl⟩ := hS.own_addr (A := A) (n := l.length) (by repeat (first | exact List.Mem.head _ | apply List.Mem.tail)) (rf_pos hR hg)
            obtain ⟨dir, dat, kept, loose, anew, stamp⟩ := it
            dsimp only at hf hal
            repeat' (first
              | (show WL _ _ _ _ _ _ _; first
                | refine WL.sub (a := (data.length : Int)) (b := (dat.length : Int)) rfl rfl rfl (by omega) rfl rfl rfl ?_
                | refine WL.pure rfl rfl rfl rfl ?_
                | refine WL.nil ?_
                | refine WL.load hS rfl rfl (LdOk.box (by repeat (first | exact List.Mem.head _ | apply List.Mem.tail)) rfl) rfl rfl rfl ?_
                | (refine WL.calls hS rfl rfl (hmay _ (St.rfAt hS (by repeat (first | exact List.Mem.head _ | apply List.Mem.tail)) (by repeat (first | exact List.Mem.head _ | apply List.Mem.tail)))) rfl rfl rfl ?_; rintro v w rfl hS)
                | (refine WL.calls hS rfl rfl (hhc _ (St.rfAt hS (by repeat (first | exact List.Mem.head _ | apply List.Mem.tail)) (by repeat (first | exact List.Mem.head _ | apply List.Mem.tail)))) rfl rfl rfl ?_; rintro v w rfl hS)
                | (refine WL.calls hS rfl rfl (hkc _ (St.rfAt hS (by repeat (first | exact List.Mem.head _ | apply List.Mem.tail)) (by repeat (first | exact List.Mem.head _ | apply List.Mem.tail)))) rfl rfl rfl ?_; rintro v w rfl hS)
                | (refine WL.calls hS rfl rfl (rffits_c p _ (St.rfAt hS (by repeat (first | exact List.Mem.head _ | apply List.Mem.tail)) (by repeat (first | exact List.Mem.head _ | apply List.Mem.tail)))) rfl rfl rfl ?_; rintro v w rfl hS)
                | (refine WL.callL (D := rfL dk (some ⟨kg, ko, none⟩) cap l D) hS (by repeat (first | exact Pulls.nil | (apply Pulls.cons; focus (repeat (first | exact Pull.here | apply Pull.there))))) rfl rfl (fun hI => rfdone_c hI) rfl rfl rfl ?_; rintro v w ⟨rfl, hm⟩ hS; replace hS := hS _ hm; clear hm)
                | (refine WL.store hS rfl rfl rfl (by repeat (first | exact StB.here rfl | apply StB.there)) rfl rfl rfl ?_; intro w hS)
                | (refine WL.alloc hS rfl rfl rfl rfl rfl rfl ?_; intro w b hS)
                | refine WL.build rfl rfl rfl rfl rfl ?_)
              | (show WC _ _ _ _ _ _; first
                | refine WC.seq ?_
                | refine WC.region ?_
                | refine WC.skip ?_
                | refine WC.ret ?_
                | (show WC _ _ (Code.region _ (List.toArray [_, _, _, _, _, _, _, _, _, _]) true) _ _ _; refine WC.drawL [.box b 110 [str p, .bool false, str [], str [], .bool false, .bool false, .int .i64 0]] hS (by repeat (first | exact Pulls.nil | (apply Pulls.cons; focus (repeat (first | exact Pull.here | apply Pull.there))))) [0,1,2,3,4,5,7,8] [0,1,2,3,4,5,6,7,8,9] (by kernel_rfl) (by kernel_rfl) ?_; clear hS; intro w hS hM)
                | refine WC.condT rfl (by decide) ?_
                | refine WC.condF rfl (by decide) ?_
                | refine WC.condF rfl (decide_eq_false (by first | with_reducible assumption | omega)) ?_)
              | (show WD _ _ _ _ _ _ _ _ _; first
                | refine WD.pure rfl rfl rfl rfl rfl ?_
                | refine WD.nil ?_
                | refine WD.load rfl rfl (LdOk.box (by repeat (first | exact List.Mem.head _ | apply List.Mem.tail)) rfl) rfl rfl rfl rfl ?_
                | (refine WD.calls hS hM rfl rfl (hpl _ (St.rfAt hS (by repeat (first | exact List.Mem.head _ | apply List.Mem.tail)) (by repeat (first | exact List.Mem.head _ | apply List.Mem.tail)))) rfl rfl rfl rfl rfl ?_; clear hS; rintro v w ⟨i, hli, rfl⟩ hS; have hil := (List.getElem?_eq_some_iff.1 hli).1)
                | (refine WD.load rfl rfl (LdOk.ownElemE (enc := encRi) (k := i) (fun _ => rfl) (by repeat (first | exact List.Mem.head _ | apply List.Mem.tail)) hli rfl rfl) rfl rfl rfl rfl ?_)
                | (refine WD.store hS rfl rfl rfl (by repeat (first | exact StB.here rfl | apply StB.there)) rfl (by first | exact .refl _ _ | exact .chunk (.refl _ _) _ | exact .chunk (.chunk (.refl _ _) _) _) rfl rfl rfl rfl ?_; clear hS hM; intro w hS hM)
                | refine WD.index rfl rfl rfl rfl (by first | with_reducible assumption | omega) rfl rfl rfl rfl rfl ?_)
              | refine seqQ_n ?_)
            have hS := St.objClose (φ := rfφ dk D.step) (hS.pulls (D := rfL dk (some ⟨kg, ko, none⟩) cap l D.step) (by repeat (first | exact Pulls.nil | (apply Pulls.cons; focus (repeat (first | exact Pull.here | apply Pull.there)))))) ⟨some ⟨kg, ko, none⟩, cap, l, hR2, rfl⟩
            exact fin1r rfl rfl ⟨rfl, _, hS.mutLp (by repeat (first | exact Pulls.nil | (apply Pulls.cons; focus (repeat (first | exact Pull.here | apply Pull.there)))))⟩
  · rw [if_pos he]
    repeat' (first
      | (show WL _ _ _ _ _ _ _; first
        | refine WL.pure rfl rfl rfl rfl ?_
        | refine WL.nil ?_
        | (refine WL.calls hS rfl rfl (hmay _ (St.rfAt hS (by repeat (first | exact List.Mem.head _ | apply List.Mem.tail)) (by repeat (first | exact List.Mem.head _ | apply List.Mem.tail)))) rfl rfl rfl ?_; rintro v w rfl hS))
      | (show WC _ _ _ _ _ _; first
        | refine WC.seq ?_
        | refine WC.region ?_
        | refine WC.ret ?_
        | refine WC.condT rfl (decide_eq_true (by first | with_reducible assumption | omega)) ?_)
      | refine seqQ_n ?_
      | refine seqQ_r ?_)
    have hS := St.objClose (φ := rfφ dk D) (hS.pulls (D := rfL dk A cap l D) (by repeat (first | exact Pulls.nil | (apply Pulls.cons; focus (repeat (first | exact Pull.here | apply Pull.there)))))) ⟨A, cap, l, hR, rfl⟩
    exact fin1r rfl rfl ⟨rfl, _, hS.mutLp (by repeat (first | exact Pulls.nil | (apply Pulls.cons; focus (repeat (first | exact Pull.here | apply Pull.there)))))⟩
end Go.Proofs.YtccfiohagbneaaaGreatDoor

/- What is proved: what the reference's disk does: Rename. Conditions: a disk without limits, of bounded size. -/
set_option linter.unusedSimpArgs false
set_option linter.unusedVariables false
namespace Go.Proofs.YtccfiohagbneaaaGreatDoor
open Go Go.J Go.RowKit
theorem ris_fld {l : List Ri} {i : Nat} {x : Ri} (h : l[i]? = some x) {j : Nat} (hj : j < 7) : (ris l)[i * 7 + j]? = (encRi x)[j]? := by
  obtain ⟨h1, rfl⟩ := List.getElem?_eq_some_iff.1 h
  exact ris_at h1 hj
theorem del_le (m : List (List UInt8 × It)) (p : List UInt8) : (mdel m p).length ≤ m.length := (mdel_sub m p).length_le
set_option maxHeartbeats 4000000 in
set_option maxRecDepth 100000 in
theorem rfvol_c (p : List UInt8) (w0 : World) (hl : p.length ≤ 1099511627) : Cal Tryz.prog 142 [str p] w0 (fun v w' => Upd [] w0 w' ∧ v = str ((splitL p).headD [])) := by
  refine Cal.mk' (by kernel_rfl) Tryz.func142 rfl rfl fun hS => ?_
  have hsl := splitA_len p []
  change (splitL p).length = _ at hsl
  have hsc := fun (w : World) => rsplit_c p w (by omega)
  obtain ⟨x, L, hL⟩ : ∃ x L, splitL p = x :: L := by
    cases h : splitL p with
    | nil => rw [h] at hsl; simp at hsl
    | cons x L => exact ⟨x, L, rfl⟩
  rw [hL] at hsc ⊢
  clear hL hsl
  repeat' (first
    | (show WL _ _ _ _ _ _ _; first
      | refine WL.pure rfl rfl rfl rfl ?_
      | refine WL.nil ?_
      | (refine WL.callG rfl rfl (hsc _) rfl rfl rfl ?_; rintro v w ⟨hu, As, caps, rfl, hn⟩; have hS := hS.new hu hn; clear hu hn; obtain ⟨kg, ko, rfl⟩ := hS.own_addr (A := As) (n := (x :: L).length) (by repeat (first | exact List.Mem.head _ | apply List.Mem.tail)) (Nat.succ_pos _))
      | (refine WL.index (j := 0) rfl rfl rfl rfl (Nat.succ_pos _) rfl rfl rfl rfl ?_)
      | (refine WL.load hS rfl rfl (LdOk.ownAt (off := 0) (by repeat (first | exact List.Mem.head _ | apply List.Mem.tail)) rfl ⟨_, rfl⟩ (show (strs (x :: L))[0]? = some (str x) from rfl) rfl) rfl rfl rfl ?_))
    | (show WC _ _ _ _ _ _; first
      | refine WC.seq ?_
      | refine WC.region ?_
      | refine WC.ret ?_)
    | refine seqQ_n ?_)
  exact fin1r rfl rfl ⟨hS.upd, rfl⟩
set_option maxHeartbeats 32000000 in
set_option maxRecDepth 100000 in
theorem rfrename_c {dk : Nat} {D : Dk} {fp : List Nat} (p r : List UInt8) {w0 : World} (hi : InL w0 [rfC dk D fp]) (hp : p.length ≤ 1099511627) (hr : r.length ≤ 1099511627) (hn : D.items.length ≤ 1048576) (hal : (D.at p).data.length ≤ 1099511627776) (hal2 : (D.at r).data.length ≤ 1099511627776) :
    Cal Tryz.prog 132 [.pointer (some ⟨dk, 0, none⟩), str p, str r] w0 (fun v w' => v = .int .i64 (D.rename p r).1 ∧ ∃ fp', MutL w0 w' [rfC dk D fp] [rfC dk (D.rename p r).2 fp']) := by
  refine Cal.mkL hi (by kernel_rfl) Tryz.func132 rfl rfl fun hS => ?_
  obtain ⟨_, ⟨A, cap, l, hR, rfl⟩, hfp, hS⟩ := St.objOpen hS
  replace hS : St w0 _ w0 (rfL dk A cap l D) _ := hS
  have hl : l.length ≤ 1048576 := by rw [hR.len]; exact hn
  have hmay := fun (w : World) (h : RfAt dk A cap l D w) => rffirst_c p 1 h hp
  have hmay2 := fun (w : World) (h : RfAt dk A cap l D w) => rffirst_c r 1 h hr
  have hkc := fun (w : World) (h : RfAt dk A cap l D w) => rfkind_c p hR h hl
  have hkc2 := fun (w : World) (h : RfAt dk A cap l D w) => rfkind_c r hR h hl
  have hhc := fun (w : World) (h : RfAt dk A cap l D w) => rfhome_c r hR h hl hr
  have hR2 : RepL l D.step.items := by rw [step_items]; exact hR
  unfold Dk.rename
  by_cases he : D.may p 1 = 0
  · rw [if_neg (fun e => e he)]
    rw [he] at hmay
    by_cases he2 : D.may r 1 = 0
    · rw [if_neg (fun e => e he2)]
      rw [he2] at hmay2
      rw [home_under (may_ok he2).1] at hhc
      cases hg : mget D.items p with
      | none =>
        rw [if_pos (.inl (by unfold Dk.has; rw [hg]; rfl))]
        rw [kind_none hg] at hkc
        repeat' (first
          | (show WL _ _ _ _ _ _ _; first
            | refine WL.pure rfl rfl rfl rfl ?_
            | refine WL.nil ?_
            | (refine WL.calls hS rfl rfl (hmay _ (St.rfAt hS (by repeat (first | exact List.Mem.head _ | apply List.Mem.tail)) (by repeat (first | exact List.Mem.head _ | apply List.Mem.tail)))) rfl rfl rfl ?_; rintro v w rfl hS)
            | (refine WL.calls hS rfl rfl (hmay2 _ (St.rfAt hS (by repeat (first | exact List.Mem.head _ | apply List.Mem.tail)) (by repeat (first | exact List.Mem.head _ | apply List.Mem.tail)))) rfl rfl rfl ?_; rintro v w rfl hS)
            | (refine WL.calls hS rfl rfl (hkc _ (St.rfAt hS (by repeat (first | exact List.Mem.head _ | apply List.Mem.tail)) (by repeat (first | exact List.Mem.head _ | apply List.Mem.tail)))) rfl rfl rfl ?_; rintro v w rfl hS)
            | refine WL.skip rfl rfl rfl ?_)
          | (show WC _ _ _ _ _ _; first
            | refine WC.seq ?_
            | refine WC.region ?_
            | refine WC.skip ?_
            | refine WC.ret ?_
            | refine WC.condT rfl (by with_reducible rfl) ?_
            | refine WC.condF rfl (by decide) ?_)
          | refine seqQ_n ?_
          | refine seqQ_r ?_)
        have hS := St.objClose (φ := rfφ dk D) (hS.pulls (D := rfL dk A cap l D) (by repeat (first | exact Pulls.nil | (apply Pulls.cons; focus (repeat (first | exact Pull.here | apply Pull.there)))))) ⟨A, cap, l, hR, rfl⟩
        exact fin1r rfl rfl ⟨rfl, _, hS.mutLp (by repeat (first | exact Pulls.nil | (apply Pulls.cons; focus (repeat (first | exact Pull.here | apply Pull.there)))))⟩
      | some it =>
        have hat : D.at p = it := by unfold Dk.at; rw [hg]; rfl
        have hhas : D.has p = true := by unfold Dk.has; rw [hg]; rfl
        rw [hat, hhas]
        rw [hat] at hal
        rw [kind_some hg] at hkc
        cases hu : D.under r
        · rw [if_pos (.inr rfl)]
          rw [hu] at hhc
          generalize hkk : (if it.dir = true then (1 : Int) else 2) = kk at *
          have hk0 : kk ≠ 0 := by rw [← hkk]; cases it.dir <;> decide
          repeat' (first
            | (show WL _ _ _ _ _ _ _; first
              | refine WL.pure rfl rfl rfl rfl ?_
              | refine WL.nil ?_
              | (refine WL.calls hS rfl rfl (hmay _ (St.rfAt hS (by repeat (first | exact List.Mem.head _ | apply List.Mem.tail)) (by repeat (first | exact List.Mem.head _ | apply List.Mem.tail)))) rfl rfl rfl ?_; rintro v w rfl hS)
              | (refine WL.calls hS rfl rfl (hmay2 _ (St.rfAt hS (by repeat (first | exact List.Mem.head _ | apply List.Mem.tail)) (by repeat (first | exact List.Mem.head _ | apply List.Mem.tail)))) rfl rfl rfl ?_; rintro v w rfl hS)
              | (refine WL.calls hS rfl rfl (hhc _ (St.rfAt hS (by repeat (first | exact List.Mem.head _ | apply List.Mem.tail)) (by repeat (first | exact List.Mem.head _ | apply List.Mem.tail)))) rfl rfl rfl ?_; rintro v w rfl hS)
              | (refine WL.calls hS rfl rfl (hkc _ (St.rfAt hS (by repeat (first | exact List.Mem.head _ | apply List.Mem.tail)) (by repeat (first | exact List.Mem.head _ | apply List.Mem.tail)))) rfl rfl rfl ?_; rintro v w rfl hS)
              | ((fail_if_success (refine WL.wanted rfl ?_)); refine WL.guard rfl rfl rfl (fun h => ?_) (fun h => ?_) <;> (try simp only [Classical.not_not, Bool.not_eq_true', Bool.not_eq_false', Bool.not_eq_eq_eq_not, Bool.not_true, Bool.not_false, beq_iff_eq, beq_eq_false_iff_ne, ne_eq, decide_eq_decide, decide_eq_true_eq, decide_eq_false_iff_not, Bool.and_eq_true, Bool.or_eq_true, Bool.and_eq_false_iff, Bool.or_eq_false_iff] at h) <;> (try (exfalso; first | omega | contradiction))))
            | (show WC _ _ _ _ _ _; first
              | refine WC.seq ?_
              | refine WC.region ?_
              | refine WC.skip ?_
              | refine WC.ret ?_
              | refine WC.condT rfl (by decide) ?_
              | refine WC.condF rfl (by decide) ?_)
            | refine seqQ_n ?_
            | refine seqQ_r ?_)
          have hS := St.objClose (φ := rfφ dk D) (hS.pulls (D := rfL dk A cap l D) (by repeat (first | exact Pulls.nil | (apply Pulls.cons; focus (repeat (first | exact Pull.here | apply Pull.there)))))) ⟨A, cap, l, hR, rfl⟩
          exact fin1r rfl rfl ⟨rfl, _, hS.mutLp (by repeat (first | exact Pulls.nil | (apply Pulls.cons; focus (repeat (first | exact Pull.here | apply Pull.there)))))⟩
        · rw [if_neg (by simp)]
          rw [hu] at hhc
          by_cases hd : it.dir = true ∨ (D.at r).dir = true
          · rw [if_pos hd]
            obtain ⟨k1, k2, h12, hk1, hk2, hk0⟩ : ∃ k1 k2 : Int, (k1 = 1 ∨ k2 = 1) ∧ (if it.dir = true then (1 : Int) else 2) = k1 ∧ D.kind r = k2 ∧ k1 ≠ 0 := by
              refine ⟨_, _, ?_, rfl, rfl, by cases it.dir <;> decide⟩
              rcases hd with h | h
              · left; rw [h]; rfl
              · right
                cases hg2 : mget D.items r with
                | none => unfold Dk.at at h; rw [hg2] at h; exact absurd h (by decide)
                | some it2 => rw [kind_some hg2, if_pos (by unfold Dk.at at h; rw [hg2] at h; exact h)]
            rw [hk1] at hkc
            rw [hk2] at hkc2
            clear hd
            by_cases h1 : k1 = 1
            · clear h12
              subst h1
              repeat' (first
                | (show WL _ _ _ _ _ _ _; first
                  | refine WL.pure rfl rfl rfl rfl ?_
                  | refine WL.nil ?_
                  | (refine WL.calls hS rfl rfl (hmay _ (St.rfAt hS (by repeat (first | exact List.Mem.head _ | apply List.Mem.tail)) (by repeat (first | exact List.Mem.head _ | apply List.Mem.tail)))) rfl rfl rfl ?_; rintro v w rfl hS)
                  | (refine WL.calls hS rfl rfl (hmay2 _ (St.rfAt hS (by repeat (first | exact List.Mem.head _ | apply List.Mem.tail)) (by repeat (first | exact List.Mem.head _ | apply List.Mem.tail)))) rfl rfl rfl ?_; rintro v w rfl hS)
                  | (refine WL.calls hS rfl rfl (hhc _ (St.rfAt hS (by repeat (first | exact List.Mem.head _ | apply List.Mem.tail)) (by repeat (first | exact List.Mem.head _ | apply List.Mem.tail)))) rfl rfl rfl ?_; rintro v w rfl hS)
                  | (refine WL.calls hS rfl rfl (hkc _ (St.rfAt hS (by repeat (first | exact List.Mem.head _ | apply List.Mem.tail)) (by repeat (first | exact List.Mem.head _ | apply List.Mem.tail)))) rfl rfl rfl ?_; rintro v w rfl hS)
                  | refine WL.skip rfl rfl rfl ?_)
                | (show WC _ _ _ _ _ _; first
                  | refine WC.seq ?_
                  | refine WC.region ?_
                  | refine WC.skip ?_
                  | refine WC.ret ?_
                  | refine WC.condT rfl (by with_reducible rfl) ?_
                  | refine WC.condF rfl (by decide) ?_)
                | refine seqQ_n ?_
                | refine seqQ_r ?_)
              have hS := St.objClose (φ := rfφ dk D) (hS.pulls (D := rfL dk A cap l D) (by repeat (first | exact Pulls.nil | (apply Pulls.cons; focus (repeat (first | exact Pull.here | apply Pull.there)))))) ⟨A, cap, l, hR, rfl⟩
              exact fin1r rfl rfl ⟨rfl, _, hS.mutLp (by repeat (first | exact Pulls.nil | (apply Pulls.cons; focus (repeat (first | exact Pull.here | apply Pull.there)))))⟩
            · have h2 : k2 = 1 := by rcases h12 with h | h; exact absurd h h1; exact h
              clear h12
              subst h2
              repeat' (first
                | (show WL _ _ _ _ _ _ _; first
                  | refine WL.pure rfl rfl rfl rfl ?_
                  | refine WL.nil ?_
                  | (refine WL.calls hS rfl rfl (hmay _ (St.rfAt hS (by repeat (first | exact List.Mem.head _ | apply List.Mem.tail)) (by repeat (first | exact List.Mem.head _ | apply List.Mem.tail)))) rfl rfl rfl ?_; rintro v w rfl hS)
                  | (refine WL.calls hS rfl rfl (hmay2 _ (St.rfAt hS (by repeat (first | exact List.Mem.head _ | apply List.Mem.tail)) (by repeat (first | exact List.Mem.head _ | apply List.Mem.tail)))) rfl rfl rfl ?_; rintro v w rfl hS)
                  | (refine WL.calls hS rfl rfl (hhc _ (St.rfAt hS (by repeat (first | exact List.Mem.head _ | apply List.Mem.tail)) (by repeat (first | exact List.Mem.head _ | apply List.Mem.tail)))) rfl rfl rfl ?_; rintro v w rfl hS)
                  | (refine WL.calls hS rfl rfl (hkc _ (St.rfAt hS (by repeat (first | exact List.Mem.head _ | apply List.Mem.tail)) (by repeat (first | exact List.Mem.head _ | apply List.Mem.tail)))) rfl rfl rfl ?_; rintro v w rfl hS)
                  | (refine WL.calls hS rfl rfl (hkc2 _ (St.rfAt hS (by repeat (first | exact List.Mem.head _ | apply List.Mem.tail)) (by repeat (first | exact List.Mem.head _ | apply List.Mem.tail)))) rfl rfl rfl ?_; rintro v w rfl hS)
                  | ((fail_if_success (refine WL.wanted rfl ?_)); refine WL.guard rfl rfl rfl (fun h => ?_) (fun h => ?_) <;> (try simp only [Classical.not_not, Bool.not_eq_true', Bool.not_eq_false', Bool.not_eq_eq_eq_not, Bool.not_true, Bool.not_false, beq_iff_eq, beq_eq_false_iff_ne, ne_eq, decide_eq_decide, decide_eq_true_eq, decide_eq_false_iff_not, Bool.and_eq_true, Bool.or_eq_true, Bool.and_eq_false_iff, Bool.or_eq_false_iff] at h) <;> (try (exfalso; first | omega | contradiction))))
                | (show WC _ _ _ _ _ _; first
                  | refine WC.seq ?_
                  | refine WC.region ?_
                  | refine WC.skip ?_
                  | refine WC.ret ?_
                  | refine WC.condT rfl (by decide) ?_
                  | refine WC.condF rfl (by decide) ?_)
                | refine seqQ_n ?_
                | refine seqQ_r ?_)
              have hS := St.objClose (φ := rfφ dk D) (hS.pulls (D := rfL dk A cap l D) (by repeat (first | exact Pulls.nil | (apply Pulls.cons; focus (repeat (first | exact Pull.here | apply Pull.there)))))) ⟨A, cap, l, hR, rfl⟩
              exact fin1r rfl rfl ⟨rfl, _, hS.mutLp (by repeat (first | exact Pulls.nil | (apply Pulls.cons; focus (repeat (first | exact Pull.here | apply Pull.there)))))⟩
          · rw [if_neg hd]
            have hd1 : it.dir = false := by cases h : it.dir <;> simp_all
            have hd2 : (D.at r).dir = false := by cases h : (D.at r).dir <;> simp_all
            clear hd
            obtain ⟨dir, dat, kept, loose, anew, stamp⟩ := it
            dsimp only at hd1 hal hkc ⊢
            subst hd1
            rw [if_neg (by decide)] at hkc
            have hpl := fun (w : World) (h : RfAt dk A cap l D w) => rfplaceY_c p hR hg h hl
            obtain ⟨kg, ko, rfl⟩ := hS.own_addr (A := A) (n := l.length) (by repeat (first | exact List.Mem.head _ | apply List.Mem.tail)) (rf_pos hR hg)
            have hdrop := fun (w : World) (hI : InL w (rfL dk (some ⟨kg, ko, none⟩) cap l D.step)) => rfdrop_c p hR2 hI hl
            by_cases hs : D.stepE = 0
            · rw [if_neg (fun e => e hs)]
              cases hg2 : mget D.items r with
              | none =>
                rw [kind_none hg2] at hkc2
                rcases Decidable.em (p = r) with hpr | hpr
                all_goals
                  repeat' (first
                    | (show WL _ _ _ _ _ _ _; first
                      | refine WL.pure rfl rfl rfl rfl ?_
                      | refine WL.nil ?_
                      | refine WL.load hS rfl rfl (LdOk.box (by repeat (first | exact List.Mem.head _ | apply List.Mem.tail)) rfl) rfl rfl rfl ?_
                      | (refine WL.calls hS rfl rfl (hmay _ (St.rfAt hS (by repeat (first | exact List.Mem.head _ | apply List.Mem.tail)) (by repeat (first | exact List.Mem.head _ | apply List.Mem.tail)))) rfl rfl rfl ?_; rintro v w rfl hS)
                      | (refine WL.calls hS rfl rfl (hmay2 _ (St.rfAt hS (by repeat (first | exact List.Mem.head _ | apply List.Mem.tail)) (by repeat (first | exact List.Mem.head _ | apply List.Mem.tail)))) rfl rfl rfl ?_; rintro v w rfl hS)
                      | (refine WL.calls hS rfl rfl (hhc _ (St.rfAt hS (by repeat (first | exact List.Mem.head _ | apply List.Mem.tail)) (by repeat (first | exact List.Mem.head _ | apply List.Mem.tail)))) rfl rfl rfl ?_; rintro v w rfl hS)
                      | (refine WL.calls hS rfl rfl (hkc _ (St.rfAt hS (by repeat (first | exact List.Mem.head _ | apply List.Mem.tail)) (by repeat (first | exact List.Mem.head _ | apply List.Mem.tail)))) rfl rfl rfl ?_; rintro v w rfl hS)
                      | (refine WL.calls hS rfl rfl (hkc2 _ (St.rfAt hS (by repeat (first | exact List.Mem.head _ | apply List.Mem.tail)) (by repeat (first | exact List.Mem.head _ | apply List.Mem.tail)))) rfl rfl rfl ?_; rintro v w rfl hS)
                      | (refine WL.calls hS rfl rfl (rfvol_c p _ hp) rfl rfl rfl ?_; rintro v w rfl hS)
                      | (refine WL.calls hS rfl rfl (rfvol_c r _ hr) rfl rfl rfl ?_; rintro v w rfl hS)
                      | (refine WL.calls hS rfl rfl (rffits_c r _ (St.rfAt hS (by repeat (first | exact List.Mem.head _ | apply List.Mem.tail)) (by repeat (first | exact List.Mem.head _ | apply List.Mem.tail)))) rfl rfl rfl ?_; rintro v w rfl hS)
                      | (refine WL.callL (D := rfL dk (some ⟨kg, ko, none⟩) cap l D) hS (by repeat (first | exact Pulls.nil | (apply Pulls.cons; focus (repeat (first | exact Pull.here | apply Pull.there))))) rfl rfl (fun hI => rfdone_c hI) rfl rfl rfl ?_; rintro v w ⟨rfl, hm⟩ hS; replace hS := hS _ hm; clear hm; rw [hs])
                      | (refine WL.callL (D := rfL dk (some ⟨kg, ko, none⟩) cap l D.step) hS (by repeat (first | exact Pulls.nil | (apply Pulls.cons; focus (repeat (first | exact Pull.here | apply Pull.there))))) rfl rfl (fun hI => hdrop _ hI) rfl rfl rfl ?_; rintro v w ⟨rfl, A1, cap1, l1, hR1, hm⟩ hS; replace hS := hS _ hm; clear hm; have hl1 : l1.length ≤ 1048576 := (by have := hR1.len; have := del_le D.step.items p; have := hR2.len; omega))
                      | (refine WL.callL (D := rfL dk A1 cap1 l1 (D.step.del p)) hS (by repeat (first | exact Pulls.nil | (apply Pulls.cons; focus (repeat (first | exact Pull.here | apply Pull.there))))) rfl rfl (fun hI => rfstamped_c ⟨r, ⟨false, dat, kept, loose, anew, stamp⟩⟩ hI) rfl rfl rfl ?_; rintro v w ⟨rfl, hm⟩ hS; replace hS := hS _ hm; clear hm)
                      | (refine WL.callL (D := rfL dk A1 cap1 l1 { D.step.del p with stamps := IntKind.i64.wrap (D.step.stamps + 1) }) hS (by repeat (first | exact Pulls.nil | (apply Pulls.cons; focus (repeat (first | exact Pull.here | apply Pull.there))))) rfl rfl (fun hI => rfput_c ⟨r, ⟨false, dat, kept, loose, anew, IntKind.i64.wrap (D.step.stamps + 1)⟩⟩ (D := { D.step.del p with stamps := IntKind.i64.wrap (D.step.stamps + 1) }) hR1 hI hl1) rfl rfl rfl ?_; rintro v w ⟨rfl, A', cap', l', hR', hm⟩ hS; replace hS := hS _ hm; clear hm)
                      | (refine WL.store hS rfl rfl rfl (by repeat (first | exact StB.here rfl | apply StB.there)) rfl rfl rfl ?_; intro w hS)
                      | refine WL.skip rfl rfl rfl ?_
                      | ((fail_if_success (refine WL.wanted rfl ?_)); refine WL.guard rfl rfl rfl (fun h => ?_) (fun h => ?_) <;> (try simp only [Classical.not_not, Bool.not_eq_true', Bool.not_eq_false', Bool.not_eq_eq_eq_not, Bool.not_true, Bool.not_false, beq_iff_eq, beq_eq_false_iff_ne, ne_eq, decide_eq_decide, decide_eq_true_eq, decide_eq_false_iff_not, Bool.and_eq_true, Bool.or_eq_true, Bool.and_eq_false_iff, Bool.or_eq_false_iff] at h) <;> (try (exfalso; first | omega | contradiction))))
                    | (show WC _ _ _ _ _ _; first
                      | refine WC.seq ?_
                      | refine WC.region ?_
                      | refine WC.skip ?_
                      | refine WC.ret ?_
                      | (show WC _ _ (Code.region _ (List.toArray [_, _, _, _, _, _, _, _, _, _, _]) true) _ _ _; refine WC.drawP hS [0,1,2,3,4,5,7,8] [0,1,2,3,4,5] (.two 6 [7,8,9,10] .nil 9 [6,7,8,10] .nil) (by kernel_rfl) (by kernel_rfl) ?_; clear hS; intro w hS hM)
                      | refine WC.condF rfl (by with_reducible rfl) ?_
                      | refine WC.condT rfl (by decide) ?_
                      | refine WC.condF rfl (by decide) ?_
                      | (refine WC.cond rfl (fun h => ?_) (fun h => ?_) <;> (try simp only [Classical.not_not, Bool.not_eq_true', Bool.not_eq_false', Bool.not_eq_eq_eq_not, Bool.not_true, Bool.not_false, beq_iff_eq, beq_eq_false_iff_ne, ne_eq, decide_eq_decide, decide_eq_true_eq, decide_eq_false_iff_not, Bool.and_eq_true, Bool.or_eq_true, Bool.and_eq_false_iff, Bool.or_eq_false_iff] at h) <;> (try (exfalso; first | omega | contradiction))))
                    | (show WD _ _ _ _ _ _ _ _ _; first
                      | refine WD.pure rfl rfl rfl rfl rfl ?_
                      | refine WD.nil ?_
                      | refine WD.load rfl rfl (LdOk.box (by repeat (first | exact List.Mem.head _ | apply List.Mem.tail)) rfl) rfl rfl rfl rfl ?_
                      | (refine WD.fork ?_ ?_)
                      | (refine WD.alloc (t := 110) hS hM rfl rfl rfl rfl rfl rfl rfl rfl ?_; clear hS hM; intro w b hS hM)
                      | (refine WD.calls hS hM rfl rfl (hpl _ (St.rfAt hS (by repeat (first | exact List.Mem.head _ | apply List.Mem.tail)) (by repeat (first | exact List.Mem.head _ | apply List.Mem.tail)))) rfl rfl rfl rfl rfl ?_; clear hS; rintro v w ⟨i, hli, rfl⟩ hS; have hil := (List.getElem?_eq_some_iff.1 hli).1)
                      | (refine WD.load rfl rfl (LdOk.ownElemE (enc := encRi) (k := i) (fun _ => rfl) (by repeat (first | exact List.Mem.head _ | apply List.Mem.tail)) hli rfl rfl) rfl rfl rfl rfl ?_)
                      | (refine WD.store hS rfl rfl rfl (by repeat (first | exact StB.here rfl | apply StB.there)) rfl (by first | exact .refl _ _ | exact .chunk (.refl _ _) _ | exact .chunk (.chunk (.refl _ _) _) _) rfl rfl rfl rfl ?_; clear hS hM; intro w hS hM)
                      | refine WD.index rfl rfl rfl rfl (by first | with_reducible assumption | omega) rfl rfl rfl rfl rfl ?_)
                    | (refine WDo.alloc (t := 110) hS hM rfl rfl rfl rfl rfl rfl rfl ?_; clear hS hM; intro w b hS hM)
                    | (refine WDo.calls hS hM rfl rfl (hpl _ (St.rfAt hS (by repeat (first | exact List.Mem.head _ | apply List.Mem.tail)) (by repeat (first | exact List.Mem.head _ | apply List.Mem.tail)))) rfl rfl rfl rfl ?_; clear hS; rintro v w ⟨i, hli, rfl⟩ hS; have hil := (List.getElem?_eq_some_iff.1 hli).1)
                    | refine seqQ_n ?_)
                  all_goals
                    have hS := St.objClose (φ := rfφ dk ((D.step.del p).set r ⟨false, dat, kept, loose, anew, stamp⟩)) (hS.pulls (D := rfL dk A' cap' l' ((D.step.del p).set r ⟨false, dat, kept, loose, anew, stamp⟩)) (by repeat (first | exact Pulls.nil | (apply Pulls.cons; focus (repeat (first | exact Pull.here | apply Pull.there)))))) ⟨A', cap', l', hR', rfl⟩
                    exact fin1r rfl rfl ⟨rfl, _, hS.mutLp (by repeat (first | exact Pulls.nil | (apply Pulls.cons; focus (repeat (first | exact Pull.here | apply Pull.there)))))⟩
              | some it2 =>
                have hat2 : D.at r = it2 := by unfold Dk.at; rw [hg2]; rfl
                rw [hat2] at hal2 hd2
                rw [kind_some hg2, hd2, if_neg (by decide)] at hkc2
                have hpl2 := fun (w : World) (h : RfAt dk (some ⟨kg, ko, none⟩) cap l D w) => rfplaceY_c r hR hg2 h hl
                obtain ⟨dir2, dat2, kept2, loose2, anew2, stamp2⟩ := it2
                dsimp only at hd2 hal2
                rcases Decidable.em (p = r) with hpr | hpr
                all_goals
                  repeat' (first
                    | (show WL _ _ _ _ _ _ _; first
                      | refine WL.pure rfl rfl rfl rfl ?_
                      | refine WL.nil ?_
                      | refine WL.load hS rfl rfl (LdOk.box (by repeat (first | exact List.Mem.head _ | apply List.Mem.tail)) rfl) rfl rfl rfl ?_
                      | (refine WL.calls hS rfl rfl (hmay _ (St.rfAt hS (by repeat (first | exact List.Mem.head _ | apply List.Mem.tail)) (by repeat (first | exact List.Mem.head _ | apply List.Mem.tail)))) rfl rfl rfl ?_; rintro v w rfl hS)
                      | (refine WL.calls hS rfl rfl (hmay2 _ (St.rfAt hS (by repeat (first | exact List.Mem.head _ | apply List.Mem.tail)) (by repeat (first | exact List.Mem.head _ | apply List.Mem.tail)))) rfl rfl rfl ?_; rintro v w rfl hS)
                      | (refine WL.calls hS rfl rfl (hhc _ (St.rfAt hS (by repeat (first | exact List.Mem.head _ | apply List.Mem.tail)) (by repeat (first | exact List.Mem.head _ | apply List.Mem.tail)))) rfl rfl rfl ?_; rintro v w rfl hS)
                      | (refine WL.calls hS rfl rfl (hkc _ (St.rfAt hS (by repeat (first | exact List.Mem.head _ | apply List.Mem.tail)) (by repeat (first | exact List.Mem.head _ | apply List.Mem.tail)))) rfl rfl rfl ?_; rintro v w rfl hS)
                      | (refine WL.calls hS rfl rfl (hkc2 _ (St.rfAt hS (by repeat (first | exact List.Mem.head _ | apply List.Mem.tail)) (by repeat (first | exact List.Mem.head _ | apply List.Mem.tail)))) rfl rfl rfl ?_; rintro v w rfl hS)
                      | (refine WL.calls hS rfl rfl (rfvol_c p _ hp) rfl rfl rfl ?_; rintro v w rfl hS)
                      | (refine WL.calls hS rfl rfl (rfvol_c r _ hr) rfl rfl rfl ?_; rintro v w rfl hS)
                      | (refine WL.calls hS rfl rfl (rffits_c r _ (St.rfAt hS (by repeat (first | exact List.Mem.head _ | apply List.Mem.tail)) (by repeat (first | exact List.Mem.head _ | apply List.Mem.tail)))) rfl rfl rfl ?_; rintro v w rfl hS)
                      | (refine WL.callL (D := rfL dk (some ⟨kg, ko, none⟩) cap l D) hS (by repeat (first | exact Pulls.nil | (apply Pulls.cons; focus (repeat (first | exact Pull.here | apply Pull.there))))) rfl rfl (fun hI => rfdone_c hI) rfl rfl rfl ?_; rintro v w ⟨rfl, hm⟩ hS; replace hS := hS _ hm; clear hm; rw [hs])
                      | (refine WL.callL (D := rfL dk (some ⟨kg, ko, none⟩) cap l D.step) hS (by repeat (first | exact Pulls.nil | (apply Pulls.cons; focus (repeat (first | exact Pull.here | apply Pull.there))))) rfl rfl (fun hI => hdrop _ hI) rfl rfl rfl ?_; rintro v w ⟨rfl, A1, cap1, l1, hR1, hm⟩ hS; replace hS := hS _ hm; clear hm; have hl1 : l1.length ≤ 1048576 := (by have := hR1.len; have := del_le D.step.items p; have := hR2.len; omega))
                      | (refine WL.callL (D := rfL dk A1 cap1 l1 (D.step.del p)) hS (by repeat (first | exact Pulls.nil | (apply Pulls.cons; focus (repeat (first | exact Pull.here | apply Pull.there))))) rfl rfl (fun hI => rfstamped_c ⟨r, ⟨false, dat, kept, loose, anew, stamp⟩⟩ hI) rfl rfl rfl ?_; rintro v w ⟨rfl, hm⟩ hS; replace hS := hS _ hm; clear hm)
                      | (refine WL.callL (D := rfL dk A1 cap1 l1 { D.step.del p with stamps := IntKind.i64.wrap (D.step.stamps + 1) }) hS (by repeat (first | exact Pulls.nil | (apply Pulls.cons; focus (repeat (first | exact Pull.here | apply Pull.there))))) rfl rfl (fun hI => rfput_c ⟨r, ⟨false, dat, kept, loose, anew, IntKind.i64.wrap (D.step.stamps + 1)⟩⟩ (D := { D.step.del p with stamps := IntKind.i64.wrap (D.step.stamps + 1) }) hR1 hI hl1) rfl rfl rfl ?_; rintro v w ⟨rfl, A', cap', l', hR', hm⟩ hS; replace hS := hS _ hm; clear hm)
                      | (refine WL.store hS rfl rfl rfl (by repeat (first | exact StB.here rfl | apply StB.there)) rfl rfl rfl ?_; intro w hS)
                      | refine WL.skip rfl rfl rfl ?_
                      | ((fail_if_success (refine WL.wanted rfl ?_)); refine WL.guard rfl rfl rfl (fun h => ?_) (fun h => ?_) <;> (try simp only [Classical.not_not, Bool.not_eq_true', Bool.not_eq_false', Bool.not_eq_eq_eq_not, Bool.not_true, Bool.not_false, beq_iff_eq, beq_eq_false_iff_ne, ne_eq, decide_eq_decide, decide_eq_true_eq, decide_eq_false_iff_not, Bool.and_eq_true, Bool.or_eq_true, Bool.and_eq_false_iff, Bool.or_eq_false_iff] at h) <;> (try (exfalso; first | omega | contradiction))))
                    | (show WC _ _ _ _ _ _; first
                      | refine WC.seq ?_
                      | refine WC.region ?_
                      | refine WC.skip ?_
                      | refine WC.ret ?_
                      | (show WC _ _ (Code.region _ (List.toArray [_, _, _, _, _, _, _, _, _, _, _]) true) _ _ _; refine WC.drawP hS [0,1,2,3,4,5,7,8] [0,1,2,3,4,5] (.two 6 [7,8,9,10] .nil 9 [6,7,8,10] .nil) (by kernel_rfl) (by kernel_rfl) ?_; clear hS; intro w hS hM)
                      | (show WC _ _ (Code.region _ (List.toArray [_, _, _, _, _, _, _, _, _, _, _, _, _, _]) true) _ _ _; refine WC.drawS hS [0,1,2,3,4,5,6,8,9,10,11,12,13] [0,1,2,3,4,5,6,7,8,9,10,11,12,13] (by kernel_rfl) (by kernel_rfl) ?_; clear hS; intro w hS hM)
                      | refine WC.condF rfl (by with_reducible rfl) ?_
                      | refine WC.condT rfl (by decide) ?_
                      | refine WC.condF rfl (by decide) ?_
                      | (refine WC.cond rfl (fun h => ?_) (fun h => ?_) <;> (try simp only [Classical.not_not, Bool.not_eq_true', Bool.not_eq_false', Bool.not_eq_eq_eq_not, Bool.not_true, Bool.not_false, beq_iff_eq, beq_eq_false_iff_ne, ne_eq, decide_eq_decide, decide_eq_true_eq, decide_eq_false_iff_not, Bool.and_eq_true, Bool.or_eq_true, Bool.and_eq_false_iff, Bool.or_eq_false_iff] at h) <;> (try (exfalso; first | omega | contradiction))))
                    | (show WD _ _ _ _ _ _ _ _ _; first
                      | refine WD.sub (a := (dat.length : Int)) (b := (dat2.length : Int)) rfl rfl rfl (by omega) rfl rfl rfl rfl ?_
                      | refine WD.sub (a := 0) (b := (dat2.length : Int)) rfl rfl rfl (by omega) rfl rfl rfl rfl ?_
                      | refine WD.pure rfl rfl rfl rfl rfl ?_
                      | refine WD.nil ?_
                      | refine WD.load rfl rfl (LdOk.box (by repeat (first | exact List.Mem.head _ | apply List.Mem.tail)) rfl) rfl rfl rfl rfl ?_
                      | (refine WD.fork ?_ ?_)
                      | (refine WD.alloc (t := 110) hS hM rfl rfl rfl rfl rfl rfl rfl rfl ?_; clear hS hM; intro w b hS hM)
                      | (refine WD.calls hS hM rfl rfl (hpl _ (St.rfAt hS (by repeat (first | exact List.Mem.head _ | apply List.Mem.tail)) (by repeat (first | exact List.Mem.head _ | apply List.Mem.tail)))) rfl rfl rfl rfl rfl ?_; clear hS; rintro v w ⟨i, hli, rfl⟩ hS; have hil := (List.getElem?_eq_some_iff.1 hli).1)
                      | (refine WD.load rfl rfl (LdOk.ownElemE (enc := encRi) (k := i) (fun _ => rfl) (by repeat (first | exact List.Mem.head _ | apply List.Mem.tail)) hli rfl rfl) rfl rfl rfl rfl ?_)
                      | (refine WD.store hS rfl rfl rfl (by repeat (first | exact StB.here rfl | apply StB.there)) rfl (by first | exact .refl _ _ | exact .chunk (.refl _ _) _ | exact .chunk (.chunk (.refl _ _) _) _) rfl rfl rfl rfl ?_; clear hS hM; intro w hS hM)
                      | (refine WD.calls hS hM rfl rfl (hpl2 _ (St.rfAt hS (by repeat (first | exact List.Mem.head _ | apply List.Mem.tail)) (by repeat (first | exact List.Mem.head _ | apply List.Mem.tail)))) rfl rfl rfl rfl rfl ?_; clear hS; rintro v w ⟨j, hlj, rfl⟩ hS; have hjl := (List.getElem?_eq_some_iff.1 hlj).1)
                      | (refine WD.load rfl rfl (LdOk.ownAt (off := j * 7 + 2) (by repeat (first | exact List.Mem.head _ | apply List.Mem.tail)) rfl ⟨_, rfl⟩ (ris_fld hlj (by decide)) rfl) rfl rfl rfl rfl ?_)
                      | refine WD.index rfl rfl rfl rfl (by first | with_reducible assumption | omega) rfl rfl rfl rfl rfl ?_)
                    | (refine WDo.alloc (t := 110) hS hM rfl rfl rfl rfl rfl rfl rfl ?_; clear hS hM; intro w b hS hM)
                    | (refine WDo.calls hS hM rfl rfl (hpl _ (St.rfAt hS (by repeat (first | exact List.Mem.head _ | apply List.Mem.tail)) (by repeat (first | exact List.Mem.head _ | apply List.Mem.tail)))) rfl rfl rfl rfl ?_; clear hS; rintro v w ⟨i, hli, rfl⟩ hS; have hil := (List.getElem?_eq_some_iff.1 hli).1)
                    | refine seqQ_n ?_)
                  all_goals
                    have hS := St.objClose (φ := rfφ dk ((D.step.del p).set r ⟨false, dat, kept, loose, anew, stamp⟩)) (hS.pulls (D := rfL dk A' cap' l' ((D.step.del p).set r ⟨false, dat, kept, loose, anew, stamp⟩)) (by repeat (first | exact Pulls.nil | (apply Pulls.cons; focus (repeat (first | exact Pull.here | apply Pull.there)))))) ⟨A', cap', l', hR', rfl⟩
                    exact fin1r rfl rfl ⟨rfl, _, hS.mutLp (by repeat (first | exact Pulls.nil | (apply Pulls.cons; focus (repeat (first | exact Pull.here | apply Pull.there)))))⟩
            · rw [if_pos hs]
              cases hg2 : mget D.items r with
              | none =>
                rw [kind_none hg2] at hkc2
                rcases Decidable.em (p = r) with hpr | hpr
                all_goals
                  repeat' (first
                    | (show WL _ _ _ _ _ _ _; first
                      | refine WL.pure rfl rfl rfl rfl ?_
                      | refine WL.nil ?_
                      | refine WL.load hS rfl rfl (LdOk.box (by repeat (first | exact List.Mem.head _ | apply List.Mem.tail)) rfl) rfl rfl rfl ?_
                      | (refine WL.calls hS rfl rfl (hmay _ (St.rfAt hS (by repeat (first | exact List.Mem.head _ | apply List.Mem.tail)) (by repeat (first | exact List.Mem.head _ | apply List.Mem.tail)))) rfl rfl rfl ?_; rintro v w rfl hS)
                      | (refine WL.calls hS rfl rfl (hmay2 _ (St.rfAt hS (by repeat (first | exact List.Mem.head _ | apply List.Mem.tail)) (by repeat (first | exact List.Mem.head _ | apply List.Mem.tail)))) rfl rfl rfl ?_; rintro v w rfl hS)
                      | (refine WL.calls hS rfl rfl (hhc _ (St.rfAt hS (by repeat (first | exact List.Mem.head _ | apply List.Mem.tail)) (by repeat (first | exact List.Mem.head _ | apply List.Mem.tail)))) rfl rfl rfl ?_; rintro v w rfl hS)
                      | (refine WL.calls hS rfl rfl (hkc _ (St.rfAt hS (by repeat (first | exact List.Mem.head _ | apply List.Mem.tail)) (by repeat (first | exact List.Mem.head _ | apply List.Mem.tail)))) rfl rfl rfl ?_; rintro v w rfl hS)
                      | (refine WL.calls hS rfl rfl (hkc2 _ (St.rfAt hS (by repeat (first | exact List.Mem.head _ | apply List.Mem.tail)) (by repeat (first | exact List.Mem.head _ | apply List.Mem.tail)))) rfl rfl rfl ?_; rintro v w rfl hS)
                      | (refine WL.calls hS rfl rfl (rfvol_c p _ hp) rfl rfl rfl ?_; rintro v w rfl hS)
                      | (refine WL.calls hS rfl rfl (rfvol_c r _ hr) rfl rfl rfl ?_; rintro v w rfl hS)
                      | (refine WL.calls hS rfl rfl (rffits_c r _ (St.rfAt hS (by repeat (first | exact List.Mem.head _ | apply List.Mem.tail)) (by repeat (first | exact List.Mem.head _ | apply List.Mem.tail)))) rfl rfl rfl ?_; rintro v w rfl hS)
                      | (refine WL.callL (D := rfL dk (some ⟨kg, ko, none⟩) cap l D) hS (by repeat (first | exact Pulls.nil | (apply Pulls.cons; focus (repeat (first | exact Pull.here | apply Pull.there))))) rfl rfl (fun hI => rfdone_c hI) rfl rfl rfl ?_; rintro v w ⟨rfl, hm⟩ hS; replace hS := hS _ hm; clear hm)
                      | refine WL.skip rfl rfl rfl ?_
                      | ((fail_if_success (refine WL.wanted rfl ?_)); refine WL.guard rfl rfl rfl (fun h => ?_) (fun h => ?_) <;> (try simp only [Classical.not_not, Bool.not_eq_true', Bool.not_eq_false', Bool.not_eq_eq_eq_not, Bool.not_true, Bool.not_false, beq_iff_eq, beq_eq_false_iff_ne, ne_eq, decide_eq_decide, decide_eq_true_eq, decide_eq_false_iff_not, Bool.and_eq_true, Bool.or_eq_true, Bool.and_eq_false_iff, Bool.or_eq_false_iff] at h) <;> (try (exfalso; first | omega | contradiction))))
                    | (show WC _ _ _ _ _ _; first
                      | refine WC.seq ?_
                      | refine WC.region ?_
                      | refine WC.skip ?_
                      | refine WC.ret ?_
                      | (show WC _ _ (Code.region _ (List.toArray [_, _, _, _, _, _, _, _, _, _, _]) true) _ _ _; refine WC.drawP hS [0,1,2,3,4,5,7,8] [0,1,2,3,4,5] (.two 6 [7,8,9,10] .nil 9 [6,7,8,10] .nil) (by kernel_rfl) (by kernel_rfl) ?_; clear hS; intro w hS hM)
                      | refine WC.condF rfl (by with_reducible rfl) ?_
                      | refine WC.condF rfl (by decide) ?_
                      | refine WC.condF rfl (decide_eq_false (by first | with_reducible assumption | omega)) ?_
                      | (refine WC.cond rfl (fun h => ?_) (fun h => ?_) <;> (try simp only [Classical.not_not, Bool.not_eq_true', Bool.not_eq_false', Bool.not_eq_eq_eq_not, Bool.not_true, Bool.not_false, beq_iff_eq, beq_eq_false_iff_ne, ne_eq, decide_eq_decide, decide_eq_true_eq, decide_eq_false_iff_not, Bool.and_eq_true, Bool.or_eq_true, Bool.and_eq_false_iff, Bool.or_eq_false_iff] at h) <;> (try (exfalso; first | omega | contradiction))))
                    | (show WD _ _ _ _ _ _ _ _ _; first
                      | refine WD.pure rfl rfl rfl rfl rfl ?_
                      | refine WD.nil ?_
                      | refine WD.load rfl rfl (LdOk.box (by repeat (first | exact List.Mem.head _ | apply List.Mem.tail)) rfl) rfl rfl rfl rfl ?_
                      | (refine WD.fork ?_ ?_)
                      | (refine WD.alloc (t := 110) hS hM rfl rfl rfl rfl rfl rfl rfl rfl ?_; clear hS hM; intro w b hS hM)
                      | (refine WD.calls hS hM rfl rfl (hpl _ (St.rfAt hS (by repeat (first | exact List.Mem.head _ | apply List.Mem.tail)) (by repeat (first | exact List.Mem.head _ | apply List.Mem.tail)))) rfl rfl rfl rfl rfl ?_; clear hS; rintro v w ⟨i, hli, rfl⟩ hS; have hil := (List.getElem?_eq_some_iff.1 hli).1)
                      | (refine WD.load rfl rfl (LdOk.ownElemE (enc := encRi) (k := i) (fun _ => rfl) (by repeat (first | exact List.Mem.head _ | apply List.Mem.tail)) hli rfl rfl) rfl rfl rfl rfl ?_)
                      | (refine WD.store hS rfl rfl rfl (by repeat (first | exact StB.here rfl | apply StB.there)) rfl (by first | exact .refl _ _ | exact .chunk (.refl _ _) _ | exact .chunk (.chunk (.refl _ _) _) _) rfl rfl rfl rfl ?_; clear hS hM; intro w hS hM)
                      | refine WD.index rfl rfl rfl rfl (by first | with_reducible assumption | omega) rfl rfl rfl rfl rfl ?_)
                    | (refine WDo.alloc (t := 110) hS hM rfl rfl rfl rfl rfl rfl rfl ?_; clear hS hM; intro w b hS hM)
                    | (refine WDo.calls hS hM rfl rfl (hpl _ (St.rfAt hS (by repeat (first | exact List.Mem.head _ | apply List.Mem.tail)) (by repeat (first | exact List.Mem.head _ | apply List.Mem.tail)))) rfl rfl rfl rfl ?_; clear hS; rintro v w ⟨i, hli, rfl⟩ hS; have hil := (List.getElem?_eq_some_iff.1 hli).1)
                    | refine seqQ_n ?_)
                  all_goals
                    have hS := St.objClose (φ := rfφ dk D.step) (hS.pulls (D := rfL dk (some ⟨kg, ko, none⟩) cap l D.step) (by repeat (first | exact Pulls.nil | (apply Pulls.cons; focus (repeat (first | exact Pull.here | apply Pull.there)))))) ⟨some ⟨kg, ko, none⟩, cap, l, hR2, rfl⟩
                    exact fin1r rfl rfl ⟨rfl, _, hS.mutLp (by repeat (first | exact Pulls.nil | (apply Pulls.cons; focus (repeat (first | exact Pull.here | apply Pull.there)))))⟩
              | some it2 =>
                have hat2 : D.at r = it2 := by unfold Dk.at; rw [hg2]; rfl
                rw [hat2] at hal2 hd2
                rw [kind_some hg2, hd2, if_neg (by decide)] at hkc2
                have hpl2 := fun (w : World) (h : RfAt dk (some ⟨kg, ko, none⟩) cap l D w) => rfplaceY_c r hR hg2 h hl
                obtain ⟨dir2, dat2, kept2, loose2, anew2, stamp2⟩ := it2
                dsimp only at hd2 hal2
                rcases Decidable.em (p = r) with hpr | hpr
                all_goals
                  repeat' (first
                    | (show WL _ _ _ _ _ _ _; first
                      | refine WL.pure rfl rfl rfl rfl ?_
                      | refine WL.nil ?_
                      | refine WL.load hS rfl rfl (LdOk.box (by repeat (first | exact List.Mem.head _ | apply List.Mem.tail)) rfl) rfl rfl rfl ?_
                      | (refine WL.calls hS rfl rfl (hmay _ (St.rfAt hS (by repeat (first | exact List.Mem.head _ | apply List.Mem.tail)) (by repeat (first | exact List.Mem.head _ | apply List.Mem.tail)))) rfl rfl rfl ?_; rintro v w rfl hS)
                      | (refine WL.calls hS rfl rfl (hmay2 _ (St.rfAt hS (by repeat (first | exact List.Mem.head _ | apply List.Mem.tail)) (by repeat (first | exact List.Mem.head _ | apply List.Mem.tail)))) rfl rfl rfl ?_; rintro v w rfl hS)
                      | (refine WL.calls hS rfl rfl (hhc _ (St.rfAt hS (by repeat (first | exact List.Mem.head _ | apply List.Mem.tail)) (by repeat (first | exact List.Mem.head _ | apply List.Mem.tail)))) rfl rfl rfl ?_; rintro v w rfl hS)
                      | (refine WL.calls hS rfl rfl (hkc _ (St.rfAt hS (by repeat (first | exact List.Mem.head _ | apply List.Mem.tail)) (by repeat (first | exact List.Mem.head _ | apply List.Mem.tail)))) rfl rfl rfl ?_; rintro v w rfl hS)
                      | (refine WL.calls hS rfl rfl (hkc2 _ (St.rfAt hS (by repeat (first | exact List.Mem.head _ | apply List.Mem.tail)) (by repeat (first | exact List.Mem.head _ | apply List.Mem.tail)))) rfl rfl rfl ?_; rintro v w rfl hS)
                      | (refine WL.calls hS rfl rfl (rfvol_c p _ hp) rfl rfl rfl ?_; rintro v w rfl hS)
                      | (refine WL.calls hS rfl rfl (rfvol_c r _ hr) rfl rfl rfl ?_; rintro v w rfl hS)
                      | (refine WL.calls hS rfl rfl (rffits_c r _ (St.rfAt hS (by repeat (first | exact List.Mem.head _ | apply List.Mem.tail)) (by repeat (first | exact List.Mem.head _ | apply List.Mem.tail)))) rfl rfl rfl ?_; rintro v w rfl hS)
                      | (refine WL.callL (D := rfL dk (some ⟨kg, ko, none⟩) cap l D) hS (by repeat (first | exact Pulls.nil | (apply Pulls.cons; focus (repeat (first | exact Pull.here | apply Pull.there))))) rfl rfl (fun hI => rfdone_c hI) rfl rfl rfl ?_; rintro v w ⟨rfl, hm⟩ hS; replace hS := hS _ hm; clear hm)
                      | refine WL.skip rfl rfl rfl ?_
                      | ((fail_if_success (refine WL.wanted rfl ?_)); refine WL.guard rfl rfl rfl (fun h => ?_) (fun h => ?_) <;> (try simp only [Classical.not_not, Bool.not_eq_true', Bool.not_eq_false', Bool.not_eq_eq_eq_not, Bool.not_true, Bool.not_false, beq_iff_eq, beq_eq_false_iff_ne, ne_eq, decide_eq_decide, decide_eq_true_eq, decide_eq_false_iff_not, Bool.and_eq_true, Bool.or_eq_true, Bool.and_eq_false_iff, Bool.or_eq_false_iff] at h) <;> (try (exfalso; first | omega | contradiction))))
                    | (show WC _ _ _ _ _ _; first
                      | refine WC.seq ?_
                      | refine WC.region ?_
                      | refine WC.skip ?_
                      | refine WC.ret ?_
                      | (show WC _ _ (Code.region _ (List.toArray [_, _, _, _, _, _, _, _, _, _, _]) true) _ _ _; refine WC.drawP hS [0,1,2,3,4,5,7,8] [0,1,2,3,4,5] (.two 6 [7,8,9,10] .nil 9 [6,7,8,10] .nil) (by kernel_rfl) (by kernel_rfl) ?_; clear hS; intro w hS hM)
                      | (show WC _ _ (Code.region _ (List.toArray [_, _, _, _, _, _, _, _, _, _, _, _, _, _]) true) _ _ _; refine WC.drawS hS [0,1,2,3,4,5,6,8,9,10,11,12,13] [0,1,2,3,4,5,6,7,8,9,10,11,12,13] (by kernel_rfl) (by kernel_rfl) ?_; clear hS; intro w hS hM)
                      | refine WC.condF rfl (by with_reducible rfl) ?_
                      | refine WC.condT rfl (by decide) ?_
                      | refine WC.condF rfl (by decide) ?_
                      | refine WC.condF rfl (decide_eq_false (by first | with_reducible assumption | omega)) ?_
                      | (refine WC.cond rfl (fun h => ?_) (fun h => ?_) <;> (try simp only [Classical.not_not, Bool.not_eq_true', Bool.not_eq_false', Bool.not_eq_eq_eq_not, Bool.not_true, Bool.not_false, beq_iff_eq, beq_eq_false_iff_ne, ne_eq, decide_eq_decide, decide_eq_true_eq, decide_eq_false_iff_not, Bool.and_eq_true, Bool.or_eq_true, Bool.and_eq_false_iff, Bool.or_eq_false_iff] at h) <;> (try (exfalso; first | omega | contradiction))))
                    | (show WD _ _ _ _ _ _ _ _ _; first
                      | refine WD.sub (a := (dat.length : Int)) (b := (dat2.length : Int)) rfl rfl rfl (by omega) rfl rfl rfl rfl ?_
                      | refine WD.sub (a := 0) (b := (dat2.length : Int)) rfl rfl rfl (by omega) rfl rfl rfl rfl ?_
                      | refine WD.pure rfl rfl rfl rfl rfl ?_
                      | refine WD.nil ?_
                      | refine WD.load rfl rfl (LdOk.box (by repeat (first | exact List.Mem.head _ | apply List.Mem.tail)) rfl) rfl rfl rfl rfl ?_
                      | (refine WD.fork ?_ ?_)
                      | (refine WD.alloc (t := 110) hS hM rfl rfl rfl rfl rfl rfl rfl rfl ?_; clear hS hM; intro w b hS hM)
                      | (refine WD.calls hS hM rfl rfl (hpl _ (St.rfAt hS (by repeat (first | exact List.Mem.head _ | apply List.Mem.tail)) (by repeat (first | exact List.Mem.head _ | apply List.Mem.tail)))) rfl rfl rfl rfl rfl ?_; clear hS; rintro v w ⟨i, hli, rfl⟩ hS; have hil := (List.getElem?_eq_some_iff.1 hli).1)
                      | (refine WD.load rfl rfl (LdOk.ownElemE (enc := encRi) (k := i) (fun _ => rfl) (by repeat (first | exact List.Mem.head _ | apply List.Mem.tail)) hli rfl rfl) rfl rfl rfl rfl ?_)
                      | (refine WD.store hS rfl rfl rfl (by repeat (first | exact StB.here rfl | apply StB.there)) rfl (by first | exact .refl _ _ | exact .chunk (.refl _ _) _ | exact .chunk (.chunk (.refl _ _) _) _) rfl rfl rfl rfl ?_; clear hS hM; intro w hS hM)
                      | (refine WD.calls hS hM rfl rfl (hpl2 _ (St.rfAt hS (by repeat (first | exact List.Mem.head _ | apply List.Mem.tail)) (by repeat (first | exact List.Mem.head _ | apply List.Mem.tail)))) rfl rfl rfl rfl rfl ?_; clear hS; rintro v w ⟨j, hlj, rfl⟩ hS; have hjl := (List.getElem?_eq_some_iff.1 hlj).1)
                      | (refine WD.load rfl rfl (LdOk.ownAt (off := j * 7 + 2) (by repeat (first | exact List.Mem.head _ | apply List.Mem.tail)) rfl ⟨_, rfl⟩ (ris_fld hlj (by decide)) rfl) rfl rfl rfl rfl ?_)
                      | refine WD.index rfl rfl rfl rfl (by first | with_reducible assumption | omega) rfl rfl rfl rfl rfl ?_)
                    | (refine WDo.alloc (t := 110) hS hM rfl rfl rfl rfl rfl rfl rfl ?_; clear hS hM; intro w b hS hM)
                    | (refine WDo.calls hS hM rfl rfl (hpl _ (St.rfAt hS (by repeat (first | exact List.Mem.head _ | apply List.Mem.tail)) (by repeat (first | exact List.Mem.head _ | apply List.Mem.tail)))) rfl rfl rfl rfl ?_; clear hS; rintro v w ⟨i, hli, rfl⟩ hS; have hil := (List.getElem?_eq_some_iff.1 hli).1)
                    | refine seqQ_n ?_)
                  all_goals
                    have hS := St.objClose (φ := rfφ dk D.step) (hS.pulls (D := rfL dk (some ⟨kg, ko, none⟩) cap l D.step) (by repeat (first | exact Pulls.nil | (apply Pulls.cons; focus (repeat (first | exact Pull.here | apply Pull.there)))))) ⟨some ⟨kg, ko, none⟩, cap, l, hR2, rfl⟩
                    exact fin1r rfl rfl ⟨rfl, _, hS.mutLp (by repeat (first | exact Pulls.nil | (apply Pulls.cons; focus (repeat (first | exact Pull.here | apply Pull.there)))))⟩
    · rw [if_pos he2]
      repeat' (first
        | (show WL _ _ _ _ _ _ _; first
          | refine WL.pure rfl rfl rfl rfl ?_
          | refine WL.nil ?_
          | (refine WL.calls hS rfl rfl (hmay _ (St.rfAt hS (by repeat (first | exact List.Mem.head _ | apply List.Mem.tail)) (by repeat (first | exact List.Mem.head _ | apply List.Mem.tail)))) rfl rfl rfl ?_; rintro v w rfl hS)
          | (refine WL.calls hS rfl rfl (hmay2 _ (St.rfAt hS (by repeat (first | exact List.Mem.head _ | apply List.Mem.tail)) (by repeat (first | exact List.Mem.head _ | apply List.Mem.tail)))) rfl rfl rfl ?_; rintro v w rfl hS))
        | (show WC _ _ _ _ _ _; first
          | refine WC.seq ?_
          | refine WC.region ?_
          | refine WC.skip ?_
          | refine WC.ret ?_
          | refine WC.condF rfl (by decide) ?_
          | refine WC.condT rfl (decide_eq_true (by first | with_reducible assumption | omega)) ?_)
        | refine seqQ_n ?_
        | refine seqQ_r ?_)
      have hS := St.objClose (φ := rfφ dk D) (hS.pulls (D := rfL dk A cap l D) (by repeat (first | exact Pulls.nil | (apply Pulls.cons; focus (repeat (first | exact Pull.here | apply Pull.there)))))) ⟨A, cap, l, hR, rfl⟩
      exact fin1r rfl rfl ⟨rfl, _, hS.mutLp (by repeat (first | exact Pulls.nil | (apply Pulls.cons; focus (repeat (first | exact Pull.here | apply Pull.there)))))⟩
  · rw [if_pos he]
    repeat' (first
      | (show WL _ _ _ _ _ _ _; first
        | refine WL.pure rfl rfl rfl rfl ?_
        | refine WL.nil ?_
        | (refine WL.calls hS rfl rfl (hmay _ (St.rfAt hS (by repeat (first | exact List.Mem.head _ | apply List.Mem.tail)) (by repeat (first | exact List.Mem.head _ | apply List.Mem.tail)))) rfl rfl rfl ?_; rintro v w rfl hS))
      | (show WC _ _ _ _ _ _; first
        | refine WC.seq ?_
        | refine WC.region ?_
        | refine WC.ret ?_
        | refine WC.condT rfl (decide_eq_true (by first | with_reducible assumption | omega)) ?_)
      | refine seqQ_n ?_
      | refine seqQ_r ?_)
    have hS := St.objClose (φ := rfφ dk D) (hS.pulls (D := rfL dk A cap l D) (by repeat (first | exact Pulls.nil | (apply Pulls.cons; focus (repeat (first | exact Pull.here | apply Pull.there)))))) ⟨A, cap, l, hR, rfl⟩
    exact fin1r rfl rfl ⟨rfl, _, hS.mutLp (by repeat (first | exact Pulls.nil | (apply Pulls.cons; focus (repeat (first | exact Pull.here | apply Pull.there)))))⟩
end Go.Proofs.YtccfiohagbneaaaGreatDoor

/- What is proved: what bytes of which one bit is turned are, and what the disk's Rot does. Conditions: texts of bounded length. -/
set_option linter.unusedSimpArgs false
set_option linter.unusedVariables false
namespace Go.Proofs.YtccfiohagbneaaaGreatDoor
open Go Go.J Go.RowKit

/-- bytes of which one bit is turned -/
def turnK (s : List UInt8) (bit : Int) : Nat := (bit % (8 * (s.length : Int))).toNat
def turnE (s : List UInt8) (bit : Int) : List UInt8 := match s[turnK s bit / 8]? with
  | some c => s.set (turnK s bit / 8) (UInt8.ofNat (c.toNat ^^^ 2 ^ (turnK s bit % 8)))
  | none => s
theorem pow_lt256 {m : Nat} (h : m < 8) : 2 ^ m < 256 := by
  have : (2 : Nat) ^ m ≤ 2 ^ 7 := Nat.pow_le_pow_right (by omega) (by omega)
  omega
theorem turn_byte (c : UInt8) (m : Nat) (h : m < 8) : bits .xor .u8 (c.toNat : Int) (shlI .u8 1 (m : Int)) = (((UInt8.ofNat (c.toNat ^^^ 2 ^ m)).toNat : Nat) : Int) := by
  have hc := c.toNat_lt
  have hp := pow_lt256 h
  have e : shlI .u8 1 (m : Int) = ((2 ^ m : Nat) : Int) := by
    unfold shlI
    rw [show min (m : Int).toNat IntKind.u8.bits = m from by simp [IntKind.bits]; omega, IntKind.wrap_u8']
    have : (1 : Int) * 2 ^ m = ((2 ^ m : Nat) : Int) := by simp
    rw [this]; generalize (2 : Nat) ^ m = p at hp; omega
  rw [e, u8_xor_nat _ _ (by omega) hp]
  have hx : c.toNat ^^^ 2 ^ m < 256 := Nat.xor_lt_two_pow (n := 8) (by omega) (by omega)
  rw [ofNat_toNat hx]
theorem turnE_len (s : List UInt8) (bit : Int) : (turnE s bit).length = s.length := by
  unfold turnE
  split
  · rw [List.length_set]
  · rfl
set_option maxHeartbeats 4000000 in
set_option maxRecDepth 100000 in
theorem turn_c (s : List UInt8) (bit : Int) (w0 : World) (hl : s.length ≤ 1099511627776) : Cal Tryz.prog 82 [str s, .int .i64 bit] w0 (fun v w' => Upd [] w0 w' ∧ v = str (turnE s bit)) := by
  refine Cal.mk' (by kernel_rfl) Tryz.func82 rfl rfl fun hS => ?_
  by_cases h0 : s = []
  · subst h0
    repeat' (first
      | (show WL _ _ _ _ _ _ _; first
        | refine WL.pure rfl rfl rfl rfl ?_
        | refine WL.nil ?_)
      | (show WC _ _ _ _ _ _; first
        | refine WC.seq ?_
        | refine WC.region ?_
        | refine WC.ret ?_
        | refine WC.condT rfl (by decide) ?_)
      | refine seqQ_n ?_
      | refine seqQ_r ?_)
    exact fin1r rfl rfl ⟨hS.upd, rfl⟩
  · have hpos : 0 < s.length := by
      rcases Nat.eq_zero_or_pos s.length with h | h
      · exact absurd (List.eq_nil_of_length_eq_zero h) h0
      · exact h
    have hn8 : (0 : Int) < 8 * (s.length : Int) := by omega
    have hb := tmod_bound bit hn8
    have he0 := Int.emod_nonneg bit (show (8 * (s.length : Int)) ≠ 0 by omega)
    have he1 := Int.emod_lt_of_pos bit hn8
    obtain ⟨k, hk⟩ : ∃ k : Nat, bit % (8 * (s.length : Int)) = (k : Int) := ⟨_, (Int.toNat_of_nonneg he0).symm⟩
    have hkk : turnK s bit = k := by unfold turnK; rw [hk]; rfl
    have hk8 : k / 8 < s.length := by omega
    have hm := turn_byte s[k / 8] (k % 8) (by omega)
    have hT : turnE s bit = s.set (k / 8) (UInt8.ofNat (s[k / 8].toNat ^^^ 2 ^ (k % 8))) := by unfold turnE; rw [hkk, List.getElem?_eq_getElem hk8]
    have hj : s[k / 8]? = some s[k / 8] := List.getElem?_eq_getElem hk8
    rw [hT]
    generalize s[k / 8] = c at *
    generalize UInt8.ofNat (c.toNat ^^^ 2 ^ (k % 8)) = c' at *
    clear hT hkk
    have q1 : ((k : Int) / 8) = ((k / 8 : Nat) : Int) := rfl
    have q2 : ((k : Int) % 8) = ((k % 8 : Nat) : Int) := rfl
    repeat' (first
      | (show WL _ _ _ _ _ _ _; first
        | refine WL.pure rfl rfl rfl rfl ?_
        | refine WL.nil ?_
        | refine WL.add rfl rfl rfl (by omega) rfl rfl rfl ?_
        | (refine WL.mul rfl rfl rfl (by omega) rfl rfl rfl ?_)
        | (refine WL.remT rfl rfl rfl hn8 rfl rfl rfl ?_; rw [tmod_twice bit hn8, hk])
        | (refine WL.remT rfl rfl rfl hn8 rfl rfl rfl ?_)
        | (refine WL.s2b hS rfl rfl rfl rfl rfl rfl rfl ?_; intro w b cap hcap hS)
        | (refine WL.b2sBs hS rfl rfl rfl rfl (by repeat (first | exact List.Mem.head _ | apply List.Mem.tail)) (by rw [List.length_set]) rfl rfl rfl ?_))
      | (show WC _ _ _ _ _ _; first
        | refine WC.seq ?_
        | refine WC.region ?_
        | refine WC.skip ?_
        | refine WC.ret ?_
        | (show WC _ _ (Code.region _ (List.toArray [_, _, _, _, _, _, _, _, _, _, _]) true) _ _ _; refine WC.drawV hS [0,1,2,3,4,5,6,7,8,9] [0,1,2,3,4,5,6,7,8,9] 10 [] (by kernel_rfl) (by kernel_rfl) ?_; clear hS; intro w hS hM)
        | refine WC.condF rfl (decide_eq_false (by first | with_reducible assumption | omega)) ?_)
      | (show WD _ _ _ _ _ _ _ _ _; first
        | refine WD.pure rfl rfl rfl rfl rfl ?_
        | refine WD.nil ?_
        | (refine WD.quo rfl rfl rfl (by omega) (by omega) (by omega) rfl rfl rfl rfl ?_; rw [q1])
        | (refine WD.rem rfl rfl rfl (by omega) (by omega) rfl rfl rfl rfl ?_; rw [q2])
        | (refine WD.shl rfl rfl rfl (by omega) rfl rfl rfl rfl ?_)
        | (refine WD.load rfl rfl (LdOk.bs (by repeat (first | exact List.Mem.head _ | apply List.Mem.tail)) hj rfl ⟨_, rfl⟩) rfl rfl rfl rfl ?_)
        | (refine WD.pivBs hS rfl rfl (vint hm) (by repeat (first | exact Repl.here | apply Repl.there)) hk8 rfl rfl rfl rfl ?_; clear hS; intro w hS hM)
        | refine WD.index rfl rfl rfl rfl (by first | with_reducible assumption | omega) rfl rfl rfl rfl rfl ?_)
      | refine seqQ_n ?_)
    exact fin1r rfl rfl ⟨hS.upd, rfl⟩
def Dk.rot (D : Dk) (p : List UInt8) (bit : Int) : Int × Dk := if D.file p ≠ 0 then (D.file p, D) else (0, D.set p { D.at p with data := turnE (D.at p).data bit, kept := turnE (D.at p).kept bit })
set_option maxHeartbeats 4000000 in
set_option maxRecDepth 100000 in
theorem rot_c {q mb lb : Nat} {D : Dk} (p : List UInt8) (bit : Int) {w0 : World} (hc : (dkC q mb lb D).holds w0) (hi : inB (dkC q mb lb D) w0) (hl : p.length ≤ 1099511627) (hdl : (D.at p).data.length ≤ 1099511627776) (hkl : (D.at p).kept.length ≤ 1099511627776) :
    Cal Tryz.prog 22 [.pointer (some ⟨q, 0, none⟩), str p, .int .i64 bit] w0 (fun v w' => v = .int .i64 (D.rot p bit).1 ∧ Mut w0 w' (dkC q mb lb D) (dkC q mb lb (D.rot p bit).2)) := by
  refine Cal.mkM hc hi (by kernel_rfl) Tryz.func22 rfl rfl fun hS => ?_
  by_cases he : D.file p = 0
  · have hR : D.rot p bit = (0, D.set p { D.at p with data := turnE (D.at p).data bit, kept := turnE (D.at p).kept bit }) := by unfold Dk.rot; rw [if_neg (by simp [he])]
    rw [hR]
    have hlk := look_it D.items p
    have hat : D.at p = (mget D.items p).getD It0 := rfl
    rw [← hat] at hlk
    clear hat hR
    generalize D.at p = it at *
    obtain ⟨dir, dat, kept, loose, anew, stamp⟩ := it
    dsimp only at *
    repeat' (first
      | (show WL _ _ _ _ _ _ _; first
        | refine WL.pure rfl rfl rfl rfl ?_
        | refine WL.nil ?_
        | refine WL.load hS rfl rfl (LdOk.box (by repeat (first | exact List.Mem.head _ | apply List.Mem.tail)) rfl) rfl rfl rfl ?_
        | (refine WL.calls hS rfl rfl (dfile_c p (hS.holds (dkC q mb lb D) (by repeat (first | exact List.Mem.head _ | apply List.Mem.tail))).1 hl) rfl rfl rfl ?_; rintro v w rfl hS; rw [he])
        | (refine WL.load hS rfl rfl (LdOk.dk (D := D) (by repeat (first | exact List.Mem.head _ | apply List.Mem.tail)) rfl) rfl rfl rfl ?_)
        | (refine WL.mget hS rfl rfl rfl rfl (MapOk.dk (D := D) (by repeat (first | exact List.Mem.head _ | apply List.Mem.tail))) hlk rfl rfl rfl ?_)
        | (refine WL.callL (D := [dkC q mb lb D]) hS (by repeat (first | exact Pulls.nil | (apply Pulls.cons; focus (repeat (first | exact Pull.here | apply Pull.there))))) rfl rfl (fun hI => dset_c p ⟨dir, turnE dat bit, turnE kept bit, loose, anew, stamp⟩ hI.head hI.headB) rfl rfl rfl ?_; rintro v w ⟨rfl, hm⟩ hS; replace hS := hS _ (.of1 hm); clear hm)
        | (refine WL.store hS rfl rfl rfl (by repeat (first | exact StB.here rfl | apply StB.there)) rfl rfl rfl ?_; intro w hS)
        | (refine WL.alloc hS rfl rfl rfl rfl rfl rfl ?_; intro w b hS))
      | (show WC _ _ _ _ _ _; first
        | refine WC.seq ?_
        | refine WC.region ?_
        | refine WC.skip ?_
        | refine WC.ret ?_
        | (show WC _ _ (Code.region _ (List.toArray [_, _, _, _, _, _, _, _, _, _, _, _]) true) _ _ _; refine WC.drawV hS [0,1,2,4,5,6,8,10] [0,1,2,4,5,6,3,8,7] 9 [10,11] (by kernel_rfl) (by kernel_rfl) ?_; clear hS; intro w hS hM)
        | refine WC.condF rfl (by decide) ?_)
      | (show WD _ _ _ _ _ _ _ _ _; first
        | refine WD.pure rfl rfl rfl rfl rfl ?_
        | refine WD.nil ?_
        | refine WD.load rfl rfl (LdOk.box (by repeat (first | exact List.Mem.head _ | apply List.Mem.tail)) rfl) rfl rfl rfl rfl ?_
        | (refine WD.calls hS hM rfl rfl (turn_c dat bit _ hdl) rfl rfl rfl rfl rfl ?_; clear hS; rintro v w rfl hS)
        | (refine WD.calls hS hM rfl rfl (turn_c kept bit _ hkl) rfl rfl rfl rfl rfl ?_; clear hS; rintro v w rfl hS)
        | (refine WD.pivStore hS rfl rfl rfl (by repeat (first | exact StB.here rfl | apply StB.there)) rfl rfl rfl rfl ?_; clear hS; intro w hS hM)
        | (refine WD.store hS rfl rfl rfl (by repeat (first | exact StB.here rfl | apply StB.there)) rfl More.none rfl rfl rfl rfl ?_; clear hS; intro w hS hM))
      | refine seqQ_n ?_)
    exact fin1r rfl rfl ⟨rfl, hS.mutOf (by repeat (first | exact List.Mem.head _ | apply List.Mem.tail))⟩
  · have hR : D.rot p bit = (D.file p, D) := by unfold Dk.rot; rw [if_pos he]
    rw [hR]
    repeat' (first
      | (show WL _ _ _ _ _ _ _; first
        | refine WL.pure rfl rfl rfl rfl ?_
        | refine WL.nil ?_
        | (refine WL.calls hS rfl rfl (dfile_c p (hS.holds (dkC q mb lb D) (by repeat (first | exact List.Mem.head _ | apply List.Mem.tail))).1 hl) rfl rfl rfl ?_; rintro v w rfl hS))
      | (show WC _ _ _ _ _ _; first
        | refine WC.seq ?_
        | refine WC.region ?_
        | refine WC.ret ?_
        | refine WC.condT rfl (decide_eq_true (by first | with_reducible assumption | omega)) ?_)
      | refine seqQ_n ?_
      | refine seqQ_r ?_)
    exact fin1r rfl rfl ⟨rfl, hS.mutOf (by repeat (first | exact List.Mem.head _ | apply List.Mem.tail))⟩
end Go.Proofs.YtccfiohagbneaaaGreatDoor

/- What is proved: what the reference's Turn of a bit answers. Conditions: texts of bounded length. -/
set_option linter.unusedSimpArgs false
set_option linter.unusedVariables false
namespace Go.Proofs.YtccfiohagbneaaaGreatDoor
open Go Go.J Go.RowKit
theorem turn_num : ∀ c < 256, ∀ m < 8, (c ^^^ 2 ^ m) = if c / 2 ^ m % 2 = 1 then c - 2 ^ m else c + 2 ^ m := by decide +kernel
theorem turn_low : ∀ c < 256, ∀ m < 8, c / 2 ^ m % 2 = 1 → 2 ^ m ≤ c := by decide +kernel
theorem tmod_low (a : Int) {n : Int} (hn : 0 < n) (h : Int.tmod a n < 0) : Int.tmod a n + n = a % n := by
  have h1 := tmod_twice a hn
  have h2 := tmod_bound a hn
  rw [Int.tmod_eq_of_lt (by omega) (by omega)] at h1
  exact h1
theorem tmod_up (a : Int) {n : Int} (hn : 0 < n) (h : ¬ Int.tmod a n < 0) : Int.tmod a n = a % n := by
  have h1 := tmod_twice a hn
  have h2 := tmod_bound a hn
  rw [Int.tmod_eq_emod_of_nonneg (by omega), Int.add_emod_right, Int.emod_eq_of_lt (by omega) (by omega)] at h1
  exact h1
theorem set_parts (s : List UInt8) {k : Nat} (h : k < s.length) (c : UInt8) : s.take k ++ [c] ++ s.drop (k + 1) = s.set k c := by
  rw [List.set_eq_take_append_cons_drop, if_pos h, List.append_assoc]; rfl
set_option maxHeartbeats 16000000 in
set_option maxRecDepth 100000 in
theorem rturn_c (s : List UInt8) (bit : Int) (w0 : World) (hl : s.length ≤ 1099511627776) : Cal Tryz.prog 85 [str s, .int .i64 bit] w0 (fun v w' => Upd [] w0 w' ∧ v = str (turnE s bit)) := by
  refine Cal.mk' (by kernel_rfl) Tryz.func85 rfl rfl fun hS => ?_
  by_cases h0 : s = []
  · subst h0
    repeat' (first
      | (show WL _ _ _ _ _ _ _; first
        | refine WL.pure rfl rfl rfl rfl ?_
        | refine WL.nil ?_)
      | (show WC _ _ _ _ _ _; first
        | refine WC.seq ?_
        | refine WC.region ?_
        | refine WC.ret ?_
        | refine WC.condT rfl (by decide) ?_)
      | refine seqQ_n ?_
      | refine seqQ_r ?_)
    exact fin1r rfl rfl ⟨hS.upd, rfl⟩
  · have hpos : 0 < s.length := List.length_pos_iff.2 h0
    have hn8 : (0 : Int) < 8 * (s.length : Int) := by omega
    have he0 := Int.emod_nonneg bit (show (8 * (s.length : Int)) ≠ 0 by omega)
    have he1 := Int.emod_lt_of_pos bit hn8
    have htb := tmod_bound bit hn8
    have htl := tmod_low bit hn8
    have htu := tmod_up bit hn8
    obtain ⟨k, hk⟩ : ∃ k : Nat, bit % (8 * (s.length : Int)) = (k : Int) := ⟨_, (Int.toNat_of_nonneg he0).symm⟩
    have hkk : turnK s bit = k := by unfold turnK; rw [hk]; rfl
    have hk8 : k / 8 < s.length := by omega
    have hT : turnE s bit = s.set (k / 8) (UInt8.ofNat (s[k / 8].toNat ^^^ 2 ^ (k % 8))) := by unfold turnE; rw [hkk, List.getElem?_eq_getElem hk8]
    have hj : s[k / 8]? = some s[k / 8] := List.getElem?_eq_getElem hk8
    have hsp := fun c => set_parts s hk8 c
    rw [hT]
    rw [hk] at htl htu he1
    generalize s[k / 8] = c at *
    clear hT hkk hk he0
    have q1 : ((k : Int) / 8) = ((k / 8 : Nat) : Int) := rfl
    have q2 : ((k : Int) % 8) = ((k % 8 : Nat) : Int) := rfl
    have hm8 : k % 8 < 8 := by omega
    generalize k / 8 = q at *
    generalize k % 8 = m at *
    have hc := c.toNat_lt
    have hnum := turn_num c.toNat hc m hm8
    have hlow := turn_low c.toNat hc m hm8
    have hp := pow_lt256 hm8
    have hx256 : c.toNat ^^^ 2 ^ m < 256 := Nat.xor_lt_two_pow (n := 8) (by omega) (by omega)
    generalize c.toNat ^^^ 2 ^ m = x at *
    have hinv : ∀ i, i ≤ m → 2 ^ i ≤ 128 := fun i hi => by
      have : (2 : Nat) ^ i ≤ 2 ^ 7 := Nat.pow_le_pow_right (by omega) (by omega)
      omega
    generalize ht : Int.tmod bit (8 * (s.length : Int)) = t at *
    have hcase : (if t < 0 then t + 8 * (s.length : Int) else t) = (k : Int) := by
      split
      · exact htl (by assumption)
      · exact htu (by assumption)
    clear htl htu
    by_cases hneg : t < 0
    case' pos => rw [if_pos hneg] at hcase
    case' neg => rw [if_neg hneg] at hcase; subst hcase
    all_goals
      repeat' (first
        | (show WL _ _ _ _ _ _ _; first
          | (refine WL.add (a := t) (b := 8 * (s.length : Int)) rfl rfl rfl (by omega) rfl rfl rfl ?_; rw [hcase])
          | refine WL.pure rfl rfl rfl rfl ?_
          | refine WL.nil ?_
          | (refine WL.mul rfl rfl rfl (by omega) rfl rfl rfl ?_)
          | (refine WL.remT rfl rfl rfl hn8 rfl rfl rfl ?_; rw [ht]))
        | (show WC _ _ _ _ _ _; first
          | refine WC.seq ?_
          | refine WC.region ?_
          | refine WC.block ?_
          | refine WC.skip ?_
          | refine WC.condT rfl (decide_eq_true (by first | with_reducible assumption | omega)) ?_
          | refine WC.condF rfl (decide_eq_false (by first | with_reducible assumption | omega)) ?_)
        | refine seqQ_n ?_)
      refine WC.loop (σ := Nat) [0, 1] (fun i => [(6, .int .i64 ((2 ^ i : Nat) : Int)), (7, .int .i64 (i : Int))]) (fun i w => i ≤ m ∧ St w0 [] w [] [⟨w0, Old w0⟩]) (fun i => m - i) 0 ⟨Nat.zero_le _, hS⟩ ⟨rfl, rfl, trivial⟩ ?_
      clear hS
      rintro i g w ⟨hi, hS⟩
      show WC _ _ _ (lf _ [(6, .int .i64 ((2 ^ i : Nat) : Int)), (7, .int .i64 (i : Int))] _ _) _ _
      have hpw := hinv i hi
      by_cases hlt : i < m
      · have hsucc : ((2 ^ (i + 1) : Nat) : Int) = 2 * ((2 ^ i : Nat) : Int) := by rw [Nat.pow_succ]; omega
        generalize 2 ^ i = pw at *
        clear hnum hlow hinv
        repeat' (first
          | (show WL _ _ _ _ _ _ _; first
            | refine WL.pure rfl rfl rfl rfl ?_
            | refine WL.nil ?_
            | refine WL.add rfl rfl rfl (by omega) rfl rfl rfl ?_
            | (refine WL.rem rfl rfl rfl (by omega) (by omega) rfl rfl rfl ?_; rw [q2])
            | (refine WL.mul rfl rfl rfl (by omega) rfl rfl rfl ?_))
          | (show WC _ _ _ _ _ _; first
            | refine WC.seq ?_
            | refine WC.region ?_
            | refine WC.block ?_
            | refine WC.skip ?_
            | refine WC.condT rfl (decide_eq_true (by first | with_reducible assumption | omega)) ?_)
          | refine seqQ_n ?_
          | refine blkQ_n ?_)
        exact rndQ_n (i + 1) ⟨by omega, hS⟩ (by show m - (i + 1) < m - i; omega) ⟨vint hsucc.symm, vint (by omega), trivial⟩ ⟨rfl, rfl, trivial⟩
      · have hie : i = m := by omega
        subst hie
        have hone : 1 ≤ 2 ^ i := Nat.one_le_two_pow
        generalize 2 ^ i = pw at *
        have q3 : ((c.toNat : Int) / (pw : Int)) = ((c.toNat / pw : Nat) : Int) := rfl
        have hdle : c.toNat / pw ≤ c.toNat := Nat.div_le_self _ _
        generalize c.toNat / pw = dv at *
        clear hinv
        by_cases hd : dv % 2 = 1
        case' pos =>
          rw [if_pos hd] at hnum
          have hlw := hlow hd
          have hcell : IntKind.u8.wrap ((c.toNat : Int) - (pw : Int)) = (((UInt8.ofNat x).toNat : Nat) : Int) := by rw [Go.J.ofNat_toNat (by omega), IntKind.wrap_u8]; omega
        case' neg =>
          rw [if_neg hd] at hnum
          have hxx : x < 256 := hx256
          have hcell : IntKind.u8.wrap ((c.toNat : Int) + (pw : Int)) = (((UInt8.ofNat x).toNat : Nat) : Int) := by rw [Go.J.ofNat_toNat (by omega), IntKind.wrap_u8]; omega
        all_goals
          clear hlow hnum
          generalize UInt8.ofNat x = c' at *
          repeat' (first
            | (show WL _ _ _ _ _ _ _; first
              | refine WL.pure rfl rfl rfl rfl ?_
              | refine WL.nil ?_
              | refine WL.add rfl rfl rfl (by omega) rfl rfl rfl ?_
              | refine WL.sub rfl rfl rfl (by omega) rfl rfl rfl ?_
              | (refine WL.quo (a := (k : Int)) (b := 8) rfl rfl rfl (by omega) (by omega) (by omega) rfl rfl rfl ?_; rw [q1])
              | (refine WL.quo (a := (c.toNat : Int)) (b := (pw : Int)) rfl rfl rfl (by omega) (by omega) (by omega) rfl rfl rfl ?_; rw [q3])
              | (refine WL.rem (a := (k : Int)) rfl rfl rfl (by omega) (by omega) rfl rfl rfl ?_; rw [q2])
              | (refine WL.rem (a := (dv : Int)) rfl rfl rfl (by omega) (by omega) rfl rfl rfl ?_)
              | (refine WL.idxS rfl rfl rfl rfl hj rfl rfl rfl ?_)
              | refine WL.conv64 rfl rfl rfl (by omega) rfl rfl rfl ?_)
            | (show WC _ _ _ _ _ _; first
              | refine WC.seq ?_
              | refine WC.region ?_
              | refine WC.exit ?_
              | refine WC.ret ?_
              | (show WC _ _ (Code.region _ (List.toArray [_, _, _, _, _, _, _, _, _, _, _, _, _, _, _, _]) true) _ _ _; refine WC.drawS hS [0,1,2,3,4,5,8,9,10,11,12,13,14,15] [0,1,2,3,4,5,9,10,11,12,13,6,7,8,14,15] (by kernel_rfl) (by kernel_rfl) ?_; clear hS; intro w hS hM)
              | refine WC.condT rfl (decide_eq_true (by first | with_reducible assumption | omega)) ?_
              | refine WC.condF rfl (decide_eq_false (by first | with_reducible assumption | omega)) ?_)
            | (show WD _ _ _ _ _ _ _ _ _; first
              | refine WD.pure rfl rfl rfl rfl rfl ?_
              | refine WD.nil ?_
              | refine WD.add rfl rfl rfl (by omega) rfl rfl rfl rfl ?_
              | (refine WD.quo (a := (k : Int)) (b := 8) rfl rfl rfl (by omega) (by omega) (by omega) rfl rfl rfl rfl ?_; rw [q1])
              | (refine WD.b2sBox (s := [c']) hS hM rfl rfl (by kernel_rfl) rfl (by repeat (first | exact List.Mem.head _ | apply List.Mem.tail)) (congrArg (fun x => [Value.int .u8 x]) hcell) rfl (by decide) rfl rfl rfl rfl rfl ?_)
              | (refine WD.highS (j := q) rfl rfl rfl rfl (by omega) rfl rfl rfl rfl ?_)
              | (refine WD.lowS (j := q + 1) rfl rfl rfl (by first | rfl | exact vint (show _ = ((q + 1 : Nat) : Int) by omega)) (by omega) rfl rfl rfl rfl ?_)
              | (refine WD.cat rfl rfl rfl (by first | (simp; omega) | fail) rfl rfl rfl rfl ?_)
              | (refine WD.slit hS hM rfl rfl rfl rfl rfl rfl rfl ?_; intro w b hS hM))
            | refine seqQ_n ?_
            | refine seqQ_x ?_
            | refine blkQ_hit rfl ?_
            | refine rndQ_x ?_)
          exact fin1r rfl rfl ⟨hS.upd, congrArg str (hsp c')⟩
end Go.Proofs.YtccfiohagbneaaaGreatDoor

/- What is proved: what the reference's disk answers and does: New, Read, Rot. Conditions: a disk of bounded size. -/
set_option linter.unusedSimpArgs false
set_option linter.unusedVariables false
namespace Go.Proofs.YtccfiohagbneaaaGreatDoor
open Go Go.J Go.RowKit
set_option maxHeartbeats 4000000 in
set_option maxRecDepth 100000 in
theorem rfnew_c (w0 : World) : Cal Tryz.prog 10 [] w0 (fun v w' => Upd [] w0 w' ∧ ∃ b fp, v = .pointer (some ⟨b, 0, none⟩) ∧ New w0 w' (rfC b Dk0 fp)) := by
  refine Cal.mk' (by kernel_rfl) Tryz.func10 rfl rfl fun hS => ?_
  repeat' (first
    | (show WL _ _ _ _ _ _ _; first
      | refine WL.pure rfl rfl rfl rfl ?_
      | refine WL.nil ?_
      | (refine WL.box hS rfl rfl rfl rfl rfl ?_; intro w b hS)
      | refine WL.build rfl rfl rfl rfl rfl ?_)
    | (show WC _ _ _ _ _ _; first
      | refine WC.seq ?_
      | refine WC.region ?_
      | refine WC.ret ?_)
    | refine seqQ_n ?_)
  have hS := hS.nilRow 110 7
  have hS := St.objClose (φ := rfφ b Dk0) (hS.pulls (D := rfL b none 0 [] Dk0) (by repeat (first | exact Pulls.nil | (apply Pulls.cons; focus (repeat (first | exact Pull.here | apply Pull.there)))))) ⟨none, 0, [], RepL.nil, rfl⟩
  exact fin1r rfl rfl ⟨hS.upd, b, _, rfl, hS.newOf (List.Mem.head _)⟩
section
variable {dk : Nat} {A : Option Addr} {cap : Nat} {l : List Ri} {D : Dk} {w0 : World}
set_option maxHeartbeats 8000000 in
set_option maxRecDepth 100000 in
theorem rfread_c (p : List UInt8) (hR : RepL l D.items) (hA : RfAt dk A cap l D w0) (hl : l.length ≤ 1048576) : Cal Tryz.prog 28 [.pointer (some ⟨dk, 0, none⟩), str p] w0
    (fun v w' => Upd [] w0 w' ∧ v = .tuple #[str (D.read p).1, .int .i64 (D.read p).2]) := by
  refine Cal.mk' (by kernel_rfl) Tryz.func28 rfl rfl fun hS => ?_
  have hb := hA.box
  have hkc := fun (w : World) (h : RfAt dk A cap l D w) => rfkind_c p hR h hl
  unfold Dk.read
  cases hg : mget D.items p with
  | none =>
    have hh : D.has p = false := by unfold Dk.has; rw [hg]; rfl
    rw [kind_none hg] at hkc
    rw [hh]
    generalize D.down = dn at *
    cases dn
    all_goals
      repeat' (first
        | (show WL _ _ _ _ _ _ _; first
          | refine WL.pure rfl rfl rfl rfl ?_
          | refine WL.nil ?_
          | (refine WL.load hS rfl rfl (LdOk.old hb (by repeat (first | exact List.Mem.head _ | apply List.Mem.tail)) rfl) rfl rfl rfl ?_)
          | (refine WL.calls hS rfl rfl (hkc _ (St.rfOld hS hA (by repeat (first | exact List.Mem.head _ | apply List.Mem.tail)))) rfl rfl rfl ?_; rintro v w rfl hS))
        | (show WC _ _ _ _ _ _; first
          | refine WC.seq ?_
          | refine WC.region ?_
          | refine WC.skip ?_
          | refine WC.ret ?_
          | refine WC.condT rfl (by with_reducible rfl) ?_
          | refine WC.condF rfl (by with_reducible rfl) ?_
          | refine WC.condT rfl (by decide) ?_)
        | refine seqQ_n ?_
        | refine seqQ_r ?_)
      exact fin2r rfl rfl rfl ⟨hS.upd, rfl⟩
  | some it =>
    have hat : D.at p = it := by unfold Dk.at; rw [hg]; rfl
    have hh : D.has p = true := by unfold Dk.has; rw [hg]; rfl
    rw [kind_some hg] at hkc
    rw [hat, hh, if_neg (show ¬ (true = false) by decide)]
    obtain ⟨i, hi⟩ := List.getElem?_of_mem (hR.at_ hg)
    have hpl := fun (w : World) (h : RfAt dk A cap l D w) => rfplaceY_c p hR hg h hl
    obtain ⟨rb0, ro0, es0, hA0, -⟩ := hA.row.at_ (List.getElem?_eq_some_iff.1 hi).1
    subst hA0
    obtain ⟨dir, dat, kept, loose, anew, stamp⟩ := it
    dsimp only at *
    clear hi
    generalize D.down = dn at *
    cases dn
    case' false => cases dir
    all_goals
      repeat' (first
        | (show WL _ _ _ _ _ _ _; first
          | refine WL.pure rfl rfl rfl rfl ?_
          | refine WL.nil ?_
          | (refine WL.load hS rfl rfl (LdOk.old hb (by repeat (first | exact List.Mem.head _ | apply List.Mem.tail)) rfl) rfl rfl rfl ?_)
          | (refine WL.calls hS rfl rfl (hkc _ (St.rfOld hS hA (by repeat (first | exact List.Mem.head _ | apply List.Mem.tail)))) rfl rfl rfl ?_; rintro v w rfl hS))
        | (show WC _ _ _ _ _ _; first
          | refine WC.seq ?_
          | refine WC.region ?_
          | refine WC.skip ?_
          | refine WC.ret ?_
          | (show WC _ _ (Code.region _ (List.toArray [_, _, _, _, _, _, _, _, _, _, _, _]) true) _ _ _; refine WC.drawS hS [0,1,2,3,4,5,7,8,9,10,11] [0,1,2,3,4,5,6,7,8,9,10,11] (by kernel_rfl) (by kernel_rfl) ?_; clear hS; intro w hS hM)
          | refine WC.condT rfl (by with_reducible rfl) ?_
          | refine WC.condF rfl (by with_reducible rfl) ?_
          | refine WC.condF rfl (decide_eq_false (by first | with_reducible assumption | omega)) ?_
          | refine WC.condT rfl (by first | (simp; done) | (simp; omega)) ?_
          | refine WC.condF rfl (by first | (simp; done) | (simp; omega)) ?_)
        | (show WD _ _ _ _ _ _ _ _ _; first
          | refine WD.pure rfl rfl rfl rfl rfl ?_
          | refine WD.nil ?_
          | (refine WD.load rfl rfl (LdOk.old hb (by repeat (first | exact List.Mem.head _ | apply List.Mem.tail)) rfl) rfl rfl rfl rfl ?_)
          | (refine WD.calls hS hM rfl rfl (hpl _ (St.rfOld hS hA (by repeat (first | exact List.Mem.head _ | apply List.Mem.tail)))) rfl rfl rfl rfl rfl ?_; clear hS; rintro v w ⟨i, hli, rfl⟩ hS; have hil := (List.getElem?_eq_some_iff.1 hli).1; obtain ⟨rb, ro, es, hAe, hF, hr, hes⟩ := hA.row.at_ hil; have hes : es = encRi l[i] := hes; subst hes; rw [(List.getElem?_eq_some_iff.1 hli).2] at hr; cases hAe; replace hr : w0.rangeAt _ (_ + i * 7) [str p, .bool false, str dat, str kept, .bool loose, .bool anew, .int .i64 stamp] := hr)
          | (refine WD.load rfl rfl (LdOk.snap (off := 2) hF hr (by repeat (first | exact List.Mem.head _ | apply List.Mem.tail)) rfl) rfl rfl rfl rfl ?_)
          | refine WD.index rfl rfl rfl rfl (by first | with_reducible assumption | omega) rfl rfl rfl rfl rfl ?_)
        | refine seqQ_n ?_
        | refine seqQ_r ?_)
      exact fin2r rfl rfl rfl ⟨hS.upd, rfl⟩
end
set_option maxHeartbeats 16000000 in
set_option maxRecDepth 100000 in
theorem rfrot_c {dk : Nat} {D : Dk} {fp : List Nat} (p : List UInt8) (bit : Int) {w0 : World} (hi : InL w0 [rfC dk D fp]) (hp : p.length ≤ 1099511627) (hn : D.items.length ≤ 1048576) (hdl : (D.at p).data.length ≤ 1099511627776) (hkl : (D.at p).kept.length ≤ 1099511627776) :
    Cal Tryz.prog 23 [.pointer (some ⟨dk, 0, none⟩), str p, .int .i64 bit] w0 (fun v w' => v = .int .i64 (D.rot p bit).1 ∧ ∃ fp', MutL w0 w' [rfC dk D fp] [rfC dk (D.rot p bit).2 fp']) := by
  refine Cal.mkL hi (by kernel_rfl) Tryz.func23 rfl rfl fun hS => ?_
  obtain ⟨_, ⟨A, cap, l, hR, rfl⟩, hfp, hS⟩ := St.objOpen hS
  replace hS : St w0 _ w0 (rfL dk A cap l D) _ := hS
  have hl : l.length ≤ 1048576 := by rw [hR.len]; exact hn
  have hth := fun (w : World) (h : RfAt dk A cap l D w) => rfthere_c p hR h hl hp
  rw [there_file] at hth
  unfold Dk.rot
  by_cases he : D.file p = 0
  · rw [if_neg (fun e => e he)]
    rw [he] at hth
    obtain ⟨hmay, it, hg, hat, hdir⟩ := file_get he
    rw [hat] at hdl hkl ⊢
    have hpl := fun (w : World) (h : RfAt dk A cap l D w) => rfplaceY_c p hR hg h hl
    obtain ⟨kg, ko, rfl⟩ := hS.own_addr (A := A) (n := l.length) (by repeat (first | exact List.Mem.head _ | apply List.Mem.tail)) (rf_pos hR hg)
    obtain ⟨dir, dat, kept, loose, anew, stamp⟩ := it
    dsimp only at hdir hdl hkl ⊢
    subst hdir
    have htd := fun w => rturn_c dat bit w hdl
    have htk := fun w => rturn_c kept bit w hkl
    generalize turnE dat bit = dat2 at *
    generalize turnE kept bit = kept2 at *
    have hput := fun (w : World) (hI : InL w (rfL dk (some ⟨kg, ko, none⟩) cap l { D with stamps := IntKind.i64.wrap (D.stamps + 1) })) => rfput_c ⟨p, ⟨false, dat2, kept2, loose, anew, IntKind.i64.wrap (D.stamps + 1)⟩⟩ (D := { D with stamps := IntKind.i64.wrap (D.stamps + 1) }) hR hI hl
    repeat' (first
      | (show WL _ _ _ _ _ _ _; first
        | refine WL.pure rfl rfl rfl rfl ?_
        | refine WL.nil ?_
        | refine WL.load hS rfl rfl (LdOk.box (by repeat (first | exact List.Mem.head _ | apply List.Mem.tail)) rfl) rfl rfl rfl ?_
        | (refine WL.calls hS rfl rfl (hth _ (St.rfAt hS (by repeat (first | exact List.Mem.head _ | apply List.Mem.tail)) (by repeat (first | exact List.Mem.head _ | apply List.Mem.tail)))) rfl rfl rfl ?_; rintro v w rfl hS)
        | (refine WL.callL (D := rfL dk (some ⟨kg, ko, none⟩) cap l D) hS (by repeat (first | exact Pulls.nil | (apply Pulls.cons; focus (repeat (first | exact Pull.here | apply Pull.there))))) rfl rfl (fun hI => rfstamped_c ⟨p, ⟨false, dat2, kept2, loose, anew, stamp⟩⟩ hI) rfl rfl rfl ?_; rintro v w ⟨rfl, hm⟩ hS; replace hS := hS _ hm; clear hm)
        | (refine WL.callL (D := rfL dk (some ⟨kg, ko, none⟩) cap l { D with stamps := IntKind.i64.wrap (D.stamps + 1) }) hS (by repeat (first | exact Pulls.nil | (apply Pulls.cons; focus (repeat (first | exact Pull.here | apply Pull.there))))) rfl rfl (fun hI => hput _ hI) rfl rfl rfl ?_; rintro v w ⟨rfl, A', cap', l', hR', hm⟩ hS; replace hS := hS _ hm; clear hm))
      | (show WC _ _ _ _ _ _; first
        | refine WC.seq ?_
        | refine WC.region ?_
        | refine WC.skip ?_
        | refine WC.ret ?_
        | (show WC _ _ (Code.region _ (List.toArray [_, _, _, _, _, _, _, _, _, _, _]) true) _ _ _; refine WC.drawP hS [0,1,2,3,4,5,7,8] [0,1,2,3,4,5] (.two 6 [7,8,9,10] .nil 9 [6,7,8,10] .nil) (by kernel_rfl) (by kernel_rfl) ?_; clear hS; intro w hS hM)
        | (show WC _ _ (Code.region _ (List.toArray [_, _, _, _, _, _, _, _, _, _, _, _]) true) _ _ _; refine WC.drawV hS [0,1,2,4,5,6,8,10] [0,1,2,4,5,6,3,8,7] 9 [10,11] (by kernel_rfl) (by kernel_rfl) ?_; clear hS; intro w hS hM)
        | refine WC.condF rfl (by decide) ?_)
      | (show WD _ _ _ _ _ _ _ _ _; first
        | refine WD.pure rfl rfl rfl rfl rfl ?_
        | refine WD.nil ?_
        | refine WD.load rfl rfl (LdOk.box (by repeat (first | exact List.Mem.head _ | apply List.Mem.tail)) rfl) rfl rfl rfl rfl ?_
        | (refine WD.fork ?_ ?_)
        | (refine WD.alloc (t := 110) hS hM rfl rfl rfl rfl rfl rfl rfl rfl ?_; clear hS hM; intro w b hS hM)
        | (refine WD.calls hS hM rfl rfl (hpl _ (St.rfAt hS (by repeat (first | exact List.Mem.head _ | apply List.Mem.tail)) (by repeat (first | exact List.Mem.head _ | apply List.Mem.tail)))) rfl rfl rfl rfl rfl ?_; clear hS; rintro v w ⟨i, hli, rfl⟩ hS; have hil := (List.getElem?_eq_some_iff.1 hli).1)
        | (refine WD.calls hS hM rfl rfl (htd _) rfl rfl rfl rfl rfl ?_; clear hS; rintro v w rfl hS)
        | (refine WD.calls hS hM rfl rfl (htk _) rfl rfl rfl rfl rfl ?_; clear hS; rintro v w rfl hS)
        | (refine WD.pivStore hS rfl rfl rfl (by repeat (first | exact StB.here rfl | apply StB.there)) rfl rfl rfl rfl ?_; clear hS; intro w hS hM)
        | (refine WD.load rfl rfl (LdOk.ownElemE (enc := encRi) (k := i) (fun _ => rfl) (by repeat (first | exact List.Mem.head _ | apply List.Mem.tail)) hli rfl rfl) rfl rfl rfl rfl ?_)
        | (refine WD.store hS rfl rfl rfl (by repeat (first | exact StB.here rfl | apply StB.there)) rfl (by first | exact .refl _ _ | exact .chunk (.refl _ _) _ | exact .chunk (.chunk (.refl _ _) _) _ | exact More.none) rfl rfl rfl rfl ?_; clear hS hM; intro w hS hM)
        | refine WD.index rfl rfl rfl rfl (by first | with_reducible assumption | omega) rfl rfl rfl rfl rfl ?_)
      | (refine WDo.alloc (t := 110) hS hM rfl rfl rfl rfl rfl rfl rfl ?_; clear hS hM; intro w b hS hM)
      | (refine WDo.calls hS hM rfl rfl (hpl _ (St.rfAt hS (by repeat (first | exact List.Mem.head _ | apply List.Mem.tail)) (by repeat (first | exact List.Mem.head _ | apply List.Mem.tail)))) rfl rfl rfl rfl ?_; clear hS; rintro v w ⟨i, hli, rfl⟩ hS; have hil := (List.getElem?_eq_some_iff.1 hli).1)
      | refine seqQ_n ?_)
    all_goals
      have hS := St.objClose (φ := rfφ dk (D.set p ⟨false, dat2, kept2, loose, anew, stamp⟩)) (hS.pulls (D := rfL dk A' cap' l' (D.set p ⟨false, dat2, kept2, loose, anew, stamp⟩)) (by repeat (first | exact Pulls.nil | (apply Pulls.cons; focus (repeat (first | exact Pull.here | apply Pull.there)))))) ⟨A', cap', l', hR', rfl⟩
      exact fin1r rfl rfl ⟨rfl, _, hS.mutLp (by repeat (first | exact Pulls.nil | (apply Pulls.cons; focus (repeat (first | exact Pull.here | apply Pull.there)))))⟩
  · rw [if_pos he]
    repeat' (first
      | (show WL _ _ _ _ _ _ _; first
        | refine WL.pure rfl rfl rfl rfl ?_
        | refine WL.nil ?_
        | (refine WL.calls hS rfl rfl (hth _ (St.rfAt hS (by repeat (first | exact List.Mem.head _ | apply List.Mem.tail)) (by repeat (first | exact List.Mem.head _ | apply List.Mem.tail)))) rfl rfl rfl ?_; rintro v w rfl hS))
      | (show WC _ _ _ _ _ _; first
        | refine WC.seq ?_
        | refine WC.region ?_
        | refine WC.ret ?_
        | refine WC.condT rfl (decide_eq_true (by first | with_reducible assumption | omega)) ?_)
      | refine seqQ_n ?_
      | refine seqQ_r ?_)
    have hS := St.objClose (φ := rfφ dk D) (hS.pulls (D := rfL dk A cap l D) (by repeat (first | exact Pulls.nil | (apply Pulls.cons; focus (repeat (first | exact Pull.here | apply Pull.there)))))) ⟨A, cap, l, hR, rfl⟩
    exact fin1r rfl rfl ⟨rfl, _, hS.mutLp (by repeat (first | exact Pulls.nil | (apply Pulls.cons; focus (repeat (first | exact Pull.here | apply Pull.there)))))⟩
end Go.Proofs.YtccfiohagbneaaaGreatDoor

/- What is proved: what the reference's checksum answers. Conditions: a text of bounded length. -/
set_option linter.unusedSimpArgs false
set_option linter.unusedVariables false
namespace Go.Proofs.YtccfiohagbneaaaGreatDoor
open Go Go.J Go.RowKit

theorem xor_half (a b : Nat) : (a ^^^ b) / 2 = (a / 2) ^^^ (b / 2) := Nat.xor_div_two
theorem xor_odd (a b : Nat) : ((a ^^^ b) % 2 = 1) ↔ ¬ ((a % 2 = 1) ↔ (b % 2 = 1)) := by
  exact Nat.xor_mod_two_eq_one
/-- a bit of the checksum, the byte apart -/
def refS (a x : Nat) : Nat := if (decide (a % 2 = 1)) ≠ (decide (x % 2 = 1)) then (a / 2) ^^^ 3988292384 else a / 2
theorem refS_crc (a x : Nat) : refS a x ^^^ (x / 2) = crcS (a ^^^ x) := by
  unfold refS crcS
  rw [xor_half]
  have h := xor_odd a x
  by_cases h1 : (a ^^^ x) % 2 = 1
  · have h2 := h.1 h1
    rw [if_pos h1, if_pos (fun e => h2 (decide_eq_decide.1 e)), Nat.xor_assoc, Nat.xor_comm 3988292384, ← Nat.xor_assoc]
  · have h2 : (a % 2 = 1) ↔ (x % 2 = 1) := Classical.byContradiction fun hn => h1 (h.2 hn)
    rw [if_neg h1, if_neg (fun e => e (decide_eq_decide.2 h2)), Nat.xor_zero]
theorem refS_lt {a : Nat} (x : Nat) (h : a < 4294967296) : refS a x < 4294967296 := by
  unfold refS
  split
  · exact Nat.xor_lt_two_pow (n := 32) (by omega) (by omega)
  · omega
theorem sub_xor {c : Nat} (h : c < 4294967296) : 4294967295 - c = 4294967295 ^^^ c := by
  refine Nat.eq_of_testBit_eq fun i => ?_
  rw [show 4294967295 - c = 2 ^ 32 - (c + 1) by omega, Nat.testBit_two_pow_sub_succ (by omega), Nat.testBit_xor, show (4294967295 : Nat) = 2 ^ 32 - 1 from rfl, Nat.testBit_two_pow_sub_one]
  by_cases hi : i < 32
  · rw [decide_eq_true hi]; simp
  · rw [decide_eq_false hi, Nat.testBit_lt_two_pow (Nat.lt_of_lt_of_le (show c < 2 ^ 32 by omega) (Nat.pow_le_pow_right (by decide) (by omega)))]; rfl
theorem refS_bool (a x : Nat) : (decide (((a : Nat) : Int) % 2 = 1) = decide (a % 2 = 1)) ∧ (decide (((x : Nat) : Int) % 2 = 1) = decide (x % 2 = 1)) := ⟨decide_eq_decide.2 (by omega), decide_eq_decide.2 (by omega)⟩
theorem crcN_zero : ∀ j, crcN j 0 = 0
  | 0 => rfl
  | j + 1 => crcN_zero j
set_option maxHeartbeats 8000000 in
set_option maxRecDepth 100000 in
theorem rsum_c (s : List UInt8) (w0 : World) (hl : s.length ≤ 1099511627776) : Cal Tryz.prog 135 [str s] w0 (fun v w' => Upd [] w0 w' ∧ v = .int .u32 ((sumE s : Nat) : Int)) := by
  refine Cal.mk' (by kernel_rfl) Tryz.func135 rfl rfl fun hS => ?_
  repeat' (first
    | (show WL _ _ _ _ _ _ _; first
      | refine WL.pure rfl rfl rfl rfl ?_
      | refine WL.nil ?_)
    | (show WC _ _ _ _ _ _; first
      | refine WC.seq ?_
      | refine WC.region ?_
      | refine WC.block ?_)
    | refine seqQ_n ?_)
  refine WC.loop (σ := Nat × Nat) [0] (fun (k, c) => [(3, .int .u32 (c : Int)), (4, .int .i64 (k : Int))]) (fun (k, c) w => k ≤ s.length ∧ c = crcL 4294967295 (s.take k) ∧ St w0 [] w [] _) (fun (k, _) => s.length - k) (0, 4294967295) ⟨Nat.zero_le _, rfl, hS⟩ ⟨rfl, rfl, trivial⟩ ?_
  clear hS
  rintro ⟨k, c⟩ g w ⟨hk, hc, hS⟩
  have hclt : c < 4294967296 := by rw [hc]; exact crcL_lt _ (by omega)
  by_cases hlt : k < s.length
  · have hx : s[k]? = some s[k] := List.getElem?_eq_getElem hlt
    have hnx : crcL 4294967295 (s.take (k + 1)) = crcB c s[k] := by rw [List.take_succ_eq_append_getElem hlt, crcL_snoc, ← hc]
    generalize s[k] = x at *
    clear hc
    have hxt := x.toNat_lt
    repeat' (first
      | (show WL _ _ _ _ _ _ _; first
        | refine WL.pure rfl rfl rfl rfl ?_
        | refine WL.nil ?_
        | refine WL.conv64 rfl rfl rfl (by omega) rfl rfl rfl ?_
        | refine WL.idxS rfl rfl rfl rfl (by with_reducible assumption) rfl rfl rfl ?_)
      | (show WC _ _ _ _ _ _; first
        | refine WC.seq ?_
        | refine WC.region ?_
        | refine WC.block ?_
        | refine WC.skip ?_
        | refine WC.condT rfl (decide_eq_true (by first | with_reducible assumption | omega)) ?_)
      | refine seqQ_n ?_)
    refine WC.loop (σ := Nat × Nat × Nat) [0, 4] (fun (j, a, y) => [(3, .int .u32 (a : Int)), (5, .int .i64 (y : Int)), (6, .int .i64 (j : Int))]) (fun (j, a, y) w => (j ≤ 8 ∧ crcN (8 - j) (a ^^^ y) = crcB c x ∧ a < 4294967296 ∧ y < 2 ^ (8 - j)) ∧ St w0 [] w [] _) (fun (j, _) => 8 - j) (0, c, x.toNat) ⟨⟨by omega, rfl, hclt, hxt⟩, hS⟩ ⟨rfl, rfl, rfl, trivial⟩ ?_
    clear hS
    rintro ⟨j, a, y⟩ g w ⟨⟨hj, he, halt, hyl⟩, hS⟩
    by_cases h8 : j < 8
    · have hst := refS_crc a y
      have hlt2 := refS_lt y halt
      have h82 : 8 - j = (8 - (j + 1)) + 1 := by omega
      have hy256 : y < 256 := Nat.lt_of_lt_of_le hyl (Nat.pow_le_pow_right (n := 2) (by decide) (show 8 - j ≤ 8 by omega))
      have hyn : y / 2 < 2 ^ (8 - (j + 1)) := by rw [h82, Nat.pow_succ] at hyl; omega
      have hen : crcN (8 - (j + 1)) (refS a y ^^^ (y / 2)) = crcB c x := by rw [hst, ← he, h82]; rfl
      have hxa := u32_xor_nat (a / 2) 3988292384 (by omega) (by omega)
      have hwr : IntKind.u32.wrap ((a : Int) % 2) = (a : Int) % 2 := by rw [IntKind.wrap_u32']; omega
      have hwq : IntKind.u32.wrap ((a : Int) / 2) = (a : Int) / 2 := by rw [IntKind.wrap_u32']; omega
      have hq : (a : Int) / 2 = ((a / 2 : Nat) : Int) := by omega
      clear he hst hyl h82
      have hqy : (y : Int) / 2 = ((y / 2 : Nat) : Int) := by omega
      rcases Nat.mod_two_eq_zero_or_one a with pa | pa <;> rcases Nat.mod_two_eq_zero_or_one y with py | py
      · have hA : decide (((a : Nat) : Int) % 2 = 1) = false := decide_eq_false (by omega)
        have hY : decide (((y : Nat) : Int) % 2 = 1) = false := decide_eq_false (by omega)
        have hR : refS a y = a / 2 := by unfold refS; rw [pa, py]; rfl
        rw [hR] at hen hlt2
        clear hR
        repeat' (first
          | (show WL _ _ _ _ _ _ _; first
            | refine WL.pure rfl rfl rfl rfl ?_
            | refine WL.nil ?_
            | refine WL.add rfl rfl rfl (by omega) rfl rfl rfl ?_
            | (refine WL.remK rfl rfl rfl (by omega) (by omega) hwr rfl rfl rfl ?_)
            | (refine WL.quoK rfl rfl rfl (by omega) (by omega) hwq rfl rfl rfl ?_; rw [hq])
            | (refine WL.rem rfl rfl rfl (by omega) (by omega) rfl rfl rfl ?_)
            | (refine WL.quo rfl rfl rfl (by omega) (by omega) (by omega) rfl rfl rfl ?_; rw [hqy]))
          | (show WC _ _ _ _ _ _; first
            | refine WC.seq ?_
            | refine WC.region ?_
            | refine WC.block ?_
            | refine WC.skip ?_
            | refine WC.condT rfl (decide_eq_true (by first | with_reducible assumption | omega)) ?_
            | refine WC.condF rfl (by first | (simp; done) | (simp; omega)) ?_)
          | refine seqQ_n ?_
          | refine blkQ_n ?_)
        exact rndQ_n (j + 1, a / 2, y / 2) ⟨⟨by omega, hen, hlt2, hyn⟩, hS⟩ (by show 8 - (j + 1) < 8 - j; omega) ⟨rfl, rfl, vint (by omega), trivial⟩ ⟨rfl, rfl, trivial⟩
      · have hA : decide (((a : Nat) : Int) % 2 = 1) = false := decide_eq_false (by omega)
        have hY : decide (((y : Nat) : Int) % 2 = 1) = true := decide_eq_true (by omega)
        have hR : refS a y = (a / 2) ^^^ 3988292384 := by unfold refS; rw [pa, py]; rfl
        rw [hR] at hen hlt2
        clear hR
        repeat' (first
          | (show WL _ _ _ _ _ _ _; first
            | refine WL.pure rfl rfl rfl rfl ?_
            | refine WL.nil ?_
            | refine WL.add rfl rfl rfl (by omega) rfl rfl rfl ?_
            | (refine WL.remK rfl rfl rfl (by omega) (by omega) hwr rfl rfl rfl ?_)
            | (refine WL.quoK rfl rfl rfl (by omega) (by omega) hwq rfl rfl rfl ?_; rw [hq])
            | (refine WL.rem rfl rfl rfl (by omega) (by omega) rfl rfl rfl ?_)
            | (refine WL.quo rfl rfl rfl (by omega) (by omega) (by omega) rfl rfl rfl ?_; rw [hqy]))
          | (show WC _ _ _ _ _ _; first
            | refine WC.seq ?_
            | refine WC.region ?_
            | refine WC.block ?_
            | refine WC.skip ?_
            | refine WC.condT rfl (decide_eq_true (by first | with_reducible assumption | omega)) ?_
            | refine WC.condT rfl (by first | (simp; done) | (simp; omega)) ?_)
          | refine seqQ_n ?_
          | refine blkQ_n ?_)
        exact rndQ_n (j + 1, (a / 2) ^^^ 3988292384, y / 2) ⟨⟨by omega, hen, hlt2, hyn⟩, hS⟩ (by show 8 - (j + 1) < 8 - j; omega) ⟨congrArg (Value.int .u32) hxa, rfl, vint (by omega), trivial⟩ ⟨rfl, rfl, trivial⟩
      · have hA : decide (((a : Nat) : Int) % 2 = 1) = true := decide_eq_true (by omega)
        have hY : decide (((y : Nat) : Int) % 2 = 1) = false := decide_eq_false (by omega)
        have hR : refS a y = (a / 2) ^^^ 3988292384 := by unfold refS; rw [pa, py]; rfl
        rw [hR] at hen hlt2
        clear hR
        repeat' (first
          | (show WL _ _ _ _ _ _ _; first
            | refine WL.pure rfl rfl rfl rfl ?_
            | refine WL.nil ?_
            | refine WL.add rfl rfl rfl (by omega) rfl rfl rfl ?_
            | (refine WL.remK rfl rfl rfl (by omega) (by omega) hwr rfl rfl rfl ?_)
            | (refine WL.quoK rfl rfl rfl (by omega) (by omega) hwq rfl rfl rfl ?_; rw [hq])
            | (refine WL.rem rfl rfl rfl (by omega) (by omega) rfl rfl rfl ?_)
            | (refine WL.quo rfl rfl rfl (by omega) (by omega) (by omega) rfl rfl rfl ?_; rw [hqy]))
          | (show WC _ _ _ _ _ _; first
            | refine WC.seq ?_
            | refine WC.region ?_
            | refine WC.block ?_
            | refine WC.skip ?_
            | refine WC.condT rfl (decide_eq_true (by first | with_reducible assumption | omega)) ?_
            | refine WC.condT rfl (by first | (simp; done) | (simp; omega)) ?_)
          | refine seqQ_n ?_
          | refine blkQ_n ?_)
        exact rndQ_n (j + 1, (a / 2) ^^^ 3988292384, y / 2) ⟨⟨by omega, hen, hlt2, hyn⟩, hS⟩ (by show 8 - (j + 1) < 8 - j; omega) ⟨congrArg (Value.int .u32) hxa, rfl, vint (by omega), trivial⟩ ⟨rfl, rfl, trivial⟩
      · have hA : decide (((a : Nat) : Int) % 2 = 1) = true := decide_eq_true (by omega)
        have hY : decide (((y : Nat) : Int) % 2 = 1) = true := decide_eq_true (by omega)
        have hR : refS a y = a / 2 := by unfold refS; rw [pa, py]; rfl
        rw [hR] at hen hlt2
        clear hR
        repeat' (first
          | (show WL _ _ _ _ _ _ _; first
            | refine WL.pure rfl rfl rfl rfl ?_
            | refine WL.nil ?_
            | refine WL.add rfl rfl rfl (by omega) rfl rfl rfl ?_
            | (refine WL.remK rfl rfl rfl (by omega) (by omega) hwr rfl rfl rfl ?_)
            | (refine WL.quoK rfl rfl rfl (by omega) (by omega) hwq rfl rfl rfl ?_; rw [hq])
            | (refine WL.rem rfl rfl rfl (by omega) (by omega) rfl rfl rfl ?_)
            | (refine WL.quo rfl rfl rfl (by omega) (by omega) (by omega) rfl rfl rfl ?_; rw [hqy]))
          | (show WC _ _ _ _ _ _; first
            | refine WC.seq ?_
            | refine WC.region ?_
            | refine WC.block ?_
            | refine WC.skip ?_
            | refine WC.condT rfl (decide_eq_true (by first | with_reducible assumption | omega)) ?_
            | refine WC.condF rfl (by first | (simp; done) | (simp; omega)) ?_)
          | refine seqQ_n ?_
          | refine blkQ_n ?_)
        exact rndQ_n (j + 1, a / 2, y / 2) ⟨⟨by omega, hen, hlt2, hyn⟩, hS⟩ (by show 8 - (j + 1) < 8 - j; omega) ⟨rfl, rfl, vint (by omega), trivial⟩ ⟨rfl, rfl, trivial⟩
    · obtain rfl : j = 8 := by omega
      have hy0 : y = 0 := by have : y < 2 ^ 0 := hyl; omega
      subst hy0
      have he : a ^^^ 0 = crcB c x := he
      rw [Nat.xor_zero] at he
      subst he
      repeat' (first
        | (show WL _ _ _ _ _ _ _; first
          | refine WL.pure rfl rfl rfl rfl ?_
          | refine WL.nil ?_
          | refine WL.add rfl rfl rfl (by omega) rfl rfl rfl ?_)
        | (show WC _ _ _ _ _ _; first
          | refine WC.seq ?_
          | refine WC.region ?_
          | refine WC.exit ?_
          | refine WC.condF rfl (by decide) ?_)
        | refine seqQ_n ?_
        | refine blkQ_n ?_
        | refine seqQ_x ?_
        | refine blkQ_hit rfl ?_
        | refine rndQ_x ?_)
      exact rndQ_n (k + 1, crcB c x) ⟨by omega, hnx.symm, hS⟩ (by show s.length - (k + 1) < s.length - k; omega) ⟨rfl, vint (by omega), trivial⟩ ⟨rfl, trivial⟩
  · have hks : s.take k = s := List.take_of_length_le (by omega)
    rw [hks] at hc
    subst hc
    have hcm := sub_xor hclt
    have hse : sumE s = 4294967295 - crcL 4294967295 s := by rw [hcm]; rfl
    have hwr : IntKind.u32.wrap (4294967295 - ((crcL 4294967295 s : Nat) : Int)) = ((sumE s : Nat) : Int) := by rw [IntKind.wrap_u32', hse]; omega
    clear hse hcm
    repeat' (first
      | (show WL _ _ _ _ _ _ _; first
        | refine WL.pure rfl rfl rfl rfl ?_
        | refine WL.nil ?_)
      | (show WC _ _ _ _ _ _; first
        | refine WC.seq ?_
        | refine WC.region ?_
        | refine WC.exit ?_
        | refine WC.ret ?_
        | refine WC.condF rfl (decide_eq_false (by first | with_reducible assumption | omega)) ?_)
      | refine seqQ_n ?_
      | refine seqQ_x ?_
      | refine blkQ_hit rfl ?_
      | refine rndQ_x ?_)
    exact fin1r rfl rfl ⟨hS.upd, congrArg (Value.int .u32) hwr⟩
end Go.Proofs.YtccfiohagbneaaaGreatDoor

/- What is proved: plain facts on changes as bytes. Conditions: none. -/
set_option linter.unusedSimpArgs false
set_option linter.unusedVariables false
namespace Go.Proofs.YtccfiohagbneaaaGreatDoor
open Go Go.J Go.RowKit

/-- a change -/
structure Chg where
  key : List UInt8
  val : List UInt8
  gone : Bool
def Chg0 : Chg := ⟨[], [], false⟩
def cellsChg (o : Chg) : List Value := [str o.key, str o.val, .bool o.gone]
@[reducible] def encChg (o : Chg) : Value := .agg ⟨[str o.key, str o.val, .bool o.gone]⟩
def chgs (l : List Chg) : List Value := l.flatMap cellsChg
theorem chgs_len (l : List Chg) : (chgs l).length = l.length * 3 := flat_len (enc := cellsChg) (fun _ => rfl) l
theorem chgs_snoc (l : List Chg) (o : Chg) : chgs l ++ cellsChg o = chgs (l ++ [o]) := by simp [chgs]
theorem chgs_one (l : List Chg) : one (chgs l) = true := by
  unfold one
  rw [List.all_eq_true]
  intro v hv
  obtain ⟨o, _, h⟩ := List.mem_flatMap.1 hv
  simp only [cellsChg, List.mem_cons, List.not_mem_nil, or_false] at h
  rcases h with rfl | rfl | rfl <;> rfl
def recO (o : Chg) : List UInt8 := if o.gone then 0 :: textE o.key else 1 :: (textE o.key ++ textE o.val)
def recordE (l : List Chg) : List UInt8 := putN l.length ++ l.flatMap recO
/-- the change at the head of the bytes, how many bytes it has, the error -/
def opE (t : List UInt8) : Chg × Nat × Int :=
  if (uintE t).2.2 ≠ 0 then (Chg0, 0, (uintE t).2.2)
  else if 1 < (uintE t).1 then (Chg0, 0, 3)
  else if (rtextE (t.drop (uintE t).2.1)).2.2 ≠ 0 then (Chg0, 0, (rtextE (t.drop (uintE t).2.1)).2.2)
  else if (uintE t).1 = 0 then (⟨(rtextE (t.drop (uintE t).2.1)).1, [], true⟩, (uintE t).2.1 + (rtextE (t.drop (uintE t).2.1)).2.1, 0)
  else if (rtextE (t.drop ((uintE t).2.1 + (rtextE (t.drop (uintE t).2.1)).2.1))).2.2 ≠ 0 then (Chg0, 0, (rtextE (t.drop ((uintE t).2.1 + (rtextE (t.drop (uintE t).2.1)).2.1))).2.2)
  else (⟨(rtextE (t.drop (uintE t).2.1)).1, (rtextE (t.drop ((uintE t).2.1 + (rtextE (t.drop (uintE t).2.1)).2.1))).1, false⟩, (uintE t).2.1 + (rtextE (t.drop (uintE t).2.1)).2.1 + (rtextE (t.drop ((uintE t).2.1 + (rtextE (t.drop (uintE t).2.1)).2.1))).2.1, 0)
/-- n changes -/
def opsF : Nat → List UInt8 → List Chg × Nat × Int
  | 0, _ => ([], 0, 0)
  | n + 1, t => if (opE t).2.2 ≠ 0 then ([], 0, (opE t).2.2)
    else if (opsF n (t.drop (opE t).2.1)).2.2 ≠ 0 then ([], 0, (opsF n (t.drop (opE t).2.1)).2.2)
    else ((opE t).1 :: (opsF n (t.drop (opE t).2.1)).1, (opE t).2.1 + (opsF n (t.drop (opE t).2.1)).2.1, 0)
/-- all changes of the bytes, the error -/
def opsE (s : List UInt8) : List Chg × Int :=
  if (uintE s).2.2 ≠ 0 then ([], (uintE s).2.2)
  else if (opsF (uintE s).1 (s.drop (uintE s).2.1)).2.2 ≠ 0 then ([], (opsF (uintE s).1 (s.drop (uintE s).2.1)).2.2)
  else if (uintE s).2.1 + (opsF (uintE s).1 (s.drop (uintE s).2.1)).2.1 < s.length then ([], 5)
  else ((opsF (uintE s).1 (s.drop (uintE s).2.1)).1, 0)
theorem uintE_le (t : List UInt8) : (uintE t).2.1 ≤ t.length := by
  by_cases h : (uintE t).2.2 = 0
  · exact (uintE_ok t h).2
  · unfold uintE at h ⊢
    split
    · rename_i h1
      rw [if_pos h1] at h
      split
      · rename_i h2
        rw [if_pos h2] at h
        exact absurd h1 h
      · exact Nat.zero_le _
    · exact Nat.zero_le _
theorem varE_pos : ∀ (t : List UInt8) (i x : Nat), (varE t i x).2.2 = 0 → 1 ≤ (varE t i x).2.1
  | [], i, x, h => by simp [varE] at h
  | c :: t, i, x, h => by
    unfold varE at h ⊢
    repeat' split
    all_goals simp_all
    rename_i h1 h2
    exact varE_pos t _ _ h
theorem uintE_pos (t : List UInt8) (h : (uintE t).2.2 = 0) : 1 ≤ (uintE t).2.1 := by
  unfold uintE at h ⊢
  split
  · rename_i h1
    rw [if_pos h1] at h
    split
    · exact varE_pos t 0 0 h1
    · rename_i h2
      rw [if_neg h2] at h
      cases h
  · rename_i h1
    rw [if_neg h1] at h
    exact absurd h h1
theorem rtextE_le' (t : List UInt8) : (rtextE t).2.1 ≤ t.length := by
  by_cases h : (rtextE t).2.2 = 0
  · exact (rtextE_le t h).1
  · unfold rtextE at h ⊢
    split
    · split
      · assumption
      · exact Nat.zero_le _
    · exact Nat.zero_le _
theorem opE_le (t : List UInt8) : (opE t).2.1 ≤ t.length := by
  have h1 := uintE_le t
  have h2 := rtextE_le' (t.drop (uintE t).2.1)
  have h3 := rtextE_le' (t.drop ((uintE t).2.1 + (rtextE (t.drop (uintE t).2.1)).2.1))
  rw [List.length_drop] at h2 h3
  unfold opE
  repeat' split
  all_goals first
    | exact Nat.zero_le _
    | (dsimp only; omega)
theorem opE_e {t : List UInt8} {n u : Nat} {e : Int} (h : uintE t = (n, u, e)) (he : e ≠ 0) : opE t = (Chg0, 0, e) := by unfold opE; rw [h, if_pos he]
theorem opE_big {t : List UInt8} {n u : Nat} (h : uintE t = (n, u, 0)) (hn : 1 < n) : opE t = (Chg0, 0, 3) := by unfold opE; rw [h, if_neg (fun h => h rfl), if_pos hn]
theorem opE_k {t x : List UInt8} {n u v : Nat} {e : Int} (h : uintE t = (n, u, 0)) (hn : ¬ 1 < n) (h2 : rtextE (t.drop u) = (x, v, e)) (he : e ≠ 0) : opE t = (Chg0, 0, e) := by
  unfold opE; rw [h, if_neg (fun h => h rfl), if_neg hn]; dsimp only; rw [h2, if_pos he]
theorem opE_gone {t x : List UInt8} {u v : Nat} (h : uintE t = (0, u, 0)) (h2 : rtextE (t.drop u) = (x, v, 0)) : opE t = (⟨x, [], true⟩, u + v, 0) := by
  unfold opE; rw [h, if_neg (fun h => h rfl), if_neg (show ¬ 1 < 0 by decide)]; dsimp only; rw [h2, if_neg (fun h => h rfl), if_pos rfl]
theorem opE_v {t x y : List UInt8} {u v z : Nat} {e : Int} (h : uintE t = (1, u, 0)) (h2 : rtextE (t.drop u) = (x, v, 0)) (h3 : rtextE (t.drop (u + v)) = (y, z, e)) (he : e ≠ 0) : opE t = (Chg0, 0, e) := by
  unfold opE; rw [h, if_neg (fun h => h rfl), if_neg (show ¬ 1 < 1 by decide)]; dsimp only; rw [h2, if_neg (fun h => h rfl), if_neg (show ¬ 1 = 0 by decide)]; dsimp only; rw [h3, if_pos he]
theorem opE_put {t x y : List UInt8} {u v z : Nat} (h : uintE t = (1, u, 0)) (h2 : rtextE (t.drop u) = (x, v, 0)) (h3 : rtextE (t.drop (u + v)) = (y, z, 0)) : opE t = (⟨x, y, false⟩, u + v + z, 0) := by
  unfold opE; rw [h, if_neg (fun h => h rfl), if_neg (show ¬ 1 < 1 by decide)]; dsimp only; rw [h2, if_neg (fun h => h rfl), if_neg (show ¬ 1 = 0 by decide)]; dsimp only; rw [h3, if_neg (fun h => h rfl)]
/-- what is answered of changes that were read, and of those to come -/
def opsFin (s : List UInt8) (l : List Chg) (p : Nat) (r : List Chg × Nat × Int) : List Chg × Int := if r.2.2 ≠ 0 then ([], r.2.2) else if p + r.2.1 < s.length then ([], 5) else (l ++ r.1, 0)
theorem opsF_s (n : Nat) (t : List UInt8) : opsF (n + 1) t = if (opE t).2.2 ≠ 0 then ([], 0, (opE t).2.2)
    else if (opsF n (t.drop (opE t).2.1)).2.2 ≠ 0 then ([], 0, (opsF n (t.drop (opE t).2.1)).2.2)
    else ((opE t).1 :: (opsF n (t.drop (opE t).2.1)).1, (opE t).2.1 + (opsF n (t.drop (opE t).2.1)).2.1, 0) := rfl
theorem opsFin_no {s t : List UInt8} {l : List Chg} {p m u : Nat} {o : Chg} {e : Int} (h : opE t = (o, u, e)) (he : e ≠ 0) : opsFin s l p (opsF (m + 1) t) = ([], e) := by
  rw [opsF_s, h, if_pos he]
  unfold opsFin
  rw [if_pos he]
theorem opsFin_ok {s t : List UInt8} {l : List Chg} {p m u : Nat} {o : Chg} (h : opE t = (o, u, 0)) : opsFin s l p (opsF (m + 1) t) = opsFin s (l ++ [o]) (p + u) (opsF m (t.drop u)) := by
  rw [opsF_s, h, if_neg (fun h => h rfl)]
  dsimp only
  generalize opsF m (t.drop u) = r
  obtain ⟨a, b, e⟩ := r
  dsimp only
  unfold opsFin
  by_cases he : e ≠ 0
  · rw [if_pos he, if_pos he, if_pos he]
  · rw [if_neg he, if_neg he]
    dsimp only
    rw [if_neg (fun h => h rfl), Nat.add_assoc]
    simp
theorem opsE_of {s : List UInt8} {n u : Nat} (h : uintE s = (n, u, 0)) : opsE s = opsFin s [] u (opsF n (s.drop u)) := by
  unfold opsE opsFin
  rw [h, if_neg (fun h => h rfl)]
  dsimp only
  rw [List.nil_append]
theorem opsE_e {s : List UInt8} {n u : Nat} {e : Int} (h : uintE s = (n, u, e)) (he : e ≠ 0) : opsE s = ([], e) := by
  unfold opsE
  rw [h, if_pos he]
theorem textE_len (s : List UInt8) : (textE s).length = (putN s.length).length + s.length := by unfold textE; simp
theorem opE_pos (t : List UInt8) (h : (opE t).2.2 = 0) : 1 ≤ (opE t).2.1 := by
  have h1 := uintE_pos t
  unfold opE at h ⊢
  by_cases hu : (uintE t).2.2 = 0
  · have h1 := h1 hu
    repeat' split
    all_goals first
      | (dsimp only; omega)
      | (simp_all; done)
      | (exfalso; simp_all; omega)
  · rw [if_pos hu] at h
    exact absurd h hu
theorem opsF_len : ∀ (n : Nat) (t : List UInt8), (opsF n t).1.length ≤ t.length
  | 0, t => Nat.zero_le _
  | n + 1, t => by
    have h1 := opE_le t
    have h2 := opsF_len n (t.drop (opE t).2.1)
    rw [List.length_drop] at h2
    rw [opsF_s]
    split
    · exact Nat.zero_le _
    · rename_i h
      have h3 := opE_pos t (Classical.not_not.1 h)
      split
      · exact Nat.zero_le _
      · simp only [List.length_cons]; omega
theorem opsE_len (s : List UInt8) : (opsE s).1.length ≤ s.length := by
  have h := opsF_len (uintE s).1 (s.drop (uintE s).2.1)
  rw [List.length_drop] at h
  unfold opsE
  repeat' split
  all_goals first
    | exact Nat.zero_le _
    | (dsimp only; omega)
/-- rows behind changes -/
def applyE (rows : List (List UInt8 × List UInt8)) (l : List Chg) : List (List UInt8 × List UInt8) := l.foldl (fun m o => if o.gone then mdel m o.key else mset m o.key o.val) rows
end Go.Proofs.YtccfiohagbneaaaGreatDoor

/- What is proved: what Record and Ops of the package table answer. Conditions: texts of bounded length. -/
set_option linter.unusedSimpArgs false
set_option linter.unusedVariables false
namespace Go.Proofs.YtccfiohagbneaaaGreatDoor
open Go Go.J Go.RowKit

set_option maxHeartbeats 4000000 in
set_option maxRecDepth 100000 in
theorem wuint_c (n : Nat) (w0 : World) (hn : n < 9223372036854775808) : Cal Tryz.prog 144 [.int .i64 (n : Int)] w0 (fun v w' => Upd [] w0 w' ∧ v = .tuple #[str (putN n), .int .i64 0]) := by
  refine Cal.mk' (by kernel_rfl) Tryz.func144 rfl rfl fun hS => ?_
  have hw : IntKind.u64.wrap (n : Int) = (n : Int) := by
    simp only [IntKind.wrap, IntKind.bits, IntKind.signed, Bool.false_and, Bool.false_eq_true, if_false]; omega
  repeat' (first
    | (show WL _ _ _ _ _ _ _; first
      | refine WL.pure rfl rfl rfl rfl ?_
      | refine WL.nil ?_
      | (refine WL.calls hS rfl (congrArg (fun z => [Value.int .u64 z]) hw) (put_c n _ (by omega)) rfl rfl rfl ?_; rintro v w rfl hS))
    | (show WC _ _ _ _ _ _; first
      | refine WC.seq ?_
      | refine WC.region ?_
      | refine WC.skip ?_
      | refine WC.ret ?_
      | refine WC.condF rfl (decide_eq_false (by first | with_reducible assumption | omega)) ?_)
    | refine seqQ_n ?_)
  exact fin2r rfl rfl rfl ⟨hS.upd, rfl⟩
set_option maxHeartbeats 4000000 in
set_option maxRecDepth 100000 in
theorem bwrites_c (q : Nat) (s r : List UInt8) (fp : List Nat) (w0 : World) (hc : (sbC q s fp).holds w0) (hi : inB (sbC q s fp) w0) (hl : s.length + r.length ≤ 1099511627776) : Cal Tryz.prog 145 [.pointer (some ⟨q, 0, none⟩), str r] w0
    (fun v w' => v = .tuple #[.int .i64 (r.length : Int), .nilIface] ∧ ∃ fp', Mut w0 w' (sbC q s fp) (sbC q (s ++ r) fp')) := by
  refine Cal.mkM hc hi (by kernel_rfl) Tryz.func145 rfl rfl fun hS => ?_
  repeat' (first
    | (show WL _ _ _ _ _ _ _; first
      | refine WL.pure rfl rfl rfl rfl ?_
      | refine WL.nil ?_
      | refine WL.load hS rfl rfl (LdOk.box (by repeat (first | exact List.Mem.head _ | apply List.Mem.tail)) rfl) rfl rfl rfl ?_
      | (refine WL.callG rfl rfl (bcheck_c q s fp _ (hS.holds _ (List.Mem.head _)) (hS.inB_of (List.Mem.head _))) rfl rfl rfl ?_; rintro v w ⟨rfl, fp', hmut⟩; have hS := hS.mut hmut .here; obtain ⟨D, ⟨A, n, cap, rfl, hA⟩, hfp, hS⟩ := hS.objOpen; replace hS : St w0 _ w [.box q 199 [.pointer (some ⟨q, 0, none⟩), .slice A n cap], .own (.slice A n cap) 5 1 n (byteC s)] _ := hS; have hlen := (hS.own_len (List.Mem.tail _ (List.Mem.head _))).1; rw [byteC_len, Nat.mul_one] at hlen)
      | (refine WL.appStr hS rfl rfl rfl rfl rfl (fun A' cap' => by repeat (first | exact Repl.here | apply Repl.there)) (by omega) rfl rfl rfl ?_; intro A2 cap2 w hA2 hS; have hA2 := hA2 hA)
      | (refine WL.store hS rfl rfl rfl (by repeat (first | exact StB.here rfl | apply StB.there)) rfl rfl rfl ?_; intro w hS))
    | (show WC _ _ _ _ _ _; first
      | refine WC.seq ?_
      | refine WC.region ?_
      | refine WC.ret ?_)
    | refine seqQ_n ?_)
  exact fin2r rfl rfl rfl ⟨rfl, _, (St.objClose (H := []) (φ := sbφ q (s ++ r)) (D := sbD q (some ⟨q, 0, none⟩) A2 (n + r.length) cap2 (s ++ r)) (by rw [sbD, byteC_app]; exact hS) (.inr ⟨_, _, _, rfl, hA2⟩)).mutOf (List.Mem.head _)⟩
set_option maxHeartbeats 4000000 in
set_option maxRecDepth 100000 in
theorem rdone_c (r : Nat) (s : List UInt8) (p : Nat) (w0 : World) (h : RdAt r s p w0) : Cal Tryz.prog 150 [.pointer (some ⟨r, 0, none⟩)] w0 (fun v w' => Upd [] w0 w' ∧ v = .int .i64 (if p < s.length then 5 else 0)) := by
  refine Cal.mk' (by kernel_rfl) Tryz.func150 rfl rfl fun hS => ?_
  unfold RdAt at h
  by_cases hp : p < s.length
  case' pos => rw [if_pos hp]
  case' neg => rw [if_neg hp]
  all_goals
    repeat' (first
      | (show WL _ _ _ _ _ _ _; first
        | refine WL.pure rfl rfl rfl rfl ?_
        | refine WL.nil ?_)
      | (show WC _ _ _ _ _ _; first
        | refine WC.seq ?_
        | refine WC.region ?_
        | refine WC.block ?_
        | refine WC.skip ?_
        | refine WC.ret ?_
        | (show WC _ _ (Code.region _ (List.toArray [_, _, _, _, _, _, _, _, _, _, _]) true) _ _ _; refine WC.drawS hS [0, 1, 2, 3, 4, 5, 6, 7, 8, 9, 10] [0, 1, 2, 3, 4, 5, 6, 7, 8, 9, 10] (by kernel_rfl) (by kernel_rfl) ?_; clear hS; intro w hS hM)
        | refine WC.condF rfl (by with_reducible rfl) ?_
        | refine WC.condT rfl (decide_eq_true (by first | with_reducible assumption | omega)) ?_
        | refine WC.condF rfl (decide_eq_false (by first | with_reducible assumption | omega)) ?_)
      | (show WD _ _ _ _ _ _ _ _ _; first
        | refine WD.pure rfl rfl rfl rfl rfl ?_
        | refine WD.nil ?_
        | refine WD.load rfl rfl (LdOk.old h (by repeat (first | exact List.Mem.head _ | apply List.Mem.tail)) rfl) rfl rfl rfl rfl ?_)
      | refine seqQ_n ?_
      | refine blkQ_n ?_
      | refine seqQ_r ?_
      | refine blkQ_r ?_)
    exact fin1r rfl rfl ⟨hS.upd, rfl⟩
def cChg : Cod Chg := .flat cellsChg 3 fun _ => rfl
set_option maxHeartbeats 8000000 in
set_option maxRecDepth 100000 in
theorem record_c (l : List Chg) {A : Option Addr} {cap : Nat} {w0 : World} (h : SlAt cChg (Old w0) w0 A l) (hb : (recordE l).length ≤ 1099511627776) (hl : l.length ≤ 1099511627776) :
    Cal Tryz.prog 89 [.slice A l.length cap] w0 (fun v w' => Upd [] w0 w' ∧ v = str (recordE l)) := by
  refine Cal.mk' (by kernel_rfl) Tryz.func89 rfl rfl fun hS => ?_
  have hpl := putN_len10 (n := l.length) (by omega)
  have h0 : ([] : List UInt8).length = 0 := rfl
  repeat' (first
    | (show WL _ _ _ _ _ _ _; first
      | refine WL.pure rfl rfl rfl rfl ?_
      | refine WL.nil ?_
      | (refine WL.calls hS rfl rfl (wuint_c l.length _ (by omega)) rfl rfl rfl ?_; rintro v w rfl hS)
      | (refine WL.alloc (t := 199) hS rfl rfl rfl rfl rfl rfl ?_; intro w q hS; have hS := (hS.nilRow 5 1).perm (.swap _ _ _); have hS := St.objClose (H := []) (φ := sbφ q []) (D := sbD q none none 0 0 []) hS (.inl ⟨rfl, rfl⟩))
      | (refine WL.callG rfl rfl (bwrites_c q [] (putN l.length) _ _ (hS.holds _ (List.Mem.head _)) (hS.inB_of (List.Mem.head _)) (by omega)) rfl rfl rfl ?_; rintro v w ⟨rfl, fp', hmut⟩; have hS := hS.mut hmut .here; clear hmut))
    | (show WC _ _ _ _ _ _; first
      | refine WC.seq ?_
      | refine WC.region ?_
      | refine WC.block ?_)
    | refine seqQ_n ?_)
  refine WC.loop (σ := Nat × List UInt8 × List Nat) [5, 16, 17] (fun (k, acc, fp) => [(18, .int .i64 (k : Int))]) (fun (k, acc, fp) w => k ≤ l.length ∧ acc ++ (l.drop k).flatMap recO = recordE l ∧ St w0 [] w [sbC q acc fp] _) (fun (k, _) => l.length - k) (0, putN l.length, fp') ⟨Nat.zero_le _, rfl, hS⟩ ⟨rfl, trivial⟩ ?_
  clear hS
  rintro ⟨k, acc, fp⟩ g w ⟨hk, hacc, hS⟩
  by_cases hlt : k < l.length
  · obtain ⟨rb, ro, es, rfl, hF, hr, hes⟩ := h.at_ hlt
    have hes : es = cellsChg l[k] := hes
    subst hes
    have hr : w0.rangeAt rb (ro + k * 3) (cellsChg l[k]) := hr
    rw [List.drop_eq_getElem_cons hlt, List.flatMap_cons] at hacc
    generalize l[k] = o at *
    obtain ⟨key, val, gone⟩ := o
    have hlen := congrArg List.length hacc
    rw [List.length_append, List.length_append] at hlen
    have e0 : ([0] : List UInt8).length = 1 := rfl
    have e1 : ([1] : List UInt8).length = 1 := rfl
    have ht := textE_len key
    have htv := textE_len val
    rcases gone with _ | _
    · have hrec : recO ⟨key, val, false⟩ = [1] ++ textE key ++ textE val := by simp [recO]
      rw [hrec] at hacc hlen
      have e2 : ([1] ++ textE key).length = 1 + (textE key).length := by simp; omega
      have e3 : ([1] ++ textE key ++ textE val).length = 1 + (textE key).length + (textE val).length := by simp; omega
      repeat' (first
        | (show WL _ _ _ _ _ _ _; first
          | refine WL.pure rfl rfl rfl rfl ?_
          | refine WL.nil ?_
          | refine WL.load hS rfl rfl (LdOk.box (by repeat (first | exact List.Mem.head _ | apply List.Mem.tail)) rfl) rfl rfl rfl ?_
          | refine WL.add rfl rfl rfl (by omega) rfl rfl rfl ?_
          | (refine WL.load hS rfl rfl (LdOk.snap0 hF hr (by repeat (first | exact List.Mem.head _ | apply List.Mem.tail)) rfl) rfl rfl rfl ?_)
          | (refine WL.alloc (t := 79) hS rfl rfl rfl rfl rfl rfl ?_; intro w ob hS)
          | (refine WL.store hS rfl rfl rfl (by repeat (first | exact StB.here rfl | apply StB.there)) rfl rfl rfl ?_; intro w hS)
          | refine WL.index rfl rfl rfl rfl (by first | with_reducible assumption | omega) rfl rfl rfl rfl ?_)
        | (show WC _ _ _ _ _ _; first
          | refine WC.seq ?_
          | refine WC.region ?_
          | refine WC.block ?_
          | refine WC.skip ?_
          | (show WC _ _ (Code.region _ (List.toArray [_, _, _, _, _, _, _, _, _]) true) _ _ _; refine WC.drawL [sbC q acc fp] hS (by repeat (first | exact Pulls.nil | (apply Pulls.cons; focus (repeat (first | exact Pull.here | apply Pull.there))))) [0,1,3,4,5,7] [0,1,4,5,2,3,6,7,8] (by kernel_rfl) (by kernel_rfl) ?_; clear hS; intro w hS hM)
          | refine WC.condF rfl (by with_reducible rfl) ?_
          | refine WC.condT rfl (decide_eq_true (by first | with_reducible assumption | omega)) ?_)
        | (show WD _ _ _ _ _ _ _ _ _; first
          | refine WD.pure rfl rfl rfl rfl rfl ?_
          | refine WD.nil ?_
          | refine WD.load rfl rfl (LdOk.box (by repeat (first | exact List.Mem.head _ | apply List.Mem.tail)) rfl) rfl rfl rfl rfl ?_
          | (refine WD.cat rfl rfl rfl (by omega) rfl rfl rfl rfl ?_)
          | (refine WD.calls hS hM rfl rfl (wtext_c key _ (by omega)) rfl rfl rfl rfl rfl ?_; clear hS; rintro v w rfl hS)
          | (refine WD.calls hS hM rfl rfl (wtext_c val _ (by omega)) rfl rfl rfl rfl rfl ?_; clear hS; rintro v w rfl hS)
          | (refine WD.callL (D := [sbC q acc fp]) hS (by repeat (first | exact Pulls.nil | (apply Pulls.cons; focus (repeat (first | exact Pull.here | apply Pull.there))))) (.refl _ _) rfl rfl (fun hI => bwrites_c q acc ([1] ++ textE key ++ textE val) fp _ hI.head hI.headB (by omega)) rfl rfl rfl rfl rfl ?_; rintro v w ⟨rfl, fp', hm⟩; refine ⟨_, .of1 hm, fun hS hM => ?_⟩; clear hm))
        | refine seqQ_n ?_
        | refine blkQ_n ?_)
      exact rndQ_n (k + 1, acc ++ ([1] ++ textE key ++ textE val), fp') ⟨by omega, by rw [← hacc]; simp, hS.droplast2 (by repeat (first | exact Pulls.nil | (apply Pulls.cons; focus (repeat (first | exact Pull.here | apply Pull.there)))))⟩ (by show l.length - (k + 1) < l.length - k; omega) ⟨vint (by omega), trivial⟩ ⟨rfl, rfl, rfl, trivial⟩
    · have hrec : recO ⟨key, val, true⟩ = [0] ++ textE key := by simp [recO]
      rw [hrec] at hacc hlen
      have e2 : ([0] ++ textE key).length = 1 + (textE key).length := by simp; omega
      repeat' (first
        | (show WL _ _ _ _ _ _ _; first
          | refine WL.pure rfl rfl rfl rfl ?_
          | refine WL.nil ?_
          | refine WL.load hS rfl rfl (LdOk.box (by repeat (first | exact List.Mem.head _ | apply List.Mem.tail)) rfl) rfl rfl rfl ?_
          | refine WL.add rfl rfl rfl (by omega) rfl rfl rfl ?_
          | (refine WL.load hS rfl rfl (LdOk.snap0 hF hr (by repeat (first | exact List.Mem.head _ | apply List.Mem.tail)) rfl) rfl rfl rfl ?_)
          | (refine WL.alloc (t := 79) hS rfl rfl rfl rfl rfl rfl ?_; intro w ob hS)
          | (refine WL.calls hS rfl rfl (wtext_c key _ (by omega)) rfl rfl rfl ?_; rintro v w rfl hS)
          | (refine WL.callG rfl rfl (bwrites_c q acc ([0] ++ textE key) _ _ (hS.holds _ (List.Mem.tail _ (List.Mem.head _))) (hS.inB_of (List.Mem.tail _ (List.Mem.head _))) (by omega)) rfl rfl rfl ?_; rintro v w ⟨rfl, fp', hmut⟩; have hS := hS.mut hmut (.there .here); clear hmut)
          | refine WL.cat rfl rfl rfl (by omega) rfl rfl rfl ?_
          | (refine WL.store hS rfl rfl rfl (by repeat (first | exact StB.here rfl | apply StB.there)) rfl rfl rfl ?_; intro w hS)
          | refine WL.index rfl rfl rfl rfl (by first | with_reducible assumption | omega) rfl rfl rfl rfl ?_)
        | (show WC _ _ _ _ _ _; first
          | refine WC.seq ?_
          | refine WC.region ?_
          | refine WC.block ?_
          | refine WC.skip ?_
          | refine WC.condT rfl (by with_reducible rfl) ?_
          | refine WC.condT rfl (decide_eq_true (by first | with_reducible assumption | omega)) ?_)
        | refine seqQ_n ?_
        | refine blkQ_n ?_)
      exact rndQ_n (k + 1, acc ++ ([0] ++ textE key), fp') ⟨by omega, by rw [← hacc]; simp, hS.drop⟩ (by show l.length - (k + 1) < l.length - k; omega) ⟨vint (by omega), trivial⟩ ⟨rfl, rfl, rfl, trivial⟩
  · have hke : k = l.length := by omega
    subst hke
    have hacc : acc = recordE l := by simpa using hacc
    subst hacc
    repeat' (first
      | (show WL _ _ _ _ _ _ _; first
        | refine WL.pure rfl rfl rfl rfl ?_
        | refine WL.nil ?_
        | (refine WL.callG rfl rfl (bstring_c q (recordE l) fp _ (hS.holds _ (List.Mem.head _)) (hS.inB_of (List.Mem.head _)) (by omega)) rfl rfl rfl ?_; rintro v w ⟨rfl, hu⟩; have hS := hS.lose hu))
      | (show WC _ _ _ _ _ _; first
        | refine WC.seq ?_
        | refine WC.region ?_
        | refine WC.exit ?_
        | refine WC.ret ?_
        | refine WC.condF rfl (decide_eq_false (by first | with_reducible assumption | omega)) ?_)
      | refine seqQ_n ?_
      | refine seqQ_x ?_
      | refine blkQ_hit rfl ?_
      | refine rndQ_x ?_)
    exact fin1r rfl rfl ⟨hS.upd, rfl⟩
/-- the changes of bytes, new memory -/
def opsR (w0 : World) (r : List Chg × Int) (v : Value) (w' : World) : Prop := Upd [] w0 w' ∧ ∃ A cap, v = .tuple #[.slice A r.1.length cap, .int .i64 r.2] ∧ New w0 w' (.own (.slice A r.1.length cap) 79 3 r.1.length (chgs r.1))
set_option maxHeartbeats 8000000 in
set_option maxRecDepth 100000 in
theorem ops_c (s : List UInt8) (w0 : World) (hl : s.length ≤ 1099511627776) : Cal Tryz.prog 91 [str s] w0 (opsR w0 (opsE s)) := by
  refine Cal.mk' (by kernel_rfl) Tryz.func91 rfl rfl fun hS => ?_
  rcases hu : uintE s with ⟨n, u, e⟩
  have hu0 : uintE (s.drop 0) = (n, u, e) := hu
  have hule := uintE_le s
  have hnok := uintE_ok s
  rw [hu] at hule hnok
  dsimp only at hule hnok
  by_cases he : e = 0
  rotate_left
  · rw [opsE_e hu he]
    clear hnok hu
    repeat' (first
      | (show WL _ _ _ _ _ _ _; first
        | refine WL.pure rfl rfl rfl rfl ?_
        | refine WL.nil ?_
        | (refine WL.callG rfl rfl (wnew_c s _) rfl rfl rfl ?_; rintro v w ⟨hup, r, rfl, hnew⟩; have hS := hS.new hup hnew; clear hup hnew)
        | (refine WL.callG rfl rfl (uint_e hu0 (hS.holds _ (List.Mem.head _)) (hS.inB_of (List.Mem.head _)) (by omega) (by omega)) rfl rfl rfl ?_; rintro v w ⟨rfl, hmut⟩; have hS := hS.mut hmut .here; clear hmut))
      | (show WC _ _ _ _ _ _; first
        | refine WC.seq ?_
        | refine WC.region ?_
        | refine WC.ret ?_
        | refine WC.condT rfl (decide_eq_true (by first | with_reducible assumption | omega)) ?_)
      | refine seqQ_n ?_
      | refine seqQ_r ?_)
    have hS := hS.nilRow 79 3
    exact fin2r rfl rfl rfl ⟨hS.upd, _, _, rfl, hS.newOf (List.Mem.head _)⟩
  subst he
  obtain ⟨hn63, _⟩ := hnok rfl
  rw [opsE_of hu]
  clear hnok hu
  generalize hRES : opsFin s [] u (opsF n (s.drop u)) = RES
  repeat' (first
    | (show WL _ _ _ _ _ _ _; first
      | refine WL.pure rfl rfl rfl rfl ?_
      | refine WL.nil ?_
      | (refine WL.callG rfl rfl (wnew_c s _) rfl rfl rfl ?_; rintro v w ⟨hup, r, rfl, hnew⟩; have hS := hS.new hup hnew; clear hup hnew)
      | (refine WL.callG rfl rfl (uint_e hu0 (hS.holds _ (List.Mem.head _)) (hS.inB_of (List.Mem.head _)) (by omega) (by omega)) rfl rfl rfl ?_; rintro v w ⟨rfl, hmut⟩; have hS := hS.mut hmut .here; clear hmut)
      | (refine WL.slit (t := 73) hS rfl rfl rfl rfl rfl ?_; intro w ob hS; have hS := hS.boxRow (n := 0) (size := 3) .here rfl (Nat.zero_le _)))
    | (show WC _ _ _ _ _ _; first
      | refine WC.seq ?_
      | refine WC.region ?_
      | refine WC.block ?_
      | refine WC.skip ?_
      | refine WC.condF rfl (by decide) ?_)
    | refine seqQ_n ?_)
  refine WC.loop (σ := Nat × List Chg × Nat × Option Addr × Nat) [4, 23] (fun (k, l, p, A, cap) => [(7, .slice A l.length cap), (24, .int .i64 (k : Int))])
    (fun (k, l, p, A, cap) w => k ≤ n ∧ p ≤ s.length ∧ l.length ≤ p ∧ opsFin s l p (opsF (n - k) (s.drop p)) = RES ∧ St w0 [] w [.own (.slice A l.length cap) 79 3 l.length (chgs l), rdC r s p] _)
    (fun (k, _) => n - k) (0, [], u, _, 0) ⟨Nat.zero_le _, hule, Nat.zero_le _, hRES, by rw [Nat.zero_add] at hS; exact hS⟩ ⟨rfl, rfl, trivial⟩ ?_
  clear hS hRES hu0
  rintro ⟨k, l, p, A, cap⟩ g w ⟨hk, hp, hlp, hres, hS⟩
  show WC _ _ _ (lf _ [(7, .slice A l.length cap), (24, .int .i64 (k : Int))] _ _) _ _
  by_cases hlt : k < n
  · obtain ⟨m, hm⟩ : ∃ m, n - k = m + 1 := ⟨n - k - 1, by omega⟩
    have hm1 : n - (k + 1) = m := by omega
    rw [hm] at hres
    rcases hu1 : uintE (s.drop p) with ⟨kd, u1, e1⟩
    have hl1 := uintE_le (s.drop p)
    rw [hu1, List.length_drop] at hl1
    dsimp only at hl1
    by_cases he1 : e1 = 0
    rotate_left
    · rw [opsFin_no (opE_e hu1 he1) he1] at hres
      subst hres
      clear hm hm1
      repeat' (first
        | (show WL _ _ _ _ _ _ _; first
          | refine WL.pure rfl rfl rfl rfl ?_
          | refine WL.nil ?_
          | (refine WL.callG rfl rfl (uint_e hu1 (hS.holds _ (List.Mem.tail _ (List.Mem.head _))) (hS.inB_of (List.Mem.tail _ (List.Mem.head _))) (by omega) (by omega)) rfl rfl rfl ?_; rintro v w ⟨rfl, hmut⟩; have hS := hS.mut hmut (.there .here); clear hmut)
          | refine WL.skip rfl rfl rfl ?_
          | ((fail_if_success (refine WL.wanted rfl ?_)); refine WL.guard rfl rfl rfl (fun h => ?_) (fun h => ?_) <;> (try simp only [Classical.not_not, Bool.not_eq_true', Bool.not_eq_false', Bool.not_eq_eq_eq_not, Bool.not_true, Bool.not_false, beq_iff_eq, beq_eq_false_iff_ne, ne_eq, decide_eq_decide, decide_eq_true_eq, decide_eq_false_iff_not, Bool.and_eq_true, Bool.or_eq_true, Bool.and_eq_false_iff, Bool.or_eq_false_iff] at h) <;> (try (exfalso; first | omega | contradiction))))
        | (show WC _ _ _ _ _ _; first
          | refine WC.seq ?_
          | refine WC.region ?_
          | refine WC.block ?_
          | refine WC.skip ?_
          | refine WC.ret ?_
          | refine WC.condF rfl (by with_reducible rfl) ?_
          | refine WC.condT rfl (decide_eq_true (by first | with_reducible assumption | omega)) ?_)
        | refine seqQ_n ?_
        | refine seqQ_r ?_
        | refine blkQ_r ?_
        | refine rndQ_r ?_)
      have hS := hS.nilRow 79 3
      exact fin2r rfl rfl rfl ⟨hS.upd, _, _, rfl, hS.newOf (List.Mem.head _)⟩
    subst he1
    have hd1 : (s.drop p).drop u1 = s.drop (p + u1) := by rw [List.drop_drop]
    by_cases hk1 : 1 < kd
    · rw [opsFin_no (opE_big hu1 hk1) (by decide)] at hres
      subst hres
      clear hm hm1 hd1
      repeat' (first
        | (show WL _ _ _ _ _ _ _; first
          | refine WL.pure rfl rfl rfl rfl ?_
          | refine WL.nil ?_
          | (refine WL.callG rfl rfl (uint_e hu1 (hS.holds _ (List.Mem.tail _ (List.Mem.head _))) (hS.inB_of (List.Mem.tail _ (List.Mem.head _))) (by omega) (by omega)) rfl rfl rfl ?_; rintro v w ⟨rfl, hmut⟩; have hS := hS.mut hmut (.there .here); clear hmut))
        | (show WC _ _ _ _ _ _; first
          | refine WC.seq ?_
          | refine WC.region ?_
          | refine WC.block ?_
          | refine WC.skip ?_
          | refine WC.ret ?_
          | refine WC.condT rfl (by decide) ?_
          | refine WC.condT rfl (decide_eq_true (by first | with_reducible assumption | omega)) ?_)
        | refine seqQ_n ?_
        | refine seqQ_r ?_
        | refine blkQ_r ?_
        | refine rndQ_r ?_)
      have hS := hS.nilRow 79 3
      exact fin2r rfl rfl rfl ⟨hS.upd, _, _, rfl, hS.newOf (List.Mem.head _)⟩
    rcases hu2 : rtextE (s.drop (p + u1)) with ⟨x, v2, e2⟩
    have hl2 := rtextE_le' (s.drop (p + u1))
    rw [hu2, List.length_drop] at hl2
    dsimp only at hl2
    have hu2' := hu2
    rw [← hd1] at hu2'
    by_cases he2 : e2 = 0
    rotate_left
    · rw [opsFin_no (opE_k hu1 hk1 hu2' he2) he2] at hres
      subst hres
      clear hm hm1 hd1 hu2'
      repeat' (first
        | (show WL _ _ _ _ _ _ _; first
          | refine WL.pure rfl rfl rfl rfl ?_
          | refine WL.nil ?_
          | (refine WL.callG rfl rfl (uint_e hu1 (hS.holds _ (List.Mem.tail _ (List.Mem.head _))) (hS.inB_of (List.Mem.tail _ (List.Mem.head _))) (by omega) (by omega)) rfl rfl rfl ?_; rintro v w ⟨rfl, hmut⟩; have hS := hS.mut hmut (.there .here); clear hmut)
          | (refine WL.alloc (t := 79) hS rfl rfl rfl rfl rfl rfl ?_; intro w ob hS)
          | (refine WL.callG rfl rfl (rtext_e hu2 (hS.holds _ (List.Mem.tail _ (List.Mem.tail _ (List.Mem.head _)))) (hS.inB_of (List.Mem.tail _ (List.Mem.tail _ (List.Mem.head _)))) (by omega) (by omega)) rfl rfl rfl ?_; rintro v w ⟨rfl, hmut⟩; have hS := hS.mut hmut (.there (.there .here)); clear hmut)
          | (refine WL.store hS rfl rfl rfl (by repeat (first | exact StB.here rfl | apply StB.there)) rfl rfl rfl ?_; intro w hS)
          | refine WL.build rfl rfl rfl rfl rfl ?_)
        | (show WC _ _ _ _ _ _; first
          | refine WC.seq ?_
          | refine WC.region ?_
          | refine WC.block ?_
          | refine WC.skip ?_
          | refine WC.ret ?_
          | refine WC.condF rfl (by decide) ?_
          | refine WC.condT rfl (decide_eq_true (by first | with_reducible assumption | omega)) ?_
          | refine WC.condF rfl (decide_eq_false (by first | with_reducible assumption | omega)) ?_)
        | refine seqQ_n ?_
        | refine seqQ_r ?_
        | refine blkQ_r ?_
        | refine rndQ_r ?_)
      have hS := hS.nilRow 79 3
      exact fin2r rfl rfl rfl ⟨hS.upd, _, _, rfl, hS.newOf (List.Mem.head _)⟩
    subst he2
    have hd2 : (s.drop p).drop (u1 + v2) = s.drop (p + u1 + v2) := by rw [List.drop_drop, Nat.add_assoc]
    have hcap := hS.own_len (List.Mem.head _)
    have hpos := uintE_pos (s.drop p)
    rw [hu1] at hpos
    have hpos : 1 ≤ u1 := hpos rfl
    by_cases hk0 : kd = 0
    · subst hk0
      rw [opsFin_ok (opE_gone hu1 hu2'), hd2, ← Nat.add_assoc, ← hm1] at hres
      clear hm hm1 hd1 hu2' hd2
      repeat' (first
        | (show WL _ _ _ _ _ _ _; first
          | refine WL.pure rfl rfl rfl rfl ?_
          | refine WL.nil ?_
          | refine WL.load hS rfl rfl (LdOk.box (by repeat (first | exact List.Mem.head _ | apply List.Mem.tail)) rfl) rfl rfl rfl ?_
          | refine WL.add rfl rfl rfl (by omega) rfl rfl rfl ?_
          | (refine WL.callG rfl rfl (uint_e hu1 (hS.holds _ (List.Mem.tail _ (List.Mem.head _))) (hS.inB_of (List.Mem.tail _ (List.Mem.head _))) (by omega) (by omega)) rfl rfl rfl ?_; rintro v w ⟨rfl, hmut⟩; have hS := hS.mut hmut (.there .here); clear hmut)
          | (refine WL.alloc (t := 79) hS rfl rfl rfl rfl rfl rfl ?_; intro w ob hS)
          | (refine WL.callG rfl rfl (rtext_e hu2 (hS.holds _ (List.Mem.tail _ (List.Mem.tail _ (List.Mem.head _)))) (hS.inB_of (List.Mem.tail _ (List.Mem.tail _ (List.Mem.head _)))) (by omega) (by omega)) rfl rfl rfl ?_; rintro v w ⟨rfl, hmut⟩; have hS := hS.mut hmut (.there (.there .here)); clear hmut)
          | (refine WL.app hS rfl rfl rfl rfl (RdOk.box (by repeat (first | exact List.Mem.head _ | apply List.Mem.tail))) rfl rfl (fun A cap => by repeat (first | exact Repl.here | apply Repl.there)) (by omega) rfl rfl rfl ?_; intro A cap w hS)
          | (refine WL.store hS rfl rfl rfl (by repeat (first | exact StB.here rfl | apply StB.there)) rfl rfl rfl ?_; intro w hS)
          | refine WL.build rfl rfl rfl rfl rfl ?_
          | (refine WL.slit hS rfl rfl rfl rfl rfl ?_; intro w b hS))
        | (show WC _ _ _ _ _ _; first
          | refine WC.seq ?_
          | refine WC.region ?_
          | refine WC.block ?_
          | refine WC.skip ?_
          | refine WC.condF rfl (by decide) ?_
          | refine WC.condT rfl (decide_eq_true (by first | with_reducible assumption | omega)) ?_)
        | refine seqQ_n ?_
        | refine blkQ_n ?_)
      exact rndQ_n (k + 1, l ++ [⟨x, [], true⟩], p + u1 + v2, _, _) ⟨by omega, by omega, by simp; omega, hres, by
        have hS := hS.drop.drop
        rw [List.length_append, ← chgs_snoc]
        exact hS⟩ (by show n - (k + 1) < n - k; omega) ⟨by rw [List.length_append]; rfl, vint (by omega), trivial⟩ ⟨rfl, rfl, trivial⟩
    obtain rfl : kd = 1 := by omega
    rcases hu3 : rtextE (s.drop (p + u1 + v2)) with ⟨y, v3, e3⟩
    have hl3 := rtextE_le' (s.drop (p + u1 + v2))
    rw [hu3, List.length_drop] at hl3
    dsimp only at hl3
    have hu3' := hu3
    rw [← hd2] at hu3'
    by_cases he3 : e3 = 0
    rotate_left
    · rw [opsFin_no (opE_v hu1 hu2' hu3' he3) he3] at hres
      subst hres
      clear hm hm1 hd1 hu2' hu3' hd2
      repeat' (first
        | (show WL _ _ _ _ _ _ _; first
          | refine WL.pure rfl rfl rfl rfl ?_
          | refine WL.nil ?_
          | refine WL.load hS rfl rfl (LdOk.box (by repeat (first | exact List.Mem.head _ | apply List.Mem.tail)) rfl) rfl rfl rfl ?_
          | (refine WL.callG rfl rfl (uint_e hu1 (hS.holds _ (List.Mem.tail _ (List.Mem.head _))) (hS.inB_of (List.Mem.tail _ (List.Mem.head _))) (by omega) (by omega)) rfl rfl rfl ?_; rintro v w ⟨rfl, hmut⟩; have hS := hS.mut hmut (.there .here); clear hmut)
          | (refine WL.alloc (t := 79) hS rfl rfl rfl rfl rfl rfl ?_; intro w ob hS)
          | (refine WL.callG rfl rfl (rtext_e hu2 (hS.holds _ (List.Mem.tail _ (List.Mem.tail _ (List.Mem.head _)))) (hS.inB_of (List.Mem.tail _ (List.Mem.tail _ (List.Mem.head _)))) (by omega) (by omega)) rfl rfl rfl ?_; rintro v w ⟨rfl, hmut⟩; have hS := hS.mut hmut (.there (.there .here)); clear hmut)
          | (refine WL.callG rfl rfl (rtext_e hu3 (hS.holds _ (List.Mem.tail _ (List.Mem.tail _ (List.Mem.head _)))) (hS.inB_of (List.Mem.tail _ (List.Mem.tail _ (List.Mem.head _)))) (by omega) (by omega)) rfl rfl rfl ?_; rintro v w ⟨rfl, hmut⟩; have hS := hS.mut hmut (.there (.there .here)); clear hmut)
          | (refine WL.store hS rfl rfl rfl (by repeat (first | exact StB.here rfl | apply StB.there)) rfl rfl rfl ?_; intro w hS)
          | refine WL.build rfl rfl rfl rfl rfl ?_)
        | (show WC _ _ _ _ _ _; first
          | refine WC.seq ?_
          | refine WC.region ?_
          | refine WC.block ?_
          | refine WC.skip ?_
          | refine WC.ret ?_
          | refine WC.condT rfl (by decide) ?_
          | refine WC.condF rfl (by decide) ?_
          | refine WC.condT rfl (decide_eq_true (by first | with_reducible assumption | omega)) ?_)
        | refine seqQ_n ?_
        | refine seqQ_r ?_
        | refine blkQ_r ?_
        | refine rndQ_r ?_)
      have hS := hS.nilRow 79 3
      exact fin2r rfl rfl rfl ⟨hS.upd, _, _, rfl, hS.newOf (List.Mem.head _)⟩
    subst he3
    have hd3 : (s.drop p).drop (u1 + v2 + v3) = s.drop (p + u1 + v2 + v3) := by rw [List.drop_drop]; congr 1; omega
    rw [opsFin_ok (opE_put hu1 hu2' hu3'), hd3, show p + (u1 + v2 + v3) = p + u1 + v2 + v3 by omega, ← hm1] at hres
    clear hm hm1 hd1 hu2' hu3' hd2 hd3 hk0 hk1
    repeat' (first
      | (show WL _ _ _ _ _ _ _; first
        | refine WL.pure rfl rfl rfl rfl ?_
        | refine WL.nil ?_
        | refine WL.load hS rfl rfl (LdOk.box (by repeat (first | exact List.Mem.head _ | apply List.Mem.tail)) rfl) rfl rfl rfl ?_
        | refine WL.add rfl rfl rfl (by omega) rfl rfl rfl ?_
        | (refine WL.callG rfl rfl (uint_e hu1 (hS.holds _ (List.Mem.tail _ (List.Mem.head _))) (hS.inB_of (List.Mem.tail _ (List.Mem.head _))) (by omega) (by omega)) rfl rfl rfl ?_; rintro v w ⟨rfl, hmut⟩; have hS := hS.mut hmut (.there .here); clear hmut)
        | (refine WL.alloc (t := 79) hS rfl rfl rfl rfl rfl rfl ?_; intro w ob hS)
        | (refine WL.callG rfl rfl (rtext_e hu2 (hS.holds _ (List.Mem.tail _ (List.Mem.tail _ (List.Mem.head _)))) (hS.inB_of (List.Mem.tail _ (List.Mem.tail _ (List.Mem.head _)))) (by omega) (by omega)) rfl rfl rfl ?_; rintro v w ⟨rfl, hmut⟩; have hS := hS.mut hmut (.there (.there .here)); clear hmut)
        | (refine WL.callG rfl rfl (rtext_e hu3 (hS.holds _ (List.Mem.tail _ (List.Mem.tail _ (List.Mem.head _)))) (hS.inB_of (List.Mem.tail _ (List.Mem.tail _ (List.Mem.head _)))) (by omega) (by omega)) rfl rfl rfl ?_; rintro v w ⟨rfl, hmut⟩; have hS := hS.mut hmut (.there (.there .here)); clear hmut)
        | (refine WL.app hS rfl rfl rfl rfl (RdOk.box (by repeat (first | exact List.Mem.head _ | apply List.Mem.tail))) rfl rfl (fun A cap => by repeat (first | exact Repl.here | apply Repl.there)) (by omega) rfl rfl rfl ?_; intro A cap w hS)
        | (refine WL.store hS rfl rfl rfl (by repeat (first | exact StB.here rfl | apply StB.there)) rfl rfl rfl ?_; intro w hS)
        | refine WL.build rfl rfl rfl rfl rfl ?_
        | (refine WL.slit hS rfl rfl rfl rfl rfl ?_; intro w b hS))
      | (show WC _ _ _ _ _ _; first
        | refine WC.seq ?_
        | refine WC.region ?_
        | refine WC.block ?_
        | refine WC.skip ?_
        | refine WC.condT rfl (by decide) ?_
        | refine WC.condF rfl (by decide) ?_
        | refine WC.condT rfl (decide_eq_true (by first | with_reducible assumption | omega)) ?_)
      | refine seqQ_n ?_
      | refine blkQ_n ?_)
    exact rndQ_n (k + 1, l ++ [⟨x, y, false⟩], p + u1 + v2 + v3, _, _) ⟨by omega, by omega, by simp; omega, hres, by
      have hS := hS.drop.drop
      rw [List.length_append, ← chgs_snoc]
      exact hS⟩ (by show n - (k + 1) < n - k; omega) ⟨by rw [List.length_append]; rfl, vint (by omega), trivial⟩ ⟨rfl, rfl, trivial⟩
  · have hke : n - k = 0 := by omega
    rw [hke] at hres
    have hres : (if p < s.length then (([], 5) : List Chg × Int) else (l, 0)) = RES := by rw [← hres]; unfold opsFin opsF; simp
    by_cases hps : p < s.length
    case' pos => rw [if_pos hps] at hres
    case' neg => rw [if_neg hps] at hres
    all_goals
      subst hres
      clear hke
      repeat' (first
        | (show WL _ _ _ _ _ _ _; first
          | refine WL.pure rfl rfl rfl rfl ?_
          | refine WL.nil ?_
          | (refine WL.calls hS rfl rfl (rdone_c r s p _ (hS.holds _ (List.Mem.tail _ (List.Mem.head _)))) rfl rfl rfl ?_; rintro v w rfl hS; first | rw [if_pos hps] | rw [if_neg hps]))
        | (show WC _ _ _ _ _ _; first
          | refine WC.seq ?_
          | refine WC.region ?_
          | refine WC.skip ?_
          | refine WC.exit ?_
          | refine WC.ret ?_
          | refine WC.condT rfl (by decide) ?_
          | refine WC.condF rfl (by decide) ?_
          | refine WC.condF rfl (decide_eq_false (by first | with_reducible assumption | omega)) ?_)
        | refine seqQ_n ?_
        | refine seqQ_x ?_
        | refine seqQ_r ?_
        | refine blkQ_hit rfl ?_
        | refine rndQ_x ?_)
    all_goals first
      | exact fin2r rfl rfl rfl ⟨hS.upd, _, _, rfl, hS.newOf (List.Mem.head _)⟩
      | exact fin2r rfl rfl rfl ⟨hS.upd, _, _, rfl, (hS.nilRow 79 3).newOf (List.Mem.head _)⟩
end Go.Proofs.YtccfiohagbneaaaGreatDoor

/- What is proved: what the reference's numbers and texts are, written and read. Conditions: texts of bounded length. -/
set_option linter.unusedSimpArgs false
set_option linter.unusedVariables false
namespace Go.J
open Go
/-- seven bits a byte, the lowest first: what they are worth -/
def lowV : List UInt8 → Nat
  | [] => 0
  | c :: l => c.toNat % 128 + 128 * lowV l
theorem lowV_lt : ∀ l : List UInt8, lowV l < 128 ^ l.length
  | [] => by simp [lowV]
  | c :: l => by
    have := lowV_lt l
    simp only [lowV, List.length_cons, Nat.pow_succ]
    omega
theorem lowV_snoc : ∀ (l : List UInt8) (c : UInt8), lowV (l ++ [c]) = lowV l + c.toNat % 128 * 128 ^ l.length
  | [], c => by simp [lowV]
  | a :: l, c => by
    simp only [List.cons_append, lowV, List.length_cons, Nat.pow_succ, lowV_snoc l c, Nat.mul_add]
    rw [show 128 * (c.toNat % 128 * 128 ^ l.length) = c.toNat % 128 * (128 ^ l.length * 128) by rw [← Nat.mul_assoc, Nat.mul_comm 128, Nat.mul_assoc, Nat.mul_comm 128]]
    omega
/-- bytes that go on -/
theorem varE_go : ∀ (l : List UInt8) (t : List UInt8) (i x : Nat), (∀ c ∈ l, 128 ≤ c.toNat) → i + l.length ≤ 9 → varE (l ++ t) i x = varE t (i + l.length) (x + lowV l * 128 ^ i)
  | [], t, i, x, _, _ => by simp [lowV]
  | c :: l, t, i, x, h, hi => by
    have hc := h c (List.mem_cons_self ..)
    simp only [List.length_cons] at hi
    have ih := varE_go l t (i + 1) (x + c.toNat % 128 * 128 ^ i) (fun y hy => h y (List.mem_cons_of_mem _ hy)) (by omega)
    have e : varE ((c :: l) ++ t) i x = if i = 9 ∧ 1 < c.toNat then (0, 0, 3) else if 128 ≤ c.toNat then varE (l ++ t) (i + 1) (x + c.toNat % 128 * 128 ^ i) else if c.toNat = 0 ∧ 0 < i then (0, 0, 3) else (x + c.toNat % 128 * 128 ^ i, i + 1, 0) := rfl
    rw [e, if_neg (by omega), if_pos hc, ih]
    congr 1
    · simp only [List.length_cons]; omega
    · simp only [lowV, Nat.pow_succ, Nat.add_mul]
      rw [show 128 * lowV l * 128 ^ i = lowV l * (128 ^ i * 128) by rw [Nat.mul_comm 128, Nat.mul_assoc, Nat.mul_comm 128]]
      omega
end Go.J
namespace Go.Proofs.YtccfiohagbneaaaGreatDoor
open Go Go.J Go.RowKit

theorem cellLow {n : Nat} : IntKind.u8.wrap (n : Int) = (((UInt8.ofNat (n % 256)).toNat : Nat) : Int) := by
  rw [Go.J.ofNat_toNat (by omega), IntKind.wrap_u8]; omega
set_option maxHeartbeats 8000000 in
set_option maxRecDepth 100000 in
theorem rvarint_c : ∀ (m n : Nat) (w0 : World), n ≤ m → n < 18446744073709551616 → Cal Tryz.prog 178 [.int .u64 (n : Int)] w0 (fun v w' => Upd [] w0 w' ∧ v = str (putN n))
  | m, n, w0, hm, hb => by
    refine Cal.mk' (by kernel_rfl) Tryz.func178 rfl rfl fun hS => ?_
    by_cases h : n < 128
    · have hE : putN n = [UInt8.ofNat n] := putN_small h
      have hcell := byte_low h
      rw [hE]
      repeat' (first
        | (show WL _ _ _ _ _ _ _; first
          | refine WL.pure rfl rfl rfl rfl ?_
          | refine WL.nil ?_
          | refine WL.b2sBox (s := [UInt8.ofNat n]) hS rfl rfl (by kernel_rfl) rfl (by repeat (first | exact List.Mem.head _ | apply List.Mem.tail)) (congrArg (fun x => [Value.int .u8 x]) hcell) rfl (by decide) rfl rfl rfl ?_
          | (refine WL.slit hS rfl rfl rfl rfl rfl ?_; intro w b hS))
        | (show WC _ _ _ _ _ _; first
          | refine WC.seq ?_
          | refine WC.region ?_
          | refine WC.ret ?_
          | refine WC.condT rfl (decide_eq_true (by first | with_reducible assumption | omega)) ?_)
        | refine seqQ_n ?_
        | refine seqQ_r ?_)
      exact fin1r rfl rfl ⟨hS.upd, rfl⟩
    · cases m with
      | zero => omega
      | succ m =>
        have ih := fun w0 => rvarint_c m (n / 128) w0 (by omega) (by omega)
        have hE : putN n = [UInt8.ofNat (n % 128 + 128)] ++ putN (n / 128) := by rw [putN_big h]; rfl
        have hpl := putN_len10 (n := n / 128) (by omega)
        have hcell : IntKind.u8.wrap (IntKind.u64.wrap (128 + (n : Int) % 128)) = (((UInt8.ofNat (n % 128 + 128)).toNat : Nat) : Int) := by
          rw [IntKind.wrap_u64, Go.J.ofNat_toNat (by omega), IntWalk.u8_in _ (by omega)]; omega
        have h1 : ([UInt8.ofNat (n % 128 + 128)] : List UInt8).length = 1 := rfl
        have hq : (n : Int) / 128 = ((n / 128 : Nat) : Int) := by omega
        have hqw : IntKind.u64.wrap ((n : Int) / 128) = (n : Int) / 128 := by rw [IntKind.wrap_u64]; omega
        have hrw : IntKind.u64.wrap ((n : Int) % 128) = (n : Int) % 128 := by rw [IntKind.wrap_u64]; omega
        rw [hE]
        generalize putN (n / 128) = rest at *
        repeat' (first
          | (show WL _ _ _ _ _ _ _; first
            | refine WL.pure rfl rfl rfl rfl ?_
            | refine WL.nil ?_)
          | (show WC _ _ _ _ _ _; first
            | refine WC.seq ?_
            | refine WC.region ?_
            | refine WC.skip ?_
            | refine WC.condF rfl (decide_eq_false (by first | with_reducible assumption | omega)) ?_)
          | refine seqQ_n ?_)
        refine WC.drawP hS [0,1,2,3,6,7,9,10] [0,1,2,3,6,7] (.two 4 [] (.two 5 [8,9,10] .nil 8 [5,9,10] .nil) 8 [4,5,9,10] .nil) (by kernel_rfl) (by kernel_rfl) ?_
        clear hS
        intro w hS hM
        repeat' (first
          | (show WC _ _ _ _ _ _; first
            | refine WC.ret ?_)
          | (show WD _ _ _ _ _ _ _ _ _; first
            | refine WD.pure rfl rfl rfl rfl rfl ?_
            | refine WD.nil ?_
            | (refine WD.remK rfl rfl rfl (by omega) (by omega) hrw rfl rfl rfl rfl ?_)
            | (refine WD.quoK rfl rfl rfl (by omega) (by omega) hqw rfl rfl rfl rfl ?_; rw [hq])
            | (refine WD.fork ?_ ?_)
            | (refine WD.calls hS hM rfl rfl (ih _) rfl rfl rfl rfl rfl ?_; clear hS; rintro v w rfl hS)
            | (refine WD.b2sBox (s := [UInt8.ofNat (n % 128 + 128)]) hS hM rfl rfl (by kernel_rfl) rfl (by repeat (first | exact List.Mem.head _ | apply List.Mem.tail)) (congrArg (fun x => [Value.int .u8 x]) hcell) rfl (by decide) rfl rfl rfl rfl rfl ?_)
            | (refine WD.cat rfl rfl rfl (by omega) rfl rfl rfl rfl ?_)
            | (refine WD.slit hS hM rfl rfl rfl rfl rfl rfl rfl ?_; intro w b hS hM))
          | (refine WDo.calls hS hM rfl rfl (ih _) rfl rfl rfl rfl ?_; clear hS; rintro v w rfl hS)
          | (refine WDo.slit hS hM rfl rfl rfl rfl rfl rfl ?_; clear hS hM; intro w b hS hM)
          | (refine WDo.b2sBox (s := [UInt8.ofNat (n % 128 + 128)]) hS hM rfl rfl (by kernel_rfl) rfl (by repeat (first | exact List.Mem.head _ | apply List.Mem.tail)) (congrArg (fun x => [Value.int .u8 x]) hcell) rfl (by decide) rfl rfl rfl rfl ?_)
          | refine seqQ_n ?_)
        all_goals exact fin1r rfl rfl ⟨hS.upd, rfl⟩
theorem wrap_nat64 {n : Nat} (h : n < 18446744073709551616) : IntKind.u64.wrap (n : Int) = (n : Int) := by rw [IntKind.wrap_u64]; omega
set_option maxHeartbeats 4000000 in
set_option maxRecDepth 100000 in
theorem rnum_c (n : Nat) (w0 : World) (hn : n < 9223372036854775808) : Cal Tryz.prog 154 [.int .i64 (n : Int)] w0 (fun v w' => Upd [] w0 w' ∧ v = str (putN n)) := by
  refine Cal.mk' (by kernel_rfl) Tryz.func154 rfl rfl fun hS => ?_
  have hw := wrap_nat64 (n := n) (by omega)
  repeat' (first
    | (show WL _ _ _ _ _ _ _; first
      | refine WL.pure rfl rfl rfl rfl ?_
      | refine WL.nil ?_
      | (refine WL.calls hS rfl (congrArg (fun z => [Value.int .u64 z]) hw) (rvarint_c n n _ (Nat.le_refl _) (by omega)) rfl rfl rfl ?_; rintro v w rfl hS))
    | (show WC _ _ _ _ _ _; first
      | refine WC.seq ?_
      | refine WC.region ?_
      | refine WC.ret ?_)
    | refine seqQ_n ?_)
  exact fin1r rfl rfl ⟨hS.upd, rfl⟩
set_option maxHeartbeats 4000000 in
set_option maxRecDepth 100000 in
theorem rtextw_c (s : List UInt8) (w0 : World) (hl : s.length ≤ 1099511627776) : Cal Tryz.prog 136 [str s] w0 (fun v w' => Upd [] w0 w' ∧ v = str (textE s)) := by
  refine Cal.mk' (by kernel_rfl) Tryz.func136 rfl rfl fun hS => ?_
  have hp := putN_len10 (n := s.length) (by omega)
  have hw := wrap_nat64 (n := s.length) (by omega)
  repeat' (first
    | (show WL _ _ _ _ _ _ _; first
      | refine WL.pure rfl rfl rfl rfl ?_
      | refine WL.nil ?_
      | (refine WL.calls hS rfl (congrArg (fun z => [Value.int .u64 z]) hw) (rvarint_c s.length s.length _ (Nat.le_refl _) (by omega)) rfl rfl rfl ?_; rintro v w rfl hS)
      | refine WL.cat rfl rfl rfl (by omega) rfl rfl rfl ?_)
    | (show WC _ _ _ _ _ _; first
      | refine WC.seq ?_
      | refine WC.region ?_
      | refine WC.ret ?_)
    | refine seqQ_n ?_)
  exact fin1r rfl rfl ⟨hS.upd, rfl⟩
/-! ## read -/
theorem lowV_bound {l : List UInt8} (h : l.length ≤ 10) (h10 : ∀ c, l[9]? = some c → c.toNat ≤ 1) : lowV l < 18446744073709551616 := by
  by_cases hl : l.length ≤ 9
  · have h1 := lowV_lt l
    have h2 : 128 ^ l.length ≤ 128 ^ 9 := Nat.pow_le_pow_right (by omega) hl
    rw [pow128_9] at h2
    omega
  · have hl : l.length = 10 := by omega
    have e : l = l.take 9 ++ [l[9]'(by omega)] := by
      conv => lhs; rw [← List.take_append_drop 9 l]
      rw [List.drop_eq_getElem_cons (by omega), List.drop_of_length_le (by omega)]
    have h9 := h10 _ (List.getElem?_eq_getElem (by omega : 9 < l.length))
    generalize l[9]'(by omega) = c at *
    rw [e, lowV_snoc]
    have h3 : (l.take 9).length = 9 := by rw [List.length_take]; omega
    have h1 : lowV (l.take 9) < 128 ^ 9 := by have := lowV_lt (l.take 9); rwa [h3] at this
    rw [h3]
    rw [pow128_9] at h1 ⊢
    have : c.toNat % 128 ≤ 1 := by omega
    have : c.toNat % 128 * 9223372036854775808 ≤ 1 * 9223372036854775808 := Nat.mul_le_mul_right _ this
    omega
/-- where the number ends -/
theorem varE_end {s : List UInt8} {n : Nat} (hn : n ≤ 9) (hgo : ∀ c ∈ s.take n, 128 ≤ c.toNat) {c : UInt8} (hc : s[n]? = some c) (hst : c.toNat < 128 ∨ n = 9) :
    varE s 0 0 = if n = 9 ∧ 1 < c.toNat ∨ 0 < n ∧ c.toNat = 0 then (0, 0, 3) else (lowV (s.take (n + 1)), n + 1, 0) := by
  obtain ⟨hlt, hcv⟩ := List.getElem?_eq_some_iff.1 hc
  have hl : (s.take n).length = n := by rw [List.length_take]; omega
  have e : s = s.take n ++ c :: s.drop (n + 1) := by
    conv => lhs; rw [← List.take_append_drop n s]
    rw [List.drop_eq_getElem_cons hlt, hcv]
  have hlow : lowV (s.take (n + 1)) = lowV (s.take n) + c.toNat % 128 * 128 ^ n := by
    rw [List.take_succ_eq_append_getElem hlt, hcv, lowV_snoc, hl]
  have h1 : varE s 0 0 = varE (c :: s.drop (n + 1)) n (lowV (s.take n)) := by
    conv => lhs; rw [e]
    rw [varE_go _ _ _ _ hgo (by omega), hl, Nat.zero_add, Nat.zero_add, Nat.pow_zero, Nat.mul_one]
  have h2 : varE (c :: s.drop (n + 1)) n (lowV (s.take n)) = if n = 9 ∧ 1 < c.toNat then (0, 0, 3) else if 128 ≤ c.toNat then varE (s.drop (n + 1)) (n + 1) (lowV (s.take n) + c.toNat % 128 * 128 ^ n) else if c.toNat = 0 ∧ 0 < n then (0, 0, 3) else (lowV (s.take n) + c.toNat % 128 * 128 ^ n, n + 1, 0) := rfl
  rw [h1, h2, hlow]
  by_cases c1 : n = 9 ∧ 1 < c.toNat
  · rw [if_pos c1, if_pos (.inl c1)]
  · rw [if_neg c1]
    have : ¬ 128 ≤ c.toNat := by rcases hst with h | h <;> omega
    rw [if_neg this]
    by_cases c2 : c.toNat = 0 ∧ 0 < n
    · rw [if_pos c2, if_pos (.inr ⟨c2.2, c2.1⟩)]
    · rw [if_neg c2, if_neg (by rintro (h | h); exact c1 h; exact c2 ⟨h.2, h.1⟩)]
theorem rvarE_short {s : List UInt8} (hn : s.length ≤ 9) (hgo : ∀ c ∈ s, 128 ≤ c.toNat) : varE s 0 0 = (0, 0, 2) := by
  have h := varE_go s [] 0 0 hgo (by omega)
  rw [List.append_nil] at h
  rw [h]
  rfl
def varV0 (r : Nat × Nat × Int) : Value := .tuple #[.int .u64 (r.1 : Int), .int .i64 (r.2.1 : Int), .int .i64 r.2.2]
theorem low_rem (c : UInt8) : IntKind.u8.wrap ((c.toNat : Int) % 128) = (c.toNat : Int) % 128 := by
  have := c.toNat_lt
  rw [IntWalk.u8_in _ (by omega)]
theorem low_step {V : Nat} {c : UInt8} (h : c.toNat % 128 + 128 * V < 18446744073709551616) : IntKind.u64.wrap (IntKind.u64.wrap (128 * (V : Int)) + IntKind.u64.wrap ((c.toNat : Int) % 128)) = ((c.toNat % 128 + 128 * V : Nat) : Int) := by
  have := c.toNat_lt
  simp only [IntKind.wrap_u64]
  omega
set_option maxHeartbeats 16000000 in
set_option maxRecDepth 100000 in
theorem rread_c (s : List UInt8) (w0 : World) (hl : s.length ≤ 1099511627776) : Cal Tryz.prog 185 [str s] w0 (fun v w' => Upd [] w0 w' ∧ v = varV0 (varE s 0 0)) := by
  refine Cal.mk' (by kernel_rfl) Tryz.func185 rfl rfl fun hS => ?_
  generalize hRES : varE s 0 0 = RES
  repeat' (first
    | (show WL _ _ _ _ _ _ _; first
      | refine WL.pure rfl rfl rfl rfl ?_
      | refine WL.nil ?_)
    | (show WC _ _ _ _ _ _; first
      | (show WC _ _ (Code.seq (Code.block 0 _) _) _ _ _; refine WC.cutS (σ := Nat) [0] (fun n => [(5, .int .i64 (n : Int))]) (fun n w => n ≤ 9 ∧ n ≤ s.length ∧ (∀ c ∈ s.take n, 128 ≤ c.toNat) ∧ (∀ c, s[n]? = some c → c.toNat < 128 ∨ n = 9) ∧ St w0 [] w [] [⟨w0, Old w0⟩]) ?_ ?_)
      | refine WC.seq ?_
      | refine WC.region ?_
      | refine WC.block ?_)
    | refine seqQ_n ?_)
  · refine WC.loop (σ := Nat) [0] (fun n => [(5, .int .i64 (n : Int))]) (fun n w => n ≤ 9 ∧ n ≤ s.length ∧ (∀ c ∈ s.take n, 128 ≤ c.toNat) ∧ St w0 [] w [] [⟨w0, Old w0⟩]) (fun n => 9 - n) 0 ⟨Nat.zero_le _, Nat.zero_le _, fun c hc => by simp at hc, hS⟩ ⟨rfl, trivial⟩ ?_
    clear hS
    rintro n g w ⟨hn, hns, Hgo, hS⟩
    obtain ⟨Hg, -⟩ : ∃ h : (∀ c ∈ s.take n, 128 ≤ c.toNat), h = Hgo := ⟨_, rfl⟩
    clear Hgo
    by_cases hlt : n < s.length
    · have hc : s[n]? = some s[n] := List.getElem?_eq_getElem hlt
      have hnext : 128 ≤ s[n].toNat → ∀ c ∈ s.take (n + 1), 128 ≤ c.toNat := fun h c hcm => by
        rw [List.take_succ_eq_append_getElem hlt] at hcm
        rcases List.mem_append.1 hcm with h1 | h1
        · exact Hg c h1
        · simp at h1; rw [h1]; exact h
      generalize s[n] = c0 at *
      by_cases h9 : n < 9
      · by_cases h128 : 128 ≤ c0.toNat
        · have hnext := hnext h128
          have hi8 : (128 : Int) ≤ (c0.toNat : Int) := by omega
          clear Hg
          repeat' (first
            | (show WL _ _ _ _ _ _ _; first
              | refine WL.pure rfl rfl rfl rfl ?_
              | refine WL.nil ?_
              | refine WL.add rfl rfl rfl (by omega) rfl rfl rfl ?_
              | refine WL.idxS rfl rfl rfl rfl (by with_reducible assumption) rfl rfl rfl ?_
              | ((fail_if_success (refine WL.wanted rfl ?_)); refine WL.guard rfl rfl rfl (fun h => ?_) (fun h => ?_) <;> (try simp only [Classical.not_not, Bool.not_eq_true', Bool.not_eq_false', Bool.not_eq_eq_eq_not, Bool.not_true, Bool.not_false, beq_iff_eq, beq_eq_false_iff_ne, ne_eq, decide_eq_decide, decide_eq_true_eq, decide_eq_false_iff_not, Bool.and_eq_true, Bool.or_eq_true, Bool.and_eq_false_iff, Bool.or_eq_false_iff] at h) <;> (try (exfalso; first | omega | contradiction))))
            | (show WC _ _ _ _ _ _; first
              | refine WC.seq ?_
              | refine WC.region ?_
              | refine WC.block ?_
              | refine WC.skip ?_
              | refine WC.condT rfl (decide_eq_true (by first | with_reducible assumption | omega)) ?_)
            | refine seqQ_n ?_
            | refine blkQ_n ?_)
          exact rndQ_n (n + 1) ⟨by omega, by omega, hnext, hS⟩ (by omega) ⟨vint (by omega), trivial⟩ ⟨rfl, trivial⟩
        · have hi8 : ¬ (128 : Int) ≤ (c0.toNat : Int) := by omega
          have hend : ∀ c, s[n]? = some c → c.toNat < 128 ∨ n = 9 := fun c h => by rw [hc] at h; cases h; exact .inl (by omega)
          obtain ⟨He, -⟩ : ∃ h : (∀ c, s[n]? = some c → c.toNat < 128 ∨ n = 9), h = hend := ⟨_, rfl⟩
          clear hend hnext
          repeat' (first
            | (show WL _ _ _ _ _ _ _; first
              | refine WL.pure rfl rfl rfl rfl ?_
              | refine WL.nil ?_
              | refine WL.idxS rfl rfl rfl rfl (by with_reducible assumption) rfl rfl rfl ?_
              | refine WL.skip rfl rfl rfl ?_
              | ((fail_if_success (refine WL.wanted rfl ?_)); refine WL.guard rfl rfl rfl (fun h => ?_) (fun h => ?_) <;> (try simp only [Classical.not_not, Bool.not_eq_true', Bool.not_eq_false', Bool.not_eq_eq_eq_not, Bool.not_true, Bool.not_false, beq_iff_eq, beq_eq_false_iff_ne, ne_eq, decide_eq_decide, decide_eq_true_eq, decide_eq_false_iff_not, Bool.and_eq_true, Bool.or_eq_true, Bool.and_eq_false_iff, Bool.or_eq_false_iff] at h) <;> (try (exfalso; first | omega | contradiction))))
            | (show WC _ _ _ _ _ _; first
              | refine WC.seq ?_
              | refine WC.region ?_
              | refine WC.exit ?_
              | refine WC.condF rfl (by with_reducible rfl) ?_)
            | refine seqQ_n ?_
            | refine seqQ_x ?_
            | refine blkQ_hit rfl ?_
            | refine rndQ_x ?_)
          exact endQ_n n ⟨hn, hns, Hg, He, hS⟩ ⟨rfl, trivial⟩ ⟨rfl, trivial⟩
      · have He : ∀ c, s[n]? = some c → c.toNat < 128 ∨ n = 9 := fun c h => .inr (by omega)
        clear hnext
        have hn9 : ¬ (n : Int) < 9 := by omega
        repeat' (first
          | (show WL _ _ _ _ _ _ _; first
            | refine WL.pure rfl rfl rfl rfl ?_
            | refine WL.nil ?_
            | refine WL.idxS rfl rfl rfl rfl (by with_reducible assumption) rfl rfl rfl ?_
            | refine WL.skip rfl rfl rfl ?_
            | ((fail_if_success (refine WL.wanted rfl ?_)); refine WL.guard rfl rfl rfl (fun h => ?_) (fun h => ?_) <;> (try simp only [Classical.not_not, Bool.not_eq_true', Bool.not_eq_false', Bool.not_eq_eq_eq_not, Bool.not_true, Bool.not_false, beq_iff_eq, beq_eq_false_iff_ne, ne_eq, decide_eq_decide, decide_eq_true_eq, decide_eq_false_iff_not, Bool.and_eq_true, Bool.or_eq_true, Bool.and_eq_false_iff, Bool.or_eq_false_iff] at h) <;> (try (exfalso; first | omega | contradiction))))
          | (show WC _ _ _ _ _ _; first
            | refine WC.seq ?_
            | refine WC.region ?_
            | refine WC.exit ?_
            | refine WC.condF rfl (by with_reducible rfl) ?_
            | refine WC.condF rfl (decide_eq_false (by first | with_reducible assumption | omega)) ?_)
          | refine seqQ_n ?_
          | refine seqQ_x ?_
          | refine blkQ_hit rfl ?_
          | refine rndQ_x ?_)
        all_goals exact endQ_n n ⟨hn, hns, Hg, He, hS⟩ ⟨rfl, trivial⟩ ⟨rfl, trivial⟩
    · have He : ∀ c, s[n]? = some c → c.toNat < 128 ∨ n = 9 := fun c h => by rw [List.getElem?_eq_none (by omega)] at h; cases h
      repeat' (first
        | (show WL _ _ _ _ _ _ _; first
          | refine WL.pure rfl rfl rfl rfl ?_
          | refine WL.nil ?_
          | refine WL.skip rfl rfl rfl ?_
          | ((fail_if_success (refine WL.wanted rfl ?_)); refine WL.guard rfl rfl rfl (fun h => ?_) (fun h => ?_) <;> (try simp only [Classical.not_not, Bool.not_eq_true', Bool.not_eq_false', Bool.not_eq_eq_eq_not, Bool.not_true, Bool.not_false, beq_iff_eq, beq_eq_false_iff_ne, ne_eq, decide_eq_decide, decide_eq_true_eq, decide_eq_false_iff_not, Bool.and_eq_true, Bool.or_eq_true, Bool.and_eq_false_iff, Bool.or_eq_false_iff] at h) <;> (try (exfalso; first | omega | contradiction))))
        | (show WC _ _ _ _ _ _; first
          | refine WC.seq ?_
          | refine WC.region ?_
          | refine WC.exit ?_
          | refine WC.condF rfl (by with_reducible rfl) ?_)
        | refine seqQ_n ?_
        | refine seqQ_x ?_
        | refine blkQ_hit rfl ?_
        | refine rndQ_x ?_)
      exact endQ_n n ⟨hn, hns, Hg, He, hS⟩ ⟨rfl, trivial⟩ ⟨rfl, trivial⟩
  · rintro n g w ⟨hn, hns, Hg, He, hS⟩
    by_cases hlt : n < s.length
    rotate_left
    · have hne : n = s.length := by omega
      subst hne
      rw [List.take_length] at Hg
      rw [rvarE_short (by omega) Hg] at hRES
      subst hRES
      clear Hg He
      repeat' (first
        | (show WL _ _ _ _ _ _ _; first
          | refine WL.pure rfl rfl rfl rfl ?_
          | refine WL.nil ?_)
        | (show WC _ _ _ _ _ _; first
          | refine WC.seq ?_
          | refine WC.region ?_
          | refine WC.ret ?_
          | refine WC.condT rfl (decide_eq_true (by first | with_reducible assumption | omega)) ?_)
        | refine seqQ_n ?_
        | refine seqQ_r ?_)
      exact fin3r rfl rfl rfl rfl ⟨hS.upd, rfl⟩
    have hc : s[n]? = some s[n] := List.getElem?_eq_getElem hlt
    have hE := varE_end hn Hg hc (He _ hc)
    rw [hRES] at hE
    have hst := He _ hc
    have h9c : n = 9 → s[9]? = some s[n] := fun h => by rw [← hc, h]
    have hb : ¬ (n = 9 ∧ 1 < s[n].toNat) → ∀ i, lowV ((s.take (n + 1)).drop i) < 18446744073709551616 := fun hno i => by
      refine lowV_bound (by rw [List.length_drop, List.length_take]; omega) fun c h => ?_
      rw [List.getElem?_drop] at h
      have hi : i + 9 < (s.take (n + 1)).length := (List.getElem?_eq_some_iff.1 h).1
      rw [List.length_take] at hi
      have hi0 : i = 0 := by omega
      have hn9 : n = 9 := by omega
      subst hi0
      rw [Nat.zero_add, List.getElem?_take_of_lt (by omega), h9c hn9] at h
      cases h
      omega
    generalize hc0 : s[n] = c0 at *
    clear Hg He hRES
    by_cases hf : n = 9 ∧ 1 < c0.toNat ∨ 0 < n ∧ c0.toNat = 0
    · rw [if_pos hf] at hE
      subst hE
      clear hb hst
      rcases hf with ⟨rfl, h1⟩ | ⟨h1, h2⟩
      · have h9c := h9c rfl
        have hi1 : (1 : Int) < (c0.toNat : Int) := by omega
        repeat' (first
          | (show WL _ _ _ _ _ _ _; first
            | refine WL.pure rfl rfl rfl rfl ?_
            | refine WL.nil ?_
            | refine WL.idxS (j := 9) rfl rfl rfl rfl h9c rfl rfl rfl ?_
            | refine WL.skip rfl rfl rfl ?_
            | ((fail_if_success (refine WL.wanted rfl ?_)); refine WL.guard rfl rfl rfl (fun h => ?_) (fun h => ?_) <;> (try simp only [Classical.not_not, Bool.not_eq_true', Bool.not_eq_false', Bool.not_eq_eq_eq_not, Bool.not_true, Bool.not_false, beq_iff_eq, beq_eq_false_iff_ne, ne_eq, decide_eq_decide, decide_eq_true_eq, decide_eq_false_iff_not, Bool.and_eq_true, Bool.or_eq_true, Bool.and_eq_false_iff, Bool.or_eq_false_iff] at h) <;> (try (exfalso; first | omega | contradiction))))
          | (show WC _ _ _ _ _ _; first
            | refine WC.seq ?_
            | refine WC.region ?_
            | refine WC.skip ?_
            | refine WC.ret ?_
            | refine WC.condT rfl (by with_reducible rfl) ?_
            | refine WC.condF rfl (decide_eq_false (by first | with_reducible assumption | omega)) ?_)
          | refine seqQ_n ?_
          | refine seqQ_r ?_)
        exact fin3r rfl rfl rfl rfl ⟨hS.upd, rfl⟩
      · by_cases h9 : n = 9
        · subst h9
          have h9c := h9c rfl
          have hi1 : ¬ (1 : Int) < (c0.toNat : Int) := by omega
          have hi2 : (c0.toNat : Int) = 0 := by omega
          repeat' (first
            | (show WL _ _ _ _ _ _ _; first
              | refine WL.pure rfl rfl rfl rfl ?_
              | refine WL.nil ?_
              | refine WL.idxS (j := 9) rfl rfl rfl rfl h9c rfl rfl rfl ?_
              | ((fail_if_success (refine WL.wanted rfl ?_)); refine WL.guard rfl rfl rfl (fun h => ?_) (fun h => ?_) <;> (try simp only [Classical.not_not, Bool.not_eq_true', Bool.not_eq_false', Bool.not_eq_eq_eq_not, Bool.not_true, Bool.not_false, beq_iff_eq, beq_eq_false_iff_ne, ne_eq, decide_eq_decide, decide_eq_true_eq, decide_eq_false_iff_not, Bool.and_eq_true, Bool.or_eq_true, Bool.and_eq_false_iff, Bool.or_eq_false_iff] at h) <;> (try (exfalso; first | omega | contradiction))))
            | (show WC _ _ _ _ _ _; first
              | refine WC.seq ?_
              | refine WC.region ?_
              | refine WC.skip ?_
              | refine WC.ret ?_
              | refine WC.condT rfl (decide_eq_true (by first | with_reducible assumption | omega)) ?_
              | refine WC.condF rfl (decide_eq_false (by first | with_reducible assumption | omega)) ?_)
            | refine seqQ_n ?_
            | refine seqQ_r ?_)
          exact fin3r rfl rfl rfl rfl ⟨hS.upd, rfl⟩
        · have hi2 : (c0.toNat : Int) = 0 := by omega
          have hn9 : ¬ (n : Int) = 9 := by omega
          clear h9c
          repeat' (first
            | (show WL _ _ _ _ _ _ _; first
              | refine WL.pure rfl rfl rfl rfl ?_
              | refine WL.nil ?_
              | refine WL.idxS rfl rfl rfl rfl (by with_reducible assumption) rfl rfl rfl ?_
              | refine WL.skip rfl rfl rfl ?_
              | ((fail_if_success (refine WL.wanted rfl ?_)); refine WL.guard rfl rfl rfl (fun h => ?_) (fun h => ?_) <;> (try simp only [Classical.not_not, Bool.not_eq_true', Bool.not_eq_false', Bool.not_eq_eq_eq_not, Bool.not_true, Bool.not_false, beq_iff_eq, beq_eq_false_iff_ne, ne_eq, decide_eq_decide, decide_eq_true_eq, decide_eq_false_iff_not, Bool.and_eq_true, Bool.or_eq_true, Bool.and_eq_false_iff, Bool.or_eq_false_iff] at h) <;> (try (exfalso; first | omega | contradiction))))
            | (show WC _ _ _ _ _ _; first
              | refine WC.seq ?_
              | refine WC.region ?_
              | refine WC.skip ?_
              | refine WC.ret ?_
              | refine WC.condT rfl (decide_eq_true (by first | with_reducible assumption | omega)) ?_
              | refine WC.condF rfl (decide_eq_false (by first | with_reducible assumption | omega)) ?_)
            | refine seqQ_n ?_
            | refine seqQ_r ?_)
          exact fin3r rfl rfl rfl rfl ⟨hS.upd, rfl⟩
    · rw [if_neg hf] at hE
      subst hE
      have hb := hb (fun h => hf (.inl h))
      have hnf : (n = 9 → ¬ 1 < c0.toNat) ∧ (0 < n → ¬ c0.toNat = 0) := ⟨fun h1 h2 => hf (.inl ⟨h1, h2⟩), fun h1 h2 => hf (.inr ⟨h1, h2⟩)⟩
      clear hst hf h9c
      have hL : ∀ m, m < n + 1 → ∃ c, s[m]? = some c ∧ (s.take (n + 1)).drop m = c :: (s.take (n + 1)).drop (m + 1) := fun m hm => by
        have hml : m < (s.take (n + 1)).length := by rw [List.length_take]; omega
        refine ⟨s[m]'(by omega), List.getElem?_eq_getElem (by omega), ?_⟩
        rw [List.drop_eq_getElem_cons hml, List.getElem_take]
      have hz : lowV ((s.take (n + 1)).drop (n + 1)) = 0 := by rw [List.drop_of_length_le (by rw [List.length_take]; omega)]; rfl
      have h0 : lowV ((s.take (n + 1)).drop 0) = lowV (s.take (n + 1)) := rfl
      generalize s.take (n + 1) = L at *
      have hfin : ∀ (V : Nat), lowV (L.drop 0) = V → varV0 (V, n + 1, 0) = .tuple #[.int .u64 ((lowV (L.drop 0) : Nat) : Int), .int .i64 ((n : Int) + 1), .int .i64 0] := fun V h => by rw [h]; rfl
      rw [hfin _ h0]
      clear hfin h0
      have hcn : (n = 9 → ¬ (1 : Int) < (c0.toNat : Int)) ∧ (0 < n → ¬ (c0.toNat : Int) = 0) := ⟨fun h1 => by have := hnf.1 h1; omega, fun h1 => by have := hnf.2 h1; omega⟩
      clear hnf
      obtain ⟨HL, -⟩ : ∃ h : (∀ m, m < n + 1 → ∃ c, s[m]? = some c ∧ L.drop m = c :: L.drop (m + 1)), h = hL := ⟨_, rfl⟩
      obtain ⟨HB, -⟩ : ∃ h : (∀ i, lowV (L.drop i) < 18446744073709551616), h = hb := ⟨_, rfl⟩
      clear hL hb
      have hcase : n = 9 ∧ ¬ (1 : Int) < (c0.toNat : Int) ∧ ¬ (c0.toNat : Int) = 0 ∨ ¬ (n : Int) = 9 ∧ 0 < n ∧ ¬ (c0.toNat : Int) = 0 ∨ n = 0 := by
        by_cases h9 : n = 9
        · exact .inl ⟨h9, hcn.1 h9, hcn.2 (by omega)⟩
        · by_cases hz0 : n = 0
          · exact .inr (.inr hz0)
          · exact .inr (.inl ⟨by omega, by omega, hcn.2 (by omega)⟩)
      clear hcn
      rcases hcase with ⟨rfl, hi1, hi2⟩ | ⟨hi9, hi0, hi2⟩ | rfl
      all_goals
        repeat' (first
          | (show WL _ _ _ _ _ _ _; first
            | refine WL.pure rfl rfl rfl rfl ?_
            | refine WL.nil ?_
            | refine WL.idxS (j := 9) rfl rfl rfl rfl hc rfl rfl rfl ?_
            | refine WL.idxS rfl rfl rfl rfl (by with_reducible assumption) rfl rfl rfl ?_
            | refine WL.skip rfl rfl rfl ?_
            | ((fail_if_success (refine WL.wanted rfl ?_)); refine WL.guard rfl rfl rfl (fun h => ?_) (fun h => ?_) <;> (try simp only [Classical.not_not, Bool.not_eq_true', Bool.not_eq_false', Bool.not_eq_eq_eq_not, Bool.not_true, Bool.not_false, beq_iff_eq, beq_eq_false_iff_ne, ne_eq, decide_eq_decide, decide_eq_true_eq, decide_eq_false_iff_not, Bool.and_eq_true, Bool.or_eq_true, Bool.and_eq_false_iff, Bool.or_eq_false_iff] at h) <;> (try (exfalso; first | omega | contradiction))))
          | (show WC _ _ _ _ _ _; first
            | refine WC.seq ?_
            | refine WC.region ?_
            | refine WC.block ?_
            | refine WC.skip ?_
            | refine WC.condF rfl (by with_reducible rfl) ?_
            | refine WC.condF rfl (decide_eq_false (by first | with_reducible assumption | omega)) ?_)
          | refine seqQ_n ?_)
      all_goals
        refine WC.loop (σ := Nat) [0, 5] (fun k => [(6, .int .u64 ((lowV (L.drop k) : Nat) : Int)), (7, .int .i64 ((k : Int) - 1))]) (fun k w => k ≤ _ + 1 ∧ St w0 [] w [] [⟨w0, Old w0⟩]) (fun k => k) _ ⟨Nat.le_refl _, hS⟩ ⟨by rw [hz]; rfl, vint (by omega), trivial⟩ ?_
        clear hS hc
        rintro k g w ⟨hk, hS⟩
        rcases k with _ | m
        · clear HL HB
          repeat' (first
            | (show WL _ _ _ _ _ _ _; first
              | refine WL.pure rfl rfl rfl rfl ?_
              | refine WL.nil ?_
              | refine WL.add rfl rfl rfl (by omega) rfl rfl rfl ?_)
            | (show WC _ _ _ _ _ _; first
              | refine WC.seq ?_
              | refine WC.region ?_
              | refine WC.exit ?_
              | refine WC.ret ?_
              | refine WC.condF rfl (by decide) ?_)
            | refine seqQ_n ?_
            | refine seqQ_x ?_
            | refine blkQ_hit rfl ?_
            | refine rndQ_x ?_)
          exact fin3r rfl rfl rfl rfl ⟨hS.upd, rfl⟩
        · obtain ⟨c, hc, hdr⟩ := HL m (by omega)
          have hbm := HB m
          rw [hdr] at hbm
          have hstep := low_step (V := lowV (L.drop (m + 1))) (c := c) hbm
          have hlw : lowV (L.drop m) = c.toNat % 128 + 128 * lowV (L.drop (m + 1)) := by rw [hdr]; rfl
          have hrem := low_rem c
          clear HL HB hdr hbm
          generalize lowV (L.drop (m + 1)) = V at *
          repeat' (first
            | (show WL _ _ _ _ _ _ _; first
              | refine WL.pure rfl rfl rfl rfl ?_
              | refine WL.nil ?_
              | refine WL.sub rfl rfl rfl (by omega) rfl rfl rfl ?_
              | refine WL.idxS (j := m) rfl rfl rfl (congrArg (Value.int .i64) (pred_ofNat m)) hc rfl rfl rfl ?_
              | (refine WL.remK rfl rfl rfl (by omega) (by omega) hrem rfl rfl rfl ?_))
            | (show WC _ _ _ _ _ _; first
              | refine WC.seq ?_
              | refine WC.region ?_
              | refine WC.block ?_
              | refine WC.skip ?_
              | refine WC.condT rfl (decide_eq_true (by first | with_reducible assumption | omega)) ?_)
            | refine seqQ_n ?_
            | refine blkQ_n ?_)
          exact rndQ_n m ⟨by omega, hS⟩ (by omega) ⟨by rw [hlw, ← hstep]; rfl, vint (by omega), trivial⟩ ⟨rfl, rfl, trivial⟩
def uintV0 (r : Nat × Nat × Int) : Value := .tuple #[.int .i64 (r.1 : Int), .int .i64 (r.2.1 : Int), .int .i64 r.2.2]
theorem varE_zero (s : List UInt8) (h : (varE s 0 0).2.2 ≠ 0) : varE s 0 0 = (0, 0, (varE s 0 0).2.2) := by
  have key : ∀ (t : List UInt8) (i x : Nat), (varE t i x).2.2 ≠ 0 → varE t i x = (0, 0, (varE t i x).2.2) := by
    intro t
    induction t with
    | nil => intro i x _; rfl
    | cons c t ih =>
      intro i x h
      unfold varE at h ⊢
      split
      · rfl
      · rename_i h1
        rw [if_neg h1] at h
        split
        · rename_i h2
          rw [if_pos h2] at h
          exact ih _ _ h
        · rename_i h2
          rw [if_neg h2] at h
          split
          · rfl
          · rename_i h3
            rw [if_neg h3] at h
            exact absurd rfl h
  exact key s 0 0 h
set_option maxHeartbeats 4000000 in
set_option maxRecDepth 100000 in
theorem ruint_c (s : List UInt8) (w0 : World) (hl : s.length ≤ 1099511627776) : Cal Tryz.prog 152 [str s] w0 (fun v w' => Upd [] w0 w' ∧ v = uintV0 (uintE s)) := by
  refine Cal.mk' (by kernel_rfl) Tryz.func152 rfl rfl fun hS => ?_
  have hr := fun w0 => rread_c s w0 hl
  have hz := varE_zero s
  unfold uintE
  unfold varV0 at hr
  have hlt : (varE s 0 0).2.2 = 0 → (varE s 0 0).1 < 18446744073709551616 := fun h => (varE_ok s 0 0 (by simp) (by omega) h).1
  generalize varE s 0 0 = r at *
  obtain ⟨x, n, e⟩ := r
  dsimp only at hr hz hlt ⊢
  by_cases he : e = 0
  · subst he
    have hlt := hlt rfl
    rw [if_pos rfl]
    clear hz
    by_cases h63 : x < 9223372036854775808
    · rw [if_pos h63]
      repeat' (first
        | (show WL _ _ _ _ _ _ _; first
          | refine WL.pure rfl rfl rfl rfl ?_
          | refine WL.nil ?_
          | (refine WL.calls hS rfl rfl (hr _) rfl rfl rfl ?_; rintro v w rfl hS)
          | refine WL.conv64 rfl rfl rfl (by omega) rfl rfl rfl ?_)
        | (show WC _ _ _ _ _ _; first
          | refine WC.seq ?_
          | refine WC.region ?_
          | refine WC.skip ?_
          | refine WC.ret ?_
          | refine WC.condF rfl (decide_eq_false (by first | with_reducible assumption | omega)) ?_)
        | refine seqQ_n ?_)
      exact fin3r rfl rfl rfl rfl ⟨hS.upd, rfl⟩
    · rw [if_neg h63]
      repeat' (first
        | (show WL _ _ _ _ _ _ _; first
          | refine WL.pure rfl rfl rfl rfl ?_
          | refine WL.nil ?_
          | (refine WL.calls hS rfl rfl (hr _) rfl rfl rfl ?_; rintro v w rfl hS))
        | (show WC _ _ _ _ _ _; first
          | refine WC.seq ?_
          | refine WC.region ?_
          | refine WC.ret ?_
          | refine WC.condT rfl (decide_eq_true (by first | with_reducible assumption | omega)) ?_)
        | refine seqQ_n ?_
        | refine seqQ_r ?_)
      exact fin3r rfl rfl rfl rfl ⟨hS.upd, rfl⟩
  · rw [if_neg he]
    have hz := hz he
    simp only [Prod.mk.injEq, and_true] at hz
    obtain ⟨rfl, rfl⟩ := hz
    clear hlt
    repeat' (first
      | (show WL _ _ _ _ _ _ _; first
        | refine WL.pure rfl rfl rfl rfl ?_
        | refine WL.nil ?_
        | (refine WL.calls hS rfl rfl (hr _) rfl rfl rfl ?_; rintro v w rfl hS)
        | refine WL.conv64 rfl rfl rfl (by omega) rfl rfl rfl ?_
        | refine WL.skip rfl rfl rfl ?_
        | ((fail_if_success (refine WL.wanted rfl ?_)); refine WL.guard rfl rfl rfl (fun h => ?_) (fun h => ?_) <;> (try simp only [Classical.not_not, Bool.not_eq_true', Bool.not_eq_false', Bool.not_eq_eq_eq_not, Bool.not_true, Bool.not_false, beq_iff_eq, beq_eq_false_iff_ne, ne_eq, decide_eq_decide, decide_eq_true_eq, decide_eq_false_iff_not, Bool.and_eq_true, Bool.or_eq_true, Bool.and_eq_false_iff, Bool.or_eq_false_iff] at h) <;> (try (exfalso; first | omega | contradiction))))
      | (show WC _ _ _ _ _ _; first
        | refine WC.seq ?_
        | refine WC.region ?_
        | refine WC.skip ?_
        | refine WC.ret ?_
        | refine WC.condF rfl (by with_reducible rfl) ?_)
      | refine seqQ_n ?_)
    exact fin3r rfl rfl rfl rfl ⟨hS.upd, rfl⟩
def rtextV0 (r : List UInt8 × Nat × Int) : Value := .tuple #[str r.1, .int .i64 (r.2.1 : Int), .int .i64 r.2.2]
set_option maxHeartbeats 4000000 in
set_option maxRecDepth 100000 in
theorem rrtext_c (s : List UInt8) (w0 : World) (hl : s.length ≤ 1099511627776) : Cal Tryz.prog 151 [str s] w0 (fun v w' => Upd [] w0 w' ∧ v = rtextV0 (rtextE s)) := by
  refine Cal.mk' (by kernel_rfl) Tryz.func151 rfl rfl fun hS => ?_
  have hr := fun w0 => ruint_c s w0 hl
  have hok := uintE_ok s
  unfold rtextE
  unfold uintV0 at hr
  generalize uintE s = r at *
  obtain ⟨x, n, e⟩ := r
  dsimp only at hr hok ⊢
  by_cases he : e = 0
  · subst he
    obtain ⟨hx, hn⟩ := hok rfl
    clear hok
    rw [if_pos rfl]
    by_cases hle : x + n ≤ s.length
    · rw [if_pos hle]
      have hcut : (s.take (n + x)).drop n = (s.drop n).take x := by rw [List.drop_take]; congr 1; omega
      repeat' (first
        | (show WL _ _ _ _ _ _ _; first
          | refine WL.pure rfl rfl rfl rfl ?_
          | refine WL.nil ?_
          | refine WL.add rfl rfl rfl (by omega) rfl rfl rfl ?_
          | refine WL.sub rfl rfl rfl (by omega) rfl rfl rfl ?_
          | (refine WL.calls hS rfl rfl (hr _) rfl rfl rfl ?_; rintro v w rfl hS)
          | (refine WL.midS (i := n) (j := n + x) rfl rfl rfl rfl rfl (by omega) (by omega) rfl rfl rfl ?_; rw [hcut]))
        | (show WC _ _ _ _ _ _; first
          | refine WC.seq ?_
          | refine WC.region ?_
          | refine WC.skip ?_
          | refine WC.ret ?_
          | refine WC.condF rfl (by decide) ?_
          | refine WC.condF rfl (decide_eq_false (by first | with_reducible assumption | omega)) ?_)
        | refine seqQ_n ?_)
      exact fin3r rfl rfl rfl rfl ⟨hS.upd, by unfold rtextV0; rw [show ((n : Int) + (x : Int)) = ((x + n : Nat) : Int) by omega]⟩
    · rw [if_neg hle]
      repeat' (first
        | (show WL _ _ _ _ _ _ _; first
          | refine WL.pure rfl rfl rfl rfl ?_
          | refine WL.nil ?_
          | refine WL.sub rfl rfl rfl (by omega) rfl rfl rfl ?_
          | (refine WL.calls hS rfl rfl (hr _) rfl rfl rfl ?_; rintro v w rfl hS))
        | (show WC _ _ _ _ _ _; first
          | refine WC.seq ?_
          | refine WC.region ?_
          | refine WC.skip ?_
          | refine WC.ret ?_
          | refine WC.condF rfl (by decide) ?_
          | refine WC.condT rfl (decide_eq_true (by first | with_reducible assumption | omega)) ?_)
        | refine seqQ_n ?_
        | refine seqQ_r ?_)
      exact fin3r rfl rfl rfl rfl ⟨hS.upd, rfl⟩
  · rw [if_neg he]
    clear hok
    repeat' (first
      | (show WL _ _ _ _ _ _ _; first
        | refine WL.pure rfl rfl rfl rfl ?_
        | refine WL.nil ?_
        | (refine WL.calls hS rfl rfl (hr _) rfl rfl rfl ?_; rintro v w rfl hS))
      | (show WC _ _ _ _ _ _; first
        | refine WC.seq ?_
        | refine WC.region ?_
        | refine WC.ret ?_
        | refine WC.condT rfl (decide_eq_true (by first | with_reducible assumption | omega)) ?_)
      | refine seqQ_n ?_
      | refine seqQ_r ?_)
    exact fin3r rfl rfl rfl rfl ⟨hS.upd, rfl⟩
end Go.Proofs.YtccfiohagbneaaaGreatDoor

/- What is proved: what the reference's frames are, written, read and looked through. Conditions: texts of bounded length. -/
set_option linter.unusedSimpArgs false
set_option linter.unusedVariables false
namespace Go.Proofs.YtccfiohagbneaaaGreatDoor
open Go Go.J Go.RowKit
def leK : Nat → Nat → List UInt8
  | 0, _ => []
  | k + 1, c => UInt8.ofNat (c % 256) :: leK k (c / 256)
theorem leK_four (n : Nat) : leK 4 n = le4 n := by
  have e1 : n / 256 / 256 = n / 65536 := by rw [Nat.div_div_eq_div_mul]
  have e2 : n / 65536 / 256 = n / 16777216 := by rw [Nat.div_div_eq_div_mul]
  simp only [leK, le4, e1, e2]
theorem byteC_snoc (bs : List UInt8) (c : Nat) : byteC bs ++ [.int .u8 (IntKind.u8.wrap ((c : Int) % 256))] = byteC (bs ++ [UInt8.ofNat (c % 256)]) := by
  have e : IntKind.u8.wrap ((c : Int) % 256) = (((UInt8.ofNat (c % 256)).toNat : Nat) : Int) := by rw [Go.J.ofNat_toNat (by omega), IntKind.wrap_u8]; omega
  rw [e]
  simp [byteC]
set_option maxHeartbeats 8000000 in
set_option maxRecDepth 100000 in
theorem rpack_c (s : List UInt8) (w0 : World) (hl : s.length ≤ 1099511627776) : Cal Tryz.prog 73 [str s] w0 (fun v w' => Upd [] w0 w' ∧ v = str (packE s)) := by
  refine Cal.mk' (by kernel_rfl) Tryz.func73 rfl rfl fun hS => ?_
  have hlt := sumE_lt s
  have hk4 := leK_four (sumE s)
  have hp := putN_len10 (n := s.length) (by omega)
  have htl : (textE s).length = (putN s.length).length + s.length := by unfold textE; simp
  have hl4 : (le4 (sumE s)).length = 4 := rfl
  have hpk : textE s ++ le4 (sumE s) = packE s := rfl
  generalize le4 (sumE s) = b4 at *
  repeat' (first
    | (show WL _ _ _ _ _ _ _; first
      | refine WL.pure rfl rfl rfl rfl ?_
      | refine WL.nil ?_
      | (refine WL.calls hS rfl rfl (rsum_c s _ (by omega)) rfl rfl rfl ?_; rintro v w rfl hS))
    | (show WC _ _ _ _ _ _; first
      | refine WC.seq ?_
      | refine WC.region ?_
      | refine WC.block ?_)
    | refine seqQ_n ?_)
  generalize sumE s = n at *
  have hS := hS.nilRow 5 1
  refine WC.loop (σ := Nat × Nat × List UInt8 × Option Addr × Nat) [0] (fun (i, c, bs, B, cp) => [(3, .int .u32 (c : Int)), (4, .slice B i cp), (5, .int .i64 (i : Int))])
    (fun (i, c, bs, B, cp) w => (i ≤ 4 ∧ c < 4294967296 ∧ bs ++ leK (4 - i) c = b4) ∧ St w0 [] w [.own (.slice B i cp) 5 1 i (byteC bs)] [⟨w0, Old w0⟩]) (fun (i, _) => 4 - i) (0, n, [], none, 0) ⟨⟨Nat.zero_le _, hlt, hk4⟩, hS⟩ ⟨rfl, rfl, rfl, trivial⟩ ?_
  clear hS hlt hk4
  rintro ⟨i, c, bs, B, cp⟩ g w ⟨⟨hi, hc, hbs⟩, hS⟩
  show WC _ _ _ (lf _ [(3, .int .u32 (c : Int)), (4, .slice B i cp), (5, .int .i64 (i : Int))] _ _) _ _
  by_cases hlt : i < 4
  · have hw1 : IntKind.u32.wrap ((c : Int) % 256) = (c : Int) % 256 := by rw [IntKind.wrap_u32]; omega
    have hw2 : IntKind.u32.wrap ((c : Int) / 256) = (c : Int) / 256 := by rw [IntKind.wrap_u32]; omega
    have hq : (c : Int) / 256 = ((c / 256 : Nat) : Int) := rfl
    have hnx : (bs ++ [UInt8.ofNat (c % 256)]) ++ leK (4 - (i + 1)) (c / 256) = b4 := by
      rw [← hbs, List.append_assoc, show 4 - i = 4 - (i + 1) + 1 by omega]
      rfl
    clear hbs
    repeat' (first
      | (show WL _ _ _ _ _ _ _; first
        | refine WL.pure rfl rfl rfl rfl ?_
        | refine WL.nil ?_
        | refine WL.add rfl rfl rfl (by omega) rfl rfl rfl ?_
        | (refine WL.remK rfl rfl rfl (by omega) (by omega) hw1 rfl rfl rfl ?_)
        | (refine WL.quoK rfl rfl rfl (by omega) (by omega) hw2 rfl rfl rfl ?_; rw [hq])
        | (refine WL.app (m := 1) hS rfl rfl rfl rfl (RdOk.box (by repeat (first | exact List.Mem.head _ | apply List.Mem.tail))) rfl rfl (fun A cap => by repeat (first | exact Repl.here | apply Repl.there)) (by omega) rfl rfl rfl ?_; intro A3 cap3 w hS)
        | (refine WL.slit hS rfl rfl rfl rfl rfl ?_; intro w b hS))
      | (show WC _ _ _ _ _ _; first
        | refine WC.seq ?_
        | refine WC.region ?_
        | refine WC.block ?_
        | refine WC.skip ?_
        | refine WC.condT rfl (decide_eq_true (by first | with_reducible assumption | omega)) ?_)
      | refine seqQ_n ?_
      | refine blkQ_n ?_)
    replace hS : St w0 _ w (_ :: .own (.slice A3 (i + 1) cap3) 5 1 (i + 1) (byteC bs ++ [.int .u8 (IntKind.u8.wrap ((c : Int) % 256))]) :: _) _ := hS
    rw [byteC_snoc] at hS
    exact rndQ_n (i + 1, c / 256, bs ++ [UInt8.ofNat (c % 256)], A3, cap3) ⟨⟨by omega, by omega, hnx⟩, hS.droplast2 (by repeat (first | exact Pulls.nil | (apply Pulls.cons; focus (repeat (first | exact Pull.here | apply Pull.there)))))⟩ (by show 4 - (i + 1) < 4 - i; omega) ⟨rfl, rfl, vint (by omega), trivial⟩ ⟨rfl, trivial⟩
  · have hie : i = 4 := by omega
    subst hie
    have hbs : bs = b4 := by simpa [leK] using hbs
    subst hbs
    repeat' (first
      | (show WL _ _ _ _ _ _ _; first
        | refine WL.pure rfl rfl rfl rfl ?_
        | refine WL.nil ?_)
      | (show WC _ _ _ _ _ _; first
        | refine WC.seq ?_
        | refine WC.region ?_
        | refine WC.exit ?_
        | refine WC.ret ?_
        | (show WC _ _ (Code.region _ (List.toArray [_, _, _, _, _, _]) true) _ _ _; refine WC.drawP hS [0,2,4,5] [0,2] (.two 1 [3,4,5] .nil 3 [1,4,5] .nil) (by kernel_rfl) (by kernel_rfl) ?_; clear hS; intro w hS hM)
        | refine WC.condF rfl (by decide) ?_)
      | (show WD _ _ _ _ _ _ _ _ _; first
        | refine WD.pure rfl rfl rfl rfl rfl ?_
        | refine WD.nil ?_
        | (refine WD.fork ?_ ?_)
        | (refine WD.calls hS hM rfl rfl (rtextw_c s _ (by omega)) rfl rfl rfl rfl rfl ?_; clear hS; rintro v w rfl hS)
        | (refine WD.b2s (s := bs) hS hM rfl rfl rfl rfl (by repeat (first | exact List.Mem.head _ | apply List.Mem.tail)) rfl rfl rfl rfl rfl rfl ?_)
        | (refine WD.cat rfl rfl rfl (by omega) rfl rfl rfl rfl ?_))
      | (refine WDo.calls hS hM rfl rfl (rtextw_c s _ (by omega)) rfl rfl rfl rfl ?_; clear hS; rintro v w rfl hS)
      | (refine WDo.b2s (s := bs) hS hM rfl rfl rfl rfl (by repeat (first | exact List.Mem.head _ | apply List.Mem.tail)) rfl rfl rfl rfl rfl ?_)
      | refine seqQ_n ?_
      | refine seqQ_x ?_
      | refine blkQ_hit rfl ?_
      | refine rndQ_x ?_)
    all_goals exact fin1r rfl rfl ⟨hS.upd, congrArg str hpk⟩
def frV0 (r : List UInt8 × Nat × Int) : Value := .tuple #[str r.1, .int .i64 (r.2.1 : Int), .int .i64 r.2.2]
set_option maxHeartbeats 8000000 in
set_option maxRecDepth 100000 in
theorem rfrd_c (s : List UInt8) (w0 : World) (hl : s.length ≤ 1099511627776) : Cal Tryz.prog 93 [str s] w0 (fun v w' => Upd [] w0 w' ∧ v = frV0 (readE s)) := by
  refine Cal.mk' (by kernel_rfl) Tryz.func93 rfl rfl fun hS => ?_
  have hrt := fun (w0 : World) => rrtext_c s w0 hl
  have hok := rtextE_le s
  unfold readE
  unfold rtextV0 at hrt
  generalize rtextE s = r at *
  obtain ⟨x, u, e⟩ := r
  dsimp only at hok hrt ⊢
  by_cases he : e = 0
  · subst he
    obtain ⟨hul, hxl⟩ := hok rfl
    clear hok
    rw [if_pos rfl]
    by_cases h4 : s.length < u + 4
    · rw [if_pos h4]
      repeat' (first
        | (show WL _ _ _ _ _ _ _; first
          | refine WL.pure rfl rfl rfl rfl ?_
          | refine WL.nil ?_
          | refine WL.sub rfl rfl rfl (by omega) rfl rfl rfl ?_
          | (refine WL.calls hS rfl rfl (hrt _) rfl rfl rfl ?_; rintro v w rfl hS))
        | (show WC _ _ _ _ _ _; first
          | refine WC.seq ?_
          | refine WC.region ?_
          | refine WC.skip ?_
          | refine WC.ret ?_
          | refine WC.condF rfl (by decide) ?_
          | refine WC.condT rfl (decide_eq_true (by first | with_reducible assumption | omega)) ?_)
        | refine seqQ_n ?_
        | refine seqQ_r ?_)
      exact fin3r rfl rfl rfl rfl ⟨hS.upd, rfl⟩
    · rw [if_neg h4]
      by_cases hpk : packE x = s.take (u + 4)
      case' pos => rw [if_pos hpk]
      case' neg => rw [if_neg hpk]; have hpk' : ¬ s.take (u + 4) = packE x := fun e => hpk e.symm
      all_goals
        repeat' (first
          | (show WL _ _ _ _ _ _ _; first
            | refine WL.pure rfl rfl rfl rfl ?_
            | refine WL.nil ?_
            | refine WL.add rfl rfl rfl (by omega) rfl rfl rfl ?_
            | refine WL.sub rfl rfl rfl (by omega) rfl rfl rfl ?_
            | (refine WL.calls hS rfl rfl (hrt _) rfl rfl rfl ?_; rintro v w rfl hS))
          | (show WC _ _ _ _ _ _; first
            | refine WC.seq ?_
            | refine WC.region ?_
            | refine WC.skip ?_
            | refine WC.ret ?_
            | (show WC _ _ (Code.region _ (List.toArray [_, _, _, _, _, _, _]) true) _ _ _; refine WC.drawS hS [0,1,2,3,4,6] [0,1,2,3,4,5,6] (by kernel_rfl) (by kernel_rfl) ?_; clear hS; intro w hS hM)
            | (refine WC.condT rfl (by first | (simp [hpk']; done) | fail) ?_)
            | (refine WC.condF rfl (by first | (simp [hpk]; done) | fail) ?_)
            | refine WC.condF rfl (decide_eq_false (by first | with_reducible assumption | omega)) ?_)
          | (show WD _ _ _ _ _ _ _ _ _; first
            | refine WD.pure rfl rfl rfl rfl rfl ?_
            | refine WD.nil ?_
            | refine WD.add rfl rfl rfl (by omega) rfl rfl rfl rfl ?_
            | (refine WD.highS (j := u + 4) rfl rfl rfl (by first | rfl | exact vint (show _ = ((u + 4 : Nat) : Int) by omega)) (by omega) rfl rfl rfl rfl ?_)
            | (refine WD.calls hS hM rfl rfl (rpack_c x _ (by omega)) rfl rfl rfl rfl rfl ?_; clear hS; rintro v w rfl hS))
          | refine seqQ_n ?_
          | refine seqQ_r ?_)
        exact fin3r rfl rfl rfl rfl ⟨hS.upd, rfl⟩
  · rw [if_neg he]
    repeat' (first
      | (show WL _ _ _ _ _ _ _; first
        | refine WL.pure rfl rfl rfl rfl ?_
        | refine WL.nil ?_
        | (refine WL.calls hS rfl rfl (hrt _) rfl rfl rfl ?_; rintro v w rfl hS))
      | (show WC _ _ _ _ _ _; first
        | refine WC.seq ?_
        | refine WC.region ?_
        | refine WC.ret ?_
        | refine WC.condT rfl (decide_eq_true (by first | with_reducible assumption | omega)) ?_)
      | refine seqQ_n ?_
      | refine seqQ_r ?_)
    exact fin3r rfl rfl rfl rfl ⟨hS.upd, rfl⟩
set_option maxHeartbeats 8000000 in
set_option maxRecDepth 100000 in
theorem rscan_c (s : List UInt8) (w0 : World) (hl : s.length ≤ 1099511627776) : Cal Tryz.prog 70 [str s] w0
    (fun v w' => Upd [] w0 w' ∧ ∃ A cap, v = scV A (scanE s).1.length cap (scanE s).2.1 (scanE s).2.2 ∧ New w0 w' (.own (.slice A (scanE s).1.length cap) 9 1 (scanE s).1.length (strs (scanE s).1))) := by
  refine Cal.mk' (by kernel_rfl) Tryz.func70 rfl rfl fun hS => ?_
  repeat' (first
    | (show WL _ _ _ _ _ _ _; first
      | refine WL.pure rfl rfl rfl rfl ?_
      | refine WL.nil ?_)
    | (show WC _ _ _ _ _ _; first
      | refine WC.seq ?_
      | refine WC.region ?_
      | refine WC.block ?_)
    | refine seqQ_n ?_)
  have hS := hS.nilRow 9 1
  refine WC.loop (σ := Nat × List (List UInt8) × Nat × Option Addr × Nat × Nat) [0] (fun (p, done, n, A, cap, k) => [(5, .slice A n cap), (6, .int .i64 (p : Int))])
    (fun (p, done, n, A, cap, k) w => p ≤ s.length ∧ s.length - p ≤ k ∧ n = done.length ∧ n ≤ p ∧ scanE s = (done ++ (scanF k (s.drop p)).1, p + (scanF k (s.drop p)).2.1, (scanF k (s.drop p)).2.2) ∧ St w0 [] w [.own (.slice A n cap) 9 1 n (strs done)] _)
    (fun (p, _) => s.length - p) (0, [], 0, none, 0, s.length) ⟨Nat.zero_le _, by omega, rfl, Nat.zero_le _, by simp [scanE], hS⟩ ⟨rfl, rfl, trivial⟩ ?_
  clear hS
  rintro ⟨p, done, n, A, cap, k⟩ g w ⟨hp, hk, hn, hnp, hsc, hS⟩
  show WC _ _ _ (lf _ [(5, .slice A n cap), (6, .int .i64 (p : Int))] _ _) _ _
  by_cases hlt : p < s.length
  · have hne : s.drop p ≠ [] := by intro e; have := congrArg List.length e; simp at this; omega
    obtain ⟨k, rfl⟩ : ∃ k', k = k' + 1 := ⟨k - 1, by omega⟩
    have hle := readE_le (s.drop p)
    have hlen : (s.drop p).length = s.length - p := by simp
    have hrc := fun (w0 : World) => rfrd_c (s.drop p) w0 (by omega)
    unfold frV0 at hrc
    rcases hr : readE (s.drop p) with ⟨x, u, e⟩
    rw [hr] at hrc
    simp only [scanF, if_neg hne, hr] at hsc
    rw [hr] at hle
    dsimp only at hrc
    by_cases he : e = 0
    · subst he
      rw [if_pos rfl] at hsc
      obtain ⟨h4, hu, hx⟩ := hle rfl
      dsimp only at h4 hu hx
      rw [hlen] at hu hx
      have hdd : (s.drop p).drop u = s.drop (p + u) := by rw [List.drop_drop]
      rw [hdd] at hsc
      clear hle hr
      repeat' (first
        | (show WL _ _ _ _ _ _ _; first
          | refine WL.pure rfl rfl rfl rfl ?_
          | refine WL.nil ?_
          | refine WL.add rfl rfl rfl (by omega) rfl rfl rfl ?_
          | (refine WL.lowS (j := p) rfl rfl rfl rfl (by omega) rfl rfl rfl ?_)
          | (refine WL.calls hS rfl rfl (hrc _) rfl rfl rfl ?_; rintro v w rfl hS)
          | (refine WL.app hS rfl rfl rfl rfl (RdOk.box (by repeat (first | exact List.Mem.head _ | apply List.Mem.tail))) rfl rfl (fun A cap => by repeat (first | exact Repl.here | apply Repl.there)) (by omega) rfl rfl rfl ?_; intro A3 cap3 w hS)
          | (refine WL.slit hS rfl rfl rfl rfl rfl ?_; intro w b hS))
        | (show WC _ _ _ _ _ _; first
          | refine WC.seq ?_
          | refine WC.region ?_
          | refine WC.block ?_
          | refine WC.skip ?_
          | refine WC.condF rfl (by decide) ?_
          | refine WC.condT rfl (decide_eq_true (by first | with_reducible assumption | omega)) ?_)
        | refine seqQ_n ?_
        | refine blkQ_n ?_)
      exact rndQ_n (p + u, done ++ [x], n + 1, A3, cap3, k) ⟨by omega, by omega, by simp [hn], by omega, by rw [hsc]; simp [Nat.add_assoc], by rw [← strs_snoc]; exact hS.droplast2 (by repeat (first | exact Pulls.nil | (apply Pulls.cons; focus (repeat (first | exact Pull.here | apply Pull.there)))))⟩ (by show s.length - (p + u) < s.length - p; omega) ⟨rfl, vint (by omega), trivial⟩ ⟨rfl, trivial⟩
    · rw [if_neg he] at hsc
      simp only [List.append_nil, Nat.add_zero] at hsc
      rw [hsc]
      clear hle hr
      repeat' (first
        | (show WL _ _ _ _ _ _ _; first
          | refine WL.pure rfl rfl rfl rfl ?_
          | refine WL.nil ?_
          | (refine WL.lowS (j := p) rfl rfl rfl rfl (by omega) rfl rfl rfl ?_)
          | (refine WL.calls hS rfl rfl (hrc _) rfl rfl rfl ?_; rintro v w rfl hS))
        | (show WC _ _ _ _ _ _; first
          | refine WC.seq ?_
          | refine WC.region ?_
          | refine WC.block ?_
          | refine WC.skip ?_
          | refine WC.ret ?_
          | refine WC.condT rfl (decide_eq_true (by first | with_reducible assumption | omega)) ?_)
        | refine seqQ_n ?_
        | refine seqQ_r ?_
        | refine blkQ_r ?_
        | refine rndQ_r ?_)
      subst hn
      exact fin3r rfl rfl rfl rfl ⟨hS.upd, _, _, rfl, hS.newOf (List.Mem.head _)⟩
  · have hde : s.drop p = [] := List.drop_of_length_le (by omega)
    have hsf : scanF k [] = ([], 0, 0) := by cases k <;> simp [scanF]
    rw [hde, hsf] at hsc
    simp only [List.append_nil, Nat.add_zero] at hsc
    rw [hsc]
    repeat' (first
      | (show WL _ _ _ _ _ _ _; first
        | refine WL.pure rfl rfl rfl rfl ?_
        | refine WL.nil ?_)
      | (show WC _ _ _ _ _ _; first
        | refine WC.seq ?_
        | refine WC.region ?_
        | refine WC.exit ?_
        | refine WC.ret ?_
        | refine WC.condF rfl (decide_eq_false (by first | with_reducible assumption | omega)) ?_)
      | refine seqQ_n ?_
      | refine seqQ_x ?_
      | refine blkQ_hit rfl ?_
      | refine rndQ_x ?_)
    subst hn
    exact fin3r rfl rfl rfl rfl ⟨hS.upd, _, _, rfl, hS.newOf (List.Mem.head _)⟩
end Go.Proofs.YtccfiohagbneaaaGreatDoor

/- What is proved: what a journal tells of damage. Conditions: none. -/
set_option linter.unusedSimpArgs false
set_option linter.unusedVariables false
namespace Go.Proofs.YtccfiohagbneaaaGreatDoor
open Go Go.J Go.RowKit

set_option maxHeartbeats 4000000 in
set_option maxRecDepth 100000 in
theorem damaged_c {L q : Nat} {G : Lg} {fp : List Nat} {w0 : World} (hi : InL w0 [lgC L q G fp]) :
    Cal Tryz.prog 31 [.pointer (some ⟨L, 0, none⟩)] w0 (fun v w' => v = .bool G.dmg ∧ MutL w0 w' [lgC L q G fp] [lgC L q G fp]) := by
  refine Cal.mkL hi (by kernel_rfl) Tryz.func31 rfl rfl fun hS => ?_
  obtain ⟨_, ⟨A, cap, rfl⟩, hfp, hS⟩ := St.objOpen hS
  replace hS : St w0 _ w0 [.box L 112 [.pointer (some ⟨q, 0, none⟩), str G.p, .slice A G.recs.length cap, .bool G.dmg], .own (.slice A G.recs.length cap) 9 1 G.recs.length (strs G.recs)] _ := hS
  repeat' (first
    | (show WL _ _ _ _ _ _ _; first
      | refine WL.pure rfl rfl rfl rfl ?_
      | refine WL.nil ?_
      | refine WL.load hS rfl rfl (LdOk.box (by repeat (first | exact List.Mem.head _ | apply List.Mem.tail)) rfl) rfl rfl rfl ?_)
    | (show WC _ _ _ _ _ _; first
      | refine WC.seq ?_
      | refine WC.region ?_
      | refine WC.ret ?_)
    | refine seqQ_n ?_)
  have hS := St.objClose (φ := lgφ L q G) (H := []) hS ⟨A, cap, rfl⟩
  rw [← hfp] at hS
  exact fin1r rfl rfl ⟨by simp, hS.mutLp (by repeat (first | exact Pulls.nil | (apply Pulls.cons; focus (repeat (first | exact Pull.here | apply Pull.there)))))⟩
end Go.Proofs.YtccfiohagbneaaaGreatDoor

/- What is proved: when two lists of texts are told to be alike. Conditions: none. -/
set_option linter.unusedSimpArgs false
set_option linter.unusedVariables false
namespace Go.Proofs.YtccfiohagbneaaaGreatDoor
open Go Go.J Go.RowKit

theorem list_ext_get {α : Type} {xs ys : List α} (hl : xs.length = ys.length) (h : ∀ j (h1 : j < xs.length) (h2 : j < ys.length), xs[j] = ys[j]) : xs = ys := List.ext_getElem hl h
set_option maxHeartbeats 4000000 in
set_option maxRecDepth 100000 in
theorem same_c (xs ys : List (List UInt8)) {A B : Option Addr} {ca cb : Nat} {w0 : World} (hA : SlAt cStr (Old w0) w0 A xs) (hB : SlAt cStr (Old w0) w0 B ys) (hlx : xs.length ≤ 4611686018427387904) :
    Cal Tryz.prog 30 [.slice A xs.length ca, .slice B ys.length cb] w0 (fun v w' => Upd [] w0 w' ∧ v = .bool (decide (xs = ys))) := by
  refine Cal.mk' (by kernel_rfl) Tryz.func30 rfl rfl fun hS => ?_
  by_cases hl : xs.length = ys.length
  · repeat' (first
      | (show WL _ _ _ _ _ _ _; first
        | refine WL.pure rfl rfl rfl rfl ?_
        | refine WL.nil ?_)
      | (show WC _ _ _ _ _ _; first
        | refine WC.seq ?_
        | refine WC.region ?_
        | refine WC.block ?_
        | refine WC.skip ?_
        | refine WC.condF rfl (decide_eq_false (by first | with_reducible assumption | omega)) ?_)
      | refine seqQ_n ?_)
    refine WC.loop (σ := Nat) [0, 1] (fun k => [(5, .int .i64 (k : Int))]) (fun k w => k ≤ xs.length ∧ (∀ j (h1 : j < xs.length) (h2 : j < ys.length), j < k → xs[j] = ys[j]) ∧ St w0 [] w [] [⟨w0, Old w0⟩]) (fun k => xs.length - k) 0 ⟨Nat.zero_le _, fun j h1 h2 hj => absurd hj (Nat.not_lt_zero _), hS⟩ ⟨rfl, trivial⟩ ?_
    clear hS
    rintro k g w ⟨hk, hall, hS⟩
    obtain ⟨Hall, rfl⟩ : ∃ h : (∀ j (h1 : j < xs.length) (h2 : j < ys.length), j < k → xs[j] = ys[j]), h = hall := ⟨_, rfl⟩
    by_cases hlt : k < xs.length
    · have hlt2 : k < ys.length := by omega
      obtain ⟨b1, o1, e1, rfl, f1, r1, rfl⟩ := hA.at_ hlt
      obtain ⟨b2, o2, e2, rfl, f2, r2, rfl⟩ := hB.at_ hlt2
      change w0.rangeAt b1 (o1 + k * 1) [str xs[k]] at r1
      change w0.rangeAt b2 (o2 + k * 1) [str ys[k]] at r2
      by_cases he : xs[k] = ys[k]
      · have hnx : ∀ j (h1 : j < xs.length) (h2 : j < ys.length), j < k + 1 → xs[j] = ys[j] := fun j h1 h2 hj => if e : j = k then (by subst e; exact he) else Hall j h1 h2 (by omega)
        clear Hall
        generalize xs[k] = x at *
        generalize ys[k] = y at *
        subst he
        repeat' (first
          | (show WL _ _ _ _ _ _ _; first
            | refine WL.pure rfl rfl rfl rfl ?_
            | refine WL.nil ?_
            | refine WL.add rfl rfl rfl (by omega) rfl rfl rfl ?_)
          | (show WC _ _ _ _ _ _; first
            | refine WC.seq ?_
            | refine WC.region ?_
            | refine WC.block ?_
            | refine WC.skip ?_
            | (show WC _ _ (Code.region _ (List.toArray [_, _, _, _, _, _, _, _, _]) true) _ _ _; refine WC.drawS hS [0, 1, 2, 3, 4, 5, 6, 7, 8] [0, 1, 2, 3, 4, 5, 6, 7, 8] (by kernel_rfl) (by kernel_rfl) ?_; clear hS; intro w hS hM)
            | refine WC.condT rfl (decide_eq_true (by first | with_reducible assumption | omega)) ?_
            | refine WC.condF rfl (by first | (simp; done) | (simp; omega)) ?_)
          | (show WD _ _ _ _ _ _ _ _ _; first
            | refine WD.pure rfl rfl rfl rfl rfl ?_
            | refine WD.nil ?_
            | (refine WD.load rfl rfl (LdOk.snap0 f1 r1 (by repeat (first | exact List.Mem.head _ | apply List.Mem.tail)) rfl) rfl rfl rfl rfl ?_)
            | (refine WD.load rfl rfl (LdOk.snap0 f2 r2 (by repeat (first | exact List.Mem.head _ | apply List.Mem.tail)) rfl) rfl rfl rfl rfl ?_)
            | refine WD.index rfl rfl rfl rfl (by first | with_reducible assumption | omega) rfl rfl rfl rfl rfl ?_)
          | refine seqQ_n ?_
          | refine blkQ_n ?_)
        exact rndQ_n (k + 1) ⟨by omega, hnx, hS⟩ (by omega) ⟨vint (by omega), trivial⟩ ⟨rfl, rfl, trivial⟩
      · have hne : ¬ xs = ys := fun h => he (by subst h; rfl)
        clear Hall
        generalize xs[k] = x at *
        generalize ys[k] = y at *
        repeat' (first
          | (show WL _ _ _ _ _ _ _; first
            | refine WL.pure rfl rfl rfl rfl ?_
            | refine WL.nil ?_)
          | (show WC _ _ _ _ _ _; first
            | refine WC.seq ?_
            | refine WC.region ?_
            | refine WC.block ?_
            | refine WC.skip ?_
            | refine WC.ret ?_
            | (show WC _ _ (Code.region _ (List.toArray [_, _, _, _, _, _, _, _, _]) true) _ _ _; refine WC.drawS hS [0, 1, 2, 3, 4, 5, 6, 7, 8] [0, 1, 2, 3, 4, 5, 6, 7, 8] (by kernel_rfl) (by kernel_rfl) ?_; clear hS; intro w hS hM)
            | refine WC.condT rfl (decide_eq_true (by first | with_reducible assumption | omega)) ?_)
          | (show WD _ _ _ _ _ _ _ _ _; first
            | refine WD.pure rfl rfl rfl rfl rfl ?_
            | refine WD.nil ?_
            | (refine WD.load rfl rfl (LdOk.snap0 f1 r1 (by repeat (first | exact List.Mem.head _ | apply List.Mem.tail)) rfl) rfl rfl rfl rfl ?_)
            | (refine WD.load rfl rfl (LdOk.snap0 f2 r2 (by repeat (first | exact List.Mem.head _ | apply List.Mem.tail)) rfl) rfl rfl rfl rfl ?_)
            | refine WD.index rfl rfl rfl rfl (by first | with_reducible assumption | omega) rfl rfl rfl rfl rfl ?_)
          | refine seqQ_n ?_
          | refine seqQ_r ?_
          | refine blkQ_r ?_
          | refine rndQ_r ?_)
        exact fin1r rfl rfl ⟨hS.upd, vbool (by simp [hne])⟩
    · have heq : xs = ys := list_ext_get hl fun j h1 h2 => Hall j h1 h2 (by omega)
      clear Hall
      repeat' (first
        | (show WL _ _ _ _ _ _ _; first
          | refine WL.pure rfl rfl rfl rfl ?_
          | refine WL.nil ?_)
        | (show WC _ _ _ _ _ _; first
          | refine WC.seq ?_
          | refine WC.region ?_
          | refine WC.exit ?_
          | refine WC.ret ?_
          | refine WC.condF rfl (decide_eq_false (by first | with_reducible assumption | omega)) ?_)
        | refine seqQ_n ?_
        | refine seqQ_x ?_
        | refine blkQ_hit rfl ?_
        | refine rndQ_x ?_)
      exact fin1r rfl rfl ⟨hS.upd, vbool (by simp [heq])⟩
  · have hne : ¬ xs = ys := fun h => hl (by rw [h])
    repeat' (first
      | (show WL _ _ _ _ _ _ _; first
        | refine WL.pure rfl rfl rfl rfl ?_
        | refine WL.nil ?_)
      | (show WC _ _ _ _ _ _; first
        | refine WC.seq ?_
        | refine WC.region ?_
        | refine WC.ret ?_
        | refine WC.condT rfl (decide_eq_true (by first | with_reducible assumption | omega)) ?_)
      | refine seqQ_n ?_
      | refine seqQ_r ?_)
    exact fin1r rfl rfl ⟨hS.upd, vbool (by simp [hne])⟩
theorem same_n (xs ys : List (List UInt8)) {A B : Option Addr} {ca cb n m : Nat} {w0 : World} (hn : n = xs.length) (hm : m = ys.length) (hA : SlAt cStr (Old w0) w0 A xs) (hB : SlAt cStr (Old w0) w0 B ys) (hlx : xs.length ≤ 4611686018427387904) :
    Cal Tryz.prog 30 [.slice A n ca, .slice B m cb] w0 (fun v w' => Upd [] w0 w' ∧ v = .bool (decide (xs = ys))) := by
  subst hn; subst hm; exact same_c xs ys hA hB hlx
end Go.Proofs.YtccfiohagbneaaaGreatDoor

/- What is proved: an argument that the form reads as data reads as plain data through the codecs, and how its bulk bounds it. Conditions: none. -/
set_option linter.unusedSimpArgs false
set_option linter.unusedVariables false
namespace Go.Proofs.YtccfiohagbneaaaGreatDoor
open Go Go.J Go.RowKit Go.ChangeShapes Go.WideShapes Go.Deep

def Opens {α : Type} (P : Program) (t : TypeId) (c : Cod α) (Q : α → Nat → Prop) : Prop :=
  ∀ {H : Type} (enc : TypeId × Value → H) (W : World) (fuel : Nat) (cs : List Value) (x : DataW H × List MemPlace), DataW.trod enc P W 0 (fun _ => true) true fuel t cs = some x → ∃ y, c.rd (Old W) W cs y ∧ Q y (Rows.uptoBulk x.1)
def QL {α : Type} (Q : α → Nat → Prop) (ys : List α) (b : Nat) : Prop := ∃ bs : List Nat, bs.length = ys.length ∧ (∀ i (h : i < ys.length) (h' : i < bs.length), Q ys[i] bs[i]) ∧ bs.sum + 1 ≤ b

theorem bulkAll_sum {H : Type} (l : List (DataW H)) : Rows.uptoBulkAll l = (l.map Rows.uptoBulk).sum := by
  induction l with
  | nil => simp [Rows.uptoBulkAll]
  | cons d l ih => simp [Rows.uptoBulkAll, ih]

theorem Opens.int {P : Program} {t : TypeId} (ht : P.underlying t = some (.int .i64)) : Opens P t cInt (fun n b => -9223372036854775808 ≤ n ∧ n ≤ 9223372036854775807 ∧ 1 ≤ b) := by
  intro H enc W fuel cs x h
  obtain ⟨n, rfl, rfl, hw⟩ := DataW.trod_int ht h
  refine ⟨n, rfl, ?_⟩
  have h1 := bounds_i64 hw
  exact ⟨h1.1, h1.2, by simp [Rows.uptoBulk]⟩
theorem Opens.str {P : Program} {t : TypeId} (ht : P.underlying t = some .string) : Opens P t cStr (fun s b => s.length + 1 ≤ b) := by
  intro H enc W fuel cs x h
  obtain ⟨s, rfl, rfl, hw⟩ := DataW.trod_string ht h
  exact ⟨s.data.toList, rfl, by simp [Rows.uptoBulk]⟩
theorem Opens.slice {α : Type} [Inhabited α] {P : Program} {t e : TypeId} {c : Cod α} {Q : α → Nat → Prop} (ht : P.underlying t = some (.slice e)) (he : P.cellsOf e = c.sz) (hs : 0 < c.sz) (ho : Opens P e c Q) : Opens P t (cSl c) (QL Q) := by
  intro H enc W fuel cs x h
  rcases open_slice ht h with ⟨rfl, rfl⟩ | ⟨a, len, cap, m, n, D, Pl, rfl, hb, hl, hm, hmm, rfl, hx⟩
  · exact ⟨[], ⟨none, 0, rfl, Nat.le_refl _, fun k hk => absurd hk (by simp)⟩, [], rfl, fun i h => absurd h (by simp), by simp [Rows.uptoBulk]⟩
  · have hml : len ≤ m := by rw [hmm]; simp; omega
    have key : ∀ i, i < len → ∃ y : α, (∃ es, c.rd (Old W) W es y ∧ (a.add (i * c.sz)).block < W.heap.size ∧ (∀ j v, es[j]? = some v → W.cell? ((a.add (i * c.sz)).add j) = some v)) ∧ Q y (Rows.uptoBulk (D i)) := by
      intro i hi
      obtain ⟨cs', hc, htr⟩ := hx i (by omega)
      rw [he] at hc
      obtain ⟨y, hy, hq⟩ := ho enc W n cs' _ htr
      obtain ⟨_, hlen, hat⟩ := World.cells?_some hc
      refine ⟨y, ⟨cs', hy, ?_, fun j v hv => ?_⟩, hq⟩
      · have h0 := hat 0 hs
        have hlt : 0 < cs'.length := by omega
        rw [List.getElem?_eq_getElem hlt] at h0
        have hlt' := World.block_lt_of_cell? W _ h0
        have e0 : ((a.add (i * c.sz)).add 0).block = (a.add (i * c.sz)).block := by simp [Addr.add]
        rwa [e0] at hlt'
      · have hj : j < cs'.length := (List.getElem?_eq_some_iff.1 hv).1
        rw [hat j (by omega)]; exact hv
    obtain ⟨Y, hY⟩ := choose_lt key
    have hspot : 0 < len → a.spot = none := fun h0 => by
      obtain ⟨es, hrd, hbl, hc⟩ := (hY 0 h0).1
      have hl := c.len hrd
      have h1 := hc 0 es[0] (List.getElem?_eq_getElem (by omega))
      have e : (a.add (0 * c.sz)).add 0 = a := by simp [Addr.add]
      rw [e] at h1
      unfold World.cell? at h1
      cases hsp : a.spot with
      | none => rfl
      | some s => simp [hsp] at h1; split at h1 <;> simp at h1
    refine ⟨(List.range len).map Y, ⟨some a, cap, by simp, by simpa using hl, fun k hk => ?_⟩, (List.range len).map fun i => Rows.uptoBulk (D i), by simp, fun i h h' => ?_, ?_⟩
    · have hk' : k < len := by simpa using hk
      obtain ⟨es, hrd, hbl, hc⟩ := (hY k hk').1
      have ha : a = ⟨a.block, a.off, none⟩ := by rw [← hspot (by omega)]
      refine ⟨a.block, a.off, es, by rw [← ha], ?_, fun j v hv => ?_, by simpa using hrd⟩
      · have : (a.add (k * c.sz)).block = a.block := by unfold Addr.add; split <;> rfl
        rw [this] at hbl; exact hbl
      · have := hc j v hv
        rw [Go.Deep.add_add, ha, Addr.add_mid] at this
        rw [← Nat.add_assoc] at this
        exact this
    · have hi : i < len := by simpa using h
      simpa using (hY i hi).2
    · simp only [Rows.uptoBulk, bulkAll_sum, List.map_map]
      have : ((List.range len).map (Rows.uptoBulk ∘ D)) = (List.range len).map fun i => Rows.uptoBulk (D i) := rfl
      rw [this]
      omega
section
variable {H : Type} {enc : TypeId × Value → H} {P : Program}
theorem post_of_below {f : Func} {s : ChangeSpec} {apart fresh handsOn again : Bool} {W W' : World} {args : Array Value} {v : Value} {ds gs : List (DataW H)} {before pa pv : List MemPlace}
    (hW : DataW.Whole enc P f.params.toList s.vars apart W args.toList ds gs before)
    (hres : ∀ (b : Nat) (sp : Nat → Bool) (hd : Bool), DataW.TrodAll enc P W' b sp hd f.resultTypes.toList (v.resultList f.resultTypes.size) (s.fn H (ds ++ gs)).results [])
    (hargs : ∀ sp : Nat → Bool, (∀ p ∈ before, sp p.block = true) → DataW.TrodAll enc P W' 0 sp true f.params.toList args.toList (s.fn H (ds ++ gs)).args pa)
    (hvars : ∀ sp : Nat → Bool, (∀ p ∈ before, sp p.block = true) → DataW.TrodVars enc P W' sp s.vars (s.fn H (ds ++ gs)).vars pv)
    (hps : before = pa ++ pv) (hb : Below W.heap.size W W')
    (hok : ∀ (j : Nat) (t : TypeId) (r : Value), f.resultTypes[j]? = some t → (v.resultList f.resultTypes.size)[j]? = some r → Value.okWide P W' .any 0 t r) :
    s.post enc P f apart fresh handsOn again W args v W' := by
  have hlt : ∀ p ∈ before, p.block < W.heap.size := fun p hp => hW.lt p hp
  have hold : ∀ p ∈ before, (fun b => decide (b < W.heap.size)) p.block = true := fun p hp => by simpa using hlt p hp
  refine ⟨ds, gs, before, [], pa, pv, hW, hres _ _ _, hargs _ hold, hvars _ hold, World.keptBut_mono (fun p hp => ⟨hp, ?_⟩) (hb.frame (· ∈ before)), fun _ => ?_⟩
  · rw [hps, List.mem_append] at hp
    exact Or.inr hp
  · obtain ⟨_, _, _, _, _, hz, hn⟩ := hW
    refine ⟨hok, _, _, ([] ++ pa) ++ pv, ⟨[] ++ pa, pv, trodAll_append (hargs _ (fun _ _ => rfl)) (hres _ _ _), hvars _ (fun _ _ => rfl), rfl, ?_, ?_⟩, ?_⟩
    · intro b off hp
      have hin : MemPlace.cell b off ∈ before := by rw [hps]; simpa using hp
      rw [hb.frozen (hlt _ hin)]
      exact hz b off hin
    · intro ha
      have := hn ha
      rw [hps] at this
      simpa using this
    · intro p hp _
      rw [hps]
      simpa using hp
end
theorem QL_sum {α : Type} {Q : α → Nat → Prop} {f : α → Nat} (hf : ∀ a b, Q a b → f a ≤ b) : ∀ {ys : List α} {b : Nat}, QL Q ys b → (ys.map f).sum + 1 ≤ b := by
  intro ys b ⟨bs, hl, hq, hs⟩
  have key : ∀ (ys : List α) (bs : List Nat), bs.length = ys.length → (∀ i (h : i < ys.length) (h' : i < bs.length), Q ys[i] bs[i]) → (ys.map f).sum ≤ bs.sum := by
    intro ys
    induction ys with
    | nil => intro bs _ _; simp
    | cons y ys ih =>
      intro bs hl hq
      rcases bs with _ | ⟨b, bs⟩
      · simp at hl
      · have h0 := hf _ _ (hq 0 (by simp) (by simp))
        have h1 := ih bs (by simpa using hl) (fun i h h' => hq (i + 1) (by simpa using h) (by simpa using h'))
        simp only [List.map_cons, List.sum_cons, List.getElem_cons_zero] at h0 h1 ⊢
        omega
  have := key ys bs hl hq
  omega
end Go.Proofs.YtccfiohagbneaaaGreatDoor
