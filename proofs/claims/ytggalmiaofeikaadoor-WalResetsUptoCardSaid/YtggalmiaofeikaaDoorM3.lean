/- What is proved: contracts and plain facts that the law leans on (texts put together). Conditions: as each names them. -/
import Derived.Test.YtggalmiaofeikaaDoorM2
import Derived.Test.YtggalmiaofeikaaDoorRows
import Derived.ProofKit
import Derived.ChangeSame
import Derived.OpenShut
import Derived.Deep.Slices
import Derived.JoinedCond
/- What is proved: what the program's disk answers and holds: bytes made sure of. Conditions: none. -/
set_option linter.unusedSimpArgs false
set_option linter.unusedVariables false
namespace Go.Proofs.YtggalmiaofeikaaDoor
open Go Go.J Go.RowKit

def Dk.sync (D : Dk) (p : List UInt8) : Int × Dk := if D.file p ≠ 0 then (D.file p, D) else if D.stepE ≠ 0 then (D.stepE, D.step) else (0, { D.step with items := mset D.step.items p { D.step.at p with kept := (D.step.at p).data, loose := false, anew := false } })
set_option maxHeartbeats 8000000 in
set_option maxRecDepth 100000 in
theorem sync_c {q mb lb : Nat} {D : Dk} (p : List UInt8) {w0 : World} (hc : (dkC q mb lb D).holds w0) (hi : inB (dkC q mb lb D) w0) (hl : p.length ≤ 1099511627) : Cal Tryd.prog 24 [.pointer (some ⟨q, 0, none⟩), str p] w0
    (fun v w' => v = .int .i64 (D.sync p).1 ∧ Mut w0 w' (dkC q mb lb D) (dkC q mb lb (D.sync p).2)) := by
  refine Cal.mkM hc hi (by kernel_rfl) Tryd.func24 rfl rfl fun hS => ?_
  by_cases he : D.file p = 0
  · by_cases hs : D.stepE = 0
    · have hR : D.sync p = (0, { D.step with items := mset D.step.items p { D.step.at p with kept := (D.step.at p).data, loose := false, anew := false } }) := by unfold Dk.sync; rw [if_neg (by simp [he]), if_neg (by simp [hs])]
      rw [hR]
      have hlk := look_it D.step.items p
      have hat : D.step.at p = (mget D.step.items p).getD It0 := rfl
      rw [← hat] at hlk
      clear hat hR
      generalize D.step.at p = it at *
      obtain ⟨dir, dat, kept, loose, anew, stamp⟩ := it
      dsimp only
      repeat' (first
        | (show WL _ _ _ _ _ _ _; first
          | refine WL.pure rfl rfl rfl rfl ?_
          | refine WL.nil ?_
          | refine WL.load hS rfl rfl (LdOk.box (by repeat (first | exact List.Mem.head _ | apply List.Mem.tail)) rfl) rfl rfl rfl ?_
          | (refine WL.calls hS rfl rfl (dfile_c p (hS.holds (dkC q mb lb D) (by repeat (first | exact List.Mem.head _ | apply List.Mem.tail))).1 hl) rfl rfl rfl ?_; rintro v w rfl hS; rw [he])
          | (refine WL.callG rfl rfl (step_c (D := D) (hS.holds (dkC q mb lb D) (by repeat (first | exact List.Mem.head _ | apply List.Mem.tail))) (hS.inB_of (by repeat (first | exact List.Mem.head _ | apply List.Mem.tail)))) rfl rfl rfl ?_; rintro v w ⟨rfl, hmut⟩; have hS := hS.mut hmut (by repeat (first | exact Repl.here | apply Repl.there)); clear hmut; rw [hs])
          | (refine WL.load hS rfl rfl (LdOk.dk (D := D.step) (by repeat (first | exact List.Mem.head _ | apply List.Mem.tail)) rfl) rfl rfl rfl ?_)
          | (refine WL.mget hS rfl rfl rfl rfl (MapOk.dk (D := D.step) (by repeat (first | exact List.Mem.head _ | apply List.Mem.tail))) hlk rfl rfl rfl ?_)
          | (refine WL.store hS rfl rfl rfl (by repeat (first | exact StB.here rfl | apply StB.there)) rfl rfl rfl ?_; intro w hS)
          | (refine WL.alloc hS rfl rfl rfl rfl rfl rfl ?_; intro w b hS))
        | (show WC _ _ _ _ _ _; first
          | refine WC.seq ?_
          | refine WC.region ?_
          | refine WC.skip ?_
          | refine WC.condF rfl (by decide) ?_)
        | refine seqQ_n ?_)
      obtain ⟨h1, h2, h3, hS⟩ := St.dkOpen (St.pull (c := dkC q mb lb D.step) hS (by repeat (first | exact Pull.here | apply Pull.there)))
      have hS := St.pull (c := mapC mb (mmap encIt D.step.items)) hS (by repeat (first | exact Pull.here | apply Pull.there))
      refine WC.drawC hS [0,1,2,3,4,5] [0,1,2,3,4,5,6] (by kernel_rfl) (by kernel_rfl) ?_
      clear hS
      intro w hS hM
      repeat' (first
        | (show WL _ _ _ _ _ _ _; first
          | refine WL.pure rfl rfl rfl rfl ?_
          | refine WL.nil ?_)
        | (show WC _ _ _ _ _ _; first
          | refine WC.seq ?_
          | refine WC.region ?_
          | refine WC.ret ?_)
        | (show WD _ _ _ _ _ _ _ _ _; first
          | refine WD.pure rfl rfl rfl rfl rfl ?_
          | refine WD.nil ?_
          | refine WD.load rfl rfl (LdOk.box (by repeat (first | exact List.Mem.head _ | apply List.Mem.tail)) rfl) rfl rfl rfl rfl ?_
          | (refine WD.msetC hS (More.refl _ _) (.inl rfl) rfl rfl rfl rfl rfl rfl rfl rfl ?_; clear hS; intro w hS))
        | refine seqQ_n ?_)
      exact fin1r rfl rfl ⟨rfl, (St.dkPut (x := ⟨dir, dat, dat, false, false, stamp⟩) h1 h2 h3 (hS.perm (.swap _ _ _))).mutOf (List.Mem.head _)⟩
    · have hs2 : D.stepE = 14 := by unfold Dk.stepE at hs ⊢; split at hs <;> simp_all
      have hR : D.sync p = (14, D.step) := by unfold Dk.sync; rw [if_neg (by simp [he]), if_pos hs, hs2]
      rw [hR]
      clear hR hs
      have hs := hs2
      repeat' (first
        | (show WL _ _ _ _ _ _ _; first
          | refine WL.pure rfl rfl rfl rfl ?_
          | refine WL.nil ?_
          | (refine WL.calls hS rfl rfl (dfile_c p (hS.holds (dkC q mb lb D) (by repeat (first | exact List.Mem.head _ | apply List.Mem.tail))).1 hl) rfl rfl rfl ?_; rintro v w rfl hS; rw [he])
          | (refine WL.callG rfl rfl (step_c (D := D) (hS.holds (dkC q mb lb D) (by repeat (first | exact List.Mem.head _ | apply List.Mem.tail))) (hS.inB_of (by repeat (first | exact List.Mem.head _ | apply List.Mem.tail)))) rfl rfl rfl ?_; rintro v w ⟨rfl, hmut⟩; have hS := hS.mut hmut (by repeat (first | exact Repl.here | apply Repl.there)); clear hmut; rw [hs]))
        | (show WC _ _ _ _ _ _; first
          | refine WC.seq ?_
          | refine WC.region ?_
          | refine WC.skip ?_
          | refine WC.ret ?_
          | refine WC.condT rfl (by decide) ?_
          | refine WC.condF rfl (by decide) ?_)
        | refine seqQ_n ?_
        | refine seqQ_r ?_)
      exact fin1r rfl rfl ⟨rfl, hS.mutOf (by repeat (first | exact List.Mem.head _ | apply List.Mem.tail))⟩
  · have hR : D.sync p = (D.file p, D) := by unfold Dk.sync; rw [if_pos he]
    rw [hR]
    repeat' (first
      | (show WL _ _ _ _ _ _ _; first
        | refine WL.pure rfl rfl rfl rfl ?_
        | refine WL.nil ?_
        | (refine WL.calls hS rfl rfl (dfile_c p (hS.holds (dkC q mb lb D) (by repeat (first | exact List.Mem.head _ | apply List.Mem.tail))).1 hl) rfl rfl rfl ?_; rintro v w rfl hS))
      | (show WC _ _ _ _ _ _; first
        | refine WC.seq ?_
        | refine WC.region ?_
        | refine WC.ret ?_
        | refine WC.condT rfl (decide_eq_true (by first | with_reducible assumption | omega)) ?_)
      | refine seqQ_n ?_
      | refine seqQ_r ?_)
    exact fin1r rfl rfl ⟨rfl, hS.mutOf (by repeat (first | exact List.Mem.head _ | apply List.Mem.tail))⟩
end Go.Proofs.YtggalmiaofeikaaDoor

/- What is proved: what the program's disk answers and holds: a text written. Conditions: no limit at the volume. -/
set_option linter.unusedSimpArgs false
set_option linter.unusedVariables false
namespace Go.Proofs.YtggalmiaofeikaaDoor
open Go Go.J Go.RowKit

def Dk.write (D : Dk) (p data : List UInt8) : Int × Dk := if D.may p 1 ≠ 0 then (D.may p 1, D) else if D.under p = false then (11, D) else if (D.at p).dir = true then (12, D) else if D.stepE ≠ 0 then (D.stepE, D.step) else (0, D.step.set p { D.at p with data := data, loose := true, anew := true })
set_option maxHeartbeats 8000000 in
set_option maxRecDepth 100000 in
theorem write_c {q mb lb : Nat} {D : Dk} (p data : List UInt8) {w0 : World} (hc : (dkC q mb lb D).holds w0) (hi : inB (dkC q mb lb D) w0) (hl : p.length ≤ 1099511627) (hno : mget D.limits (volE p) = none) (hdl : data.length ≤ 1099511627776) (hal : (D.at p).data.length ≤ 1099511627776) : Cal Tryd.prog 37 [.pointer (some ⟨q, 0, none⟩), str p, str data] w0
    (fun v w' => v = .int .i64 (D.write p data).1 ∧ Mut w0 w' (dkC q mb lb D) (dkC q mb lb (D.write p data).2)) := by
  refine Cal.mkM hc hi (by kernel_rfl) Tryd.func37 rfl rfl fun hS => ?_
  by_cases he : D.may p 1 = 0
  · have hlk := look_it D.items p
    have hat : D.at p = (mget D.items p).getD It0 := rfl
    rw [← hat] at hlk
    clear hat
    have hs2 : ¬ D.stepE = 0 → D.stepE = 14 := by intro hs; unfold Dk.stepE at hs ⊢; split at hs <;> simp_all
    by_cases hu : D.under p = false
    · have hR : D.write p data = (11, D) := by unfold Dk.write; rw [if_neg (by simp [he]), if_pos hu]
      rw [hR]
      clear hR hs2
      repeat' (first
        | (show WL _ _ _ _ _ _ _; first
          | refine WL.pure rfl rfl rfl rfl ?_
          | refine WL.nil ?_
          | (refine WL.calls hS rfl rfl (may_c p 1 (hS.holds (dkC q mb lb D) (by repeat (first | exact List.Mem.head _ | apply List.Mem.tail))).1 hl) rfl rfl rfl ?_; rintro v w rfl hS; rw [he])
          | (refine WL.load hS rfl rfl (LdOk.dk (D := D) (by repeat (first | exact List.Mem.head _ | apply List.Mem.tail)) rfl) rfl rfl rfl ?_)
          | (refine WL.mget hS rfl rfl rfl rfl (MapOk.dk (D := D) (by repeat (first | exact List.Mem.head _ | apply List.Mem.tail))) hlk rfl rfl rfl ?_)
          | (refine WL.calls hS rfl rfl (dunder_c p (D := D) (hS.holds (dkC q mb lb D) (by repeat (first | exact List.Mem.head _ | apply List.Mem.tail))).1 hl) rfl rfl rfl ?_; rintro v w rfl hS; rw [hu])
          | (refine WL.store hS rfl rfl rfl (by repeat (first | exact StB.here rfl | apply StB.there)) rfl rfl rfl ?_; intro w hS)
          | (refine WL.alloc hS rfl rfl rfl rfl rfl rfl ?_; intro w b hS))
        | (show WC _ _ _ _ _ _; first
          | refine WC.seq ?_
          | refine WC.region ?_
          | refine WC.block ?_
          | refine WC.skip ?_
          | refine WC.ret ?_
          | refine WC.condT rfl (by decide) ?_
          | refine WC.condF rfl (by decide) ?_)
        | refine seqQ_n ?_
        | refine seqQ_r ?_
        | refine blkQ_r ?_)
      exact fin1r rfl rfl ⟨rfl, hS.mutOf (by repeat (first | exact List.Mem.head _ | apply List.Mem.tail))⟩
    · have hu2 : D.under p = true := by simpa using hu
      by_cases hd : (D.at p).dir = true
      · have hR : D.write p data = (12, D) := by unfold Dk.write; rw [if_neg (by simp [he]), if_neg hu, if_pos hd]
        rw [hR]
        have hu := hu2
        clear hR hs2
        generalize D.at p = it at *
        obtain ⟨dir, dat, kept, loose, anew, stamp⟩ := it
        dsimp only at hd
        subst hd
        repeat' (first
          | (show WL _ _ _ _ _ _ _; first
            | refine WL.pure rfl rfl rfl rfl ?_
            | refine WL.nil ?_
            | refine WL.load hS rfl rfl (LdOk.box (by repeat (first | exact List.Mem.head _ | apply List.Mem.tail)) rfl) rfl rfl rfl ?_
            | (refine WL.calls hS rfl rfl (may_c p 1 (hS.holds (dkC q mb lb D) (by repeat (first | exact List.Mem.head _ | apply List.Mem.tail))).1 hl) rfl rfl rfl ?_; rintro v w rfl hS; rw [he])
            | (refine WL.load hS rfl rfl (LdOk.dk (D := D) (by repeat (first | exact List.Mem.head _ | apply List.Mem.tail)) rfl) rfl rfl rfl ?_)
            | (refine WL.mget hS rfl rfl rfl rfl (MapOk.dk (D := D) (by repeat (first | exact List.Mem.head _ | apply List.Mem.tail))) hlk rfl rfl rfl ?_)
            | (refine WL.calls hS rfl rfl (dunder_c p (D := D) (hS.holds (dkC q mb lb D) (by repeat (first | exact List.Mem.head _ | apply List.Mem.tail))).1 hl) rfl rfl rfl ?_; rintro v w rfl hS; rw [hu])
            | (refine WL.store hS rfl rfl rfl (by repeat (first | exact StB.here rfl | apply StB.there)) rfl rfl rfl ?_; intro w hS)
            | (refine WL.alloc hS rfl rfl rfl rfl rfl rfl ?_; intro w b hS))
          | (show WC _ _ _ _ _ _; first
            | refine WC.seq ?_
            | refine WC.region ?_
            | refine WC.block ?_
            | refine WC.skip ?_
            | refine WC.ret ?_
            | refine WC.condT rfl (by with_reducible rfl) ?_
            | refine WC.condF rfl (by decide) ?_)
          | refine seqQ_n ?_
          | refine seqQ_r ?_
          | refine blkQ_r ?_)
        exact fin1r rfl rfl ⟨rfl, hS.mutOf (by repeat (first | exact List.Mem.head _ | apply List.Mem.tail))⟩
      · have hd2 : (D.at p).dir = false := by simpa using hd
        by_cases hs : D.stepE = 0
        · have hR : D.write p data = (0, D.step.set p { D.at p with data := data, loose := true, anew := true }) := by unfold Dk.write; rw [if_neg (by simp [he]), if_neg hu, if_neg hd, if_neg (by simp [hs])]
          rw [hR]
          have hu := hu2
          clear hR hs2 hd
          generalize D.at p = it at *
          obtain ⟨dir, dat, kept, loose, anew, stamp⟩ := it
          dsimp only at hd2 hal
          subst hd2
          repeat' (first
            | (show WL _ _ _ _ _ _ _; first
              | refine WL.sub (a := (data.length : Int)) (b := (dat.length : Int)) rfl rfl rfl (by omega) rfl rfl rfl ?_
              | refine WL.pure rfl rfl rfl rfl ?_
              | refine WL.nil ?_
              | refine WL.load hS rfl rfl (LdOk.box (by repeat (first | exact List.Mem.head _ | apply List.Mem.tail)) rfl) rfl rfl rfl ?_
              | (refine WL.calls hS rfl rfl (may_c p 1 (hS.holds (dkC q mb lb D) (by repeat (first | exact List.Mem.head _ | apply List.Mem.tail))).1 hl) rfl rfl rfl ?_; rintro v w rfl hS; rw [he])
              | (refine WL.load hS rfl rfl (LdOk.dk (D := D) (by repeat (first | exact List.Mem.head _ | apply List.Mem.tail)) rfl) rfl rfl rfl ?_)
              | (refine WL.mget hS rfl rfl rfl rfl (MapOk.dk (D := D) (by repeat (first | exact List.Mem.head _ | apply List.Mem.tail))) hlk rfl rfl rfl ?_)
              | (refine WL.calls hS rfl rfl (dunder_c p (D := D) (hS.holds (dkC q mb lb D) (by repeat (first | exact List.Mem.head _ | apply List.Mem.tail))).1 hl) rfl rfl rfl ?_; rintro v w rfl hS; rw [hu])
              | (refine WL.calls hS rfl rfl (room_c p _ (hS.holds (dkC q mb lb D) (by repeat (first | exact List.Mem.head _ | apply List.Mem.tail))).1 hl hno) rfl rfl rfl ?_; rintro v w rfl hS)
              | (refine WL.callG rfl rfl (step_c (D := D) (hS.holds (dkC q mb lb D) (by repeat (first | exact List.Mem.head _ | apply List.Mem.tail))) (hS.inB_of (by repeat (first | exact List.Mem.head _ | apply List.Mem.tail)))) rfl rfl rfl ?_; rintro v w ⟨rfl, hmut⟩; have hS := hS.mut hmut (by repeat (first | exact Repl.here | apply Repl.there)); clear hmut; rw [hs])
              | (refine WL.callG rfl rfl (dset_c p ⟨false, data, kept, true, true, stamp⟩ (D := D.step) (hS.holds (dkC q mb lb D.step) (by repeat (first | exact List.Mem.head _ | apply List.Mem.tail))) (hS.inB_of (by repeat (first | exact List.Mem.head _ | apply List.Mem.tail)))) rfl rfl rfl ?_; rintro v w ⟨rfl, hmut⟩; have hS := hS.mut hmut (by repeat (first | exact Repl.here | apply Repl.there)); clear hmut)
              | (refine WL.store hS rfl rfl rfl (by repeat (first | exact StB.here rfl | apply StB.there)) rfl rfl rfl ?_; intro w hS)
              | (refine WL.alloc hS rfl rfl rfl rfl rfl rfl ?_; intro w b hS))
            | (show WC _ _ _ _ _ _; first
              | refine WC.seq ?_
              | refine WC.region ?_
              | refine WC.block ?_
              | refine WC.skip ?_
              | refine WC.ret ?_
              | refine WC.condF rfl (by with_reducible rfl) ?_
              | refine WC.condF rfl (by decide) ?_)
            | refine seqQ_n ?_
            | refine blkQ_n ?_)
          exact fin1r rfl rfl ⟨rfl, hS.mutOf (by repeat (first | exact List.Mem.head _ | apply List.Mem.tail))⟩
        · have hR : D.write p data = (14, D.step) := by unfold Dk.write; rw [if_neg (by simp [he]), if_neg hu, if_neg hd, if_pos hs, hs2 hs]
          rw [hR]
          have hu := hu2
          have hs := hs2 hs
          clear hR hs2 hd
          generalize D.at p = it at *
          obtain ⟨dir, dat, kept, loose, anew, stamp⟩ := it
          dsimp only at hd2 hal
          subst hd2
          repeat' (first
            | (show WL _ _ _ _ _ _ _; first
              | refine WL.sub (a := (data.length : Int)) (b := (dat.length : Int)) rfl rfl rfl (by omega) rfl rfl rfl ?_
              | refine WL.pure rfl rfl rfl rfl ?_
              | refine WL.nil ?_
              | refine WL.load hS rfl rfl (LdOk.box (by repeat (first | exact List.Mem.head _ | apply List.Mem.tail)) rfl) rfl rfl rfl ?_
              | (refine WL.calls hS rfl rfl (may_c p 1 (hS.holds (dkC q mb lb D) (by repeat (first | exact List.Mem.head _ | apply List.Mem.tail))).1 hl) rfl rfl rfl ?_; rintro v w rfl hS; rw [he])
              | (refine WL.load hS rfl rfl (LdOk.dk (D := D) (by repeat (first | exact List.Mem.head _ | apply List.Mem.tail)) rfl) rfl rfl rfl ?_)
              | (refine WL.mget hS rfl rfl rfl rfl (MapOk.dk (D := D) (by repeat (first | exact List.Mem.head _ | apply List.Mem.tail))) hlk rfl rfl rfl ?_)
              | (refine WL.calls hS rfl rfl (dunder_c p (D := D) (hS.holds (dkC q mb lb D) (by repeat (first | exact List.Mem.head _ | apply List.Mem.tail))).1 hl) rfl rfl rfl ?_; rintro v w rfl hS; rw [hu])
              | (refine WL.calls hS rfl rfl (room_c p _ (hS.holds (dkC q mb lb D) (by repeat (first | exact List.Mem.head _ | apply List.Mem.tail))).1 hl hno) rfl rfl rfl ?_; rintro v w rfl hS)
              | (refine WL.callG rfl rfl (step_c (D := D) (hS.holds (dkC q mb lb D) (by repeat (first | exact List.Mem.head _ | apply List.Mem.tail))) (hS.inB_of (by repeat (first | exact List.Mem.head _ | apply List.Mem.tail)))) rfl rfl rfl ?_; rintro v w ⟨rfl, hmut⟩; have hS := hS.mut hmut (by repeat (first | exact Repl.here | apply Repl.there)); clear hmut; rw [hs])
              | (refine WL.store hS rfl rfl rfl (by repeat (first | exact StB.here rfl | apply StB.there)) rfl rfl rfl ?_; intro w hS)
              | (refine WL.alloc hS rfl rfl rfl rfl rfl rfl ?_; intro w b hS))
            | (show WC _ _ _ _ _ _; first
              | refine WC.seq ?_
              | refine WC.region ?_
              | refine WC.block ?_
              | refine WC.skip ?_
              | refine WC.ret ?_
              | refine WC.condF rfl (by with_reducible rfl) ?_
              | refine WC.condT rfl (by decide) ?_
              | refine WC.condF rfl (by decide) ?_)
            | refine seqQ_n ?_
            | refine blkQ_n ?_
            | refine seqQ_r ?_)
          exact fin1r rfl rfl ⟨rfl, hS.mutOf (by repeat (first | exact List.Mem.head _ | apply List.Mem.tail))⟩
  · have hR : D.write p data = (D.may p 1, D) := by unfold Dk.write; rw [if_pos he]
    rw [hR]
    repeat' (first
      | (show WL _ _ _ _ _ _ _; first
        | refine WL.pure rfl rfl rfl rfl ?_
        | refine WL.nil ?_
        | (refine WL.calls hS rfl rfl (may_c p 1 (hS.holds (dkC q mb lb D) (by repeat (first | exact List.Mem.head _ | apply List.Mem.tail))).1 hl) rfl rfl rfl ?_; rintro v w rfl hS))
      | (show WC _ _ _ _ _ _; first
        | refine WC.seq ?_
        | refine WC.region ?_
        | refine WC.ret ?_
        | refine WC.condT rfl (decide_eq_true (by first | with_reducible assumption | omega)) ?_)
      | refine seqQ_n ?_
      | refine seqQ_r ?_)
    exact fin1r rfl rfl ⟨rfl, hS.mutOf (by repeat (first | exact List.Mem.head _ | apply List.Mem.tail))⟩
end Go.Proofs.YtggalmiaofeikaaDoor

/- What is proved: what the program's disk answers: a text read. Conditions: none. -/
set_option linter.unusedSimpArgs false
set_option linter.unusedVariables false
namespace Go.Proofs.YtggalmiaofeikaaDoor
open Go Go.J Go.RowKit

def Dk.read (D : Dk) (p : List UInt8) : List UInt8 × Int := if D.down = true then ([], 14) else if D.has p = false then ([], 11) else if (D.at p).dir = true then ([], 12) else ((D.at p).data, 0)
set_option maxHeartbeats 8000000 in
set_option maxRecDepth 100000 in
theorem dread_c {b mb lb : Nat} {D : Dk} (p : List UInt8) {w0 : World} (h : DkIs b mb lb D w0) : Cal Tryd.prog 20 [.pointer (some ⟨b, 0, none⟩), str p] w0
    (fun v w' => Upd [] w0 w' ∧ v = .tuple #[str (D.read p).1, .int .i64 (D.read p).2]) := by
  refine Cal.mk' (by kernel_rfl) Tryd.func20 rfl rfl fun hS => ?_
  obtain ⟨_, _, _, hb, hm, hlm⟩ := h
  have hb : w0.heap[b]? = some (.cells ⟨[.map (some mb), .map (some lb), .int .i64 D.steps, .int .i64 D.stamps, .int .i64 D.armed, .bool D.down]⟩ 57 (0, 0)) := hb
  unfold Dk.read Dk.has Dk.at
  have hlk := look_it2 D.items p
  generalize (mget D.items p).isSome = has at *
  generalize (mget D.items p).getD It0 = it at *
  generalize D.down = dn at *
  obtain ⟨dir, data, kept, loose, anew, stamp⟩ := it
  cases dn <;> cases has <;> cases dir
  all_goals
    repeat' (first
      | (show WL _ _ _ _ _ _ _; first
        | refine WL.pure rfl rfl rfl rfl ?_
        | refine WL.nil ?_
        | refine WL.load hS rfl rfl (LdOk.box (by repeat (first | exact List.Mem.head _ | apply List.Mem.tail)) rfl) rfl rfl rfl ?_
        | (refine WL.load hS rfl rfl (LdOk.old hb (by repeat (first | exact List.Mem.head _ | apply List.Mem.tail)) rfl) rfl rfl rfl ?_)
        | (refine WL.mget hS rfl rfl rfl rfl (MapOk.old hm (by repeat (first | exact List.Mem.head _ | apply List.Mem.tail))) hlk rfl rfl rfl ?_)
        | (refine WL.store hS rfl rfl rfl (by repeat (first | exact StB.here rfl | apply StB.there)) rfl rfl rfl ?_; intro w hS)
        | (refine WL.alloc hS rfl rfl rfl rfl rfl rfl ?_; intro w b hS))
      | (show WC _ _ _ _ _ _; first
        | refine WC.seq ?_
        | refine WC.region ?_
        | refine WC.block ?_
        | refine WC.skip ?_
        | refine WC.ret ?_
        | refine WC.condT rfl (by with_reducible rfl) ?_
        | refine WC.condF rfl (by with_reducible rfl) ?_
        | refine WC.condT rfl (by decide) ?_
        | refine WC.condF rfl (by decide) ?_)
      | refine seqQ_n ?_
      | refine blkQ_n ?_
      | refine seqQ_r ?_
      | refine blkQ_r ?_)
    exact fin2r rfl rfl rfl ⟨hS.upd, rfl⟩
end Go.Proofs.YtggalmiaofeikaaDoor

/- What is proved: what the program's disk answers and holds: a file in another one's place. Conditions: no limit at the volume. -/
set_option linter.unusedSimpArgs false
set_option linter.unusedVariables false
namespace Go.Proofs.YtggalmiaofeikaaDoor
open Go Go.J Go.RowKit

/-- a file's item taken away -/
def Dk.del (D : Dk) (p : List UInt8) : Dk := { D with items := mdel D.items p }
def Dk.rename (D : Dk) (p r : List UInt8) : Int × Dk :=
  if D.may p 1 ≠ 0 then (D.may p 1, D) else if D.may r 1 ≠ 0 then (D.may r 1, D) else if D.has p = false ∨ D.under r = false then (11, D)
  else if (D.at p).dir = true ∨ (D.at r).dir = true then (12, D) else if D.stepE ≠ 0 then (D.stepE, D.step) else (0, (D.step.del p).set r (D.at p))
theorem St.dkDel {w0 w : World} {M : List Nat} {H : List Chunk} {Z : List Snap} {b mb lb : Nat} {D : Dk} {p : List UInt8} (h1 : b ≠ mb) (h2 : b ≠ lb) (h3 : mb ≠ lb)
    (hS : St w0 M w (.box b 57 [.map (some mb), .map (some lb), .int .i64 D.steps, .int .i64 D.stamps, .int .i64 D.armed, .bool D.down] :: mapC mb (mdel (mmap encIt D.items) p) :: mapC lb (mmap encI D.limits) :: H) Z) : St w0 M w (dkC b mb lb (D.del p) :: H) Z := by
  rw [mdel_map] at hS
  exact St.dkClose (D.del p) h1 h2 h3 hS
set_option maxHeartbeats 8000000 in
set_option maxRecDepth 100000 in
theorem rename_c {q mb lb : Nat} {D : Dk} (p r : List UInt8) {w0 : World} (hc : (dkC q mb lb D).holds w0) (hi : inB (dkC q mb lb D) w0) (hl : p.length ≤ 1099511627) (hl2 : r.length ≤ 1099511627) (hno : mget D.limits (volE r) = none) (hal : (D.at p).data.length ≤ 1099511627776) (hal2 : (D.at r).data.length ≤ 1099511627776) : Cal Tryd.prog 40 [.pointer (some ⟨q, 0, none⟩), str p, str r] w0
    (fun v w' => v = .int .i64 (D.rename p r).1 ∧ Mut w0 w' (dkC q mb lb D) (dkC q mb lb (D.rename p r).2)) := by
  refine Cal.mkM hc hi (by kernel_rfl) Tryd.func40 rfl rfl fun hS => ?_
  by_cases he : D.may p 1 = 0
  · by_cases he2 : D.may r 1 = 0
    · have hlk := look_it2 D.items p
      have hlk2 := look_it D.items r
      have hhas : D.has p = (mget D.items p).isSome := rfl
      have hat : D.at p = (mget D.items p).getD It0 := rfl
      have hat2 : D.at r = (mget D.items r).getD It0 := rfl
      rw [← hhas, ← hat] at hlk
      rw [← hat2] at hlk2
      clear hhas hat hat2
      by_cases h11 : D.has p = false ∨ D.under r = false
      · have hR : D.rename p r = (11, D) := by unfold Dk.rename; rw [if_neg (by simp [he]), if_neg (by simp [he2]), if_pos h11]
        rw [hR]
        have hcase : (D.has p = false) ∨ (D.has p = true ∧ D.under r = false) := by
          cases h1 : D.has p
          · exact .inl rfl
          · rcases h11 with h2 | h2
            · rw [h1] at h2; cases h2
            · exact .inr ⟨rfl, h2⟩
        clear hR h11
        generalize D.has p = has at *
        generalize D.at p = it at *
        generalize D.at r = it2 at *
        obtain ⟨dir, dat, kept, loose, anew, stamp⟩ := it
        obtain ⟨dir2, dat2, kept2, loose2, anew2, stamp2⟩ := it2
        dsimp only at hal hal2
        rcases hcase with rfl | ⟨rfl, hu⟩
        case' inl => have hu : D.under r = D.under r := rfl
        all_goals
          repeat' (first
            | (show WL _ _ _ _ _ _ _; first
              | refine WL.sub (a := (dat.length : Int)) (b := (dat2.length : Int)) rfl rfl rfl (by omega) rfl rfl rfl ?_
              | refine WL.pure rfl rfl rfl rfl ?_
              | refine WL.nil ?_
              | refine WL.load hS rfl rfl (LdOk.box (by repeat (first | exact List.Mem.head _ | apply List.Mem.tail)) rfl) rfl rfl rfl ?_
              | (refine WL.calls hS rfl rfl (may_c p 1 (hS.holds (dkC q mb lb D) (by repeat (first | exact List.Mem.head _ | apply List.Mem.tail))).1 hl) rfl rfl rfl ?_; rintro v w rfl hS; rw [he])
              | (refine WL.calls hS rfl rfl (may_c r 1 (hS.holds (dkC q mb lb D) (by repeat (first | exact List.Mem.head _ | apply List.Mem.tail))).1 hl2) rfl rfl rfl ?_; rintro v w rfl hS; rw [he2])
              | (refine WL.load hS rfl rfl (LdOk.dk (D := D) (by repeat (first | exact List.Mem.head _ | apply List.Mem.tail)) rfl) rfl rfl rfl ?_)
              | (refine WL.mget hS rfl rfl rfl rfl (MapOk.dk (D := D) (by repeat (first | exact List.Mem.head _ | apply List.Mem.tail))) hlk rfl rfl rfl ?_)
              | (refine WL.mget hS rfl rfl rfl rfl (MapOk.dk (D := D) (by repeat (first | exact List.Mem.head _ | apply List.Mem.tail))) hlk2 rfl rfl rfl ?_)
              | (refine WL.calls hS rfl rfl (volume_c p _ (by omega)) rfl rfl rfl ?_; rintro v w rfl hS)
              | (refine WL.calls hS rfl rfl (volume_c r _ (by omega)) rfl rfl rfl ?_; rintro v w rfl hS)
              | (refine WL.calls hS rfl rfl (dunder_c r (D := D) (hS.holds (dkC q mb lb D) (by repeat (first | exact List.Mem.head _ | apply List.Mem.tail))).1 hl2) rfl rfl rfl ?_; rintro v w rfl hS; rw [hu])
              | (refine WL.store hS rfl rfl rfl (by repeat (first | exact StB.here rfl | apply StB.there)) rfl rfl rfl ?_; intro w hS)
              | (refine WL.alloc hS rfl rfl rfl rfl rfl rfl ?_; intro w b hS)
              | refine WL.skip rfl rfl rfl ?_)
            | (show WC _ _ _ _ _ _; first
              | refine WC.seq ?_
              | refine WC.region ?_
              | refine WC.block ?_
              | refine WC.skip ?_
              | refine WC.ret ?_
              | refine WC.condT rfl (by with_reducible rfl) ?_
              | refine WC.condT rfl (by decide) ?_
              | refine WC.condF rfl (by decide) ?_
              | (refine WC.cond rfl (fun h => ?_) (fun h => ?_) <;> (try simp only [Classical.not_not, Bool.not_eq_true', Bool.not_eq_false', Bool.not_eq_eq_eq_not, Bool.not_true, Bool.not_false, beq_iff_eq, beq_eq_false_iff_ne, ne_eq, decide_eq_decide, decide_eq_true_eq, decide_eq_false_iff_not, Bool.and_eq_true, Bool.or_eq_true, Bool.and_eq_false_iff, Bool.or_eq_false_iff] at h) <;> (try (exfalso; first | omega | contradiction))))
            | refine seqQ_n ?_
            | refine seqQ_r ?_
            | refine blkQ_r ?_)
          all_goals exact fin1r rfl rfl ⟨rfl, hS.mutOf (by repeat (first | exact List.Mem.head _ | apply List.Mem.tail))⟩
      · have hh : D.has p = true := by
          cases h1 : D.has p
          · exact absurd (.inl h1) h11
          · rfl
        have hu : D.under r = true := by
          cases h1 : D.under r
          · exact absurd (.inr h1) h11
          · rfl
        by_cases h12 : (D.at p).dir = true ∨ (D.at r).dir = true
        · have hR : D.rename p r = (12, D) := by unfold Dk.rename; rw [if_neg (by simp [he]), if_neg (by simp [he2]), if_neg h11, if_pos h12]
          rw [hR]
          clear hR h11
          generalize D.has p = has at *
          generalize D.at p = it at *
          generalize D.at r = it2 at *
          obtain ⟨dir, dat, kept, loose, anew, stamp⟩ := it
          obtain ⟨dir2, dat2, kept2, loose2, anew2, stamp2⟩ := it2
          dsimp only at hal hal2 h12
          subst hh
          cases dir <;> cases dir2 <;> (first | (exfalso; simp at h12; done) | skip)
          all_goals
            clear h12
            repeat' (first
              | (show WL _ _ _ _ _ _ _; first
                | refine WL.sub (a := (dat.length : Int)) (b := (dat2.length : Int)) rfl rfl rfl (by omega) rfl rfl rfl ?_
                | refine WL.pure rfl rfl rfl rfl ?_
                | refine WL.nil ?_
                | refine WL.load hS rfl rfl (LdOk.box (by repeat (first | exact List.Mem.head _ | apply List.Mem.tail)) rfl) rfl rfl rfl ?_
                | (refine WL.calls hS rfl rfl (may_c p 1 (hS.holds (dkC q mb lb D) (by repeat (first | exact List.Mem.head _ | apply List.Mem.tail))).1 hl) rfl rfl rfl ?_; rintro v w rfl hS; rw [he])
                | (refine WL.calls hS rfl rfl (may_c r 1 (hS.holds (dkC q mb lb D) (by repeat (first | exact List.Mem.head _ | apply List.Mem.tail))).1 hl2) rfl rfl rfl ?_; rintro v w rfl hS; rw [he2])
                | (refine WL.load hS rfl rfl (LdOk.dk (D := D) (by repeat (first | exact List.Mem.head _ | apply List.Mem.tail)) rfl) rfl rfl rfl ?_)
                | (refine WL.mget hS rfl rfl rfl rfl (MapOk.dk (D := D) (by repeat (first | exact List.Mem.head _ | apply List.Mem.tail))) hlk rfl rfl rfl ?_)
                | (refine WL.mget hS rfl rfl rfl rfl (MapOk.dk (D := D) (by repeat (first | exact List.Mem.head _ | apply List.Mem.tail))) hlk2 rfl rfl rfl ?_)
                | (refine WL.calls hS rfl rfl (volume_c p _ (by omega)) rfl rfl rfl ?_; rintro v w rfl hS)
                | (refine WL.calls hS rfl rfl (volume_c r _ (by omega)) rfl rfl rfl ?_; rintro v w rfl hS)
                | (refine WL.calls hS rfl rfl (dunder_c r (D := D) (hS.holds (dkC q mb lb D) (by repeat (first | exact List.Mem.head _ | apply List.Mem.tail))).1 hl2) rfl rfl rfl ?_; rintro v w rfl hS; rw [hu])
                | (refine WL.store hS rfl rfl rfl (by repeat (first | exact StB.here rfl | apply StB.there)) rfl rfl rfl ?_; intro w hS)
                | (refine WL.alloc hS rfl rfl rfl rfl rfl rfl ?_; intro w b hS)
                | refine WL.skip rfl rfl rfl ?_)
              | (show WC _ _ _ _ _ _; first
                | refine WC.seq ?_
                | refine WC.region ?_
                | refine WC.block ?_
                | refine WC.skip ?_
                | refine WC.ret ?_
                | refine WC.condT rfl (by with_reducible rfl) ?_
                | refine WC.condT rfl (by decide) ?_
                | refine WC.condF rfl (by decide) ?_
                | (refine WC.cond rfl (fun h => ?_) (fun h => ?_) <;> (try simp only [Classical.not_not, Bool.not_eq_true', Bool.not_eq_false', Bool.not_eq_eq_eq_not, Bool.not_true, Bool.not_false, beq_iff_eq, beq_eq_false_iff_ne, ne_eq, decide_eq_decide, decide_eq_true_eq, decide_eq_false_iff_not, Bool.and_eq_true, Bool.or_eq_true, Bool.and_eq_false_iff, Bool.or_eq_false_iff] at h) <;> (try (exfalso; first | omega | contradiction))))
              | refine seqQ_n ?_
              | refine seqQ_r ?_
              | refine blkQ_r ?_)
            all_goals exact fin1r rfl rfl ⟨rfl, hS.mutOf (by repeat (first | exact List.Mem.head _ | apply List.Mem.tail))⟩
        · have hd1 : (D.at p).dir = false := by
            cases h1 : (D.at p).dir
            · rfl
            · exact absurd (.inl h1) h12
          have hd2 : (D.at r).dir = false := by
            cases h1 : (D.at r).dir
            · rfl
            · exact absurd (.inr h1) h12
          by_cases hs : D.stepE = 0
          · have hR : D.rename p r = (0, (D.step.del p).set r (D.at p)) := by unfold Dk.rename; rw [if_neg (by simp [he]), if_neg (by simp [he2]), if_neg h11, if_neg h12, if_neg (by simp [hs])]
            rw [hR]
            clear hR h11 h12
            generalize D.has p = has at *
            generalize D.at p = it at *
            generalize D.at r = it2 at *
            obtain ⟨dir, dat, kept, loose, anew, stamp⟩ := it
            obtain ⟨dir2, dat2, kept2, loose2, anew2, stamp2⟩ := it2
            dsimp only at hal hal2 hd1 hd2
            subst hh hd1 hd2
            repeat' (first
              | (show WL _ _ _ _ _ _ _; first
                | refine WL.sub (a := (dat.length : Int)) (b := (dat2.length : Int)) rfl rfl rfl (by omega) rfl rfl rfl ?_
                | refine WL.pure rfl rfl rfl rfl ?_
                | refine WL.nil ?_
                | refine WL.load hS rfl rfl (LdOk.box (by repeat (first | exact List.Mem.head _ | apply List.Mem.tail)) rfl) rfl rfl rfl ?_
                | (refine WL.calls hS rfl rfl (may_c p 1 (hS.holds (dkC q mb lb D) (by repeat (first | exact List.Mem.head _ | apply List.Mem.tail))).1 hl) rfl rfl rfl ?_; rintro v w rfl hS; rw [he])
                | (refine WL.calls hS rfl rfl (may_c r 1 (hS.holds (dkC q mb lb D) (by repeat (first | exact List.Mem.head _ | apply List.Mem.tail))).1 hl2) rfl rfl rfl ?_; rintro v w rfl hS; rw [he2])
                | (refine WL.load hS rfl rfl (LdOk.dk (D := D) (by repeat (first | exact List.Mem.head _ | apply List.Mem.tail)) rfl) rfl rfl rfl ?_)
                | (refine WL.load hS rfl rfl (LdOk.dk (D := D.step) (by repeat (first | exact List.Mem.head _ | apply List.Mem.tail)) rfl) rfl rfl rfl ?_)
                | (refine WL.mget hS rfl rfl rfl rfl (MapOk.dk (D := D) (by repeat (first | exact List.Mem.head _ | apply List.Mem.tail))) hlk rfl rfl rfl ?_)
                | (refine WL.mget hS rfl rfl rfl rfl (MapOk.dk (D := D) (by repeat (first | exact List.Mem.head _ | apply List.Mem.tail))) hlk2 rfl rfl rfl ?_)
                | (refine WL.calls hS rfl rfl (volume_c p _ (by omega)) rfl rfl rfl ?_; rintro v w rfl hS)
                | (refine WL.calls hS rfl rfl (volume_c r _ (by omega)) rfl rfl rfl ?_; rintro v w rfl hS)
                | (refine WL.calls hS rfl rfl (dunder_c r (D := D) (hS.holds (dkC q mb lb D) (by repeat (first | exact List.Mem.head _ | apply List.Mem.tail))).1 hl2) rfl rfl rfl ?_; rintro v w rfl hS; rw [hu])
                | (refine WL.calls hS rfl rfl (room_c r _ (hS.holds (dkC q mb lb D) (by repeat (first | exact List.Mem.head _ | apply List.Mem.tail))).1 hl2 hno) rfl rfl rfl ?_; rintro v w rfl hS)
                | (refine WL.callG rfl rfl (step_c (D := D) (hS.holds (dkC q mb lb D) (by repeat (first | exact List.Mem.head _ | apply List.Mem.tail))) (hS.inB_of (by repeat (first | exact List.Mem.head _ | apply List.Mem.tail)))) rfl rfl rfl ?_; rintro v w ⟨rfl, hmut⟩; have hS := hS.mut hmut (by repeat (first | exact Repl.here | apply Repl.there)); clear hmut; rw [hs])
                | (obtain ⟨h1, h2, h3, hS⟩ := St.dkOpen (St.pull (c := dkC q mb lb D.step) hS (by repeat (first | exact Pull.here | apply Pull.there))); refine WL.mdel0 hS rfl rfl rfl rfl (by repeat (first | exact Repl.here | apply Repl.there)) rfl rfl ?_; clear hS; intro w hS; have hS := St.dkDel h1 h2 h3 hS)
                | (refine WL.callG rfl rfl (dset_c r ⟨false, dat, kept, loose, anew, stamp⟩ (D := D.step.del p) (hS.holds (dkC q mb lb (D.step.del p)) (by repeat (first | exact List.Mem.head _ | apply List.Mem.tail))) (hS.inB_of (by repeat (first | exact List.Mem.head _ | apply List.Mem.tail)))) rfl rfl rfl ?_; rintro v w ⟨rfl, hmut⟩; have hS := hS.mut hmut (by repeat (first | exact Repl.here | apply Repl.there)); clear hmut)
                | (refine WL.store hS rfl rfl rfl (by repeat (first | exact StB.here rfl | apply StB.there)) rfl rfl rfl ?_; intro w hS)
                | (refine WL.alloc hS rfl rfl rfl rfl rfl rfl ?_; intro w b hS)
                | refine WL.skip rfl rfl rfl ?_
                | ((fail_if_success (refine WL.wanted rfl ?_)); refine WL.guard rfl rfl rfl (fun h => ?_) (fun h => ?_) <;> (try simp only [Classical.not_not, Bool.not_eq_true', Bool.not_eq_false', Bool.not_eq_eq_eq_not, Bool.not_true, Bool.not_false, beq_iff_eq, beq_eq_false_iff_ne, ne_eq, decide_eq_decide, decide_eq_true_eq, decide_eq_false_iff_not, Bool.and_eq_true, Bool.or_eq_true, Bool.and_eq_false_iff, Bool.or_eq_false_iff] at h) <;> (try (exfalso; first | omega | contradiction))))
              | (show WC _ _ _ _ _ _; first
                | refine WC.seq ?_
                | refine WC.region ?_
                | refine WC.block ?_
                | refine WC.skip ?_
                | refine WC.ret ?_
                | refine WC.condF rfl (by with_reducible rfl) ?_
                | refine WC.condT rfl (by decide) ?_
                | refine WC.condF rfl (by decide) ?_
                | (refine WC.cond rfl (fun h => ?_) (fun h => ?_) <;> (try simp only [Classical.not_not, Bool.not_eq_true', Bool.not_eq_false', Bool.not_eq_eq_eq_not, Bool.not_true, Bool.not_false, beq_iff_eq, beq_eq_false_iff_ne, ne_eq, decide_eq_decide, decide_eq_true_eq, decide_eq_false_iff_not, Bool.and_eq_true, Bool.or_eq_true, Bool.and_eq_false_iff, Bool.or_eq_false_iff] at h) <;> (try (exfalso; first | omega | contradiction))))
              | refine seqQ_n ?_
              | refine blkQ_n ?_)
            all_goals exact fin1r rfl rfl ⟨rfl, hS.mutOf (by repeat (first | exact List.Mem.head _ | apply List.Mem.tail))⟩
          · have hs2 : D.stepE = 14 := by unfold Dk.stepE at hs ⊢; split at hs <;> simp_all
            have hR : D.rename p r = (14, D.step) := by unfold Dk.rename; rw [if_neg (by simp [he]), if_neg (by simp [he2]), if_neg h11, if_neg h12, if_pos hs, hs2]
            rw [hR]
            clear hR h11 h12 hs
            have hs := hs2
            generalize D.has p = has at *
            generalize D.at p = it at *
            generalize D.at r = it2 at *
            obtain ⟨dir, dat, kept, loose, anew, stamp⟩ := it
            obtain ⟨dir2, dat2, kept2, loose2, anew2, stamp2⟩ := it2
            dsimp only at hal hal2 hd1 hd2
            subst hh hd1 hd2
            repeat' (first
              | (show WL _ _ _ _ _ _ _; first
                | refine WL.sub (a := (dat.length : Int)) (b := (dat2.length : Int)) rfl rfl rfl (by omega) rfl rfl rfl ?_
                | refine WL.pure rfl rfl rfl rfl ?_
                | refine WL.nil ?_
                | refine WL.load hS rfl rfl (LdOk.box (by repeat (first | exact List.Mem.head _ | apply List.Mem.tail)) rfl) rfl rfl rfl ?_
                | (refine WL.calls hS rfl rfl (may_c p 1 (hS.holds (dkC q mb lb D) (by repeat (first | exact List.Mem.head _ | apply List.Mem.tail))).1 hl) rfl rfl rfl ?_; rintro v w rfl hS; rw [he])
                | (refine WL.calls hS rfl rfl (may_c r 1 (hS.holds (dkC q mb lb D) (by repeat (first | exact List.Mem.head _ | apply List.Mem.tail))).1 hl2) rfl rfl rfl ?_; rintro v w rfl hS; rw [he2])
                | (refine WL.load hS rfl rfl (LdOk.dk (D := D) (by repeat (first | exact List.Mem.head _ | apply List.Mem.tail)) rfl) rfl rfl rfl ?_)
                | (refine WL.mget hS rfl rfl rfl rfl (MapOk.dk (D := D) (by repeat (first | exact List.Mem.head _ | apply List.Mem.tail))) hlk rfl rfl rfl ?_)
                | (refine WL.mget hS rfl rfl rfl rfl (MapOk.dk (D := D) (by repeat (first | exact List.Mem.head _ | apply List.Mem.tail))) hlk2 rfl rfl rfl ?_)
                | (refine WL.calls hS rfl rfl (volume_c p _ (by omega)) rfl rfl rfl ?_; rintro v w rfl hS)
                | (refine WL.calls hS rfl rfl (volume_c r _ (by omega)) rfl rfl rfl ?_; rintro v w rfl hS)
                | (refine WL.calls hS rfl rfl (dunder_c r (D := D) (hS.holds (dkC q mb lb D) (by repeat (first | exact List.Mem.head _ | apply List.Mem.tail))).1 hl2) rfl rfl rfl ?_; rintro v w rfl hS; rw [hu])
                | (refine WL.calls hS rfl rfl (room_c r _ (hS.holds (dkC q mb lb D) (by repeat (first | exact List.Mem.head _ | apply List.Mem.tail))).1 hl2 hno) rfl rfl rfl ?_; rintro v w rfl hS)
                | (refine WL.callG rfl rfl (step_c (D := D) (hS.holds (dkC q mb lb D) (by repeat (first | exact List.Mem.head _ | apply List.Mem.tail))) (hS.inB_of (by repeat (first | exact List.Mem.head _ | apply List.Mem.tail)))) rfl rfl rfl ?_; rintro v w ⟨rfl, hmut⟩; have hS := hS.mut hmut (by repeat (first | exact Repl.here | apply Repl.there)); clear hmut; rw [hs])
                | (refine WL.store hS rfl rfl rfl (by repeat (first | exact StB.here rfl | apply StB.there)) rfl rfl rfl ?_; intro w hS)
                | (refine WL.alloc hS rfl rfl rfl rfl rfl rfl ?_; intro w b hS)
                | refine WL.skip rfl rfl rfl ?_
                | ((fail_if_success (refine WL.wanted rfl ?_)); refine WL.guard rfl rfl rfl (fun h => ?_) (fun h => ?_) <;> (try simp only [Classical.not_not, Bool.not_eq_true', Bool.not_eq_false', Bool.not_eq_eq_eq_not, Bool.not_true, Bool.not_false, beq_iff_eq, beq_eq_false_iff_ne, ne_eq, decide_eq_decide, decide_eq_true_eq, decide_eq_false_iff_not, Bool.and_eq_true, Bool.or_eq_true, Bool.and_eq_false_iff, Bool.or_eq_false_iff] at h) <;> (try (exfalso; first | omega | contradiction))))
              | (show WC _ _ _ _ _ _; first
                | refine WC.seq ?_
                | refine WC.region ?_
                | refine WC.block ?_
                | refine WC.skip ?_
                | refine WC.ret ?_
                | refine WC.condF rfl (by with_reducible rfl) ?_
                | refine WC.condT rfl (by decide) ?_
                | refine WC.condF rfl (by decide) ?_
                | (refine WC.cond rfl (fun h => ?_) (fun h => ?_) <;> (try simp only [Classical.not_not, Bool.not_eq_true', Bool.not_eq_false', Bool.not_eq_eq_eq_not, Bool.not_true, Bool.not_false, beq_iff_eq, beq_eq_false_iff_ne, ne_eq, decide_eq_decide, decide_eq_true_eq, decide_eq_false_iff_not, Bool.and_eq_true, Bool.or_eq_true, Bool.and_eq_false_iff, Bool.or_eq_false_iff] at h) <;> (try (exfalso; first | omega | contradiction))))
              | refine seqQ_n ?_
              | refine blkQ_n ?_
              | refine seqQ_r ?_)
            all_goals exact fin1r rfl rfl ⟨rfl, hS.mutOf (by repeat (first | exact List.Mem.head _ | apply List.Mem.tail))⟩
    · have hR : D.rename p r = (D.may r 1, D) := by unfold Dk.rename; rw [if_neg (by simp [he]), if_pos he2]
      rw [hR]
      repeat' (first
        | (show WL _ _ _ _ _ _ _; first
          | refine WL.pure rfl rfl rfl rfl ?_
          | refine WL.nil ?_
          | (refine WL.calls hS rfl rfl (may_c p 1 (hS.holds (dkC q mb lb D) (by repeat (first | exact List.Mem.head _ | apply List.Mem.tail))).1 hl) rfl rfl rfl ?_; rintro v w rfl hS; rw [he])
          | (refine WL.calls hS rfl rfl (may_c r 1 (hS.holds (dkC q mb lb D) (by repeat (first | exact List.Mem.head _ | apply List.Mem.tail))).1 hl2) rfl rfl rfl ?_; rintro v w rfl hS))
        | (show WC _ _ _ _ _ _; first
          | refine WC.seq ?_
          | refine WC.region ?_
          | refine WC.ret ?_
          | refine WC.condT rfl (by decide) ?_
          | refine WC.condT rfl (decide_eq_true (by first | with_reducible assumption | omega)) ?_)
        | refine seqQ_n ?_
        | refine seqQ_r ?_)
      exact fin1r rfl rfl ⟨rfl, hS.mutOf (by repeat (first | exact List.Mem.head _ | apply List.Mem.tail))⟩
  · have hR : D.rename p r = (D.may p 1, D) := by unfold Dk.rename; rw [if_pos he]
    rw [hR]
    repeat' (first
      | (show WL _ _ _ _ _ _ _; first
        | refine WL.pure rfl rfl rfl rfl ?_
        | refine WL.nil ?_
        | (refine WL.calls hS rfl rfl (may_c p 1 (hS.holds (dkC q mb lb D) (by repeat (first | exact List.Mem.head _ | apply List.Mem.tail))).1 hl) rfl rfl rfl ?_; rintro v w rfl hS))
      | (show WC _ _ _ _ _ _; first
        | refine WC.seq ?_
        | refine WC.region ?_
        | refine WC.skip ?_
        | refine WC.ret ?_
        | refine WC.condT rfl (decide_eq_true (by first | with_reducible assumption | omega)) ?_
        | refine WC.condF rfl (decide_eq_false (by first | with_reducible assumption | omega)) ?_)
      | refine seqQ_n ?_
      | refine seqQ_r ?_)
    exact fin1r rfl rfl ⟨rfl, hS.mutOf (by repeat (first | exact List.Mem.head _ | apply List.Mem.tail))⟩
end Go.Proofs.YtggalmiaofeikaaDoor

/- What is proved: what bytes of which one bit is turned are, and what the disk's Rot does. Conditions: texts of bounded length. -/
set_option linter.unusedSimpArgs false
set_option linter.unusedVariables false
namespace Go.Proofs.YtggalmiaofeikaaDoor
open Go Go.J Go.RowKit

/-- bytes of which one bit is turned -/
def turnK (s : List UInt8) (bit : Int) : Nat := (bit % (8 * (s.length : Int))).toNat
def turnE (s : List UInt8) (bit : Int) : List UInt8 := match s[turnK s bit / 8]? with
  | some c => s.set (turnK s bit / 8) (UInt8.ofNat (c.toNat ^^^ 2 ^ (turnK s bit % 8)))
  | none => s
theorem pow_lt256 {m : Nat} (h : m < 8) : 2 ^ m < 256 := by
  have : (2 : Nat) ^ m ≤ 2 ^ 7 := Nat.pow_le_pow_right (by omega) (by omega)
  omega
theorem turn_byte (c : UInt8) (m : Nat) (h : m < 8) : bits .xor .u8 (c.toNat : Int) (shlI .u8 1 (m : Int)) = (((UInt8.ofNat (c.toNat ^^^ 2 ^ m)).toNat : Nat) : Int) := by
  have hc := c.toNat_lt
  have hp := pow_lt256 h
  have e : shlI .u8 1 (m : Int) = ((2 ^ m : Nat) : Int) := by
    unfold shlI
    rw [show min (m : Int).toNat IntKind.u8.bits = m from by simp [IntKind.bits]; omega, IntKind.wrap_u8']
    have : (1 : Int) * 2 ^ m = ((2 ^ m : Nat) : Int) := by simp
    rw [this]; generalize (2 : Nat) ^ m = p at hp; omega
  rw [e, u8_xor_nat _ _ (by omega) hp]
  have hx : c.toNat ^^^ 2 ^ m < 256 := Nat.xor_lt_two_pow (n := 8) (by omega) (by omega)
  rw [ofNat_toNat hx]
theorem turnE_len (s : List UInt8) (bit : Int) : (turnE s bit).length = s.length := by
  unfold turnE
  split
  · rw [List.length_set]
  · rfl
set_option maxHeartbeats 4000000 in
set_option maxRecDepth 100000 in
theorem turn_c (s : List UInt8) (bit : Int) (w0 : World) (hl : s.length ≤ 1099511627776) : Cal Tryd.prog 30 [str s, .int .i64 bit] w0 (fun v w' => Upd [] w0 w' ∧ v = str (turnE s bit)) := by
  refine Cal.mk' (by kernel_rfl) Tryd.func30 rfl rfl fun hS => ?_
  by_cases h0 : s = []
  · subst h0
    repeat' (first
      | (show WL _ _ _ _ _ _ _; first
        | refine WL.pure rfl rfl rfl rfl ?_
        | refine WL.nil ?_)
      | (show WC _ _ _ _ _ _; first
        | refine WC.seq ?_
        | refine WC.region ?_
        | refine WC.ret ?_
        | refine WC.condT rfl (by decide) ?_)
      | refine seqQ_n ?_
      | refine seqQ_r ?_)
    exact fin1r rfl rfl ⟨hS.upd, rfl⟩
  · have hpos : 0 < s.length := by
      rcases Nat.eq_zero_or_pos s.length with h | h
      · exact absurd (List.eq_nil_of_length_eq_zero h) h0
      · exact h
    have hn8 : (0 : Int) < 8 * (s.length : Int) := by omega
    have hb := tmod_bound bit hn8
    have he0 := Int.emod_nonneg bit (show (8 * (s.length : Int)) ≠ 0 by omega)
    have he1 := Int.emod_lt_of_pos bit hn8
    obtain ⟨k, hk⟩ : ∃ k : Nat, bit % (8 * (s.length : Int)) = (k : Int) := ⟨_, (Int.toNat_of_nonneg he0).symm⟩
    have hkk : turnK s bit = k := by unfold turnK; rw [hk]; rfl
    have hk8 : k / 8 < s.length := by omega
    have hm := turn_byte s[k / 8] (k % 8) (by omega)
    have hT : turnE s bit = s.set (k / 8) (UInt8.ofNat (s[k / 8].toNat ^^^ 2 ^ (k % 8))) := by unfold turnE; rw [hkk, List.getElem?_eq_getElem hk8]
    have hj : s[k / 8]? = some s[k / 8] := List.getElem?_eq_getElem hk8
    rw [hT]
    generalize s[k / 8] = c at *
    generalize UInt8.ofNat (c.toNat ^^^ 2 ^ (k % 8)) = c' at *
    clear hT hkk
    have q1 : ((k : Int) / 8) = ((k / 8 : Nat) : Int) := rfl
    have q2 : ((k : Int) % 8) = ((k % 8 : Nat) : Int) := rfl
    repeat' (first
      | (show WL _ _ _ _ _ _ _; first
        | refine WL.pure rfl rfl rfl rfl ?_
        | refine WL.nil ?_
        | refine WL.add rfl rfl rfl (by omega) rfl rfl rfl ?_
        | (refine WL.mul rfl rfl rfl (by omega) rfl rfl rfl ?_)
        | (refine WL.remT rfl rfl rfl hn8 rfl rfl rfl ?_; rw [tmod_twice bit hn8, hk])
        | (refine WL.remT rfl rfl rfl hn8 rfl rfl rfl ?_)
        | (refine WL.s2b hS rfl rfl rfl rfl rfl rfl rfl ?_; intro w b cap hcap hS)
        | (refine WL.b2sBs hS rfl rfl rfl rfl (by repeat (first | exact List.Mem.head _ | apply List.Mem.tail)) (by rw [List.length_set]) rfl rfl rfl ?_))
      | (show WC _ _ _ _ _ _; first
        | refine WC.seq ?_
        | refine WC.region ?_
        | refine WC.skip ?_
        | refine WC.ret ?_
        | (show WC _ _ (Code.region _ (List.toArray [_, _, _, _, _, _, _, _, _, _, _]) true) _ _ _; refine WC.drawV hS [0,1,2,3,4,5,6,7,8,9] [0,1,2,3,4,5,6,7,8,9] 10 [] (by kernel_rfl) (by kernel_rfl) ?_; clear hS; intro w hS hM)
        | refine WC.condF rfl (decide_eq_false (by first | with_reducible assumption | omega)) ?_)
      | (show WD _ _ _ _ _ _ _ _ _; first
        | refine WD.pure rfl rfl rfl rfl rfl ?_
        | refine WD.nil ?_
        | (refine WD.quo rfl rfl rfl (by omega) (by omega) (by omega) rfl rfl rfl rfl ?_; rw [q1])
        | (refine WD.rem rfl rfl rfl (by omega) (by omega) rfl rfl rfl rfl ?_; rw [q2])
        | (refine WD.shl rfl rfl rfl (by omega) rfl rfl rfl rfl ?_)
        | (refine WD.load rfl rfl (LdOk.bs (by repeat (first | exact List.Mem.head _ | apply List.Mem.tail)) hj rfl ⟨_, rfl⟩) rfl rfl rfl rfl ?_)
        | (refine WD.pivBs hS rfl rfl (vint hm) (by repeat (first | exact Repl.here | apply Repl.there)) hk8 rfl rfl rfl rfl ?_; clear hS; intro w hS hM)
        | refine WD.index rfl rfl rfl rfl (by first | with_reducible assumption | omega) rfl rfl rfl rfl rfl ?_)
      | refine seqQ_n ?_)
    exact fin1r rfl rfl ⟨hS.upd, rfl⟩
def Dk.rot (D : Dk) (p : List UInt8) (bit : Int) : Int × Dk := if D.file p ≠ 0 then (D.file p, D) else (0, D.set p { D.at p with data := turnE (D.at p).data bit, kept := turnE (D.at p).kept bit })
set_option maxHeartbeats 4000000 in
set_option maxRecDepth 100000 in
theorem rot_c {q mb lb : Nat} {D : Dk} (p : List UInt8) (bit : Int) {w0 : World} (hc : (dkC q mb lb D).holds w0) (hi : inB (dkC q mb lb D) w0) (hl : p.length ≤ 1099511627) (hdl : (D.at p).data.length ≤ 1099511627776) (hkl : (D.at p).kept.length ≤ 1099511627776) :
    Cal Tryd.prog 15 [.pointer (some ⟨q, 0, none⟩), str p, .int .i64 bit] w0 (fun v w' => v = .int .i64 (D.rot p bit).1 ∧ Mut w0 w' (dkC q mb lb D) (dkC q mb lb (D.rot p bit).2)) := by
  refine Cal.mkM hc hi (by kernel_rfl) Tryd.func15 rfl rfl fun hS => ?_
  by_cases he : D.file p = 0
  · have hR : D.rot p bit = (0, D.set p { D.at p with data := turnE (D.at p).data bit, kept := turnE (D.at p).kept bit }) := by unfold Dk.rot; rw [if_neg (by simp [he])]
    rw [hR]
    have hlk := look_it D.items p
    have hat : D.at p = (mget D.items p).getD It0 := rfl
    rw [← hat] at hlk
    clear hat hR
    generalize D.at p = it at *
    obtain ⟨dir, dat, kept, loose, anew, stamp⟩ := it
    dsimp only at *
    repeat' (first
      | (show WL _ _ _ _ _ _ _; first
        | refine WL.pure rfl rfl rfl rfl ?_
        | refine WL.nil ?_
        | refine WL.load hS rfl rfl (LdOk.box (by repeat (first | exact List.Mem.head _ | apply List.Mem.tail)) rfl) rfl rfl rfl ?_
        | (refine WL.calls hS rfl rfl (dfile_c p (hS.holds (dkC q mb lb D) (by repeat (first | exact List.Mem.head _ | apply List.Mem.tail))).1 hl) rfl rfl rfl ?_; rintro v w rfl hS; rw [he])
        | (refine WL.load hS rfl rfl (LdOk.dk (D := D) (by repeat (first | exact List.Mem.head _ | apply List.Mem.tail)) rfl) rfl rfl rfl ?_)
        | (refine WL.mget hS rfl rfl rfl rfl (MapOk.dk (D := D) (by repeat (first | exact List.Mem.head _ | apply List.Mem.tail))) hlk rfl rfl rfl ?_)
        | (refine WL.callL (D := [dkC q mb lb D]) hS (by repeat (first | exact Pulls.nil | (apply Pulls.cons; focus (repeat (first | exact Pull.here | apply Pull.there))))) rfl rfl (fun hI => dset_c p ⟨dir, turnE dat bit, turnE kept bit, loose, anew, stamp⟩ hI.head hI.headB) rfl rfl rfl ?_; rintro v w ⟨rfl, hm⟩ hS; replace hS := hS _ (.of1 hm); clear hm)
        | (refine WL.store hS rfl rfl rfl (by repeat (first | exact StB.here rfl | apply StB.there)) rfl rfl rfl ?_; intro w hS)
        | (refine WL.alloc hS rfl rfl rfl rfl rfl rfl ?_; intro w b hS))
      | (show WC _ _ _ _ _ _; first
        | refine WC.seq ?_
        | refine WC.region ?_
        | refine WC.skip ?_
        | refine WC.ret ?_
        | (show WC _ _ (Code.region _ (List.toArray [_, _, _, _, _, _, _, _, _, _, _, _]) true) _ _ _; refine WC.drawV hS [0,1,2,4,5,6,8,10] [0,1,2,4,5,6,3,8,7] 9 [10,11] (by kernel_rfl) (by kernel_rfl) ?_; clear hS; intro w hS hM)
        | refine WC.condF rfl (by decide) ?_)
      | (show WD _ _ _ _ _ _ _ _ _; first
        | refine WD.pure rfl rfl rfl rfl rfl ?_
        | refine WD.nil ?_
        | refine WD.load rfl rfl (LdOk.box (by repeat (first | exact List.Mem.head _ | apply List.Mem.tail)) rfl) rfl rfl rfl rfl ?_
        | (refine WD.calls hS hM rfl rfl (turn_c dat bit _ hdl) rfl rfl rfl rfl rfl ?_; clear hS; rintro v w rfl hS)
        | (refine WD.calls hS hM rfl rfl (turn_c kept bit _ hkl) rfl rfl rfl rfl rfl ?_; clear hS; rintro v w rfl hS)
        | (refine WD.pivStore hS rfl rfl rfl (by repeat (first | exact StB.here rfl | apply StB.there)) rfl rfl rfl rfl ?_; clear hS; intro w hS hM)
        | (refine WD.store hS rfl rfl rfl (by repeat (first | exact StB.here rfl | apply StB.there)) rfl More.none rfl rfl rfl rfl ?_; clear hS; intro w hS hM))
      | refine seqQ_n ?_)
    exact fin1r rfl rfl ⟨rfl, hS.mutOf (by repeat (first | exact List.Mem.head _ | apply List.Mem.tail))⟩
  · have hR : D.rot p bit = (D.file p, D) := by unfold Dk.rot; rw [if_pos he]
    rw [hR]
    repeat' (first
      | (show WL _ _ _ _ _ _ _; first
        | refine WL.pure rfl rfl rfl rfl ?_
        | refine WL.nil ?_
        | (refine WL.calls hS rfl rfl (dfile_c p (hS.holds (dkC q mb lb D) (by repeat (first | exact List.Mem.head _ | apply List.Mem.tail))).1 hl) rfl rfl rfl ?_; rintro v w rfl hS))
      | (show WC _ _ _ _ _ _; first
        | refine WC.seq ?_
        | refine WC.region ?_
        | refine WC.ret ?_
        | refine WC.condT rfl (decide_eq_true (by first | with_reducible assumption | omega)) ?_)
      | refine seqQ_n ?_
      | refine seqQ_r ?_)
    exact fin1r rfl rfl ⟨rfl, hS.mutOf (by repeat (first | exact List.Mem.head _ | apply List.Mem.tail))⟩
end Go.Proofs.YtggalmiaofeikaaDoor

/- What is proved: what the journal does to its file and to itself. Conditions: no limit at the disk, texts of bounded length. -/
set_option linter.unusedSimpArgs false
set_option linter.unusedVariables false
namespace Go.Proofs.YtggalmiaofeikaaDoor
open Go Go.J Go.RowKit

/-- no limits, and no file is great -/
def Dk.Sm (D : Dk) (B : Nat) : Prop := D.limits = [] ∧ ∀ x ∈ D.items, x.2.data.length ≤ B
theorem mget_mem {β : Type} {m : List (List UInt8 × β)} {x : List UInt8} {v : β} (h : mget m x = some v) : (x, v) ∈ m := by
  induction m with
  | nil => simp [mget] at h
  | cons p r ih =>
    obtain ⟨k, u⟩ := p
    unfold mget at h
    by_cases e : x = k
    · rw [if_pos e] at h; simp only [Option.some.injEq] at h; subst e; subst h; exact List.mem_cons_self ..
    · rw [if_neg e] at h; exact List.mem_cons_of_mem _ (ih h)
theorem mem_mset {β : Type} {m : List (List UInt8 × β)} {x : List UInt8} {v : β} {y : List UInt8 × β} (h : y ∈ mset m x v) : y ∈ m ∨ y.2 = v := by
  induction m with
  | nil => simp [mset] at h; exact .inr (by rw [h])
  | cons p r ih =>
    obtain ⟨k, u⟩ := p
    unfold mset at h
    by_cases e : x = k
    · rw [if_pos e] at h
      rcases List.mem_cons.1 h with rfl | h
      · exact .inr rfl
      · exact .inl (List.mem_cons_of_mem _ h)
    · rw [if_neg e] at h
      rcases List.mem_cons.1 h with rfl | h
      · exact .inl (List.mem_cons_self ..)
      · rcases ih h with h | h
        · exact .inl (List.mem_cons_of_mem _ h)
        · exact .inr h
theorem Dk.Sm.at_ {D : Dk} {B : Nat} (h : D.Sm B) (p : List UInt8) : (D.at p).data.length ≤ B := by
  unfold Dk.at
  cases e : mget D.items p with
  | none => exact Nat.zero_le _
  | some x => exact h.2 _ (mget_mem e)
theorem Dk.Sm.no {D : Dk} {B : Nat} (h : D.Sm B) (p : List UInt8) : mget D.limits p = none := by rw [h.1]; rfl
theorem Dk.step_items (D : Dk) : D.step.items = D.items := by unfold Dk.step; split <;> rfl
theorem Dk.step_limits (D : Dk) : D.step.limits = D.limits := by unfold Dk.step; split <;> rfl
theorem Dk.step_at (D : Dk) (p : List UInt8) : D.step.at p = D.at p := by unfold Dk.at; rw [Dk.step_items]
theorem Dk.Sm.step {D : Dk} {B : Nat} (h : D.Sm B) : D.step.Sm B := ⟨by rw [Dk.step_limits]; exact h.1, by rw [Dk.step_items]; exact h.2⟩
theorem Dk.Sm.set {D : Dk} {B : Nat} (h : D.Sm B) {p : List UInt8} {x : It} (hx : x.data.length ≤ B) : (D.set p x).Sm B :=
  ⟨h.1, fun y hy => by
    rcases mem_mset hy with h1 | h1
    · exact h.2 y h1
    · rw [h1]; exact hx⟩
theorem Dk.Sm.put {D : Dk} {B : Nat} (h : D.Sm B) {p : List UInt8} {x : It} (hx : x.data.length ≤ B) : Dk.Sm { D with items := mset D.items p x } B :=
  ⟨h.1, fun y hy => by
    rcases mem_mset hy with h1 | h1
    · exact h.2 y h1
    · rw [h1]; exact hx⟩
theorem Dk.Sm.del {D : Dk} {B : Nat} (h : D.Sm B) {p : List UInt8} : (D.del p).Sm B := ⟨h.1, fun y hy => h.2 y ((mdel_sub _ _).mem hy)⟩
theorem Dk.Sm.write {D : Dk} {B : Nat} (h : D.Sm B) {p s : List UInt8} (hs : s.length ≤ B) : (D.write p s).2.Sm B := by
  unfold Dk.write
  repeat' split
  all_goals first | exact h | exact h.step | exact h.step.set hs
theorem Dk.Sm.sync {D : Dk} {B : Nat} (h : D.Sm B) {p : List UInt8} : (D.sync p).2.Sm B := by
  unfold Dk.sync
  repeat' split
  all_goals first | exact h | exact h.step | exact h.step.put (h.step.at_ p)
theorem Dk.Sm.rename {D : Dk} {B : Nat} (h : D.Sm B) {p r : List UInt8} : (D.rename p r).2.Sm B := by
  unfold Dk.rename
  repeat' split
  all_goals first | exact h | exact h.step | exact h.step.del.set (h.at_ p)
/-- a file's bytes put in its place -/
def Dk.fill (D : Dk) (p s : List UInt8) : Int × Dk :=
  if (D.write (p ++ [95, 116]) s).1 ≠ 0 then D.write (p ++ [95, 116]) s
  else if ((D.write (p ++ [95, 116]) s).2.sync (p ++ [95, 116])).1 ≠ 0 then (D.write (p ++ [95, 116]) s).2.sync (p ++ [95, 116])
  else ((D.write (p ++ [95, 116]) s).2.sync (p ++ [95, 116])).2.rename (p ++ [95, 116]) p
theorem Dk.Sm.fill {D : Dk} {B : Nat} (h : D.Sm B) {p s : List UInt8} (hs : s.length ≤ B) : (D.fill p s).2.Sm B := by
  unfold Dk.fill
  repeat' split
  all_goals first | exact h.write hs | exact (h.write hs).sync | exact (h.write hs).sync.rename

/-- a journal's variable -/
abbrev lgCells (q : Nat) (p : List UInt8) (A : Option Addr) (n cap : Nat) (dmg : Bool) : List Value := [.pointer (some ⟨q, 0, none⟩), str p, .slice A n cap, .bool dmg]
abbrev fillD (L q mb lb x1 x2 x3 : Nat) (D : Dk) (p t s : List UInt8) (A : Option Addr) (n cap : Nat) (dmg : Bool) : List Chunk :=
  [.box x1 22 [.pointer (some ⟨L, 0, none⟩)], .box x2 9 [str t], .box x3 9 [str s], .box L 41 [.pointer (some ⟨q, 0, none⟩), str p, .slice A n cap, .bool dmg], dkC q mb lb D]
section
variable {L q mb lb x1 x2 x3 : Nat} {D D' : Dk} {p t s : List UInt8} {A : Option Addr} {n cap : Nat} {dmg : Bool} {w0 : World} {e : Int}
set_option maxHeartbeats 4000000 in
set_option maxRecDepth 100000 in
theorem fill1_c (hi : InL w0 (fillD L q mb lb x1 x2 x3 D p t s A n cap dmg)) (hu : D.write t s = (e, D')) (hl : t.length ≤ 1099511627) (hno : D.Sm 1099511627776) (hdl : s.length ≤ 1099511627776) :
    Cal Tryd.prog 36 [.pointer (some ⟨x1, 0, none⟩), .pointer (some ⟨x2, 0, none⟩), .pointer (some ⟨x3, 0, none⟩)] w0
      (fun v w' => v = .int .i64 e ∧ MutL w0 w' (fillD L q mb lb x1 x2 x3 D p t s A n cap dmg) (fillD L q mb lb x1 x2 x3 D' p t s A n cap dmg)) := by
  refine Cal.mkL hi (by kernel_rfl) Tryd.func36 rfl rfl fun hS => ?_
  repeat' (first
    | (show WL _ _ _ _ _ _ _; first
      | refine WL.pure rfl rfl rfl rfl ?_
      | refine WL.nil ?_)
    | (show WC _ _ _ _ _ _; first
      | refine WC.seq ?_
      | refine WC.region ?_
      | refine WC.ret ?_
      | (show WC _ _ (Code.region _ (List.toArray [_, _, _, _, _, _, _, _]) true) _ _ _; refine WC.drawL [dkC q mb lb D] hS (by repeat (first | exact Pulls.nil | (apply Pulls.cons; focus (repeat (first | exact Pull.here | apply Pull.there))))) [0,1,2,3,4,5,7] [0,1,2,3,4,5,6,7] (by kernel_rfl) (by kernel_rfl) ?_; clear hS; intro w hS hM))
    | (show WD _ _ _ _ _ _ _ _ _; first
      | refine WD.pure rfl rfl rfl rfl rfl ?_
      | refine WD.nil ?_
      | refine WD.load rfl rfl (LdOk.box (by repeat (first | exact List.Mem.head _ | apply List.Mem.tail)) rfl) rfl rfl rfl rfl ?_
      | (refine WD.callL (D := [dkC q mb lb D]) hS (by repeat (first | exact Pulls.nil | (apply Pulls.cons; focus (repeat (first | exact Pull.here | apply Pull.there))))) (.refl _ _) rfl rfl (fun hI => write_c t s hI.head hI.headB hl (hno.no _) hdl (hno.at_ _)) rfl rfl rfl rfl rfl ?_; rintro v w ⟨rfl, hm⟩; rw [hu] at hm ⊢; refine ⟨_, .of1 hm, fun hS hM => ?_⟩; clear hm))
    | refine seqQ_n ?_)
  exact fin1r rfl rfl ⟨rfl, hS.mutLp (by repeat (first | exact Pulls.nil | (apply Pulls.cons; focus (repeat (first | exact Pull.here | apply Pull.there)))))⟩
set_option maxHeartbeats 4000000 in
set_option maxRecDepth 100000 in
theorem fill2_c (hi : InL w0 (fillD L q mb lb x1 x2 x3 D p t s A n cap dmg)) (hu : D.sync t = (e, D')) (hl : t.length ≤ 1099511627) :
    Cal Tryd.prog 38 [.pointer (some ⟨x1, 0, none⟩), .pointer (some ⟨x2, 0, none⟩)] w0
      (fun v w' => v = .int .i64 e ∧ MutL w0 w' (fillD L q mb lb x1 x2 x3 D p t s A n cap dmg) (fillD L q mb lb x1 x2 x3 D' p t s A n cap dmg)) := by
  refine Cal.mkL hi (by kernel_rfl) Tryd.func38 rfl rfl fun hS => ?_
  repeat' (first
    | (show WL _ _ _ _ _ _ _; first
      | refine WL.pure rfl rfl rfl rfl ?_
      | refine WL.nil ?_)
    | (show WC _ _ _ _ _ _; first
      | refine WC.seq ?_
      | refine WC.region ?_
      | refine WC.ret ?_
      | (show WC _ _ (Code.region _ (List.toArray [_, _, _, _, _, _, _]) true) _ _ _; refine WC.drawL [dkC q mb lb D] hS (by repeat (first | exact Pulls.nil | (apply Pulls.cons; focus (repeat (first | exact Pull.here | apply Pull.there))))) [0,1,2,3,4,6] [0,1,2,3,4,5,6] (by kernel_rfl) (by kernel_rfl) ?_; clear hS; intro w hS hM))
    | (show WD _ _ _ _ _ _ _ _ _; first
      | refine WD.pure rfl rfl rfl rfl rfl ?_
      | refine WD.nil ?_
      | refine WD.load rfl rfl (LdOk.box (by repeat (first | exact List.Mem.head _ | apply List.Mem.tail)) rfl) rfl rfl rfl rfl ?_
      | (refine WD.callL (D := [dkC q mb lb D]) hS (by repeat (first | exact Pulls.nil | (apply Pulls.cons; focus (repeat (first | exact Pull.here | apply Pull.there))))) (.refl _ _) rfl rfl (fun hI => sync_c t hI.head hI.headB hl) rfl rfl rfl rfl rfl ?_; rintro v w ⟨rfl, hm⟩; rw [hu] at hm ⊢; refine ⟨_, .of1 hm, fun hS hM => ?_⟩; clear hm))
    | refine seqQ_n ?_)
  exact fin1r rfl rfl ⟨rfl, hS.mutLp (by repeat (first | exact Pulls.nil | (apply Pulls.cons; focus (repeat (first | exact Pull.here | apply Pull.there)))))⟩
set_option maxHeartbeats 4000000 in
set_option maxRecDepth 100000 in
theorem fill3_c (hi : InL w0 (fillD L q mb lb x1 x2 x3 D p t s A n cap dmg)) (hu : D.rename t p = (e, D')) (hl : t.length ≤ 1099511627) (hl2 : p.length ≤ 1099511627) (hno : D.Sm 1099511627776) :
    Cal Tryd.prog 39 [.pointer (some ⟨x1, 0, none⟩), .pointer (some ⟨x2, 0, none⟩)] w0
      (fun v w' => v = .int .i64 e ∧ MutL w0 w' (fillD L q mb lb x1 x2 x3 D p t s A n cap dmg) (fillD L q mb lb x1 x2 x3 D' p t s A n cap dmg)) := by
  refine Cal.mkL hi (by kernel_rfl) Tryd.func39 rfl rfl fun hS => ?_
  repeat' (first
    | (show WL _ _ _ _ _ _ _; first
      | refine WL.pure rfl rfl rfl rfl ?_
      | refine WL.nil ?_)
    | (show WC _ _ _ _ _ _; first
      | refine WC.seq ?_
      | refine WC.region ?_
      | refine WC.ret ?_
      | (show WC _ _ (Code.region _ (List.toArray [_, _, _, _, _, _, _, _, _, _, _]) true) _ _ _; refine WC.drawL [dkC q mb lb D] hS (by repeat (first | exact Pulls.nil | (apply Pulls.cons; focus (repeat (first | exact Pull.here | apply Pull.there))))) [0,1,2,3,4,5,6,7,8,10] [0,1,2,3,4,5,6,7,8,9,10] (by kernel_rfl) (by kernel_rfl) ?_; clear hS; intro w hS hM))
    | (show WD _ _ _ _ _ _ _ _ _; first
      | refine WD.pure rfl rfl rfl rfl rfl ?_
      | refine WD.nil ?_
      | refine WD.load rfl rfl (LdOk.box (by repeat (first | exact List.Mem.head _ | apply List.Mem.tail)) rfl) rfl rfl rfl rfl ?_
      | (refine WD.callL (D := [dkC q mb lb D]) hS (by repeat (first | exact Pulls.nil | (apply Pulls.cons; focus (repeat (first | exact Pull.here | apply Pull.there))))) (.refl _ _) rfl rfl (fun hI => rename_c t p hI.head hI.headB hl hl2 (hno.no _) (hno.at_ _) (hno.at_ _)) rfl rfl rfl rfl rfl ?_; rintro v w ⟨rfl, hm⟩; rw [hu] at hm ⊢; refine ⟨_, .of1 hm, fun hS hM => ?_⟩; clear hm))
    | refine seqQ_n ?_)
  exact fin1r rfl rfl ⟨rfl, hS.mutLp (by repeat (first | exact Pulls.nil | (apply Pulls.cons; focus (repeat (first | exact Pull.here | apply Pull.there)))))⟩
end
set_option maxHeartbeats 4000000 in
set_option maxRecDepth 100000 in
theorem fill_c {L q mb lb : Nat} {D D' : Dk} {p s : List UInt8} {A : Option Addr} {n cap : Nat} {dmg : Bool} {w0 : World} {e : Int}
    (hi : InL w0 [.box L 41 [.pointer (some ⟨q, 0, none⟩), str p, .slice A n cap, .bool dmg], dkC q mb lb D]) (hu : D.fill p s = (e, D')) (hl : p.length ≤ 1099511620) (hno : D.Sm 1099511627776) (hdl : s.length ≤ 1099511627776) :
    Cal Tryd.prog 22 [.pointer (some ⟨L, 0, none⟩), str s] w0
      (fun v w' => v = .int .i64 e ∧ MutL w0 w' [.box L 41 [.pointer (some ⟨q, 0, none⟩), str p, .slice A n cap, .bool dmg], dkC q mb lb D] [.box L 41 [.pointer (some ⟨q, 0, none⟩), str p, .slice A n cap, .bool dmg], dkC q mb lb D']) := by
  refine Cal.mkL hi (by kernel_rfl) Tryd.func22 rfl rfl fun hS => ?_
  obtain ⟨t, ht⟩ : ∃ t, t = p ++ [95, 116] := ⟨_, rfl⟩
  have htl : t.length ≤ 1099511627 := by rw [ht]; simp; omega
  rcases h1 : D.write t s with ⟨e1, D1⟩
  rcases h2 : D1.sync t with ⟨e2, D2⟩
  rcases h3 : D2.rename t p with ⟨e3, D3⟩
  have m1 : D1.Sm 1099511627776 := by have := hno.write (p := t) hdl; rwa [h1] at this
  have m2 : D2.Sm 1099511627776 := by have := m1.sync (p := t); rwa [h2] at this
  have hu : (if e1 ≠ 0 then (e1, D1) else if e2 ≠ 0 then (e2, D2) else (e3, D3)) = (e, D') := by
    rw [← hu]; unfold Dk.fill; rw [← ht, h1]; dsimp only; rw [h2]; dsimp only; rw [h3]
  repeat' (first
    | (show WL _ _ _ _ _ _ _; first
      | (refine WL.mkF rfl rfl rfl rfl rfl rfl ?_)
      | refine WL.pure rfl rfl rfl rfl ?_
      | refine WL.nil ?_
      | refine WL.load hS rfl rfl (LdOk.box (by repeat (first | exact List.Mem.head _ | apply List.Mem.tail)) rfl) rfl rfl rfl ?_
      | refine WL.add rfl rfl rfl (by omega) rfl rfl rfl ?_
      | (refine WL.index (j := 1) rfl rfl rfl rfl (by omega) rfl rfl rfl rfl ?_)
      | (refine WL.index (j := 2) rfl rfl rfl rfl (by omega) rfl rfl rfl rfl ?_)
      | (refine WL.cat rfl rfl rfl (by simp; omega) rfl rfl rfl ?_; rw [← ht])
      | (refine WL.callFL (D := fillD L q mb lb _ _ _ D p t s A n cap dmg) hS (by repeat (first | exact Pulls.nil | (apply Pulls.cons; focus (repeat (first | exact Pull.here | apply Pull.there))))) rfl rfl rfl (fun hI => fill1_c hI h1 htl hno hdl) rfl rfl rfl ?_; rintro v w ⟨rfl, hm⟩ hS; replace hS := hS _ hm; clear hm)
      | (refine WL.callFL (D := fillD L q mb lb _ _ _ D1 p t s A n cap dmg) hS (by repeat (first | exact Pulls.nil | (apply Pulls.cons; focus (repeat (first | exact Pull.here | apply Pull.there))))) rfl rfl rfl (fun hI => fill2_c hI h2 htl) rfl rfl rfl ?_; rintro v w ⟨rfl, hm⟩ hS; replace hS := hS _ hm; clear hm)
      | (refine WL.callFL (D := fillD L q mb lb _ _ _ D2 p t s A n cap dmg) hS (by repeat (first | exact Pulls.nil | (apply Pulls.cons; focus (repeat (first | exact Pull.here | apply Pull.there))))) rfl rfl rfl (fun hI => fill3_c hI h3 htl (by omega) m2) rfl rfl rfl ?_; rintro v w ⟨rfl, hm⟩ hS; replace hS := hS _ hm; clear hm)
      | (refine WL.store hS rfl rfl rfl (by repeat (first | exact StB.here rfl | apply StB.there)) rfl rfl rfl ?_; intro w hS)
      | (refine WL.box hS rfl rfl rfl rfl rfl ?_; intro w b hS)
      | (refine WL.alloc hS rfl rfl rfl rfl rfl rfl ?_; intro w b hS)
      | refine WL.index (j := 0) rfl rfl rfl rfl (by omega) rfl rfl rfl rfl ?_
      | (refine WL.slit hS rfl rfl rfl rfl rfl ?_; intro w b hS))
    | (show WC _ _ _ _ _ _; first
      | refine WC.seq ?_
      | refine WC.region ?_
      | refine WC.block ?_
      | refine WC.skip ?_
      | refine WC.exit ?_
      | refine WC.ret ?_
      | (refine WC.rounds 3 ?_)
      | refine WC.condT rfl (by decide) ?_
      | refine WC.condF rfl (by decide) ?_
      | (refine WC.cond rfl (fun h => ?_) (fun h => ?_) <;> (try simp only [Classical.not_not, Bool.not_eq_true', Bool.not_eq_false', Bool.not_eq_eq_eq_not, Bool.not_true, Bool.not_false, beq_iff_eq, beq_eq_false_iff_ne, ne_eq, decide_eq_decide, decide_eq_true_eq, decide_eq_false_iff_not, Bool.and_eq_true, Bool.or_eq_true, Bool.and_eq_false_iff, Bool.or_eq_false_iff] at h) <;> (try (exfalso; first | omega | contradiction))))
    | refine seqQ_n ?_
    | refine blkQ_n ?_
    | refine seqQ_x ?_
    | refine seqQ_r ?_
    | refine blkQ_r ?_
    | refine blkQ_hit rfl ?_
    | refine rdQ_n ?_
    | refine rdQ_x ?_
    | refine rdQ_r ?_)
  all_goals
    clear h1 h2 h3 m1 m2
    simp [*] at hu
    obtain ⟨hu1, hu2⟩ := hu
    subst hu2
    exact fin1r rfl rfl ⟨vint (by omega), hS.mutLp (by repeat (first | exact Pulls.nil | (apply Pulls.cons; focus (repeat (first | exact Pull.here | apply Pull.there)))))⟩
/-- a journal -/
structure Lg where
  p : List UInt8
  recs : List (List UInt8)
  dmg : Bool
def lgφ (L q : Nat) (G : Lg) (D : List Chunk) : Prop := ∃ A cap, D = [.box L 41 [.pointer (some ⟨q, 0, none⟩), str G.p, .slice A G.recs.length cap, .bool G.dmg], .own (.slice A G.recs.length cap) 9 1 G.recs.length (strs G.recs)]
abbrev lgC (L q : Nat) (G : Lg) (fp : List Nat) : Chunk := objC (lgφ L q G) fp
def Lg.reset (G : Lg) (e : Int) : Lg := if e = 0 then { G with recs := [] } else G
set_option maxHeartbeats 4000000 in
set_option maxRecDepth 100000 in
theorem reset_c {L q mb lb : Nat} {D D' : Dk} {G : Lg} {fp : List Nat} {w0 : World} {e : Int} (hi : InL w0 [lgC L q G fp, dkC q mb lb D]) (hu : D.fill G.p [] = (e, D')) (hl : G.p.length ≤ 1099511620) (hno : D.Sm 1099511627776) :
    Cal Tryd.prog 10 [.pointer (some ⟨L, 0, none⟩)] w0
      (fun v w' => v = .int .i64 e ∧ ∃ fp', MutL w0 w' [lgC L q G fp, dkC q mb lb D] [lgC L q (G.reset e) fp', dkC q mb lb D']) := by
  refine Cal.mkL hi (by kernel_rfl) Tryd.func10 rfl rfl fun hS => ?_
  obtain ⟨_, ⟨A, cap, rfl⟩, hfp, hS⟩ := St.objOpen hS
  replace hS : St w0 _ w0 [.box L 41 [.pointer (some ⟨q, 0, none⟩), str G.p, .slice A G.recs.length cap, .bool G.dmg], .own (.slice A G.recs.length cap) 9 1 G.recs.length (strs G.recs), dkC q mb lb D] _ := hS
  repeat' (first
    | (show WL _ _ _ _ _ _ _; first
      | refine WL.pure rfl rfl rfl rfl ?_
      | refine WL.nil ?_
      | (refine WL.callL (D := [.box L 41 [.pointer (some ⟨q, 0, none⟩), str G.p, .slice A G.recs.length cap, .bool G.dmg], dkC q mb lb D]) hS (by repeat (first | exact Pulls.nil | (apply Pulls.cons; focus (repeat (first | exact Pull.here | apply Pull.there))))) rfl rfl (fun hI => fill_c hI hu hl hno (by simp)) rfl rfl rfl ?_; rintro v w ⟨rfl, hm⟩ hS; replace hS := hS _ hm; clear hm)
      | (refine WL.store hS rfl rfl rfl (by repeat (first | exact StB.here rfl | apply StB.there)) rfl rfl rfl ?_; intro w hS))
    | (show WC _ _ _ _ _ _; first
      | refine WC.seq ?_
      | refine WC.region ?_
      | refine WC.skip ?_
      | refine WC.ret ?_
      | refine WC.condF rfl (by with_reducible rfl) ?_
      | (refine WC.cond rfl (fun h => ?_) (fun h => ?_) <;> (try simp only [Classical.not_not, Bool.not_eq_true', Bool.not_eq_false', Bool.not_eq_eq_eq_not, Bool.not_true, Bool.not_false, beq_iff_eq, beq_eq_false_iff_ne, ne_eq, decide_eq_decide, decide_eq_true_eq, decide_eq_false_iff_not, Bool.and_eq_true, Bool.or_eq_true, Bool.and_eq_false_iff, Bool.or_eq_false_iff] at h) <;> (try (exfalso; first | omega | contradiction))))
    | refine seqQ_n ?_
    | refine seqQ_r ?_)
  · rw [show G.reset e = G from if_neg h]
    have hS := St.objClose (φ := lgφ L q G) (hS.pulls (D := [.box L 41 [.pointer (some ⟨q, 0, none⟩), str G.p, .slice A G.recs.length cap, .bool G.dmg], .own (.slice A G.recs.length cap) 9 1 G.recs.length (strs G.recs)]) (by repeat (first | exact Pulls.nil | (apply Pulls.cons; focus (repeat (first | exact Pull.here | apply Pull.there)))))) ⟨A, cap, rfl⟩
    exact fin1r rfl rfl ⟨rfl, _, hS.mutLp (by repeat (first | exact Pulls.nil | (apply Pulls.cons; focus (repeat (first | exact Pull.here | apply Pull.there)))))⟩
  · subst h
    have hS := hS.nilRow 9 1
    have hS := St.objClose (φ := lgφ L q (G.reset 0)) (hS.pulls (D := [.box L 41 [.pointer (some ⟨q, 0, none⟩), str G.p, .slice none 0 0, .bool G.dmg], .own (.slice none 0 0) 9 1 0 []]) (by repeat (first | exact Pulls.nil | (apply Pulls.cons; focus (repeat (first | exact Pull.here | apply Pull.there)))))) ⟨none, 0, rfl⟩
    exact fin1r rfl rfl ⟨rfl, _, hS.mutLp (by repeat (first | exact Pulls.nil | (apply Pulls.cons; focus (repeat (first | exact Pull.here | apply Pull.there)))))⟩
theorem strs_one (l : List (List UInt8)) : one (strs l) = true := by
  unfold one
  rw [List.all_eq_true]
  intro x hx
  obtain ⟨s, _, hx⟩ := List.mem_flatMap.1 hx
  rw [List.mem_singleton.1 hx]; rfl
def Lg.push (G : Lg) (r : List UInt8) : Lg := { G with recs := G.recs ++ [r] }
def walAdd (G : Lg) (D : Dk) (r : List UInt8) : Int × Lg × Dk :=
  if (D.append G.p (packE r)).1 ≠ 0 then ((D.append G.p (packE r)).1, G, (D.append G.p (packE r)).2)
  else if ((D.append G.p (packE r)).2.sync G.p).1 ≠ 0 then (((D.append G.p (packE r)).2.sync G.p).1, G, ((D.append G.p (packE r)).2.sync G.p).2)
  else (0, G.push r, ((D.append G.p (packE r)).2.sync G.p).2)
set_option maxHeartbeats 4000000 in
set_option maxRecDepth 100000 in
theorem add_c {L q mb lb : Nat} {D D' : Dk} {G G' : Lg} {fp : List Nat} {w0 : World} {e : Int} (r : List UInt8) (hi : InL w0 [lgC L q G fp, dkC q mb lb D]) (hu : walAdd G D r = (e, G', D')) (hl : G.p.length ≤ 1099511620) (hno : D.limits = [])
    (hr : r.length ≤ 4194304) (hd : (D.step.at G.p).data.length ≤ 549755813888) (hn : G.recs.length ≤ 4194304) :
    Cal Tryd.prog 9 [.pointer (some ⟨L, 0, none⟩), str r] w0
      (fun v w' => v = .int .i64 e ∧ ∃ fp', MutL w0 w' [lgC L q G fp, dkC q mb lb D] [lgC L q G' fp', dkC q mb lb D']) := by
  refine Cal.mkL hi (by kernel_rfl) Tryd.func9 rfl rfl fun hS => ?_
  obtain ⟨_, ⟨A, cap, rfl⟩, hfp, hS⟩ := St.objOpen hS
  replace hS : St w0 _ w0 [.box L 41 [.pointer (some ⟨q, 0, none⟩), str G.p, .slice A G.recs.length cap, .bool G.dmg], .own (.slice A G.recs.length cap) 9 1 G.recs.length (strs G.recs), dkC q mb lb D] _ := hS
  have hpl := packE_len r
  have hpn := putN_len10 (n := r.length) (by omega)
  rcases h1 : D.append G.p (packE r) with ⟨e1, D1⟩
  rcases h2 : D1.sync G.p with ⟨e2, D2⟩
  have hu : (if e1 ≠ 0 then (e1, G, D1) else if e2 ≠ 0 then (e2, G, D2) else (0, G.push r, D2)) = (e, G', D') := by
    rw [← hu]; unfold walAdd; rw [h1]; dsimp only; rw [h2]
  repeat' (first
    | (show WL _ _ _ _ _ _ _; first
      | refine WL.pure rfl rfl rfl rfl ?_
      | refine WL.nil ?_
      | refine WL.load hS rfl rfl (LdOk.box (by repeat (first | exact List.Mem.head _ | apply List.Mem.tail)) rfl) rfl rfl rfl ?_
      | (refine WL.app hS rfl rfl rfl rfl (RdOk.box (by repeat (first | exact List.Mem.head _ | apply List.Mem.tail))) rfl rfl (fun A' cap' => (by repeat (first | exact Repl.here | apply Repl.there))) (by omega) rfl rfl rfl ?_; intro A' cap' w hS)
      | (refine WL.store hS rfl rfl rfl (by repeat (first | exact StB.here rfl | apply StB.there)) rfl rfl rfl ?_; intro w hS)
      | (refine WL.slit hS rfl rfl rfl rfl rfl ?_; intro w b hS))
    | (show WC _ _ _ _ _ _; first
      | refine WC.seq ?_
      | refine WC.region ?_
      | refine WC.skip ?_
      | refine WC.ret ?_
      | (show WC _ _ (Code.region _ (List.toArray [_, _, _, _, _, _, _, _, _, _, _, _]) true) _ _ _; refine WC.drawL [dkC q mb lb D] hS (by repeat (first | exact Pulls.nil | (apply Pulls.cons; focus (repeat (first | exact Pull.here | apply Pull.there))))) [0,1,2,3,4,5,6,7,8,11] [0,1,2,3,4,5,6,7,8,9,10,11] (by kernel_rfl) (by kernel_rfl) ?_; clear hS; intro w hS hM)
      | (show WC _ _ (Code.region _ (List.toArray [_, _, _, _, _, _, _, _, _, _]) true) _ _ _; refine WC.drawL [dkC q mb lb D1] hS (by repeat (first | exact Pulls.nil | (apply Pulls.cons; focus (repeat (first | exact Pull.here | apply Pull.there))))) [0,1,2,3,4,5,6,7,9] [0,1,2,3,4,5,6,7,8,9] (by kernel_rfl) (by kernel_rfl) ?_; clear hS; intro w hS hM)
      | refine WC.condF rfl (by with_reducible rfl) ?_
      | (refine WC.cond rfl (fun h => ?_) (fun h => ?_) <;> (try simp only [Classical.not_not, Bool.not_eq_true', Bool.not_eq_false', Bool.not_eq_eq_eq_not, Bool.not_true, Bool.not_false, beq_iff_eq, beq_eq_false_iff_ne, ne_eq, decide_eq_decide, decide_eq_true_eq, decide_eq_false_iff_not, Bool.and_eq_true, Bool.or_eq_true, Bool.and_eq_false_iff, Bool.or_eq_false_iff] at h) <;> (try (exfalso; first | omega | contradiction))))
    | (show WD _ _ _ _ _ _ _ _ _; first
      | refine WD.pure rfl rfl rfl rfl rfl ?_
      | refine WD.nil ?_
      | refine WD.load rfl rfl (LdOk.box (by repeat (first | exact List.Mem.head _ | apply List.Mem.tail)) rfl) rfl rfl rfl rfl ?_
      | (refine WD.calls hS hM rfl rfl (pack_c r _ (by omega)) rfl rfl rfl rfl rfl ?_; clear hS; rintro v w rfl hS)
      | (refine WD.callL (D := [dkC q mb lb D]) hS (by repeat (first | exact Pulls.nil | (apply Pulls.cons; focus (repeat (first | exact Pull.here | apply Pull.there))))) (.refl _ _) rfl rfl (fun hI => append_c G.p (packE r) hI.head hI.headB (by omega) (by rw [hno]; rfl) (by omega)) rfl rfl rfl rfl rfl ?_; rintro v w ⟨rfl, hm⟩; rw [h1] at hm ⊢; refine ⟨_, .of1 hm, fun hS hM => ?_⟩; clear hm)
      | (refine WD.callL (D := [dkC q mb lb D1]) hS (by repeat (first | exact Pulls.nil | (apply Pulls.cons; focus (repeat (first | exact Pull.here | apply Pull.there))))) (.refl _ _) rfl rfl (fun hI => sync_c G.p hI.head hI.headB (by omega)) rfl rfl rfl rfl rfl ?_; rintro v w ⟨rfl, hm⟩; rw [h2] at hm ⊢; refine ⟨_, .of1 hm, fun hS hM => ?_⟩; clear hm))
    | refine seqQ_n ?_
    | refine seqQ_r ?_)
  · rw [if_pos h] at hu
    cases hu
    have hS := St.objClose (φ := lgφ L q G) (hS.pulls (D := [.box L 41 [.pointer (some ⟨q, 0, none⟩), str G.p, .slice A G.recs.length cap, .bool G.dmg], .own (.slice A G.recs.length cap) 9 1 G.recs.length (strs G.recs)]) (by repeat (first | exact Pulls.nil | (apply Pulls.cons; focus (repeat (first | exact Pull.here | apply Pull.there)))))) ⟨A, cap, rfl⟩
    exact fin1r rfl rfl ⟨rfl, _, hS.mutLp (by repeat (first | exact Pulls.nil | (apply Pulls.cons; focus (repeat (first | exact Pull.here | apply Pull.there)))))⟩
  · rw [if_neg (fun hh => hh (by assumption)), if_pos h] at hu
    cases hu
    have hS := St.objClose (φ := lgφ L q G) (hS.pulls (D := [.box L 41 [.pointer (some ⟨q, 0, none⟩), str G.p, .slice A G.recs.length cap, .bool G.dmg], .own (.slice A G.recs.length cap) 9 1 G.recs.length (strs G.recs)]) (by repeat (first | exact Pulls.nil | (apply Pulls.cons; focus (repeat (first | exact Pull.here | apply Pull.there)))))) ⟨A, cap, rfl⟩
    exact fin1r rfl rfl ⟨rfl, _, hS.mutLp (by repeat (first | exact Pulls.nil | (apply Pulls.cons; focus (repeat (first | exact Pull.here | apply Pull.there)))))⟩
  · rw [if_neg (fun hh => hh (by assumption)), if_neg (fun hh => hh (by assumption))] at hu
    cases hu
    have hS := St.objClose (φ := lgφ L q (G.push r)) (hS.pulls (D := [.box L 41 [.pointer (some ⟨q, 0, none⟩), str G.p, .slice A' (G.recs.length + 1) cap', .bool G.dmg], .own (.slice A' (G.recs.length + 1) cap') 9 1 (G.recs.length + 1) (strs G.recs ++ [str r])]) (by repeat (first | exact Pulls.nil | (apply Pulls.cons; focus (repeat (first | exact Pull.here | apply Pull.there)))))) ⟨A', cap', by simp [Lg.push, strs_snoc]⟩
    exact fin1r rfl rfl ⟨rfl, _, hS.mutLp (by repeat (first | exact Pulls.nil | (apply Pulls.cons; focus (repeat (first | exact Pull.here | apply Pull.there)))))⟩
set_option maxHeartbeats 4000000 in
set_option maxRecDepth 100000 in
theorem damaged_c {L q : Nat} {G : Lg} {fp : List Nat} {w0 : World} (hi : InL w0 [lgC L q G fp]) :
    Cal Tryd.prog 12 [.pointer (some ⟨L, 0, none⟩)] w0 (fun v w' => v = .bool G.dmg ∧ MutL w0 w' [lgC L q G fp] [lgC L q G fp]) := by
  refine Cal.mkL hi (by kernel_rfl) Tryd.func12 rfl rfl fun hS => ?_
  obtain ⟨_, ⟨A, cap, rfl⟩, hfp, hS⟩ := St.objOpen hS
  replace hS : St w0 _ w0 [.box L 41 [.pointer (some ⟨q, 0, none⟩), str G.p, .slice A G.recs.length cap, .bool G.dmg], .own (.slice A G.recs.length cap) 9 1 G.recs.length (strs G.recs)] _ := hS
  repeat' (first
    | (show WL _ _ _ _ _ _ _; first
      | refine WL.pure rfl rfl rfl rfl ?_
      | refine WL.nil ?_
      | refine WL.load hS rfl rfl (LdOk.box (by repeat (first | exact List.Mem.head _ | apply List.Mem.tail)) rfl) rfl rfl rfl ?_)
    | (show WC _ _ _ _ _ _; first
      | refine WC.seq ?_
      | refine WC.region ?_
      | refine WC.ret ?_)
    | refine seqQ_n ?_)
  have hS := St.objClose (φ := lgφ L q G) (H := []) hS ⟨A, cap, rfl⟩
  rw [← hfp] at hS
  exact fin1r rfl rfl ⟨by simp, hS.mutLp (by repeat (first | exact Pulls.nil | (apply Pulls.cons; focus (repeat (first | exact Pull.here | apply Pull.there)))))⟩
set_option maxHeartbeats 4000000 in
set_option maxRecDepth 100000 in
theorem records_c {L q : Nat} {G : Lg} {fp : List Nat} {w0 : World} (hi : InL w0 [lgC L q G fp]) (hn : G.recs.length ≤ 4194304) :
    Cal Tryd.prog 11 [.pointer (some ⟨L, 0, none⟩)] w0 (fun v w' => ∃ A cap, v = .slice A G.recs.length cap ∧ MutL w0 w' [lgC L q G fp] [lgC L q G fp, .own (.slice A G.recs.length cap) 9 1 G.recs.length (strs G.recs)]) := by
  refine Cal.mkL hi (by kernel_rfl) Tryd.func11 rfl rfl fun hS => ?_
  obtain ⟨_, ⟨A, cap, rfl⟩, hfp, hS⟩ := St.objOpen hS
  replace hS : St w0 _ w0 [.box L 41 [.pointer (some ⟨q, 0, none⟩), str G.p, .slice A G.recs.length cap, .bool G.dmg], .own (.slice A G.recs.length cap) 9 1 G.recs.length (strs G.recs)] _ := hS
  repeat' (first
    | (show WL _ _ _ _ _ _ _; first
      | refine WL.pure rfl rfl rfl rfl ?_
      | refine WL.nil ?_
      | refine WL.load hS rfl rfl (LdOk.box (by repeat (first | exact List.Mem.head _ | apply List.Mem.tail)) rfl) rfl rfl rfl ?_
      | (have hS := hS.boxRow (n := 0) (size := 1) (by repeat (first | exact Repl.here | apply Repl.there)) rfl (by decide); refine WL.appS (news := strs G.recs) hS rfl rfl rfl rfl (RdSl.own hS (by repeat (first | exact List.Mem.head _ | apply List.Mem.tail))) (by rw [strs_len, Nat.mul_one]) (strs_one _) (fun A' cap' => (by repeat (first | exact Repl.here | apply Repl.there))) (by omega) rfl rfl rfl ?_; intro A' cap' w hS)
      | (refine WL.slit hS rfl rfl rfl rfl rfl ?_; intro w b hS))
    | (show WC _ _ _ _ _ _; first
      | refine WC.seq ?_
      | refine WC.region ?_
      | refine WC.skip ?_
      | refine WC.ret ?_
      | refine WC.condF rfl (by with_reducible rfl) ?_)
    | refine seqQ_n ?_)
  simp only [repZ, List.nil_append, Nat.zero_add] at hS
  have hS := St.objClose (φ := lgφ L q G) (hS.pulls (D := [.box L 41 [.pointer (some ⟨q, 0, none⟩), str G.p, .slice A G.recs.length cap, .bool G.dmg], .own (.slice A G.recs.length cap) 9 1 G.recs.length (strs G.recs)]) (by repeat (first | exact Pulls.nil | (apply Pulls.cons; focus (repeat (first | exact Pull.here | apply Pull.there)))))) ⟨A, cap, rfl⟩
  rw [← hfp] at hS
  exact fin1r rfl rfl ⟨_, _, by rw [Nat.zero_add], hS.mutLp (by repeat (first | exact Pulls.nil | (apply Pulls.cons; focus (repeat (first | exact Pull.here | apply Pull.there)))))⟩
end Go.Proofs.YtggalmiaofeikaaDoor

/- What is proved: what opening a journal answers. Conditions: no limit at the disk, texts of bounded length. -/
set_option linter.unusedSimpArgs false
set_option linter.unusedVariables false
namespace Go.Proofs.YtggalmiaofeikaaDoor
open Go Go.J Go.RowKit

/-- the error, the journal, the disk behind it -/
def walOpen (D : Dk) (p : List UInt8) : Int × Option Lg × Dk :=
  if D.kind p = 0 then (if (D.fill p []).1 ≠ 0 then ((D.fill p []).1, none, (D.fill p []).2) else (0, some ⟨p, [], false⟩, (D.fill p []).2))
  else if (D.read p).2 ≠ 0 then ((D.read p).2, none, D)
  else if (scanE (D.read p).1).2.2 ≠ 0 then
    (if (D.fill p ((D.read p).1.take (scanE (D.read p).1).2.1)).1 ≠ 0 then ((D.fill p ((D.read p).1.take (scanE (D.read p).1).2.1)).1, none, (D.fill p ((D.read p).1.take (scanE (D.read p).1).2.1)).2)
      else (0, some ⟨p, (scanE (D.read p).1).1, decide ((scanE (D.read p).1).2.2 = 6 ∨ (scanE (D.read p).1).2.2 = 3)⟩, (D.fill p ((D.read p).1.take (scanE (D.read p).1).2.1)).2))
  else (0, some ⟨p, (scanE (D.read p).1).1, decide ((scanE (D.read p).1).2.2 = 6 ∨ (scanE (D.read p).1).2.2 = 3)⟩, D)
def openR (q mb lb : Nat) (D : Dk) (w0 : World) (r : Int × Option Lg × Dk) (v : Value) (w' : World) : Prop :=
  match r with
  | (e, none, D') => v = .tuple #[.pointer none, .int .i64 e] ∧ MutL w0 w' [dkC q mb lb D] [dkC q mb lb D']
  | (e, some G, D') => ∃ L fp, v = .tuple #[.pointer (some ⟨L, 0, none⟩), .int .i64 e] ∧ MutL w0 w' [dkC q mb lb D] [lgC L q G fp, dkC q mb lb D']
set_option maxHeartbeats 4000000 in
set_option maxRecDepth 100000 in
theorem openNil_c (p : List UInt8) (w0 : World) : Cal Tryd.prog 7 [.pointer none, str p] w0 (fun v w' => Upd [] w0 w' ∧ v = .tuple #[.pointer none, .int .i64 1]) := by
  refine Cal.mk' (by kernel_rfl) Tryd.func7 rfl rfl fun hS => ?_
  repeat' (first
    | (show WL _ _ _ _ _ _ _; first
      | refine WL.pure rfl rfl rfl rfl ?_
      | refine WL.nil ?_)
    | (show WC _ _ _ _ _ _; first
      | refine WC.seq ?_
      | refine WC.region ?_
      | refine WC.ret ?_
      | refine WC.condT rfl (by with_reducible rfl) ?_)
    | refine seqQ_n ?_
    | refine seqQ_r ?_)
  exact fin2r rfl rfl rfl ⟨hS.upd, rfl⟩
theorem scanF_le : ∀ (k : Nat) (t : List UInt8), (scanF k t).2.1 ≤ t.length
  | 0, t => by simp [scanF]
  | k + 1, t => by
    unfold scanF
    by_cases h0 : t = []
    · rw [if_pos h0]; exact Nat.zero_le _
    · rw [if_neg h0]
      by_cases he : (readE t).2.2 = 0
      · rw [if_pos he]
        have := scanF_le k (t.drop (readE t).2.1)
        rw [List.length_drop] at this
        have := readE_le t he
        show (readE t).2.1 + _ ≤ _
        omega
      · rw [if_neg he]; exact Nat.zero_le _
theorem scanE_le (t : List UInt8) : (scanE t).2.1 ≤ t.length := scanF_le _ _
set_option maxHeartbeats 8000000 in
set_option maxRecDepth 100000 in
theorem open_c {q mb lb : Nat} {D : Dk} (p : List UInt8) {w0 : World} (hi : InL w0 [dkC q mb lb D]) (hl : p.length ≤ 1099511620) (hno : D.Sm 1099511627776) :
    Cal Tryd.prog 7 [.pointer (some ⟨q, 0, none⟩), str p] w0 (openR q mb lb D w0 (walOpen D p)) := by
  refine Cal.mkL hi (by kernel_rfl) Tryd.func7 rfl rfl fun hS => ?_
  by_cases hk : D.kind p = 0
  · rcases hf : D.fill p [] with ⟨e, D'⟩
    have hu : walOpen D p = if e ≠ 0 then (e, none, D') else (0, some ⟨p, [], false⟩, D') := by unfold walOpen; rw [if_pos hk, hf]
    rw [hu]
    repeat' (first
      | (show WL _ _ _ _ _ _ _; first
        | refine WL.pure rfl rfl rfl rfl ?_
        | refine WL.nil ?_
        | (refine WL.calls hS rfl rfl (dkind_c p (hS.holds (dkC q mb lb D) (by repeat (first | exact List.Mem.head _ | apply List.Mem.tail))).1) rfl rfl rfl ?_; rintro v w rfl hS; rw [hk])
        | (have hS := St.objClose (φ := lgφ _ q ⟨p, [], false⟩) ((hS.nilRow 9 1).pulls (D := [.box _ 41 [.pointer (some ⟨q, 0, none⟩), str p, .slice none 0 0, .bool false], .own (.slice none 0 0) 9 1 0 []]) (by repeat (first | exact Pulls.nil | (apply Pulls.cons; focus (repeat (first | exact Pull.here | apply Pull.there)))))) ⟨none, 0, rfl⟩; refine WL.callL (D := [lgC _ q ⟨p, [], false⟩ _, dkC q mb lb D]) hS (by repeat (first | exact Pulls.nil | (apply Pulls.cons; focus (repeat (first | exact Pull.here | apply Pull.there))))) rfl rfl (fun hI => reset_c hI hf hl hno) rfl rfl rfl ?_; rintro v w ⟨rfl, fp', hm⟩ hS; replace hS := hS _ hm; clear hm)
        | (refine WL.box hS rfl rfl rfl rfl rfl ?_; intro w b hS)
        | refine WL.build rfl rfl rfl rfl rfl ?_)
      | (show WC _ _ _ _ _ _; first
        | refine WC.seq ?_
        | refine WC.region ?_
        | refine WC.skip ?_
        | refine WC.ret ?_
        | refine WC.condF rfl (by with_reducible rfl) ?_
        | refine WC.condT rfl (by decide) ?_
        | (refine WC.cond rfl (fun h => ?_) (fun h => ?_) <;> (try simp only [Classical.not_not, Bool.not_eq_true', Bool.not_eq_false', Bool.not_eq_eq_eq_not, Bool.not_true, Bool.not_false, beq_iff_eq, beq_eq_false_iff_ne, ne_eq, decide_eq_decide, decide_eq_true_eq, decide_eq_false_iff_not, Bool.and_eq_true, Bool.or_eq_true, Bool.and_eq_false_iff, Bool.or_eq_false_iff] at h) <;> (try (exfalso; first | omega | contradiction))))
      | refine seqQ_n ?_
      | refine seqQ_r ?_)
    · rw [if_pos h]
      exact fin2r rfl rfl rfl ⟨rfl, hS.mutLp (by repeat (first | exact Pulls.nil | (apply Pulls.cons; focus (repeat (first | exact Pull.here | apply Pull.there)))))⟩
    · subst h
      rw [if_neg (by decide)]
      exact fin2r rfl rfl rfl ⟨_, _, rfl, hS.mutLp (by repeat (first | exact Pulls.nil | (apply Pulls.cons; focus (repeat (first | exact Pull.here | apply Pull.there)))))⟩
  · rcases hr : D.read p with ⟨s, er⟩
    have hsl : s.length ≤ 1099511627776 := by
      have h2 := hno.at_ p
      have : s = (D.read p).1 := by rw [hr]
      rw [this]
      unfold Dk.read
      repeat' split
      all_goals first | exact Nat.zero_le _ | exact h2
    rcases hsc : scanE s with ⟨rs, g, e⟩
    have hg : g ≤ s.length := by have := scanE_le s; rwa [hsc] at this
    rcases hf : D.fill p (s.take g) with ⟨ef, D'⟩
    have hu : walOpen D p = if er ≠ 0 then (er, none, D) else if e ≠ 0 then (if ef ≠ 0 then (ef, none, D') else (0, some ⟨p, rs, decide (e = 6 ∨ e = 3)⟩, D')) else (0, some ⟨p, rs, decide (e = 6 ∨ e = 3)⟩, D) := by
      unfold walOpen; rw [if_neg hk, hr]; dsimp only; rw [hsc]; dsimp only; rw [hf]
    rw [hu]
    clear hu
    by_cases h0 : er = 0
    · subst h0
      rw [if_neg (by decide)]
      have hcases : (e = 6 ∧ decide (e = 6 ∨ e = 3) = true) ∨ (e = 3 ∧ decide (e = 6 ∨ e = 3) = true) ∨ (e = 0 ∧ decide (e = 6 ∨ e = 3) = false) ∨ (e ≠ 6 ∧ e ≠ 3 ∧ e ≠ 0 ∧ decide (e = 6 ∨ e = 3) = false) := by
        by_cases h6 : e = 6
        · exact .inl ⟨h6, by simp [h6]⟩
        · by_cases h3 : e = 3
          · exact .inr (.inl ⟨h3, by simp [h3]⟩)
          · by_cases hz : e = 0
            · exact .inr (.inr (.inl ⟨hz, by simp [hz]⟩))
            · exact .inr (.inr (.inr ⟨h6, h3, hz, by simp [h6, h3]⟩))
      have hfs := fun (w : World) => fscan_c s w hsl
      rw [hsc] at hfs
      dsimp only at hfs
      rcases hcases with ⟨rfl, hd⟩ | ⟨rfl, hd⟩ | ⟨rfl, hd⟩ | ⟨h6, h3, hz, hd⟩
      all_goals rw [hd]; clear hd
      all_goals
        repeat' (first
          | (show WL _ _ _ _ _ _ _; first
            | refine WL.pure rfl rfl rfl rfl ?_
            | refine WL.nil ?_
            | (refine WL.calls hS rfl rfl (dkind_c p (hS.holds (dkC q mb lb D) (by repeat (first | exact List.Mem.head _ | apply List.Mem.tail))).1) rfl rfl rfl ?_; rintro v w rfl hS)
            | (refine WL.calls hS rfl rfl (dread_c p (hS.holds (dkC q mb lb D) (by repeat (first | exact List.Mem.head _ | apply List.Mem.tail))).1) rfl rfl rfl ?_; rintro v w rfl hS; rw [hr])
            | (refine WL.callG rfl rfl (hfs _) rfl rfl rfl ?_; rintro v w ⟨hupd, A, cap, rfl, hnew⟩; replace hS := hS.new hupd hnew; clear hnew hupd)
            | (refine WL.callL (D := [.box _ 41 [.pointer (some ⟨q, 0, none⟩), str p, .slice A rs.length cap, .bool _], dkC q mb lb D]) hS (by repeat (first | exact Pulls.nil | (apply Pulls.cons; focus (repeat (first | exact Pull.here | apply Pull.there))))) rfl rfl (fun hI => fill_c hI hf hl hno (by rw [List.length_take]; omega)) rfl rfl rfl ?_; rintro v w ⟨rfl, hm⟩ hS; replace hS := hS _ hm; clear hm)
            | refine WL.highS rfl rfl rfl rfl (by omega) rfl rfl rfl ?_
            | (refine WL.store hS rfl rfl rfl (by repeat (first | exact StB.here rfl | apply StB.there)) rfl rfl rfl ?_; intro w hS)
            | (refine WL.box hS rfl rfl rfl rfl rfl ?_; intro w b hS)
            | refine WL.skip rfl rfl rfl ?_
            | refine WL.build rfl rfl rfl rfl rfl ?_
            | ((fail_if_success (refine WL.wanted rfl ?_)); refine WL.guard rfl rfl rfl (fun h => ?_) (fun h => ?_) <;> (try simp only [Classical.not_not, Bool.not_eq_true', Bool.not_eq_false', Bool.not_eq_eq_eq_not, Bool.not_true, Bool.not_false, beq_iff_eq, beq_eq_false_iff_ne, ne_eq, decide_eq_decide, decide_eq_true_eq, decide_eq_false_iff_not, Bool.and_eq_true, Bool.or_eq_true, Bool.and_eq_false_iff, Bool.or_eq_false_iff] at h) <;> (try (exfalso; first | omega | contradiction))))
          | (show WC _ _ _ _ _ _; first
            | refine WC.seq ?_
            | refine WC.region ?_
            | refine WC.skip ?_
            | refine WC.ret ?_
            | refine WC.condF rfl (by with_reducible rfl) ?_
            | refine WC.condT rfl (by decide) ?_
            | refine WC.condF rfl (by decide) ?_
            | refine WC.condT rfl (decide_eq_true (by first | with_reducible assumption | omega)) ?_
            | refine WC.condF rfl (decide_eq_false (by first | with_reducible assumption | omega)) ?_
            | (refine WC.cond rfl (fun h => ?_) (fun h => ?_) <;> (try simp only [Classical.not_not, Bool.not_eq_true', Bool.not_eq_false', Bool.not_eq_eq_eq_not, Bool.not_true, Bool.not_false, beq_iff_eq, beq_eq_false_iff_ne, ne_eq, decide_eq_decide, decide_eq_true_eq, decide_eq_false_iff_not, Bool.and_eq_true, Bool.or_eq_true, Bool.and_eq_false_iff, Bool.or_eq_false_iff] at h) <;> (try (exfalso; first | omega | contradiction))))
          | refine seqQ_n ?_
          | refine seqQ_r ?_)
      all_goals first
        | rw [if_pos (by first | decide | assumption), if_pos h]
          exact fin2r rfl rfl rfl ⟨rfl, hS.mutLp (by repeat (first | exact Pulls.nil | (apply Pulls.cons; focus (repeat (first | exact Pull.here | apply Pull.there)))))⟩
        | (first | rw [if_pos (by first | decide | assumption), if_neg (fun hh => hh h)] | rw [if_neg (by decide)])
          try rw [decide_eq_false h3] at hS
          have hS := St.objClose (φ := lgφ _ q ⟨p, rs, _⟩) (hS.pulls (D := [.box _ 41 [.pointer (some ⟨q, 0, none⟩), str p, .slice A rs.length cap, .bool _], .own (.slice A rs.length cap) 9 1 rs.length (strs rs)]) (by repeat (first | exact Pulls.nil | (apply Pulls.cons; focus (repeat (first | exact Pull.here | apply Pull.there)))))) ⟨A, cap, rfl⟩
          exact fin2r rfl rfl rfl ⟨_, _, rfl, hS.mutLp (by repeat (first | exact Pulls.nil | (apply Pulls.cons; focus (repeat (first | exact Pull.here | apply Pull.there)))))⟩
    · rw [if_pos h0]
      repeat' (first
        | (show WL _ _ _ _ _ _ _; first
          | refine WL.pure rfl rfl rfl rfl ?_
          | refine WL.nil ?_
          | (refine WL.calls hS rfl rfl (dkind_c p (hS.holds (dkC q mb lb D) (by repeat (first | exact List.Mem.head _ | apply List.Mem.tail))).1) rfl rfl rfl ?_; rintro v w rfl hS)
          | (refine WL.calls hS rfl rfl (dread_c p (hS.holds (dkC q mb lb D) (by repeat (first | exact List.Mem.head _ | apply List.Mem.tail))).1) rfl rfl rfl ?_; rintro v w rfl hS; rw [hr])
          | (refine WL.box hS rfl rfl rfl rfl rfl ?_; intro w b hS)
          | refine WL.build rfl rfl rfl rfl rfl ?_)
        | (show WC _ _ _ _ _ _; first
          | refine WC.seq ?_
          | refine WC.region ?_
          | refine WC.skip ?_
          | refine WC.ret ?_
          | refine WC.condF rfl (by with_reducible rfl) ?_
          | refine WC.condT rfl (decide_eq_true (by first | with_reducible assumption | omega)) ?_
          | refine WC.condF rfl (decide_eq_false (by first | with_reducible assumption | omega)) ?_)
        | refine seqQ_n ?_
        | refine seqQ_r ?_)
      exact fin2r rfl rfl rfl ⟨rfl, hS.mutLp (by repeat (first | exact Pulls.nil | (apply Pulls.cons; focus (repeat (first | exact Pull.here | apply Pull.there)))))⟩
end Go.Proofs.YtggalmiaofeikaaDoor

/- What is proved: a disk with one journal: what it holds behind each call. Conditions: texts of bounded length. -/
set_option linter.unusedSimpArgs false
set_option linter.unusedVariables false
namespace Go.Proofs.YtggalmiaofeikaaDoor
open Go Go.J Go.RowKit

def VD : It := { It0 with dir := true }
abbrev vP : List UInt8 := [118]
abbrev lP : List UInt8 := [118, 47, 108, 111, 103]
def Dv0 : Dk := ⟨[(vP, VD)], [], 1, 0, -1, false⟩
/-- the disk, with the journal's file x -/
def Dl (x : It) (st sp ar : Int) (dn : Bool) : Dk := ⟨[(vP, VD), (lP, x)], [], st, sp, ar, dn⟩
theorem mkdir_v : Dk0.mkdir [118] = (0, Dv0) := by kernel_rfl
theorem open_new : walOpen Dv0 lP = (0, some ⟨lP, [], false⟩, Dl ⟨false, [], [], false, false, 2⟩ 4 2 (-1) false) := by kernel_rfl
theorem append_calm (d k r : List UInt8) (lo an : Bool) (s st sp : Int) : (Dl ⟨false, d, k, lo, an, s⟩ st sp (-1) false).append lP r = (0, Dl ⟨false, d ++ r, k, true, an, IntKind.i64.wrap (sp + 1)⟩ (IntKind.i64.wrap (st + 1)) (IntKind.i64.wrap (sp + 1)) (-1) false) := by kernel_rfl
theorem sync_calm (d k : List UInt8) (lo an : Bool) (s st sp : Int) : (Dl ⟨false, d, k, lo, an, s⟩ st sp (-1) false).sync lP = (0, Dl ⟨false, d, d, false, false, s⟩ (IntKind.i64.wrap (st + 1)) sp (-1) false) := by kernel_rfl
theorem kind_l (x : It) (st sp ar : Int) (dn : Bool) (h : x.dir = false) : (Dl x st sp ar dn).kind lP = 2 := by
  obtain ⟨dir, d, k, lo, an, s⟩ := x
  subst h
  kernel_rfl
theorem read_l (d k : List UInt8) (lo an : Bool) (s st sp ar : Int) : (Dl ⟨false, d, k, lo, an, s⟩ st sp ar false).read lP = (d, 0) := by kernel_rfl
theorem add_calm (G : Lg) (hp : G.p = lP) (d k r : List UInt8) (lo an : Bool) (s st sp : Int) : ∃ s' st' sp', walAdd G (Dl ⟨false, d, k, lo, an, s⟩ st sp (-1) false) r = (0, G.push r, Dl ⟨false, d ++ packE r, d ++ packE r, false, false, s'⟩ st' sp' (-1) false) := by
  have h : walAdd G (Dl ⟨false, d, k, lo, an, s⟩ st sp (-1) false) r = (0, G.push r, Dl ⟨false, d ++ packE r, d ++ packE r, false, false, IntKind.i64.wrap (sp + 1)⟩ (IntKind.i64.wrap (IntKind.i64.wrap (st + 1) + 1)) (IntKind.i64.wrap (sp + 1)) (-1) false) := by
    unfold walAdd
    rw [hp, append_calm]
    dsimp only
    rw [sync_calm]
    rfl
  exact ⟨_, _, _, h⟩
theorem open_whole (l : List (List UInt8)) (h : ∀ u ∈ l, u.length < 9223372036854775808) (k : List UInt8) (lo an : Bool) (s st sp ar : Int) :
    walOpen (Dl ⟨false, frames l, k, lo, an, s⟩ st sp ar false) lP = (0, some ⟨lP, l, false⟩, Dl ⟨false, frames l, k, lo, an, s⟩ st sp ar false) := by
  unfold walOpen
  rw [kind_l _ _ _ _ _ rfl, if_neg (by decide), read_l]
  dsimp only
  rw [if_neg (by decide), scanE_whole l h]
  rfl
theorem fill_calm (d k s0 : List UInt8) (lo an : Bool) (s st sp : Int) : (Dl ⟨false, d, k, lo, an, s⟩ st sp (-1) false).fill lP s0 = (0, Dl ⟨false, s0, s0, false, false, IntKind.i64.wrap (IntKind.i64.wrap (sp + 1) + 1)⟩ (IntKind.i64.wrap (IntKind.i64.wrap (IntKind.i64.wrap (st + 1) + 1) + 1)) (IntKind.i64.wrap (IntKind.i64.wrap (sp + 1) + 1)) (-1) false) := by kernel_rfl
theorem Sm_l {d k : List UInt8} {lo an : Bool} {s st sp ar : Int} {dn : Bool} {B : Nat} (h : d.length ≤ B) : (Dl ⟨false, d, k, lo, an, s⟩ st sp ar dn).Sm B := by
  refine ⟨rfl, fun x hx => ?_⟩
  simp only [Dl, List.mem_cons, List.not_mem_nil, or_false] at hx
  rcases hx with rfl | rfl
  · exact Nat.zero_le _
  · exact h
theorem Sm_v {B : Nat} : Dv0.Sm B := by
  refine ⟨rfl, fun x hx => ?_⟩
  simp only [Dv0, List.mem_cons, List.not_mem_nil, or_false] at hx
  subst hx
  exact Nat.zero_le _
end Go.Proofs.YtggalmiaofeikaaDoor

/- What is proved: an argument that the form reads as data reads as plain data through the codecs, and how its bulk bounds it. Conditions: none. -/
set_option linter.unusedSimpArgs false
set_option linter.unusedVariables false
namespace Go.Proofs.YtggalmiaofeikaaDoor
open Go Go.J Go.RowKit Go.ChangeShapes Go.WideShapes Go.Deep

def Opens {α : Type} (P : Program) (t : TypeId) (c : Cod α) (Q : α → Nat → Prop) : Prop :=
  ∀ {H : Type} (enc : TypeId × Value → H) (W : World) (fuel : Nat) (cs : List Value) (x : DataW H × List MemPlace), DataW.trod enc P W 0 (fun _ => true) true fuel t cs = some x → ∃ y, c.rd (Old W) W cs y ∧ Q y (Rows.uptoBulk x.1)
def QL {α : Type} (Q : α → Nat → Prop) (ys : List α) (b : Nat) : Prop := ∃ bs : List Nat, bs.length = ys.length ∧ (∀ i (h : i < ys.length) (h' : i < bs.length), Q ys[i] bs[i]) ∧ bs.sum + 1 ≤ b

theorem bulkAll_sum {H : Type} (l : List (DataW H)) : Rows.uptoBulkAll l = (l.map Rows.uptoBulk).sum := by
  induction l with
  | nil => simp [Rows.uptoBulkAll]
  | cons d l ih => simp [Rows.uptoBulkAll, ih]

theorem Opens.int {P : Program} {t : TypeId} (ht : P.underlying t = some (.int .i64)) : Opens P t cInt (fun n b => -9223372036854775808 ≤ n ∧ n ≤ 9223372036854775807 ∧ 1 ≤ b) := by
  intro H enc W fuel cs x h
  obtain ⟨n, rfl, rfl, hw⟩ := DataW.trod_int ht h
  refine ⟨n, rfl, ?_⟩
  have h1 := bounds_i64 hw
  exact ⟨h1.1, h1.2, by simp [Rows.uptoBulk]⟩
theorem Opens.str {P : Program} {t : TypeId} (ht : P.underlying t = some .string) : Opens P t cStr (fun s b => s.length + 1 ≤ b) := by
  intro H enc W fuel cs x h
  obtain ⟨s, rfl, rfl, hw⟩ := DataW.trod_string ht h
  exact ⟨s.data.toList, rfl, by simp [Rows.uptoBulk]⟩
theorem Opens.slice {α : Type} [Inhabited α] {P : Program} {t e : TypeId} {c : Cod α} {Q : α → Nat → Prop} (ht : P.underlying t = some (.slice e)) (he : P.cellsOf e = c.sz) (hs : 0 < c.sz) (ho : Opens P e c Q) : Opens P t (cSl c) (QL Q) := by
  intro H enc W fuel cs x h
  rcases open_slice ht h with ⟨rfl, rfl⟩ | ⟨a, len, cap, m, n, D, Pl, rfl, hb, hl, hm, hmm, rfl, hx⟩
  · exact ⟨[], ⟨none, 0, rfl, Nat.le_refl _, fun k hk => absurd hk (by simp)⟩, [], rfl, fun i h => absurd h (by simp), by simp [Rows.uptoBulk]⟩
  · have hml : len ≤ m := by rw [hmm]; simp; omega
    have key : ∀ i, i < len → ∃ y : α, (∃ es, c.rd (Old W) W es y ∧ (a.add (i * c.sz)).block < W.heap.size ∧ (∀ j v, es[j]? = some v → W.cell? ((a.add (i * c.sz)).add j) = some v)) ∧ Q y (Rows.uptoBulk (D i)) := by
      intro i hi
      obtain ⟨cs', hc, htr⟩ := hx i (by omega)
      rw [he] at hc
      obtain ⟨y, hy, hq⟩ := ho enc W n cs' _ htr
      obtain ⟨_, hlen, hat⟩ := World.cells?_some hc
      refine ⟨y, ⟨cs', hy, ?_, fun j v hv => ?_⟩, hq⟩
      · have h0 := hat 0 hs
        have hlt : 0 < cs'.length := by omega
        rw [List.getElem?_eq_getElem hlt] at h0
        have hlt' := World.block_lt_of_cell? W _ h0
        have e0 : ((a.add (i * c.sz)).add 0).block = (a.add (i * c.sz)).block := by simp [Addr.add]
        rwa [e0] at hlt'
      · have hj : j < cs'.length := (List.getElem?_eq_some_iff.1 hv).1
        rw [hat j (by omega)]; exact hv
    obtain ⟨Y, hY⟩ := choose_lt key
    have hspot : 0 < len → a.spot = none := fun h0 => by
      obtain ⟨es, hrd, hbl, hc⟩ := (hY 0 h0).1
      have hl := c.len hrd
      have h1 := hc 0 es[0] (List.getElem?_eq_getElem (by omega))
      have e : (a.add (0 * c.sz)).add 0 = a := by simp [Addr.add]
      rw [e] at h1
      unfold World.cell? at h1
      cases hsp : a.spot with
      | none => rfl
      | some s => simp [hsp] at h1; split at h1 <;> simp at h1
    refine ⟨(List.range len).map Y, ⟨some a, cap, by simp, by simpa using hl, fun k hk => ?_⟩, (List.range len).map fun i => Rows.uptoBulk (D i), by simp, fun i h h' => ?_, ?_⟩
    · have hk' : k < len := by simpa using hk
      obtain ⟨es, hrd, hbl, hc⟩ := (hY k hk').1
      have ha : a = ⟨a.block, a.off, none⟩ := by rw [← hspot (by omega)]
      refine ⟨a.block, a.off, es, by rw [← ha], ?_, fun j v hv => ?_, by simpa using hrd⟩
      · have : (a.add (k * c.sz)).block = a.block := by unfold Addr.add; split <;> rfl
        rw [this] at hbl; exact hbl
      · have := hc j v hv
        rw [Go.Deep.add_add, ha, Addr.add_mid] at this
        rw [← Nat.add_assoc] at this
        exact this
    · have hi : i < len := by simpa using h
      simpa using (hY i hi).2
    · simp only [Rows.uptoBulk, bulkAll_sum, List.map_map]
      have : ((List.range len).map (Rows.uptoBulk ∘ D)) = (List.range len).map fun i => Rows.uptoBulk (D i) := rfl
      rw [this]
      omega
section
variable {H : Type} {enc : TypeId × Value → H} {P : Program}
theorem post_of_below {f : Func} {s : ChangeSpec} {apart fresh handsOn again : Bool} {W W' : World} {args : Array Value} {v : Value} {ds gs : List (DataW H)} {before pa pv : List MemPlace}
    (hW : DataW.Whole enc P f.params.toList s.vars apart W args.toList ds gs before)
    (hres : ∀ (b : Nat) (sp : Nat → Bool) (hd : Bool), DataW.TrodAll enc P W' b sp hd f.resultTypes.toList (v.resultList f.resultTypes.size) (s.fn H (ds ++ gs)).results [])
    (hargs : ∀ sp : Nat → Bool, (∀ p ∈ before, sp p.block = true) → DataW.TrodAll enc P W' 0 sp true f.params.toList args.toList (s.fn H (ds ++ gs)).args pa)
    (hvars : ∀ sp : Nat → Bool, (∀ p ∈ before, sp p.block = true) → DataW.TrodVars enc P W' sp s.vars (s.fn H (ds ++ gs)).vars pv)
    (hps : before = pa ++ pv) (hb : Below W.heap.size W W')
    (hok : ∀ (j : Nat) (t : TypeId) (r : Value), f.resultTypes[j]? = some t → (v.resultList f.resultTypes.size)[j]? = some r → Value.okWide P W' .any 0 t r) :
    s.post enc P f apart fresh handsOn again W args v W' := by
  have hlt : ∀ p ∈ before, p.block < W.heap.size := fun p hp => hW.lt p hp
  have hold : ∀ p ∈ before, (fun b => decide (b < W.heap.size)) p.block = true := fun p hp => by simpa using hlt p hp
  refine ⟨ds, gs, before, [], pa, pv, hW, hres _ _ _, hargs _ hold, hvars _ hold, World.keptBut_mono (fun p hp => ⟨hp, ?_⟩) (hb.frame (· ∈ before)), fun _ => ?_⟩
  · rw [hps, List.mem_append] at hp
    exact Or.inr hp
  · obtain ⟨_, _, _, _, _, hz, hn⟩ := hW
    refine ⟨hok, _, _, ([] ++ pa) ++ pv, ⟨[] ++ pa, pv, trodAll_append (hargs _ (fun _ _ => rfl)) (hres _ _ _), hvars _ (fun _ _ => rfl), rfl, ?_, ?_⟩, ?_⟩
    · intro b off hp
      have hin : MemPlace.cell b off ∈ before := by rw [hps]; simpa using hp
      rw [hb.frozen (hlt _ hin)]
      exact hz b off hin
    · intro ha
      have := hn ha
      rw [hps] at this
      simpa using this
    · intro p hp _
      rw [hps]
      simpa using hp
end
end Go.Proofs.YtggalmiaofeikaaDoor

/- What is proved: how a statement's arguments open to plain data, and that a call which answers true and leaves old memory alone meets the law's form. Conditions: none. -/
set_option linter.unusedSimpArgs false
set_option linter.unusedVariables false
namespace Go.Proofs.YtggalmiaofeikaaDoor
open Go Go.J Go.RowKit Go.ChangeShapes Go.WideShapes Go.ChangeAt Go.Deep

/-- how an argument of a type opens -/
def Arg {α : Type} (P : Program) (t : TypeId) (A : World → Value → α → Prop) (Q : α → Nat → Prop) : Prop :=
  ∀ {H : Type} (enc : TypeId × Value → H) (W : World) (base : Nat) (v : Value) (d : DataW H) (p : List MemPlace), Value.okWide P W .any base t v → DataW.Trod enc P W 0 (fun _ => true) true t v d p → ∃ y, A W v y ∧ Q y (Rows.uptoBulk d)

def AInt (_ : World) (v : Value) (n : Int) : Prop := v = .int .i64 n
def QInt (n : Int) (b : Nat) : Prop := -9223372036854775808 ≤ n ∧ n ≤ 9223372036854775807 ∧ 1 ≤ b
def AStr (_ : World) (v : Value) (s : List UInt8) : Prop := v = str s
def QStr (s : List UInt8) (b : Nat) : Prop := s.length + 1 ≤ b
def ASl {α : Type} (c : Cod α) (W : World) (v : Value) (xs : List α) : Prop := ∃ A cap, v = .slice A xs.length cap ∧ xs.length ≤ cap ∧ SlAt c (Old W) W A xs
def AAgg {α : Type} (c : Cod α) (W : World) (v : Value) (y : α) : Prop := ∃ cs, v = .agg ⟨cs⟩ ∧ c.rd (Old W) W cs y

theorem Arg.int {P : Program} {t : TypeId} (ht : P.underlying t = some (.int .i64)) : Arg P t AInt QInt := by
  intro H enc W base v d p hk hd
  obtain ⟨n, rfl⟩ := okWide_int ht hk
  obtain ⟨fuel, hf⟩ := hd
  obtain ⟨y, hy, hq⟩ := Opens.int ht enc W fuel _ _ hf
  have hy' : [Value.int .i64 n] = [.int .i64 y] := hy
  simp only [List.cons.injEq, Value.int.injEq, true_and, and_true] at hy'
  exact ⟨y, by rw [hy']; rfl, hq⟩
theorem Arg.str {P : Program} {t : TypeId} (ht : P.underlying t = some .string) : Arg P t AStr QStr := by
  intro H enc W base v d p hk hd
  obtain ⟨s, rfl⟩ := okWide_string ht hk
  obtain ⟨fuel, hf⟩ := hd
  obtain ⟨y, hy, hq⟩ := Opens.str ht enc W fuel _ _ hf
  have hy' : [Value.string s] = [Go.J.str y] := hy
  exact ⟨y, by show Value.string s = Go.J.str y; simpa using hy', hq⟩
theorem Arg.slice {α : Type} {P : Program} {t e : TypeId} {c : Cod α} {Q : List α → Nat → Prop} (ht : P.underlying t = some (.slice e)) (ho : Opens P t (cSl c) Q) : Arg P t (ASl c) Q := by
  intro H enc W base v d p hk hd
  obtain ⟨a, len, cap, rfl⟩ := okWide_slice ht hk
  obtain ⟨fuel, hf⟩ := hd
  obtain ⟨y, ⟨A, cap', e0, hcap, hsl⟩, hq⟩ := ho enc W fuel _ _ hf
  have e0' : [Value.slice a len cap] = [.slice A y.length cap'] := e0
  exact ⟨y, ⟨A, cap', by simpa using e0', hcap, hsl⟩, hq⟩
theorem Arg.agg {α : Type} {P : Program} {t : TypeId} {fs : Array Field} {c : Cod α} {Q : α → Nat → Prop} (ht : P.underlying t = some (.struct fs)) (ho : Opens P t c Q) : Arg P t (AAgg c) Q := by
  intro H enc W base v d p hk hd
  obtain ⟨cs, rfl, _⟩ := okWide_struct ht hk
  obtain ⟨fuel, hf⟩ := hd
  obtain ⟨y, hy, hq⟩ := ho enc W fuel _ _ hf
  exact ⟨y, ⟨cs.toList, by cases cs; rfl, hy⟩, hq⟩

theorem own : ownKnob Tryd.prog.godebug = none := by kernel_rfl
theorem laid : laidOutB Tryd.prog = true := by kernel_rfl

/-- arguments whose memory stays read as they did -/
theorem all_stays {H : Type} {enc : TypeId × Value → H} {P : Program} (hl : laidOutB P = true) {W W' : World} (hu : Upd [] W W') {sp : Nat → Bool} : ∀ {ts : List TypeId} {vs : List Value} {ds : List (DataW H)} {p : List MemPlace}, (ts.all fun t => P.readableRec t && decide (t < P.types.size)) = true →
    DataW.TrodAll enc P W 0 (fun _ => true) true ts vs ds p → (∀ x ∈ p, x.block < W.heap.size) → (∀ x ∈ p, sp x.block = true) → DataW.TrodAll enc P W' 0 sp true ts vs ds p
  | [], [], [], p, _, h, _, _ => h
  | t :: ts, vs, ds, p, hr, h, hlt, hsp => by
    obtain ⟨v, vs', d, ds', p1, q1, rfl, rfl, rfl, h1, h2⟩ := trodAll_cons h
    simp only [List.all_cons, Bool.and_eq_true] at hr
    refine trodAll_cons_mk ?_ (all_stays hl hu (by simpa using hr.2) h2 (fun x hx => hlt x (by simp [hx])) fun x hx => hsp x (by simp [hx]))
    exact WideElems.Trod_stays hl hr.1.1 (of_decide_eq_true hr.1.2) h1 (fun x hx => hu.below.same (hlt x (by simp [hx]))) (fun x hx => hsp x (by simp [hx]))
  | [], [], _ :: _, _, _, h, _, _ => by simp [DataW.TrodAll] at h
  | [], _ :: _, _, _, _, h, _, _ => by simp [DataW.TrodAll] at h
theorem all_len {H : Type} {enc : TypeId × Value → H} {P : Program} {W : World} {sp : Nat → Bool} : ∀ {ts : List TypeId} {vs : List Value} {ds : List (DataW H)} {p : List MemPlace}, DataW.TrodAll enc P W 0 sp true ts vs ds p → ds.length = ts.length
  | [], [], [], _, _ => rfl
  | t :: ts, vs, ds, p, h => by
    obtain ⟨v, vs', d, ds', p1, q1, rfl, rfl, rfl, h1, h2⟩ := trodAll_cons h
    simp [all_len h2]
  | [], [], _ :: _, _, h => by simp [DataW.TrodAll] at h
  | [], _ :: _, _, _, h => by simp [DataW.TrodAll] at h

theorem law_post {H : Type} {enc : TypeId × Value → H} {P : Program} (hl : laidOutB P = true) {f : Func} {s : ChangeSpec} {tb : TypeId} {W W' : World} {args : Array Value} {ds gs : List (DataW H)} {before : List MemPlace}
    (hb : P.underlying tb = some .bool) (hrt : f.resultTypes = #[tb]) (hread : (f.params.toList.all fun t => P.readableRec t && decide (t < P.types.size)) = true) (hv : s.vars = [])
    (hs : ∀ ds : List (DataW H), ds.length = f.params.toList.length → (s.fn H ds).results = [.lit (.bool true)] ∧ (s.fn H ds).args = ds ∧ (s.fn H ds).vars = [])
    (hW : DataW.Whole enc P f.params.toList s.vars false W args.toList ds gs before) (hu : Upd [] W W') : s.post enc P f false true false false W args (.bool true) W' := by
  obtain ⟨p, q, hA, hV, rfl, hfz, hnd⟩ := id hW
  have hV' := hV
  rw [hv] at hV'
  obtain ⟨rfl, rfl⟩ := trodVars_none hV'
  have hlen := all_len hA
  obtain ⟨h1, h2, h3⟩ := hs ds hlen
  have hlt : ∀ x ∈ p, x.block < W.heap.size := fun x hx => hW.lt x (by simp [hx])
  refine post_of_below (pa := p) (pv := []) hW (fun _ _ _ => ?_) (fun sp hsp => ?_) (fun sp hsp => ?_) rfl hu.below (fun j t r hj hr => ?_)
  · rw [hrt, List.append_nil, h1]
    exact trodAll_cons_mk (shut_bool hb _) trodAll_mk0
  · rw [List.append_nil, h2]
    exact all_stays hl hu hread hA hlt fun x hx => hsp x (by simp [hx])
  · rw [hv, List.append_nil, h3]
    exact rfl
  · exact ok_one hrt rfl (okWide_bool_mk hb _) j t r hj hr
end Go.Proofs.YtggalmiaofeikaaDoor

/- What is proved: when two lists of texts are told to be alike. Conditions: none. -/
set_option linter.unusedSimpArgs false
set_option linter.unusedVariables false
namespace Go.Proofs.YtggalmiaofeikaaDoor
open Go Go.J Go.RowKit

theorem list_ext_get {α : Type} {xs ys : List α} (hl : xs.length = ys.length) (h : ∀ j (h1 : j < xs.length) (h2 : j < ys.length), xs[j] = ys[j]) : xs = ys := List.ext_getElem hl h
set_option maxHeartbeats 4000000 in
set_option maxRecDepth 100000 in
theorem same_c (xs ys : List (List UInt8)) {A B : Option Addr} {ca cb : Nat} {w0 : World} (hA : SlAt cStr (Old w0) w0 A xs) (hB : SlAt cStr (Old w0) w0 B ys) (hlx : xs.length ≤ 4611686018427387904) :
    Cal Tryd.prog 16 [.slice A xs.length ca, .slice B ys.length cb] w0 (fun v w' => Upd [] w0 w' ∧ v = .bool (decide (xs = ys))) := by
  refine Cal.mk' (by kernel_rfl) Tryd.func16 rfl rfl fun hS => ?_
  by_cases hl : xs.length = ys.length
  · repeat' (first
      | (show WL _ _ _ _ _ _ _; first
        | refine WL.pure rfl rfl rfl rfl ?_
        | refine WL.nil ?_)
      | (show WC _ _ _ _ _ _; first
        | refine WC.seq ?_
        | refine WC.region ?_
        | refine WC.block ?_
        | refine WC.skip ?_
        | refine WC.condF rfl (decide_eq_false (by first | with_reducible assumption | omega)) ?_)
      | refine seqQ_n ?_)
    refine WC.loop (σ := Nat) [0, 1] (fun k => [(5, .int .i64 (k : Int))]) (fun k w => k ≤ xs.length ∧ (∀ j (h1 : j < xs.length) (h2 : j < ys.length), j < k → xs[j] = ys[j]) ∧ St w0 [] w [] [⟨w0, Old w0⟩]) (fun k => xs.length - k) 0 ⟨Nat.zero_le _, fun j h1 h2 hj => absurd hj (Nat.not_lt_zero _), hS⟩ ⟨rfl, trivial⟩ ?_
    clear hS
    rintro k g w ⟨hk, hall, hS⟩
    obtain ⟨Hall, rfl⟩ : ∃ h : (∀ j (h1 : j < xs.length) (h2 : j < ys.length), j < k → xs[j] = ys[j]), h = hall := ⟨_, rfl⟩
    by_cases hlt : k < xs.length
    · have hlt2 : k < ys.length := by omega
      obtain ⟨b1, o1, e1, rfl, f1, r1, rfl⟩ := hA.at_ hlt
      obtain ⟨b2, o2, e2, rfl, f2, r2, rfl⟩ := hB.at_ hlt2
      change w0.rangeAt b1 (o1 + k * 1) [str xs[k]] at r1
      change w0.rangeAt b2 (o2 + k * 1) [str ys[k]] at r2
      by_cases he : xs[k] = ys[k]
      · have hnx : ∀ j (h1 : j < xs.length) (h2 : j < ys.length), j < k + 1 → xs[j] = ys[j] := fun j h1 h2 hj => if e : j = k then (by subst e; exact he) else Hall j h1 h2 (by omega)
        clear Hall
        generalize xs[k] = x at *
        generalize ys[k] = y at *
        subst he
        repeat' (first
          | (show WL _ _ _ _ _ _ _; first
            | refine WL.pure rfl rfl rfl rfl ?_
            | refine WL.nil ?_
            | refine WL.add rfl rfl rfl (by omega) rfl rfl rfl ?_)
          | (show WC _ _ _ _ _ _; first
            | refine WC.seq ?_
            | refine WC.region ?_
            | refine WC.block ?_
            | refine WC.skip ?_
            | (show WC _ _ (Code.region _ (List.toArray [_, _, _, _, _, _, _, _, _]) true) _ _ _; refine WC.drawS hS [0, 1, 2, 3, 4, 5, 6, 7, 8] [0, 1, 2, 3, 4, 5, 6, 7, 8] (by kernel_rfl) (by kernel_rfl) ?_; clear hS; intro w hS hM)
            | refine WC.condT rfl (decide_eq_true (by first | with_reducible assumption | omega)) ?_
            | refine WC.condF rfl (by first | (simp; done) | (simp; omega)) ?_)
          | (show WD _ _ _ _ _ _ _ _ _; first
            | refine WD.pure rfl rfl rfl rfl rfl ?_
            | refine WD.nil ?_
            | (refine WD.load rfl rfl (LdOk.snap0 f1 r1 (by repeat (first | exact List.Mem.head _ | apply List.Mem.tail)) rfl) rfl rfl rfl rfl ?_)
            | (refine WD.load rfl rfl (LdOk.snap0 f2 r2 (by repeat (first | exact List.Mem.head _ | apply List.Mem.tail)) rfl) rfl rfl rfl rfl ?_)
            | refine WD.index rfl rfl rfl rfl (by first | with_reducible assumption | omega) rfl rfl rfl rfl rfl ?_)
          | refine seqQ_n ?_
          | refine blkQ_n ?_)
        exact rndQ_n (k + 1) ⟨by omega, hnx, hS⟩ (by omega) ⟨vint (by omega), trivial⟩ ⟨rfl, rfl, trivial⟩
      · have hne : ¬ xs = ys := fun h => he (by subst h; rfl)
        clear Hall
        generalize xs[k] = x at *
        generalize ys[k] = y at *
        repeat' (first
          | (show WL _ _ _ _ _ _ _; first
            | refine WL.pure rfl rfl rfl rfl ?_
            | refine WL.nil ?_)
          | (show WC _ _ _ _ _ _; first
            | refine WC.seq ?_
            | refine WC.region ?_
            | refine WC.block ?_
            | refine WC.skip ?_
            | refine WC.ret ?_
            | (show WC _ _ (Code.region _ (List.toArray [_, _, _, _, _, _, _, _, _]) true) _ _ _; refine WC.drawS hS [0, 1, 2, 3, 4, 5, 6, 7, 8] [0, 1, 2, 3, 4, 5, 6, 7, 8] (by kernel_rfl) (by kernel_rfl) ?_; clear hS; intro w hS hM)
            | refine WC.condT rfl (decide_eq_true (by first | with_reducible assumption | omega)) ?_)
          | (show WD _ _ _ _ _ _ _ _ _; first
            | refine WD.pure rfl rfl rfl rfl rfl ?_
            | refine WD.nil ?_
            | (refine WD.load rfl rfl (LdOk.snap0 f1 r1 (by repeat (first | exact List.Mem.head _ | apply List.Mem.tail)) rfl) rfl rfl rfl rfl ?_)
            | (refine WD.load rfl rfl (LdOk.snap0 f2 r2 (by repeat (first | exact List.Mem.head _ | apply List.Mem.tail)) rfl) rfl rfl rfl rfl ?_)
            | refine WD.index rfl rfl rfl rfl (by first | with_reducible assumption | omega) rfl rfl rfl rfl rfl ?_)
          | refine seqQ_n ?_
          | refine seqQ_r ?_
          | refine blkQ_r ?_
          | refine rndQ_r ?_)
        exact fin1r rfl rfl ⟨hS.upd, vbool (by simp [hne])⟩
    · have heq : xs = ys := list_ext_get hl fun j h1 h2 => Hall j h1 h2 (by omega)
      clear Hall
      repeat' (first
        | (show WL _ _ _ _ _ _ _; first
          | refine WL.pure rfl rfl rfl rfl ?_
          | refine WL.nil ?_)
        | (show WC _ _ _ _ _ _; first
          | refine WC.seq ?_
          | refine WC.region ?_
          | refine WC.exit ?_
          | refine WC.ret ?_
          | refine WC.condF rfl (decide_eq_false (by first | with_reducible assumption | omega)) ?_)
        | refine seqQ_n ?_
        | refine seqQ_x ?_
        | refine blkQ_hit rfl ?_
        | refine rndQ_x ?_)
      exact fin1r rfl rfl ⟨hS.upd, vbool (by simp [heq])⟩
  · have hne : ¬ xs = ys := fun h => hl (by rw [h])
    repeat' (first
      | (show WL _ _ _ _ _ _ _; first
        | refine WL.pure rfl rfl rfl rfl ?_
        | refine WL.nil ?_)
      | (show WC _ _ _ _ _ _; first
        | refine WC.seq ?_
        | refine WC.region ?_
        | refine WC.ret ?_
        | refine WC.condT rfl (decide_eq_true (by first | with_reducible assumption | omega)) ?_)
      | refine seqQ_n ?_
      | refine seqQ_r ?_)
    exact fin1r rfl rfl ⟨hS.upd, vbool (by simp [hne])⟩
theorem same_n (xs ys : List (List UInt8)) {A B : Option Addr} {ca cb n m : Nat} {w0 : World} (hn : n = xs.length) (hm : m = ys.length) (hA : SlAt cStr (Old w0) w0 A xs) (hB : SlAt cStr (Old w0) w0 B ys) (hlx : xs.length ≤ 4611686018427387904) :
    Cal Tryd.prog 16 [.slice A n ca, .slice B m cb] w0 (fun v w' => Upd [] w0 w' ∧ v = .bool (decide (xs = ys))) := by
  subst hn; subst hm; exact same_c xs ys hA hB hlx
end Go.Proofs.YtggalmiaofeikaaDoor

/- What is proved: the laws WalNil and WalRots answer true. Conditions: texts of bounded length. -/
set_option linter.unusedSimpArgs false
set_option linter.unusedVariables false
namespace Go.Proofs.YtggalmiaofeikaaDoor
open Go Go.J Go.RowKit

set_option maxHeartbeats 4000000 in
set_option maxRecDepth 100000 in
theorem made_c (w0 : World) : Cal Tryd.prog 13 [] w0 (fun v w' => ∃ q mb lb, v = .pointer (some ⟨q, 0, none⟩) ∧ MutL w0 w' [] [dkC q mb lb Dv0]) := by
  refine Cal.mk' (by kernel_rfl) Tryd.func13 rfl rfl fun hS => ?_
  repeat' (first
    | (show WL _ _ _ _ _ _ _; first
      | refine WL.pure rfl rfl rfl rfl ?_
      | refine WL.nil ?_
      | (refine WL.callG rfl rfl (dnew_c _) rfl rfl rfl ?_; rintro v w ⟨hu, q, mb, lb, rfl, hn⟩; replace hS := hS.new hu hn; clear hu hn)
      | (refine WL.callL (D := [dkC q mb lb Dk0]) hS (by repeat (first | exact Pulls.nil | (apply Pulls.cons; focus (repeat (first | exact Pull.here | apply Pull.there))))) rfl rfl (fun hI => mkdir_c [118] hI.head hI.headB (by decide)) rfl rfl rfl ?_; rintro v w ⟨rfl, hm⟩ hS; replace hS := hS _ (.of1 hm); clear hm; rw [mkdir_v] at hS ⊢))
    | (show WC _ _ _ _ _ _; first
      | refine WC.seq ?_
      | refine WC.region ?_
      | refine WC.skip ?_
      | refine WC.ret ?_
      | refine WC.condF rfl (by decide) ?_)
    | refine seqQ_n ?_)
  exact fin1r rfl rfl ⟨_, _, _, rfl, St.mutLOf (D := []) (H := []) hS⟩
theorem strOne : (frames [[111, 110, 101]] : List UInt8) = packE [111, 110, 101] := frames_one _
section
variable (w0 : World)
set_option maxHeartbeats 4000000 in
set_option maxRecDepth 100000 in
theorem addNil_c (r : List UInt8) : Cal Tryd.prog 9 [.pointer none, str r] w0 (fun v w' => Upd [] w0 w' ∧ v = .int .i64 1) := by
  refine Cal.mk' (by kernel_rfl) Tryd.func9 rfl rfl fun hS => ?_
  repeat' (first
    | (show WL _ _ _ _ _ _ _; first
      | refine WL.pure rfl rfl rfl rfl ?_
      | refine WL.nil ?_)
    | (show WC _ _ _ _ _ _; first
      | refine WC.seq ?_
      | refine WC.region ?_
      | refine WC.ret ?_
      | refine WC.condT rfl (by with_reducible rfl) ?_)
    | refine seqQ_n ?_
    | refine seqQ_r ?_)
  exact fin1r rfl rfl ⟨hS.upd, rfl⟩
set_option maxHeartbeats 4000000 in
set_option maxRecDepth 100000 in
theorem resetNil_c : Cal Tryd.prog 10 [.pointer none] w0 (fun v w' => Upd [] w0 w' ∧ v = .int .i64 1) := by
  refine Cal.mk' (by kernel_rfl) Tryd.func10 rfl rfl fun hS => ?_
  repeat' (first
    | (show WL _ _ _ _ _ _ _; first
      | refine WL.pure rfl rfl rfl rfl ?_
      | refine WL.nil ?_)
    | (show WC _ _ _ _ _ _; first
      | refine WC.seq ?_
      | refine WC.region ?_
      | refine WC.ret ?_
      | refine WC.condT rfl (by with_reducible rfl) ?_)
    | refine seqQ_n ?_
    | refine seqQ_r ?_)
  exact fin1r rfl rfl ⟨hS.upd, rfl⟩
set_option maxHeartbeats 4000000 in
set_option maxRecDepth 100000 in
theorem recordsNil_c : Cal Tryd.prog 11 [.pointer none] w0 (fun v w' => Upd [] w0 w' ∧ v = .slice none 0 0) := by
  refine Cal.mk' (by kernel_rfl) Tryd.func11 rfl rfl fun hS => ?_
  repeat' (first
    | (show WL _ _ _ _ _ _ _; first
      | refine WL.pure rfl rfl rfl rfl ?_
      | refine WL.nil ?_)
    | (show WC _ _ _ _ _ _; first
      | refine WC.seq ?_
      | refine WC.region ?_
      | refine WC.ret ?_
      | refine WC.condT rfl (by with_reducible rfl) ?_)
    | refine seqQ_n ?_
    | refine seqQ_r ?_)
  exact fin1r rfl rfl ⟨hS.upd, rfl⟩
set_option maxHeartbeats 4000000 in
set_option maxRecDepth 100000 in
theorem damagedNil_c : Cal Tryd.prog 12 [.pointer none] w0 (fun v w' => Upd [] w0 w' ∧ v = .bool false) := by
  refine Cal.mk' (by kernel_rfl) Tryd.func12 rfl rfl fun hS => ?_
  repeat' (first
    | (show WL _ _ _ _ _ _ _; first
      | refine WL.pure rfl rfl rfl rfl ?_
      | refine WL.nil ?_
      | refine WL.skip rfl rfl rfl ?_)
    | (show WC _ _ _ _ _ _; first
      | refine WC.seq ?_
      | refine WC.region ?_
      | refine WC.ret ?_)
    | refine seqQ_n ?_)
  exact fin1r rfl rfl ⟨hS.upd, rfl⟩
end
set_option maxHeartbeats 8000000 in
set_option maxRecDepth 100000 in
theorem wawake_c (w0 : World) : Cal Tryd.prog 8 [] w0 (fun v w' => Upd [] w0 w' ∧ v = .bool true) := by
  refine Cal.mk' (by kernel_rfl) Tryd.func8 rfl rfl fun hS => ?_
  obtain ⟨s', st', sp', ha⟩ := add_calm ⟨lP, [], false⟩ rfl [] [] [111, 110, 101] false false 2 4 2
  have hp1 : (packE [111, 110, 101]).length ≤ 18 := by rw [packE_len]; have := putN_len10 (n := 3) (by decide); simp; omega
  have ho := open_whole [[111, 110, 101]] (by simp) (packE [111, 110, 101]) false false s' st' sp' (-1)
  rw [frames_one] at ho
  repeat' (first
    | (show WL _ _ _ _ _ _ _; first
      | refine WL.pure rfl rfl rfl rfl ?_
      | refine WL.nil ?_
      | (refine WL.callL (D := []) hS (by repeat (first | exact Pulls.nil | (apply Pulls.cons; focus (repeat (first | exact Pull.here | apply Pull.there))))) rfl rfl (fun hI => made_c _) rfl rfl rfl ?_; rintro v w ⟨q, mb, lb, rfl, hm⟩ hS; replace hS := hS _ hm; clear hm)
      | (refine WL.callL (D := [dkC q mb lb Dv0]) hS (by repeat (first | exact Pulls.nil | (apply Pulls.cons; focus (repeat (first | exact Pull.here | apply Pull.there))))) rfl rfl (fun hI => open_c lP hI (by decide) Sm_v) rfl rfl rfl ?_; rintro v w hR hS; rw [open_new] at hR; obtain ⟨L, fp, rfl, hm⟩ := hR; replace hS := hS _ hm; clear hm)
      | (refine WL.callL (D := [lgC L q ⟨lP, [], false⟩ fp, dkC q mb lb _]) hS (by repeat (first | exact Pulls.nil | (apply Pulls.cons; focus (repeat (first | exact Pull.here | apply Pull.there))))) rfl rfl (fun hI => add_c [111, 110, 101] hI ha (by decide) rfl (by decide) (by decide) (by decide)) rfl rfl rfl ?_; rintro v w ⟨rfl, fp', hm⟩ hS; replace hS := hS _ hm; clear hm)
      | (refine WL.callL (D := [dkC q mb lb _]) hS (by repeat (first | exact Pulls.nil | (apply Pulls.cons; focus (repeat (first | exact Pull.here | apply Pull.there))))) rfl rfl (fun hI => open_c lP hI (by decide) (Sm_l (by rw [List.nil_append]; omega))) rfl rfl rfl ?_; rintro v w hR hS; rw [List.nil_append, ho] at hR; obtain ⟨L2, fp2, rfl, hm⟩ := hR; replace hS := hS _ hm; clear hm)
      | (refine WL.callL (D := [lgC L2 q ⟨lP, [[111, 110, 101]], false⟩ fp2]) hS (by repeat (first | exact Pulls.nil | (apply Pulls.cons; focus (repeat (first | exact Pull.here | apply Pull.there))))) rfl rfl (fun hI => records_c hI (by decide)) rfl rfl rfl ?_; rintro v w ⟨A, cap, rfl, hm⟩ hS; replace hS := hS _ hm; clear hm)
      | (refine WL.calls hS rfl rfl (same_c [[111, 110, 101]] [[111, 110, 101]] (hS.ownSl (l := [[111, 110, 101]]) (enc := fun s => [str s]) (hsz := fun _ => rfl) (by decide) (by repeat (first | exact List.Mem.head _ | apply List.Mem.tail))) (hS.boxSl [[111, 110, 101]] (enc := fun s => [str s]) (hsz := fun _ => rfl) (by decide) (by repeat (first | exact List.Mem.head _ | apply List.Mem.tail)) (by decide)) (by decide)) rfl rfl rfl ?_; rintro v w rfl hS)
      | (refine WL.callL (D := [lgC L2 q ⟨lP, [[111, 110, 101]], false⟩ fp2]) hS (by repeat (first | exact Pulls.nil | (apply Pulls.cons; focus (repeat (first | exact Pull.here | apply Pull.there))))) rfl rfl (fun hI => damaged_c hI) rfl rfl rfl ?_; rintro v w ⟨rfl, hm⟩ hS; replace hS := hS _ hm; clear hm)
      | (refine WL.slit hS rfl rfl rfl rfl rfl ?_; intro w b hS))
    | (show WC _ _ _ _ _ _; first
      | refine WC.seq ?_
      | refine WC.region ?_
      | refine WC.skip ?_
      | refine WC.ret ?_
      | refine WC.condF rfl (by with_reducible rfl) ?_
      | refine WC.condF rfl (by decide) ?_)
    | refine seqQ_n ?_)
  exact fin1r rfl rfl ⟨hS.upd, rfl⟩
set_option maxHeartbeats 4000000 in
set_option maxRecDepth 100000 in
theorem walNil_c (p r : List UInt8) (w0 : World) : Cal Tryd.prog 3 [str p, str r] w0 (fun v w' => Upd [] w0 w' ∧ v = .bool true) := by
  refine Cal.mk' (by kernel_rfl) Tryd.func3 rfl rfl fun hS => ?_
  repeat' (first
    | (show WL _ _ _ _ _ _ _; first
      | refine WL.pure rfl rfl rfl rfl ?_
      | refine WL.nil ?_
      | (refine WL.calls hS rfl rfl (openNil_c p _) rfl rfl rfl ?_; rintro v w rfl hS)
      | (refine WL.calls hS rfl rfl (wawake_c _) rfl rfl rfl ?_; rintro v w rfl hS)
      | (refine WL.calls hS rfl rfl (addNil_c _ r) rfl rfl rfl ?_; rintro v w rfl hS)
      | (refine WL.calls hS rfl rfl (resetNil_c _) rfl rfl rfl ?_; rintro v w rfl hS)
      | (refine WL.calls hS rfl rfl (recordsNil_c _) rfl rfl rfl ?_; rintro v w rfl hS)
      | (refine WL.calls hS rfl rfl (damagedNil_c _) rfl rfl rfl ?_; rintro v w rfl hS))
    | (show WC _ _ _ _ _ _; first
      | refine WC.seq ?_
      | refine WC.region ?_
      | refine WC.ret ?_)
    | refine seqQ_n ?_)
  exact fin1r rfl rfl ⟨hS.upd, rfl⟩
theorem walNil.key_walNil (W : World) (v0 v1 : Value) (y0 y1 : List UInt8) (b0 b1 : Nat) (h0 : AStr W v0 y0) (h1 : AStr W v1 y1) (q0 : QStr y0 b0) (q1 : QStr y1 b1) (hb : b0 + b1 ≤ 1048576) :
    Cal Tryd.prog 3 [v0, v1] W (fun v W' => Upd [] W W' ∧ v = .bool true) := by
  obtain rfl := h0
  obtain rfl := h1
  exact walNil_c y0 y1 W
end Go.Proofs.YtggalmiaofeikaaDoor

/- What is proved: the law WalRots answers true. Conditions: texts of bounded length. -/
set_option linter.unusedSimpArgs false
set_option linter.unusedVariables false
namespace Go.Proofs.YtggalmiaofeikaaDoor
open Go Go.J Go.RowKit

theorem lP_len : lP.length ≤ 1099511620 := by decide
theorem frames_len_le : ∀ l : List (List UInt8), (∀ s ∈ l, s.length < 18446744073709551616) → (frames l).length ≤ 14 * l.length + (l.map List.length).sum
  | [], _ => by simp [frames]
  | s :: l, h => by
    have := frames_len_le l (fun u hu => h u (by simp [hu]))
    have h2 := putN_len10 (h s (by simp))
    have e : (frames (s :: l)).length = (packE s).length + (frames l).length := by simp [frames]
    rw [e, packE_len]
    simp only [List.length_cons, List.map_cons, List.sum_cons]
    omega
theorem frames_take (l : List (List UInt8)) (k : Nat) (h : k < l.length) : frames (l.take (k + 1)) = frames (l.take k) ++ packE l[k] := by
  rw [List.take_succ_eq_append_getElem h, frames_app, frames_one]
theorem frames_split (l : List (List UInt8)) (k : Nat) (h : k < l.length) : frames l = frames (l.take k) ++ (packE l[k] ++ frames (l.drop (k + 1))) := by
  have e : l = l.take k ++ (l[k] :: l.drop (k + 1)) := by simp
  conv => lhs; rw [e]
  rw [frames_app, show frames (l[k] :: l.drop (k + 1)) = packE l[k] ++ frames (l.drop (k + 1)) from List.flatMap_cons]
theorem sum_take_le (l : List (List UInt8)) (k : Nat) : ((l.take k).map List.length).sum ≤ (l.map List.length).sum := by
  conv => rhs; rw [← List.take_append_drop k l]
  rw [List.map_append, List.sum_append]; omega
theorem mem_le_sum : ∀ (l : List (List UInt8)) (s : List UInt8), s ∈ l → s.length ≤ (l.map List.length).sum
  | x :: l, s, h => by
    simp only [List.map_cons, List.sum_cons]
    rcases List.mem_cons.1 h with rfl | h
    · omega
    · have := mem_le_sum l s h; omega
theorem xor_ne (c : UInt8) (m : Nat) (h : m < 8) : UInt8.ofNat (c.toNat ^^^ 2 ^ m) ≠ c := fun e => by
  have hc := c.toNat_lt
  have hp := pow_lt256 h
  have h2 := congrArg UInt8.toNat e
  rw [ofNat_toNat (Nat.xor_lt_two_pow (n := 8) (by omega) (by omega))] at h2
  have h3 := congrArg (fun n => c.toNat ^^^ n) h2
  simp only [← Nat.xor_assoc, Nat.xor_self, Nat.zero_xor] at h3
  have : 0 < 2 ^ m := Nat.pow_pos (by omega)
  omega
/-- one bit of a frame behind its length turned -/
theorem turn_frames (l : List (List UInt8)) (k : Nat) (h : k < l.length) (bit : Nat) (h1 : 8 * (putN l[k].length).length ≤ bit) (h2 : bit < 8 * (packE l[k]).length) (b : Int) (hb : b = 8 * ((frames (l.take k)).length : Int) + bit) :
    ∃ j x, turnE (frames l) b = frames (l.take k) ++ ((packE l[k]).set j x ++ frames (l.drop (k + 1))) ∧ (packE l[k])[j]? ≠ some x ∧ (putN l[k].length).length ≤ j ∧ j < (packE l[k]).length := by
  have hs := frames_split l k h
  have hlen := congrArg List.length hs
  rw [List.length_append, List.length_append] at hlen
  have hK : turnK (frames l) b = 8 * (frames (l.take k)).length + bit := by
    unfold turnK
    rw [hb, Int.emod_eq_of_lt (by omega) (by omega)]
    omega
  have hj : bit / 8 < (packE l[k]).length := by omega
  have e8 : (8 * (frames (l.take k)).length + bit) / 8 = (frames (l.take k)).length + bit / 8 := by omega
  have e9 : (8 * (frames (l.take k)).length + bit) % 8 = bit % 8 := by omega
  have hg : (frames l)[(frames (l.take k)).length + bit / 8]? = some (packE l[k])[bit / 8] := by
    rw [hs, List.getElem?_append_right (by omega), Nat.add_sub_cancel_left, List.getElem?_append_left hj, List.getElem?_eq_getElem hj]
  refine ⟨bit / 8, UInt8.ofNat ((packE l[k])[bit / 8].toNat ^^^ 2 ^ (bit % 8)), ?_, ?_, by omega, hj⟩
  · unfold turnE
    rw [hK, e8, e9, hg]
    dsimp only
    conv => lhs; rw [hs]
    rw [List.set_append_right _ _ (by omega), Nat.add_sub_cancel_left, List.set_append_left _ _ hj]
  · rw [List.getElem?_eq_getElem hj]
    intro e
    exact xor_ne _ (bit % 8) (by omega) (Option.some.inj e).symm
theorem rot_calm (d k : List UInt8) (lo an : Bool) (s st sp b : Int) : (Dl ⟨false, d, k, lo, an, s⟩ st sp (-1) false).rot lP b = (0, Dl ⟨false, turnE d b, turnE k b, lo, an, IntKind.i64.wrap (sp + 1)⟩ st (IntKind.i64.wrap (sp + 1)) (-1) false) := by kernel_rfl
theorem open_rot (l r : List (List UInt8)) (u : List UInt8) (j : Nat) (x : UInt8) (h : ∀ v ∈ l ++ [u], v.length < 9223372036854775808) (h1 : (putN u.length).length ≤ j) (h2 : j < (packE u).length) (hx : (packE u)[j]? ≠ some x) (k : List UInt8) (lo an : Bool) (s st sp : Int) :
    ∃ D', walOpen (Dl ⟨false, frames l ++ ((packE u).set j x ++ frames r), k, lo, an, s⟩ st sp (-1) false) lP = (0, some ⟨lP, l, true⟩, D') := by
  unfold walOpen
  rw [kind_l _ _ _ _ _ rfl, if_neg (by decide), read_l]
  dsimp only
  rw [if_neg (by decide), scanE_rot l r u j x h h1 h2 hx, fill_calm]
  exact ⟨_, rfl⟩
theorem SlAt.take {α : Type} {c : Cod α} {F : Nat → Prop} {w : World} {A : Option Addr} {xs : List α} (h : SlAt c F w A xs) (n : Nat) : SlAt c F w A (xs.take n) := by
  intro k hk
  rw [List.length_take] at hk
  obtain ⟨b, o, es, h1, h2, h3, h4⟩ := h k (by omega)
  exact ⟨b, o, es, h1, h2, h3, by rw [List.getElem_take]; exact h4⟩
section
variable {P : Program} {N : Nat} {f : Fr} {w : World} {Q : Post} {ops : List Oper} {q : Qs} {l : List Nat} {i : Nat} {S : World → Prop}
theorem WD.sliceTo {t e : TypeId} {size : Nat} {x y : Operand} {g off n cap j : Nat} {k : IntKind} (ho : (ix ops i).op = .slice t x none (some y) none) (he : Go.J.elemOf P t = some (e, size)) (hx : ev f x = .slice (some ⟨g, off, none⟩) n cap) (hy : ev f y = .int k (Int.ofNat j)) (hj : j ≤ cap)
    (hq : q.contains i = true) (hg : wants ops f (ix ops i) = true) {d : Nat} (hd : (ix ops i).dst = some d) (hn : Nat.blt d N = true) (h : WD P N S ops q l (up f d (.slice (some ⟨g, off, none⟩) j cap)) w Q) : WD P N S ops q (i :: l) f w Q :=
  .take hq hd hn (.inl ⟨hg, fun _ _ => run_sliceHigh ho he hx hy hj⟩) h
end
set_option maxHeartbeats 16000000 in
set_option maxRecDepth 100000 in
theorem walRots_c (recs : List (List UInt8)) (A : Option Addr) (cap : Nat) (at_ bit : Int) (w0 : World) (hA : SlAt cStr (Old w0) w0 A recs) (hcap : recs.length ≤ cap) (hl : (recs.map List.length).sum ≤ 1048576) :
    Cal Tryd.prog 4 [.slice A recs.length cap, .int .i64 at_, .int .i64 bit] w0 (fun v w' => Upd [] w0 w' ∧ v = .bool true) := by
  refine Cal.mk' (by kernel_rfl) Tryd.func4 rfl rfl fun hS => ?_
  by_cases c1 : at_ < 0 ∨ (recs.length : Int) ≤ at_ ∨ 40 < recs.length
  · rcases c1 with c1 | c1 | c1
    all_goals
      repeat' (first
        | (show WL _ _ _ _ _ _ _; first
          | refine WL.pure rfl rfl rfl rfl ?_
          | refine WL.nil ?_
          | (refine WL.callL (D := []) hS (by repeat (first | exact Pulls.nil | (apply Pulls.cons; focus (repeat (first | exact Pull.here | apply Pull.there))))) rfl rfl (fun hI => made_c _) rfl rfl rfl ?_; rintro v w ⟨q, mb, lb, rfl, hm⟩ hS; replace hS := hS _ hm; clear hm)
          | (refine WL.calls hS rfl rfl (wawake_c _) rfl rfl rfl ?_; rintro v w rfl hS)
          | refine WL.skip rfl rfl rfl ?_
          | ((fail_if_success (refine WL.wanted rfl ?_)); refine WL.guard rfl rfl rfl (fun h => ?_) (fun h => ?_) <;> (try simp only [Classical.not_not, Bool.not_eq_true', Bool.not_eq_false', Bool.not_eq_eq_eq_not, Bool.not_true, Bool.not_false, beq_iff_eq, beq_eq_false_iff_ne, ne_eq, decide_eq_decide, decide_eq_true_eq, decide_eq_false_iff_not, Bool.and_eq_true, Bool.or_eq_true, Bool.and_eq_false_iff, Bool.or_eq_false_iff] at h) <;> (try (exfalso; first | omega | contradiction))))
        | (show WC _ _ _ _ _ _; first
          | refine WC.seq ?_
          | refine WC.region ?_
          | refine WC.ret ?_
          | refine WC.condT rfl (by with_reducible rfl) ?_
          | refine WC.condT rfl (decide_eq_true (by first | with_reducible assumption | omega)) ?_)
        | refine seqQ_n ?_
        | refine seqQ_r ?_)
      all_goals exact fin1r rfl rfl ⟨hS.upd, rfl⟩
  · obtain ⟨a, rfl⟩ : ∃ a : Nat, at_ = (a : Int) := ⟨at_.toNat, by omega⟩
    have ha : a < recs.length := by omega
    have hn : recs.length ≤ 40 := by omega
    clear c1
    have hsm : ∀ s ∈ recs, s.length ≤ 1048576 := fun s hs => Nat.le_trans (mem_le_sum recs s hs) hl
    have hsm' : ∀ s ∈ recs, s.length < 9223372036854775808 := fun s hs => by have := hsm s hs; omega
    have hfl : ∀ k, (frames (recs.take k)).length ≤ 2000000 := fun k => by
      have h1 := frames_len_le (recs.take k) (fun s hs => by have := hsm s (List.mem_of_mem_take hs); omega)
      have h2 := sum_take_le recs k
      have h3 : (recs.take k).length ≤ 40 := by rw [List.length_take]; omega
      omega
    repeat' (first
      | (show WL _ _ _ _ _ _ _; first
        | refine WL.pure rfl rfl rfl rfl ?_
        | refine WL.nil ?_
        | (refine WL.callL (D := []) hS (by repeat (first | exact Pulls.nil | (apply Pulls.cons; focus (repeat (first | exact Pull.here | apply Pull.there))))) rfl rfl (fun hI => made_c _) rfl rfl rfl ?_; rintro v w ⟨q, mb, lb, rfl, hm⟩ hS; replace hS := hS _ hm; clear hm)
        | (refine WL.calls hS rfl rfl (wawake_c _) rfl rfl rfl ?_; rintro v w rfl hS)
        | (refine WL.callL (D := [dkC q mb lb Dv0]) hS (by repeat (first | exact Pulls.nil | (apply Pulls.cons; focus (repeat (first | exact Pull.here | apply Pull.there))))) rfl rfl (fun hI => open_c lP hI (by decide) Sm_v) rfl rfl rfl ?_; rintro v w hR hS; rw [open_new] at hR; obtain ⟨L, fp, rfl, hm⟩ := hR; replace hS := hS _ hm; clear hm)
        | ((fail_if_success (refine WL.wanted rfl ?_)); refine WL.guard rfl rfl rfl (fun h => ?_) (fun h => ?_) <;> (try simp only [Classical.not_not, Bool.not_eq_true', Bool.not_eq_false', Bool.not_eq_eq_eq_not, Bool.not_true, Bool.not_false, beq_iff_eq, beq_eq_false_iff_ne, ne_eq, decide_eq_decide, decide_eq_true_eq, decide_eq_false_iff_not, Bool.and_eq_true, Bool.or_eq_true, Bool.and_eq_false_iff, Bool.or_eq_false_iff] at h) <;> (try (exfalso; first | omega | contradiction))))
      | (show WC _ _ _ _ _ _; first
        | refine WC.seq ?_
        | refine WC.region ?_
        | refine WC.block ?_
        | refine WC.skip ?_
        | refine WC.condF rfl (by decide) ?_
        | refine WC.condF rfl (decide_eq_false (by first | with_reducible assumption | omega)) ?_)
      | refine seqQ_n ?_)
    refine WC.loop (σ := Nat × List Nat × Int × Int × Int) [0, 1, 2, 7, 8] (fun (k, fp, s, st, sp) => [(10, .int .i64 ((frames (recs.take (min k a))).length : Int)), (11, .int .i64 (k : Int))])
      (fun (k, fp, s, st, sp) w => k ≤ recs.length ∧ St w0 [] w [lgC L q ⟨lP, recs.take k, false⟩ fp, dkC q mb lb (Dl ⟨false, frames (recs.take k), frames (recs.take k), false, false, s⟩ st sp (-1) false)] [⟨w0, Old w0⟩])
      (fun (k, _) => recs.length - k) (0, fp, 2, 4, 2) ⟨Nat.zero_le _, hS⟩ ⟨by simp [frames]; rfl, rfl, trivial⟩ ?_
    clear hS
    rintro ⟨k, fp, s, st, sp⟩ g w ⟨hk, hS⟩
    show WC _ _ _ (lf _ [(10, .int .i64 ((frames (recs.take (min k a))).length : Int)), (11, .int .i64 (k : Int))] _ _) _ _
    by_cases hlt : k < recs.length
    · obtain ⟨b1, o1, e1, rfl, f1, r1, rfl⟩ := hA.at_ hlt
      change w0.rangeAt b1 (o1 + k * 1) [str recs[k]] at r1
      obtain ⟨s', st', sp', hadd⟩ := add_calm ⟨lP, recs.take k, false⟩ rfl (frames (recs.take k)) (frames (recs.take k)) recs[k] false false s st sp
      have hrl := hsm recs[k] (List.getElem_mem hlt)
      have hfk := hfl k
      have hft := frames_take recs k hlt
      have htk : recs.take (k + 1) = recs.take k ++ [recs[k]] := List.take_succ_eq_append_getElem hlt
      have hpk := packE_len recs[k]
      have hpn := putN_len10 (n := recs[k].length) (by omega)
      have hfa := hfl (min k a)
      have htl : (recs.take k).length ≤ 4194304 := by rw [List.length_take]; omega
      generalize recs[k] = r at *
      rcases Nat.lt_or_ge k a with hka | hka
      case' inl => have hm1 : min k a = k ∧ min (k + 1) a = k + 1 := by omega
      case' inr => have hm1 : min k a = a ∧ min (k + 1) a = a := by omega
      all_goals rw [hm1.1] at hfa ⊢
      all_goals
        repeat' (first
          | (show WL _ _ _ _ _ _ _; first
            | refine WL.pure rfl rfl rfl rfl ?_
            | refine WL.nil ?_
            | refine WL.add rfl rfl rfl (by omega) rfl rfl rfl ?_
            | (refine WL.load hS rfl rfl (LdOk.snap0 f1 r1 (by repeat (first | exact List.Mem.head _ | apply List.Mem.tail)) rfl) rfl rfl rfl ?_)
            | (refine WL.callL (D := [lgC L q ⟨lP, recs.take k, false⟩ fp, dkC q mb lb _]) hS (by repeat (first | exact Pulls.nil | (apply Pulls.cons; focus (repeat (first | exact Pull.here | apply Pull.there))))) rfl rfl (fun hI => add_c r hI hadd lP_len rfl (by omega) (by show (frames (recs.take k)).length ≤ _; omega) htl) rfl rfl rfl ?_; rintro v w ⟨rfl, fp', hm⟩ hS; replace hS := hS _ hm; clear hm)
            | (refine WL.calls hS rfl rfl (pack_c r _ (by omega)) rfl rfl rfl ?_; rintro v w rfl hS)
            | refine WL.index rfl rfl rfl rfl (by first | with_reducible assumption | omega) rfl rfl rfl rfl ?_)
          | (show WC _ _ _ _ _ _; first
            | refine WC.seq ?_
            | refine WC.region ?_
            | refine WC.block ?_
            | refine WC.skip ?_
            | refine WC.condF rfl (by decide) ?_
            | refine WC.condT rfl (decide_eq_true (by first | with_reducible assumption | omega)) ?_
            | refine WC.condF rfl (decide_eq_false (by first | with_reducible assumption | omega)) ?_)
          | refine seqQ_n ?_
          | refine blkQ_n ?_)
        refine rndQ_n (k + 1, fp', s', st', sp') ⟨by omega, ?_⟩ (by show recs.length - (k + 1) < recs.length - k; omega) ⟨vint ?_, vint (by omega), trivial⟩ ⟨rfl, rfl, rfl, rfl, rfl, trivial⟩
        · rw [htk, frames_app, frames_one]; exact hS
        · show _ = ((frames (recs.take (min (k + 1) a))).length : Int)
          rw [hm1.2]
          try rw [hft, List.length_append]
          try omega
    · have hke : k = recs.length := by omega
      subst hke
      rw [List.take_length] at hS
      rw [Nat.min_eq_right (Nat.le_of_lt ha)]
      obtain ⟨b1, o1, e1, rfl, f1, r1, rfl⟩ := hA.at_ ha
      change w0.rangeAt b1 (o1 + a * 1) [str recs[a]] at r1
      have hrl := hsm recs[a] (List.getElem_mem ha)
      have hpk := packE_len recs[a]
      have hpn := putN_len10 (n := recs[a].length) (by omega)
      have hpp := putN_pos recs[a].length
      have hfa := hfl a
      have hfw : (frames recs).length ≤ 2000000 := by have := hfl recs.length; rwa [List.take_length] at this
      by_cases c2 : bit < 8 * ((putN recs[a].length).length : Int) ∨ 8 * ((packE recs[a]).length : Int) ≤ bit
      · generalize recs[a] = r at *
        rcases c2 with c2 | c2
        all_goals
          repeat' (first
            | (show WL _ _ _ _ _ _ _; first
              | refine WL.pure rfl rfl rfl rfl ?_
              | refine WL.nil ?_
              | refine WL.sub rfl rfl rfl (by omega) rfl rfl rfl ?_
              | (refine WL.load hS rfl rfl (LdOk.snap0 f1 r1 (by repeat (first | exact List.Mem.head _ | apply List.Mem.tail)) rfl) rfl rfl rfl ?_)
              | (refine WL.calls hS rfl rfl (pack_c r _ (by omega)) rfl rfl rfl ?_; rintro v w rfl hS)
              | (refine WL.mul rfl rfl rfl (by omega) rfl rfl rfl ?_)
              | refine WL.index rfl rfl rfl rfl (by first | with_reducible assumption | omega) rfl rfl rfl rfl ?_
              | refine WL.skip rfl rfl rfl ?_
              | ((fail_if_success (refine WL.wanted rfl ?_)); refine WL.guard rfl rfl rfl (fun h => ?_) (fun h => ?_) <;> (try simp only [Classical.not_not, Bool.not_eq_true', Bool.not_eq_false', Bool.not_eq_eq_eq_not, Bool.not_true, Bool.not_false, beq_iff_eq, beq_eq_false_iff_ne, ne_eq, decide_eq_decide, decide_eq_true_eq, decide_eq_false_iff_not, Bool.and_eq_true, Bool.or_eq_true, Bool.and_eq_false_iff, Bool.or_eq_false_iff] at h) <;> (try (exfalso; first | omega | contradiction))))
            | (show WC _ _ _ _ _ _; first
              | refine WC.seq ?_
              | refine WC.region ?_
              | refine WC.exit ?_
              | refine WC.ret ?_
              | refine WC.condT rfl (by with_reducible rfl) ?_
              | refine WC.condT rfl (decide_eq_true (by first | with_reducible assumption | omega)) ?_
              | refine WC.condF rfl (decide_eq_false (by first | with_reducible assumption | omega)) ?_)
            | refine seqQ_n ?_
            | refine seqQ_x ?_
            | refine seqQ_r ?_
            | refine blkQ_hit rfl ?_
            | refine rndQ_x ?_)
          all_goals exact fin1r rfl rfl ⟨hS.upd, rfl⟩
      · obtain ⟨bi, rfl⟩ : ∃ b : Nat, bit = (b : Int) := ⟨bit.toNat, by omega⟩
        obtain ⟨j, x, ht, hx, hj1, hj2⟩ := turn_frames recs a ha bi (by omega) (by omega) (8 * ((frames (recs.take a)).length : Int) + bi) rfl
        obtain ⟨D', ho⟩ := open_rot (recs.take a) (recs.drop (a + 1)) recs[a] j x (fun v hv => by
          rcases List.mem_append.1 hv with hv | hv
          · exact hsm' v (List.mem_of_mem_take hv)
          · rw [List.mem_singleton.1 hv]; omega) hj1 hj2 hx (turnE (frames recs) (8 * ((frames (recs.take a)).length : Int) + bi)) false false (IntKind.i64.wrap (sp + 1)) st (IntKind.i64.wrap (sp + 1))
        rw [← ht] at ho
        have hrt := rot_calm (frames recs) (frames recs) false false s st sp (8 * ((frames (recs.take a)).length : Int) + bi)
        have hT := turnE_len (frames recs) (8 * ((frames (recs.take a)).length : Int) + bi)
        have htl : (recs.take a).length = a := by rw [List.length_take]; omega
        have hb1 : 8 * (putN recs[a].length).length ≤ bi := by omega
        have hb2 : bi < 8 * (packE recs[a]).length := by omega
        clear c2 ht hx hj1 hj2
        generalize recs[a] = r at *
        repeat' (first
          | (show WL _ _ _ _ _ _ _; first
            | refine WL.pure rfl rfl rfl rfl ?_
            | refine WL.nil ?_
            | refine WL.add rfl rfl rfl (by omega) rfl rfl rfl ?_
            | refine WL.sub rfl rfl rfl (by omega) rfl rfl rfl ?_
            | (refine WL.load hS rfl rfl (LdOk.snap0 f1 r1 (by repeat (first | exact List.Mem.head _ | apply List.Mem.tail)) rfl) rfl rfl rfl ?_)
            | (refine WL.calls hS rfl rfl (pack_c r _ (by omega)) rfl rfl rfl ?_; rintro v w rfl hS)
            | (refine WL.mul rfl rfl rfl (by omega) rfl rfl rfl ?_)
            | (refine WL.callL (D := [dkC q mb lb (Dl ⟨false, frames recs, frames recs, false, false, s⟩ st sp (-1) false)]) hS (by repeat (first | exact Pulls.nil | (apply Pulls.cons; focus (repeat (first | exact Pull.here | apply Pull.there))))) rfl rfl (fun hI => rot_c lP (8 * ((frames (recs.take a)).length : Int) + bi) hI.head hI.headB (by decide) (by show (frames recs).length ≤ _; omega) (by show (frames recs).length ≤ _; omega)) rfl rfl rfl ?_; rintro v w ⟨rfl, hm⟩ hS; replace hS := hS _ (.of1 hm); clear hm; rw [hrt] at hS ⊢)
            | (refine WL.callL (D := [dkC q mb lb _]) hS (by repeat (first | exact Pulls.nil | (apply Pulls.cons; focus (repeat (first | exact Pull.here | apply Pull.there))))) rfl rfl (fun hI => open_c lP hI lP_len (Sm_l (by rw [hT]; omega))) rfl rfl rfl ?_; rintro v w hR hS; rw [ho] at hR; obtain ⟨L2, fp2, rfl, hm⟩ := hR; replace hS := hS _ hm; clear hm)
            | refine WL.index rfl rfl rfl rfl (by first | with_reducible assumption | omega) rfl rfl rfl rfl ?_
            | ((fail_if_success (refine WL.wanted rfl ?_)); refine WL.guard rfl rfl rfl (fun h => ?_) (fun h => ?_) <;> (try simp only [Classical.not_not, Bool.not_eq_true', Bool.not_eq_false', Bool.not_eq_eq_eq_not, Bool.not_true, Bool.not_false, beq_iff_eq, beq_eq_false_iff_ne, ne_eq, decide_eq_decide, decide_eq_true_eq, decide_eq_false_iff_not, Bool.and_eq_true, Bool.or_eq_true, Bool.and_eq_false_iff, Bool.or_eq_false_iff] at h) <;> (try (exfalso; first | omega | contradiction))))
          | (show WC _ _ _ _ _ _; first
            | refine WC.seq ?_
            | refine WC.region ?_
            | refine WC.skip ?_
            | refine WC.exit ?_
            | refine WC.ret ?_
            | (show WC _ _ (Code.region _ (List.toArray [_, _, _, _, _, _, _, _, _, _, _, _, _, _, _, _, _, _, _]) true) _ _ _; refine WC.drawL [lgC L2 q ⟨lP, recs.take a, true⟩ fp2] hS (by repeat (first | exact Pulls.nil | (apply Pulls.cons; focus (repeat (first | exact Pull.here | apply Pull.there))))) [0,1,2,3,4,5,6,7,9,10,11,13,14,15,17,18] [0,1,2,3,4,5,6,7,8,9,10,11,13,14,15,12,16,17,18] (by kernel_rfl) (by kernel_rfl) ?_; clear hS; intro w hS hM)
            | refine WC.condF rfl (decide_eq_false (by first | with_reducible assumption | omega)) ?_)
          | (show WD _ _ _ _ _ _ _ _ _; first
            | refine WD.pure rfl rfl rfl rfl rfl ?_
            | refine WD.nil ?_
            | (refine WD.sliceTo rfl rfl rfl rfl (by omega) rfl rfl rfl rfl ?_)
            | (refine WD.callL (D := [lgC L2 q ⟨lP, recs.take a, true⟩ fp2]) hS (by repeat (first | exact Pulls.nil | (apply Pulls.cons; focus (repeat (first | exact Pull.here | apply Pull.there))))) (.refl _ _) rfl rfl (fun hI => damaged_c hI) rfl rfl rfl rfl rfl ?_; rintro v w ⟨rfl, hm⟩; refine ⟨_, hm, fun hS hM => ?_⟩; clear hm)
            | (refine WD.callL (D := [lgC L2 q ⟨lP, recs.take a, true⟩ fp2]) hS (by repeat (first | exact Pulls.nil | (apply Pulls.cons; focus (repeat (first | exact Pull.here | apply Pull.there))))) (.refl _ _) rfl rfl (fun hI => records_c hI (by rw [htl]; omega)) rfl rfl rfl rfl rfl ?_; rintro v w ⟨A3, cap3, rfl, hm⟩; refine ⟨_, hm, fun hS hM => ?_⟩; clear hm)
            | (refine WD.calls hS hM rfl rfl (same_n (recs.take a) (recs.take a) rfl htl.symm (hS.ownSl (l := recs.take a) (enc := fun s => [str s]) (hsz := fun _ => rfl) (by decide) (by repeat (first | exact List.Mem.head _ | apply List.Mem.tail))) (hS.slO (z := ⟨w0, Old w0⟩) (by repeat (first | exact List.Mem.head _ | apply List.Mem.tail)) (SlAt.take hA a)) (by rw [htl]; omega)) rfl rfl rfl rfl rfl ?_; clear hS; rintro v w rfl hS))
          | refine seqQ_n ?_
          | refine seqQ_x ?_
          | refine blkQ_hit rfl ?_
          | refine rndQ_x ?_)
        exact fin1r rfl rfl ⟨hS.upd, vbool (by simp)⟩
theorem arg_strs : Arg Tryd.prog 29 (ASl cStr) (QL QStr) := Arg.slice Tryd.underlying29 (Opens.slice Tryd.underlying29 (by kernel_rfl) (by decide) (Opens.str Tryd.underlying9))
theorem ql_sum : ∀ {xs : List (List UInt8)} {bs : List Nat}, bs.length = xs.length → (∀ i (h : i < xs.length) (h' : i < bs.length), QStr xs[i] bs[i]) → (xs.map List.length).sum + xs.length ≤ bs.sum
  | [], [], _, _ => Nat.le_refl _
  | x :: xs, b :: bs, hl, h => by
    have h0 : x.length + 1 ≤ b := h 0 (by simp) (by simp)
    have := ql_sum (xs := xs) (bs := bs) (by simpa using hl) (fun i h1 h2 => h (i + 1) (by simpa using h1) (by simpa using h2))
    simp only [List.map_cons, List.sum_cons, List.length_cons]
    omega
theorem ql_strs {xs : List (List UInt8)} {b : Nat} (h : QL QStr xs b) : (xs.map List.length).sum + xs.length + 1 ≤ b := by
  obtain ⟨bs, h1, h2, h3⟩ := h
  have := ql_sum h1 h2
  omega
theorem walRots.key_walRots (W : World) (v0 v1 v2 : Value) (y0 : List (List UInt8)) (y1 y2 : Int) (b0 b1 b2 : Nat) (h0 : ASl cStr W v0 y0) (h1 : AInt W v1 y1) (h2 : AInt W v2 y2) (q0 : QL QStr y0 b0) (q1 : QInt y1 b1) (q2 : QInt y2 b2) (hb : b0 + b1 + b2 ≤ 1048576) :
    Cal Tryd.prog 4 [v0, v1, v2] W (fun v W' => Upd [] W W' ∧ v = .bool true) := by
  obtain ⟨A, cap, rfl, hcap, hsl⟩ := h0
  obtain rfl := h1
  obtain rfl := h2
  exact walRots_c y0 A cap y1 y2 W hsl hcap (by have := ql_strs q0; omega)
end Go.Proofs.YtggalmiaofeikaaDoor
