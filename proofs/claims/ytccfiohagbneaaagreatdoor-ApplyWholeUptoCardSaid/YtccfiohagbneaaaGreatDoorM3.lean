/- What is proved: contracts and plain facts that the law leans on (texts put together). Conditions: as each names them. -/
import Derived.Test.YtccfiohagbneaaaGreatDoorM2
import Derived.Test.YtccfiohagbneaaaGreatDoorRows
import Derived.ProofKit
import Derived.ChangeSame
import Derived.OpenShut
import Derived.Deep.Slices
import Derived.JoinedCond
import Derived.Lib.Bytealg
import Derived.Lib.AppendZerosOnto
import Derived.Lib.Overlaps
import Derived.Recover
import Derived.RangeFuncRecord
import Derived.RangeFuncLeaves
import Derived.Test.YtccfiohagbneaaaGreatDoorProg
import Derived.Lib.ItoaNum
set_option linter.unusedSimpArgs false
set_option linter.unusedVariables false
set_option linter.unusedSectionVars false
set_option maxHeartbeats 64000000
set_option maxRecDepth 100000
namespace Go.Proofs.YtccfiohagbneaaaGreatDoor
open Go Go.J Go.RowKit
structure Chg where
 key : List UInt8
 val : List UInt8
 gone : Bool
def Chg0 : Chg := ⟨[], [], false⟩
def cellsChg (o : Chg) : List Value := [str o.key, str o.val, .bool o.gone]
@[reducible] def encChg (o : Chg) : Value := .agg ⟨[str o.key, str o.val, .bool o.gone]⟩
def chgs (l : List Chg) : List Value := l.flatMap cellsChg
theorem chgs_snoc (l : List Chg) (o : Chg) : chgs l ++ cellsChg o = chgs (l ++ [o]) := by simp [chgs]
def recO (o : Chg) : List UInt8 := if o.gone then 0 :: textE o.key else 1 :: (textE o.key ++ textE o.val)
def recordE (l : List Chg) : List UInt8 := putN l.length ++ l.flatMap recO
def opE (t : List UInt8) : Chg × Nat × Int :=
 if (uintE t).2.2 ≠ 0 then (Chg0, 0, (uintE t).2.2)
 else if 1 < (uintE t).1 then (Chg0, 0, 3)
 else if (rtextE (t.drop (uintE t).2.1)).2.2 ≠ 0 then (Chg0, 0, (rtextE (t.drop (uintE t).2.1)).2.2)
 else if (uintE t).1 = 0 then (⟨(rtextE (t.drop (uintE t).2.1)).1, [], true⟩, (uintE t).2.1 + (rtextE (t.drop (uintE t).2.1)).2.1, 0)
 else if (rtextE (t.drop ((uintE t).2.1 + (rtextE (t.drop (uintE t).2.1)).2.1))).2.2 ≠ 0 then (Chg0, 0, (rtextE (t.drop ((uintE t).2.1 + (rtextE (t.drop (uintE t).2.1)).2.1))).2.2)
 else (⟨(rtextE (t.drop (uintE t).2.1)).1, (rtextE (t.drop ((uintE t).2.1 + (rtextE (t.drop (uintE t).2.1)).2.1))).1, false⟩, (uintE t).2.1 + (rtextE (t.drop (uintE t).2.1)).2.1 + (rtextE (t.drop ((uintE t).2.1 + (rtextE (t.drop (uintE t).2.1)).2.1))).2.1, 0)
def opsF : Nat → List UInt8 → List Chg × Nat × Int
 |0, _ => ([], 0, 0)
 |n + 1, t => if (opE t).2.2 ≠ 0 then ([], 0, (opE t).2.2)
  else if (opsF n (t.drop (opE t).2.1)).2.2 ≠ 0 then ([], 0, (opsF n (t.drop (opE t).2.1)).2.2)
  else ((opE t).1 :: (opsF n (t.drop (opE t).2.1)).1, (opE t).2.1 + (opsF n (t.drop (opE t).2.1)).2.1, 0)
def opsE (s : List UInt8) : List Chg × Int :=
 if (uintE s).2.2 ≠ 0 then ([], (uintE s).2.2)
 else if (opsF (uintE s).1 (s.drop (uintE s).2.1)).2.2 ≠ 0 then ([], (opsF (uintE s).1 (s.drop (uintE s).2.1)).2.2)
 else if (uintE s).2.1 + (opsF (uintE s).1 (s.drop (uintE s).2.1)).2.1 < s.length then ([], 5)
 else ((opsF (uintE s).1 (s.drop (uintE s).2.1)).1, 0)
theorem uintE_le (t : List UInt8) : (uintE t).2.1 ≤ t.length := by
 by_cases h : (uintE t).2.2 = 0
 ·exact (uintE_ok t h).2
 ·unfold uintE at h ⊢
  split
  ·rename_i h1
   rw [if_pos h1] at h
   split
   ·rename_i h2
    rw [if_pos h2] at h
    exact absurd h1 h
   ·exact Nat.zero_le _
  ·exact Nat.zero_le _
theorem varE_pos : ∀ (t : List UInt8) (i x : Nat), (varE t i x).2.2 = 0 → 1 ≤ (varE t i x).2.1
 |[], i, x, h => by simp [varE] at h
 |c :: t, i, x, h => by
  unfold varE at h ⊢
  repeat' split
  all_goals simp_all
  rename_i h1 h2
  exact varE_pos t _ _ h
theorem uintE_pos (t : List UInt8) (h : (uintE t).2.2 = 0) : 1 ≤ (uintE t).2.1 := by
 unfold uintE at h ⊢
 split
 ·rename_i h1
  rw [if_pos h1] at h
  split
  ·exact varE_pos t 0 0 h1
  ·rename_i h2
   rw [if_neg h2] at h
   cases h
 ·rename_i h1
  rw [if_neg h1] at h
  exact absurd h h1
theorem rtextE_le' (t : List UInt8) : (rtextE t).2.1 ≤ t.length := by
 by_cases h : (rtextE t).2.2 = 0
 ·exact (rtextE_le t h).1
 ·unfold rtextE at h ⊢
  split
  ·split
   ·assumption
   ·exact Nat.zero_le _
  ·exact Nat.zero_le _
theorem opE_le (t : List UInt8) : (opE t).2.1 ≤ t.length := by
 have h1 := uintE_le t
 have h2 := rtextE_le' (t.drop (uintE t).2.1)
 have h3 := rtextE_le' (t.drop ((uintE t).2.1 + (rtextE (t.drop (uintE t).2.1)).2.1))
 rw [List.length_drop] at h2 h3
 unfold opE
 repeat' split
 all_goals first
  |exact Nat.zero_le _
  |(dsimp only; omega)
theorem opE_e {t : List UInt8} {n u : Nat} {e : Int} (h : uintE t = (n, u, e)) (he : e ≠ 0) : opE t = (Chg0, 0, e) := by unfold opE; rw [h, if_pos he]
theorem opE_big {t : List UInt8} {n u : Nat} (h : uintE t = (n, u, 0)) (hn : 1 < n) : opE t = (Chg0, 0, 3) := by unfold opE; rw [h, if_neg (fun h => h rfl), if_pos hn]
theorem opE_k {t x : List UInt8} {n u v : Nat} {e : Int} (h : uintE t = (n, u, 0)) (hn : ¬ 1 < n) (h2 : rtextE (t.drop u) = (x, v, e)) (he : e ≠ 0) : opE t = (Chg0, 0, e) := by
 unfold opE; rw [h, if_neg (fun h => h rfl), if_neg hn]; dsimp only; rw [h2, if_pos he]
theorem opE_gone {t x : List UInt8} {u v : Nat} (h : uintE t = (0, u, 0)) (h2 : rtextE (t.drop u) = (x, v, 0)) : opE t = (⟨x, [], true⟩, u + v, 0) := by
 unfold opE; rw [h, if_neg (fun h => h rfl), if_neg (show ¬ 1 < 0 by decide)]; dsimp only; rw [h2, if_neg (fun h => h rfl), if_pos rfl]
theorem opE_v {t x y : List UInt8} {u v z : Nat} {e : Int} (h : uintE t = (1, u, 0)) (h2 : rtextE (t.drop u) = (x, v, 0)) (h3 : rtextE (t.drop (u + v)) = (y, z, e)) (he : e ≠ 0) : opE t = (Chg0, 0, e) := by
 unfold opE; rw [h, if_neg (fun h => h rfl), if_neg (show ¬ 1 < 1 by decide)]; dsimp only; rw [h2, if_neg (fun h => h rfl), if_neg (show ¬ 1 = 0 by decide)]; dsimp only; rw [h3, if_pos he]
theorem opE_put {t x y : List UInt8} {u v z : Nat} (h : uintE t = (1, u, 0)) (h2 : rtextE (t.drop u) = (x, v, 0)) (h3 : rtextE (t.drop (u + v)) = (y, z, 0)) : opE t = (⟨x, y, false⟩, u + v + z, 0) := by
 unfold opE; rw [h, if_neg (fun h => h rfl), if_neg (show ¬ 1 < 1 by decide)]; dsimp only; rw [h2, if_neg (fun h => h rfl), if_neg (show ¬ 1 = 0 by decide)]; dsimp only; rw [h3, if_neg (fun h => h rfl)]
def opsFin (s : List UInt8) (l : List Chg) (p : Nat) (r : List Chg × Nat × Int) : List Chg × Int := if r.2.2 ≠ 0 then ([], r.2.2) else if p + r.2.1 < s.length then ([], 5) else (l ++ r.1, 0)
theorem opsF_s (n : Nat) (t : List UInt8) : opsF (n + 1) t = if (opE t).2.2 ≠ 0 then ([], 0, (opE t).2.2)
  else if (opsF n (t.drop (opE t).2.1)).2.2 ≠ 0 then ([], 0, (opsF n (t.drop (opE t).2.1)).2.2)
  else ((opE t).1 :: (opsF n (t.drop (opE t).2.1)).1, (opE t).2.1 + (opsF n (t.drop (opE t).2.1)).2.1, 0) := rfl
theorem opsFin_no {s t : List UInt8} {l : List Chg} {p m u : Nat} {o : Chg} {e : Int} (h : opE t = (o, u, e)) (he : e ≠ 0) : opsFin s l p (opsF (m + 1) t) = ([], e) := by
 rw [opsF_s, h, if_pos he]
 unfold opsFin
 rw [if_pos he]
theorem opsFin_ok {s t : List UInt8} {l : List Chg} {p m u : Nat} {o : Chg} (h : opE t = (o, u, 0)) : opsFin s l p (opsF (m + 1) t) = opsFin s (l ++ [o]) (p + u) (opsF m (t.drop u)) := by
 rw [opsF_s, h, if_neg (fun h => h rfl)]
 dsimp only
 generalize opsF m (t.drop u) = r
 obtain ⟨a, b, e⟩ := r
 dsimp only
 unfold opsFin
 by_cases he : e ≠ 0
 ·rw [if_pos he, if_pos he, if_pos he]
 ·rw [if_neg he, if_neg he]
  dsimp only
  rw [if_neg (fun h => h rfl), Nat.add_assoc]
  simp
theorem opsE_of {s : List UInt8} {n u : Nat} (h : uintE s = (n, u, 0)) : opsE s = opsFin s [] u (opsF n (s.drop u)) := by
 unfold opsE opsFin
 rw [h, if_neg (fun h => h rfl)]
 dsimp only
 rw [List.nil_append]
theorem opsE_e {s : List UInt8} {n u : Nat} {e : Int} (h : uintE s = (n, u, e)) (he : e ≠ 0) : opsE s = ([], e) := by
 unfold opsE
 rw [h, if_pos he]
theorem textE_len (s : List UInt8) : (textE s).length = (putN s.length).length + s.length := by unfold textE; simp
theorem opE_pos (t : List UInt8) (h : (opE t).2.2 = 0) : 1 ≤ (opE t).2.1 := by
 have h1 := uintE_pos t
 unfold opE at h ⊢
 by_cases hu : (uintE t).2.2 = 0
 ·have h1 := h1 hu
  repeat' split
  all_goals first
   |(dsimp only; omega)
   |(simp_all; done)
   |(exfalso; simp_all; omega)
 ·rw [if_pos hu] at h
  exact absurd h hu
theorem opsF_len : ∀ (n : Nat) (t : List UInt8), (opsF n t).1.length ≤ t.length
 |0, t => Nat.zero_le _
 |n + 1, t => by
  have h1 := opE_le t
  have h2 := opsF_len n (t.drop (opE t).2.1)
  rw [List.length_drop] at h2
  rw [opsF_s]
  split
  ·exact Nat.zero_le _
  ·rename_i h
   have h3 := opE_pos t (Classical.not_not.1 h)
   split
   ·exact Nat.zero_le _
   ·simp only [List.length_cons]; omega
theorem opsE_len (s : List UInt8) : (opsE s).1.length ≤ s.length := by
 have h := opsF_len (uintE s).1 (s.drop (uintE s).2.1)
 rw [List.length_drop] at h
 unfold opsE
 repeat' split
 all_goals first
  |exact Nat.zero_le _
  |(dsimp only; omega)
def applyE (rows : List (List UInt8 × List UInt8)) (l : List Chg) : List (List UInt8 × List UInt8) := l.foldl (fun m o => if o.gone then mdel m o.key else mset m o.key o.val) rows
open Go Go.J Go.RowKit
theorem wuint_c (n : Nat) (w0 : World) (hn : n < 9223372036854775808) : Cal Tryz.prog 144 [.int .i64 (n : Int)] w0 (fun v w' => Upd [] w0 w' ∧ v = .tuple #[str (putN n), .int .i64 0]) := by
 refine Cal.mk' Zk Tryz.func144 rfl rfl fun hS => ?_
 have hw : IntKind.u64.wrap (n : Int) = (n : Int) := by
  simp only [IntKind.wrap, IntKind.bits, IntKind.signed, Bool.false_and, Bool.false_eq_true, if_false]; omega
 repeat' (first | (show WL _ _ _ _ _ _ _; first | refine WL.pure rfl rfl rfl rfl ?_ | refine WL.nil ?_ | (refine WL.calls hS rfl (congrArg (fun z => [Value.int .u64 z]) hw) (put_c n _ Zo) rfl rfl rfl ?_; rintro v w rfl hS)) | (show WC _ _ _ _ _ _; first | refine WC.seq ?_ | refine WC.region ?_ | refine WC.skip ?_ | refine WC.ret ?_ | refine WC.condF rfl (decide_eq_false Zw) ?_) | refine seqQ_n ?_)
 exact fin2r rfl rfl rfl ⟨hS.upd, rfl⟩
theorem bwrites_c (q : Nat) (s r : List UInt8) (fp : List Nat) (w0 : World) (hc : (sbC q s fp).holds w0) (hi : inB (sbC q s fp) w0) (hl : s.length + r.length ≤ 1099511627776) : Cal Tryz.prog 145 [.pointer (some ⟨q, 0, none⟩), str r] w0
  (fun v w' => v = .tuple #[.int .i64 (r.length : Int), .nilIface] ∧ ∃ fp', Mut w0 w' (sbC q s fp) (sbC q (s ++ r) fp')) := by
 refine Cal.mkM hc hi Zk Tryz.func145 rfl rfl fun hS => ?_
 repeat' (first | (show WL _ _ _ _ _ _ _; first | refine WL.pure rfl rfl rfl rfl ?_ | refine WL.nil ?_ | refine WL.load hS rfl rfl (LdOk.box (by repeat (first | exact Zh | apply List.Mem.tail)) rfl) rfl rfl rfl ?_ | (refine WL.callG rfl rfl (bcheck_c q s fp _ (hS.holds _ Zh) (hS.inB_of Zh)) rfl rfl rfl ?_; rintro v w ⟨rfl, fp', hmut⟩; have hS := hS.mut hmut .here; obtain ⟨D, ⟨A, n, cap, rfl, hA⟩, hfp, hS⟩ := hS.objOpen; replace hS : St w0 _ w [.box q 199 [.pointer (some ⟨q, 0, none⟩), .slice A n cap], .own (.slice A n cap) 5 1 n (byteC s)] _ := hS; have hlen := (hS.own_len (List.Mem.tail _ Zh)).1; rw [byteC_len, Nat.mul_one] at hlen) | (refine WL.appStr hS rfl rfl rfl rfl rfl (fun A' cap' => Rp) Zo rfl rfl rfl ?_; intro A2 cap2 w hA2 hS; have hA2 := hA2 hA) | (refine WL.store hS rfl rfl rfl Sb rfl rfl rfl ?_; intro w hS)) | (show WC _ _ _ _ _ _; first | refine WC.seq ?_ | refine WC.region ?_ | refine WC.ret ?_) | refine seqQ_n ?_)
 exact fin2r rfl rfl rfl ⟨rfl, _, (St.objClose (H := []) (φ := sbφ q (s ++ r)) (D := sbD q (some ⟨q, 0, none⟩) A2 (n + r.length) cap2 (s ++ r)) (by rw [sbD, byteC_app]; exact hS) (.inr ⟨_, _, _, rfl, hA2⟩)).mutOf Zh⟩
theorem rdone_c (r : Nat) (s : List UInt8) (p : Nat) (w0 : World) (h : RdAt r s p w0) : Cal Tryz.prog 150 [.pointer (some ⟨r, 0, none⟩)] w0 (fun v w' => Upd [] w0 w' ∧ v = .int .i64 (if p < s.length then 5 else 0)) := by
 refine Cal.mk' Zk Tryz.func150 rfl rfl fun hS => ?_
 unfold RdAt at h
 by_cases hp : p < s.length
 case' pos => rw [if_pos hp]
 case' neg => rw [if_neg hp]
 all_goals
  repeat' (first | (show WL _ _ _ _ _ _ _; first | refine WL.pure rfl rfl rfl rfl ?_ | refine WL.nil ?_) | (show WC _ _ _ _ _ _; first | refine WC.seq ?_ | refine WC.region ?_ | refine WC.block ?_ | refine WC.skip ?_ | refine WC.ret ?_ | (show WC _ _ (Code.region _ (List.toArray [_, _, _, _, _, _, _, _, _, _, _]) true) _ _ _; refine WC.drawS hS [0, 1, 2, 3, 4, 5, 6, 7, 8, 9, 10] [0, 1, 2, 3, 4, 5, 6, 7, 8, 9, 10] Zk Zk ?_; clear hS; intro w hS hM) | refine WC.condF rfl Zr ?_ | refine WC.condT rfl (decide_eq_true Zw) ?_ | refine WC.condF rfl (decide_eq_false Zw) ?_) | (show WD _ _ _ _ _ _ _ _ _; first | refine WD.pure rfl rfl rfl rfl rfl ?_ | refine WD.nil ?_ | refine WD.load rfl rfl (LdOk.old h (by repeat (first | exact Zh | apply List.Mem.tail)) rfl) rfl rfl rfl rfl ?_) | refine seqQ_n ?_ | refine blkQ_n ?_ | refine seqQ_r ?_ | refine blkQ_r ?_)
  exact fin1r rfl rfl ⟨hS.upd, rfl⟩
def cChg : Cod Chg := .flat cellsChg 3 fun _ => rfl
theorem record_c (l : List Chg) {A : Option Addr} {cap : Nat} {w0 : World} (h : SlAt cChg (Old w0) w0 A l) (hb : (recordE l).length ≤ 1099511627776) (hl : l.length ≤ 1099511627776) :
  Cal Tryz.prog 89 [.slice A l.length cap] w0 (fun v w' => Upd [] w0 w' ∧ v = str (recordE l)) := by
 refine Cal.mk' Zk Tryz.func89 rfl rfl fun hS => ?_
 have hpl := putN_len10 (n := l.length) Zo
 have h0 : ([] : List UInt8).length = 0 := rfl
 repeat' (first | (show WL _ _ _ _ _ _ _; first | refine WL.pure rfl rfl rfl rfl ?_ | refine WL.nil ?_ | (refine WL.calls hS rfl rfl (wuint_c l.length _ Zo) rfl rfl rfl ?_; rintro v w rfl hS) | (refine WL.alloc (t := 199) hS rfl rfl rfl rfl rfl rfl ?_; intro w q hS; have hS := (hS.nilRow 5 1).perm (.swap _ _ _); have hS := St.objClose (H := []) (φ := sbφ q []) (D := sbD q none none 0 0 []) hS (.inl ⟨rfl, rfl⟩)) | (refine WL.callG rfl rfl (bwrites_c q [] (putN l.length) _ _ (hS.holds _ Zh) (hS.inB_of Zh) Zo) rfl rfl rfl ?_; rintro v w ⟨rfl, fp', hmut⟩; have hS := hS.mut hmut .here; clear hmut)) | (show WC _ _ _ _ _ _; first | refine WC.seq ?_ | refine WC.region ?_ | refine WC.block ?_) | refine seqQ_n ?_)
 refine WC.loop (σ := Nat × List UInt8 × List Nat) [5, 16, 17] (fun (k, acc, fp) => [(18, .int .i64 (k : Int))]) (fun (k, acc, fp) w => k ≤ l.length ∧ acc ++ (l.drop k).flatMap recO = recordE l ∧ St w0 [] w [sbC q acc fp] _) (fun (k, _) => l.length - k) (0, putN l.length, fp') ⟨Nat.zero_le _, rfl, hS⟩ ⟨rfl, trivial⟩ ?_
 clear hS
 rintro ⟨k, acc, fp⟩ g w ⟨hk, hacc, hS⟩
 by_cases hlt : k < l.length
 ·obtain ⟨rb, ro, es, rfl, hF, hr, hes⟩ := h.at_ hlt
  have hes : es = cellsChg l[k] := hes
  subst hes
  have hr : w0.rangeAt rb (ro + k * 3) (cellsChg l[k]) := hr
  rw [List.drop_eq_getElem_cons hlt, List.flatMap_cons] at hacc
  generalize l[k] = o at *
  obtain ⟨key, val, gone⟩ := o
  have hlen := congrArg List.length hacc
  rw [List.length_append, List.length_append] at hlen
  have e0 : ([0] : List UInt8).length = 1 := rfl
  have e1 : ([1] : List UInt8).length = 1 := rfl
  have ht := textE_len key
  have htv := textE_len val
  rcases gone with _ | _
  ·have hrec : recO ⟨key, val, false⟩ = [1] ++ textE key ++ textE val := by simp [recO]
   rw [hrec] at hacc hlen
   have e2 : ([1] ++ textE key).length = 1 + (textE key).length := by simp; omega
   have e3 : ([1] ++ textE key ++ textE val).length = 1 + (textE key).length + (textE val).length := by simp; omega
   repeat' (first | (show WL _ _ _ _ _ _ _; first | refine WL.pure rfl rfl rfl rfl ?_ | refine WL.nil ?_ | refine WL.load hS rfl rfl (LdOk.box (by repeat (first | exact Zh | apply List.Mem.tail)) rfl) rfl rfl rfl ?_ | refine WL.add rfl rfl rfl Zo rfl rfl rfl ?_ | (refine WL.load hS rfl rfl (LdOk.snap0 hF hr (by repeat (first | exact Zh | apply List.Mem.tail)) rfl) rfl rfl rfl ?_) | (refine WL.alloc (t := 79) hS rfl rfl rfl rfl rfl rfl ?_; intro w ob hS) | (refine WL.store hS rfl rfl rfl Sb rfl rfl rfl ?_; intro w hS) | refine WL.index rfl rfl rfl rfl Zw rfl rfl rfl rfl ?_) | (show WC _ _ _ _ _ _; first | refine WC.seq ?_ | refine WC.region ?_ | refine WC.block ?_ | refine WC.skip ?_ | (show WC _ _ (Code.region _ (List.toArray [_, _, _, _, _, _, _, _, _]) true) _ _ _; refine WC.drawL [sbC q acc fp] hS Pu [0,1,3,4,5,7] [0,1,4,5,2,3,6,7,8] Zk Zk ?_; clear hS; intro w hS hM) | refine WC.condF rfl Zr ?_ | refine WC.condT rfl (decide_eq_true Zw) ?_) | (show WD _ _ _ _ _ _ _ _ _; first | refine WD.pure rfl rfl rfl rfl rfl ?_ | refine WD.nil ?_ | refine WD.load rfl rfl (LdOk.box (by repeat (first | exact Zh | apply List.Mem.tail)) rfl) rfl rfl rfl rfl ?_ | (refine WD.cat rfl rfl rfl Zo rfl rfl rfl rfl ?_) | (refine WD.calls hS hM rfl rfl (wtext_c key _ Zo) rfl rfl rfl rfl rfl ?_; clear hS; rintro v w rfl hS) | (refine WD.calls hS hM rfl rfl (wtext_c val _ Zo) rfl rfl rfl rfl rfl ?_; clear hS; rintro v w rfl hS) | (refine WD.callL (D := [sbC q acc fp]) hS Pu (.refl _ _) rfl rfl (fun hI => bwrites_c q acc ([1] ++ textE key ++ textE val) fp _ hI.head hI.headB Zo) rfl rfl rfl rfl rfl ?_; rintro v w ⟨rfl, fp', hm⟩; refine ⟨_, .of1 hm, fun hS hM => ?_⟩; clear hm)) | refine seqQ_n ?_ | refine blkQ_n ?_)
   exact rndQ_n (k + 1, acc ++ ([1] ++ textE key ++ textE val), fp') ⟨Zo, by rw [← hacc]; simp, hS.droplast2 Pu⟩ (by show l.length - (k + 1) < l.length - k; omega) ⟨vint Zo, trivial⟩ ⟨rfl, rfl, rfl, trivial⟩
  ·have hrec : recO ⟨key, val, true⟩ = [0] ++ textE key := by simp [recO]
   rw [hrec] at hacc hlen
   have e2 : ([0] ++ textE key).length = 1 + (textE key).length := by simp; omega
   repeat' (first | (show WL _ _ _ _ _ _ _; first | refine WL.pure rfl rfl rfl rfl ?_ | refine WL.nil ?_ | refine WL.load hS rfl rfl (LdOk.box (by repeat (first | exact Zh | apply List.Mem.tail)) rfl) rfl rfl rfl ?_ | refine WL.add rfl rfl rfl Zo rfl rfl rfl ?_ | (refine WL.load hS rfl rfl (LdOk.snap0 hF hr (by repeat (first | exact Zh | apply List.Mem.tail)) rfl) rfl rfl rfl ?_) | (refine WL.alloc (t := 79) hS rfl rfl rfl rfl rfl rfl ?_; intro w ob hS) | (refine WL.calls hS rfl rfl (wtext_c key _ Zo) rfl rfl rfl ?_; rintro v w rfl hS) | (refine WL.callG rfl rfl (bwrites_c q acc ([0] ++ textE key) _ _ (hS.holds _ (List.Mem.tail _ Zh)) (hS.inB_of (List.Mem.tail _ Zh)) Zo) rfl rfl rfl ?_; rintro v w ⟨rfl, fp', hmut⟩; have hS := hS.mut hmut (.there .here); clear hmut) | refine WL.cat rfl rfl rfl Zo rfl rfl rfl ?_ | (refine WL.store hS rfl rfl rfl Sb rfl rfl rfl ?_; intro w hS) | refine WL.index rfl rfl rfl rfl Zw rfl rfl rfl rfl ?_) | (show WC _ _ _ _ _ _; first | refine WC.seq ?_ | refine WC.region ?_ | refine WC.block ?_ | refine WC.skip ?_ | refine WC.condT rfl Zr ?_ | refine WC.condT rfl (decide_eq_true Zw) ?_) | refine seqQ_n ?_ | refine blkQ_n ?_)
   exact rndQ_n (k + 1, acc ++ ([0] ++ textE key), fp') ⟨Zo, by rw [← hacc]; simp, hS.drop⟩ (by show l.length - (k + 1) < l.length - k; omega) ⟨vint Zo, trivial⟩ ⟨rfl, rfl, rfl, trivial⟩
 ·have hke : k = l.length := Zo
  subst hke
  have hacc : acc = recordE l := by simpa using hacc
  subst hacc
  repeat' (first | (show WL _ _ _ _ _ _ _; first | refine WL.pure rfl rfl rfl rfl ?_ | refine WL.nil ?_ | (refine WL.callG rfl rfl (bstring_c q (recordE l) fp _ (hS.holds _ Zh) (hS.inB_of Zh) Zo) rfl rfl rfl ?_; rintro v w ⟨rfl, hu⟩; have hS := hS.lose hu)) | (show WC _ _ _ _ _ _; first | refine WC.seq ?_ | refine WC.region ?_ | refine WC.exit ?_ | refine WC.ret ?_ | refine WC.condF rfl (decide_eq_false Zw) ?_) | refine seqQ_n ?_ | refine seqQ_x ?_ | refine blkQ_hit rfl ?_ | refine rndQ_x ?_)
  exact fin1r rfl rfl ⟨hS.upd, rfl⟩
def opsR (w0 : World) (r : List Chg × Int) (v : Value) (w' : World) : Prop := Upd [] w0 w' ∧ ∃ A cap, v = .tuple #[.slice A r.1.length cap, .int .i64 r.2] ∧ New w0 w' (.own (.slice A r.1.length cap) 79 3 r.1.length (chgs r.1))
theorem ops_c (s : List UInt8) (w0 : World) (hl : s.length ≤ 1099511627776) : Cal Tryz.prog 91 [str s] w0 (opsR w0 (opsE s)) := by
 refine Cal.mk' Zk Tryz.func91 rfl rfl fun hS => ?_
 rcases hu : uintE s with ⟨n, u, e⟩
 have hu0 : uintE (s.drop 0) = (n, u, e) := hu
 have hule := uintE_le s
 have hnok := uintE_ok s
 rw [hu] at hule hnok
 dsimp only at hule hnok
 by_cases he : e = 0
 rotate_left
 ·rw [opsE_e hu he]
  clear hnok hu
  repeat' (first | (show WL _ _ _ _ _ _ _; first | refine WL.pure rfl rfl rfl rfl ?_ | refine WL.nil ?_ | (refine WL.callG rfl rfl (wnew_c s _) rfl rfl rfl ?_; rintro v w ⟨hup, r, rfl, hnew⟩; have hS := hS.new hup hnew; clear hup hnew) | (refine WL.callG rfl rfl (uint_e hu0 (hS.holds _ Zh) (hS.inB_of Zh) Zo Zo) rfl rfl rfl ?_; rintro v w ⟨rfl, hmut⟩; have hS := hS.mut hmut .here; clear hmut)) | (show WC _ _ _ _ _ _; first | refine WC.seq ?_ | refine WC.region ?_ | refine WC.ret ?_ | refine WC.condT rfl (decide_eq_true Zw) ?_) | refine seqQ_n ?_ | refine seqQ_r ?_)
  have hS := hS.nilRow 79 3
  exact fin2r rfl rfl rfl ⟨hS.upd, _, _, rfl, hS.newOf Zh⟩
 subst he
 obtain ⟨hn63, _⟩ := hnok rfl
 rw [opsE_of hu]
 clear hnok hu
 generalize hRES : opsFin s [] u (opsF n (s.drop u)) = RES
 repeat' (first | (show WL _ _ _ _ _ _ _; first | refine WL.pure rfl rfl rfl rfl ?_ | refine WL.nil ?_ | (refine WL.callG rfl rfl (wnew_c s _) rfl rfl rfl ?_; rintro v w ⟨hup, r, rfl, hnew⟩; have hS := hS.new hup hnew; clear hup hnew) | (refine WL.callG rfl rfl (uint_e hu0 (hS.holds _ Zh) (hS.inB_of Zh) Zo Zo) rfl rfl rfl ?_; rintro v w ⟨rfl, hmut⟩; have hS := hS.mut hmut .here; clear hmut) | (refine WL.slit (t := 73) hS rfl rfl rfl rfl rfl ?_; intro w ob hS; have hS := hS.boxRow (n := 0) (size := 3) .here rfl (Nat.zero_le _))) | (show WC _ _ _ _ _ _; first | refine WC.seq ?_ | refine WC.region ?_ | refine WC.block ?_ | refine WC.skip ?_ | refine WC.condF rfl Zd ?_) | refine seqQ_n ?_)
 refine WC.loop (σ := Nat × List Chg × Nat × Option Addr × Nat) [4, 23] (fun (k, l, p, A, cap) => [(7, .slice A l.length cap), (24, .int .i64 (k : Int))])
  (fun (k, l, p, A, cap) w => k ≤ n ∧ p ≤ s.length ∧ l.length ≤ p ∧ opsFin s l p (opsF (n - k) (s.drop p)) = RES ∧ St w0 [] w [.own (.slice A l.length cap) 79 3 l.length (chgs l), rdC r s p] _)
  (fun (k, _) => n - k) (0, [], u, _, 0) ⟨Nat.zero_le _, hule, Nat.zero_le _, hRES, by rw [Nat.zero_add] at hS; exact hS⟩ ⟨rfl, rfl, trivial⟩ ?_
 clear hS hRES hu0
 rintro ⟨k, l, p, A, cap⟩ g w ⟨hk, hp, hlp, hres, hS⟩
 show WC _ _ _ (lf _ [(7, .slice A l.length cap), (24, .int .i64 (k : Int))] _ _) _ _
 by_cases hlt : k < n
 ·obtain ⟨m, hm⟩ : ∃ m, n - k = m + 1 := ⟨n - k - 1, Zo⟩
  have hm1 : n - (k + 1) = m := Zo
  rw [hm] at hres
  rcases hu1 : uintE (s.drop p) with ⟨kd, u1, e1⟩
  have hl1 := uintE_le (s.drop p)
  rw [hu1, List.length_drop] at hl1
  dsimp only at hl1
  by_cases he1 : e1 = 0
  rotate_left
  ·rw [opsFin_no (opE_e hu1 he1) he1] at hres
   subst hres
   clear hm hm1
   repeat' (first | (show WL _ _ _ _ _ _ _; first | refine WL.pure rfl rfl rfl rfl ?_ | refine WL.nil ?_ | (refine WL.callG rfl rfl (uint_e hu1 (hS.holds _ (List.Mem.tail _ Zh)) (hS.inB_of (List.Mem.tail _ Zh)) Zo Zo) rfl rfl rfl ?_; rintro v w ⟨rfl, hmut⟩; have hS := hS.mut hmut (.there .here); clear hmut) | refine WL.skip rfl rfl rfl ?_ | ((fail_if_success (refine WL.wanted rfl ?_)); refine WL.guard rfl rfl rfl (fun h => ?_) (fun h => ?_) <;> (try simp only [Ya,Yb,Yc,Yd,Ye,Yf,Yg,Yh,Yi,Yj,Yk,Yl,Ym,Yn,Yo,Yp] at h) <;> (try exact Zx))) | (show WC _ _ _ _ _ _; first | refine WC.seq ?_ | refine WC.region ?_ | refine WC.block ?_ | refine WC.skip ?_ | refine WC.ret ?_ | refine WC.condF rfl Zr ?_ | refine WC.condT rfl (decide_eq_true Zw) ?_) | refine seqQ_n ?_ | refine seqQ_r ?_ | refine blkQ_r ?_ | refine rndQ_r ?_)
   have hS := hS.nilRow 79 3
   exact fin2r rfl rfl rfl ⟨hS.upd, _, _, rfl, hS.newOf Zh⟩
  subst he1
  have hd1 : (s.drop p).drop u1 = s.drop (p + u1) := by rw [List.drop_drop]
  by_cases hk1 : 1 < kd
  ·rw [opsFin_no (opE_big hu1 hk1) Zd] at hres
   subst hres
   clear hm hm1 hd1
   repeat' (first | (show WL _ _ _ _ _ _ _; first | refine WL.pure rfl rfl rfl rfl ?_ | refine WL.nil ?_ | (refine WL.callG rfl rfl (uint_e hu1 (hS.holds _ (List.Mem.tail _ Zh)) (hS.inB_of (List.Mem.tail _ Zh)) Zo Zo) rfl rfl rfl ?_; rintro v w ⟨rfl, hmut⟩; have hS := hS.mut hmut (.there .here); clear hmut)) | (show WC _ _ _ _ _ _; first | refine WC.seq ?_ | refine WC.region ?_ | refine WC.block ?_ | refine WC.skip ?_ | refine WC.ret ?_ | refine WC.condT rfl Zd ?_ | refine WC.condT rfl (decide_eq_true Zw) ?_) | refine seqQ_n ?_ | refine seqQ_r ?_ | refine blkQ_r ?_ | refine rndQ_r ?_)
   have hS := hS.nilRow 79 3
   exact fin2r rfl rfl rfl ⟨hS.upd, _, _, rfl, hS.newOf Zh⟩
  rcases hu2 : rtextE (s.drop (p + u1)) with ⟨x, v2, e2⟩
  have hl2 := rtextE_le' (s.drop (p + u1))
  rw [hu2, List.length_drop] at hl2
  dsimp only at hl2
  have hu2' := hu2
  rw [← hd1] at hu2'
  by_cases he2 : e2 = 0
  rotate_left
  ·rw [opsFin_no (opE_k hu1 hk1 hu2' he2) he2] at hres
   subst hres
   clear hm hm1 hd1 hu2'
   repeat' (first | (show WL _ _ _ _ _ _ _; first | refine WL.pure rfl rfl rfl rfl ?_ | refine WL.nil ?_ | (refine WL.callG rfl rfl (uint_e hu1 (hS.holds _ (List.Mem.tail _ Zh)) (hS.inB_of (List.Mem.tail _ Zh)) Zo Zo) rfl rfl rfl ?_; rintro v w ⟨rfl, hmut⟩; have hS := hS.mut hmut (.there .here); clear hmut) | (refine WL.alloc (t := 79) hS rfl rfl rfl rfl rfl rfl ?_; intro w ob hS) | (refine WL.callG rfl rfl (rtext_e hu2 (hS.holds _ (List.Mem.tail _ (List.Mem.tail _ Zh))) (hS.inB_of (List.Mem.tail _ (List.Mem.tail _ Zh))) Zo Zo) rfl rfl rfl ?_; rintro v w ⟨rfl, hmut⟩; have hS := hS.mut hmut (.there (.there .here)); clear hmut) | (refine WL.store hS rfl rfl rfl Sb rfl rfl rfl ?_; intro w hS) | refine WL.build rfl rfl rfl rfl rfl ?_) | (show WC _ _ _ _ _ _; first | refine WC.seq ?_ | refine WC.region ?_ | refine WC.block ?_ | refine WC.skip ?_ | refine WC.ret ?_ | refine WC.condF rfl Zd ?_ | refine WC.condT rfl (decide_eq_true Zw) ?_ | refine WC.condF rfl (decide_eq_false Zw) ?_) | refine seqQ_n ?_ | refine seqQ_r ?_ | refine blkQ_r ?_ | refine rndQ_r ?_)
   have hS := hS.nilRow 79 3
   exact fin2r rfl rfl rfl ⟨hS.upd, _, _, rfl, hS.newOf Zh⟩
  subst he2
  have hd2 : (s.drop p).drop (u1 + v2) = s.drop (p + u1 + v2) := by rw [List.drop_drop, Nat.add_assoc]
  have hcap := hS.own_len Zh
  have hpos := uintE_pos (s.drop p)
  rw [hu1] at hpos
  have hpos : 1 ≤ u1 := hpos rfl
  by_cases hk0 : kd = 0
  ·subst hk0
   rw [opsFin_ok (opE_gone hu1 hu2'), hd2, ← Nat.add_assoc, ← hm1] at hres
   clear hm hm1 hd1 hu2' hd2
   repeat' (first | (show WL _ _ _ _ _ _ _; first | refine WL.pure rfl rfl rfl rfl ?_ | refine WL.nil ?_ | refine WL.load hS rfl rfl (LdOk.box (by repeat (first | exact Zh | apply List.Mem.tail)) rfl) rfl rfl rfl ?_ | refine WL.add rfl rfl rfl Zo rfl rfl rfl ?_ | (refine WL.callG rfl rfl (uint_e hu1 (hS.holds _ (List.Mem.tail _ Zh)) (hS.inB_of (List.Mem.tail _ Zh)) Zo Zo) rfl rfl rfl ?_; rintro v w ⟨rfl, hmut⟩; have hS := hS.mut hmut (.there .here); clear hmut) | (refine WL.alloc (t := 79) hS rfl rfl rfl rfl rfl rfl ?_; intro w ob hS) | (refine WL.callG rfl rfl (rtext_e hu2 (hS.holds _ (List.Mem.tail _ (List.Mem.tail _ Zh))) (hS.inB_of (List.Mem.tail _ (List.Mem.tail _ Zh))) Zo Zo) rfl rfl rfl ?_; rintro v w ⟨rfl, hmut⟩; have hS := hS.mut hmut (.there (.there .here)); clear hmut) | (refine WL.app hS rfl rfl rfl rfl (RdOk.box (by repeat (first | exact Zh | apply List.Mem.tail))) rfl rfl (fun A cap => Rp) Zo rfl rfl rfl ?_; intro A cap w hS) | (refine WL.store hS rfl rfl rfl Sb rfl rfl rfl ?_; intro w hS) | refine WL.build rfl rfl rfl rfl rfl ?_ | (refine WL.slit hS rfl rfl rfl rfl rfl ?_; intro w b hS)) | (show WC _ _ _ _ _ _; first | refine WC.seq ?_ | refine WC.region ?_ | refine WC.block ?_ | refine WC.skip ?_ | refine WC.condF rfl Zd ?_ | refine WC.condT rfl (decide_eq_true Zw) ?_) | refine seqQ_n ?_ | refine blkQ_n ?_)
   exact rndQ_n (k + 1, l ++ [⟨x, [], true⟩], p + u1 + v2, _, _) ⟨Zo, Zo, by simp; omega, hres, by
    have hS := hS.drop.drop
    rw [List.length_append, ← chgs_snoc]
    exact hS⟩ (by show n - (k + 1) < n - k; omega) ⟨by rw [List.length_append]; rfl, vint Zo, trivial⟩ ⟨rfl, rfl, trivial⟩
  obtain rfl : kd = 1 := Zo
  rcases hu3 : rtextE (s.drop (p + u1 + v2)) with ⟨y, v3, e3⟩
  have hl3 := rtextE_le' (s.drop (p + u1 + v2))
  rw [hu3, List.length_drop] at hl3
  dsimp only at hl3
  have hu3' := hu3
  rw [← hd2] at hu3'
  by_cases he3 : e3 = 0
  rotate_left
  ·rw [opsFin_no (opE_v hu1 hu2' hu3' he3) he3] at hres
   subst hres
   clear hm hm1 hd1 hu2' hu3' hd2
   repeat' (first | (show WL _ _ _ _ _ _ _; first | refine WL.pure rfl rfl rfl rfl ?_ | refine WL.nil ?_ | refine WL.load hS rfl rfl (LdOk.box (by repeat (first | exact Zh | apply List.Mem.tail)) rfl) rfl rfl rfl ?_ | (refine WL.callG rfl rfl (uint_e hu1 (hS.holds _ (List.Mem.tail _ Zh)) (hS.inB_of (List.Mem.tail _ Zh)) Zo Zo) rfl rfl rfl ?_; rintro v w ⟨rfl, hmut⟩; have hS := hS.mut hmut (.there .here); clear hmut) | (refine WL.alloc (t := 79) hS rfl rfl rfl rfl rfl rfl ?_; intro w ob hS) | (refine WL.callG rfl rfl (rtext_e hu2 (hS.holds _ (List.Mem.tail _ (List.Mem.tail _ Zh))) (hS.inB_of (List.Mem.tail _ (List.Mem.tail _ Zh))) Zo Zo) rfl rfl rfl ?_; rintro v w ⟨rfl, hmut⟩; have hS := hS.mut hmut (.there (.there .here)); clear hmut) | (refine WL.callG rfl rfl (rtext_e hu3 (hS.holds _ (List.Mem.tail _ (List.Mem.tail _ Zh))) (hS.inB_of (List.Mem.tail _ (List.Mem.tail _ Zh))) Zo Zo) rfl rfl rfl ?_; rintro v w ⟨rfl, hmut⟩; have hS := hS.mut hmut (.there (.there .here)); clear hmut) | (refine WL.store hS rfl rfl rfl Sb rfl rfl rfl ?_; intro w hS) | refine WL.build rfl rfl rfl rfl rfl ?_) | (show WC _ _ _ _ _ _; first | refine WC.seq ?_ | refine WC.region ?_ | refine WC.block ?_ | refine WC.skip ?_ | refine WC.ret ?_ | refine WC.condT rfl Zd ?_ | refine WC.condF rfl Zd ?_ | refine WC.condT rfl (decide_eq_true Zw) ?_) | refine seqQ_n ?_ | refine seqQ_r ?_ | refine blkQ_r ?_ | refine rndQ_r ?_)
   have hS := hS.nilRow 79 3
   exact fin2r rfl rfl rfl ⟨hS.upd, _, _, rfl, hS.newOf Zh⟩
  subst he3
  have hd3 : (s.drop p).drop (u1 + v2 + v3) = s.drop (p + u1 + v2 + v3) := by rw [List.drop_drop]; congr 1; omega
  rw [opsFin_ok (opE_put hu1 hu2' hu3'), hd3, show p + (u1 + v2 + v3) = p + u1 + v2 + v3 by omega, ← hm1] at hres
  clear hm hm1 hd1 hu2' hu3' hd2 hd3 hk0 hk1
  repeat' (first | (show WL _ _ _ _ _ _ _; first | refine WL.pure rfl rfl rfl rfl ?_ | refine WL.nil ?_ | refine WL.load hS rfl rfl (LdOk.box (by repeat (first | exact Zh | apply List.Mem.tail)) rfl) rfl rfl rfl ?_ | refine WL.add rfl rfl rfl Zo rfl rfl rfl ?_ | (refine WL.callG rfl rfl (uint_e hu1 (hS.holds _ (List.Mem.tail _ Zh)) (hS.inB_of (List.Mem.tail _ Zh)) Zo Zo) rfl rfl rfl ?_; rintro v w ⟨rfl, hmut⟩; have hS := hS.mut hmut (.there .here); clear hmut) | (refine WL.alloc (t := 79) hS rfl rfl rfl rfl rfl rfl ?_; intro w ob hS) | (refine WL.callG rfl rfl (rtext_e hu2 (hS.holds _ (List.Mem.tail _ (List.Mem.tail _ Zh))) (hS.inB_of (List.Mem.tail _ (List.Mem.tail _ Zh))) Zo Zo) rfl rfl rfl ?_; rintro v w ⟨rfl, hmut⟩; have hS := hS.mut hmut (.there (.there .here)); clear hmut) | (refine WL.callG rfl rfl (rtext_e hu3 (hS.holds _ (List.Mem.tail _ (List.Mem.tail _ Zh))) (hS.inB_of (List.Mem.tail _ (List.Mem.tail _ Zh))) Zo Zo) rfl rfl rfl ?_; rintro v w ⟨rfl, hmut⟩; have hS := hS.mut hmut (.there (.there .here)); clear hmut) | (refine WL.app hS rfl rfl rfl rfl (RdOk.box (by repeat (first | exact Zh | apply List.Mem.tail))) rfl rfl (fun A cap => Rp) Zo rfl rfl rfl ?_; intro A cap w hS) | (refine WL.store hS rfl rfl rfl Sb rfl rfl rfl ?_; intro w hS) | refine WL.build rfl rfl rfl rfl rfl ?_ | (refine WL.slit hS rfl rfl rfl rfl rfl ?_; intro w b hS)) | (show WC _ _ _ _ _ _; first | refine WC.seq ?_ | refine WC.region ?_ | refine WC.block ?_ | refine WC.skip ?_ | refine WC.condT rfl Zd ?_ | refine WC.condF rfl Zd ?_ | refine WC.condT rfl (decide_eq_true Zw) ?_) | refine seqQ_n ?_ | refine blkQ_n ?_)
  exact rndQ_n (k + 1, l ++ [⟨x, y, false⟩], p + u1 + v2 + v3, _, _) ⟨Zo, Zo, by simp; omega, hres, by
   have hS := hS.drop.drop
   rw [List.length_append, ← chgs_snoc]
   exact hS⟩ (by show n - (k + 1) < n - k; omega) ⟨by rw [List.length_append]; rfl, vint Zo, trivial⟩ ⟨rfl, rfl, trivial⟩
 ·have hke : n - k = 0 := Zo
  rw [hke] at hres
  have hres : (if p < s.length then (([], 5) : List Chg × Int) else (l, 0)) = RES := by rw [← hres]; unfold opsFin opsF; simp
  by_cases hps : p < s.length
  case' pos => rw [if_pos hps] at hres
  case' neg => rw [if_neg hps] at hres
  all_goals
   subst hres
   clear hke
   repeat' (first | (show WL _ _ _ _ _ _ _; first | refine WL.pure rfl rfl rfl rfl ?_ | refine WL.nil ?_ | (refine WL.calls hS rfl rfl (rdone_c r s p _ (hS.holds _ (List.Mem.tail _ Zh))) rfl rfl rfl ?_; rintro v w rfl hS; first | rw [if_pos hps] | rw [if_neg hps])) | (show WC _ _ _ _ _ _; first | refine WC.seq ?_ | refine WC.region ?_ | refine WC.skip ?_ | refine WC.exit ?_ | refine WC.ret ?_ | refine WC.condT rfl Zd ?_ | refine WC.condF rfl Zd ?_ | refine WC.condF rfl (decide_eq_false Zw) ?_) | refine seqQ_n ?_ | refine seqQ_x ?_ | refine seqQ_r ?_ | refine blkQ_hit rfl ?_ | refine rndQ_x ?_)
  all_goals first
   |exact fin2r rfl rfl rfl ⟨hS.upd, _, _, rfl, hS.newOf Zh⟩
   |exact fin2r rfl rfl rfl ⟨hS.upd, _, _, rfl, (hS.nilRow 79 3).newOf Zh⟩
open Go Go.J Go.RowKit
abbrev Rws := List (List UInt8 × List UInt8)
@[reducible] def encRow (s : List UInt8) : Value := .agg ⟨[str s]⟩
abbrev tbB (T : Nat) (dp : Option Addr) (dir : List UInt8) (lp : Option Addr) (m : Nat) : Chunk := .box T 139 [.pointer dp, str dir, .pointer lp, .map (some m)]
abbrev rowsC (m : Nat) (rows : Rws) : Chunk := mapC m (mmap encRow rows)
abbrev chgC (A : Option Addr) (cap : Nat) (l : List Chg) : Chunk := .own (.slice A l.length cap) 79 3 l.length (chgs l)
theorem rows_set (m : Nat) (rs : Rws) (key val : List UInt8) : mapC m (mset (mmap encRow rs) key (encRow val)) = rowsC m (mset rs key val) := by rw [mset_map]
theorem rows_del (m : Nat) (rs : Rws) (key : List UInt8) : mapC m (mdel (mmap encRow rs) key) = rowsC m (mdel rs key) := by rw [mdel_map]
theorem applyE_cons (rows : Rws) (o : Chg) (l : List Chg) : applyE rows (o :: l) = applyE (if o.gone then mdel rows o.key else mset rows o.key o.val) l := rfl
theorem apply_c {T m cap : Nat} {dp lp A : Option Addr} {dir : List UInt8} {rows : Rws} {l : List Chg} {w0 : World} (hi : InL w0 [tbB T dp dir lp m, rowsC m rows, chgC A cap l]) (hl : l.length ≤ 1099511627776) :
  Cal Tryz.prog 92 [.pointer (some ⟨T, 0, none⟩), .slice A l.length cap] w0
   (fun v w' => v = .tuple #[] ∧ MutL w0 w' [tbB T dp dir lp m, rowsC m rows, chgC A cap l] [tbB T dp dir lp m, rowsC m (applyE rows l), chgC A cap l]) := by
 refine Cal.mkL hi Zk Tryz.func92 rfl rfl fun hS => ?_
 repeat' (first | (show WL _ _ _ _ _ _ _; first | refine WL.pure rfl rfl rfl rfl ?_ | refine WL.nil ?_) | (show WC _ _ _ _ _ _; first | refine WC.seq ?_ | refine WC.region ?_ | refine WC.block ?_) | refine seqQ_n ?_)
 refine WC.loop (σ := Nat × Rws) [0, 6, 7] (fun (k, rs) => [(8, .int .i64 (k : Int))]) (fun (k, rs) w => k ≤ l.length ∧ applyE rs (l.drop k) = applyE rows l ∧ St w0 (fps [tbB T dp dir lp m, rowsC m rows, chgC A cap l]) w [tbB T dp dir lp m, rowsC m rs, chgC A cap l] _) (fun (k, _) => l.length - k) (0, rows) ⟨Nat.zero_le _, rfl, hS⟩ ⟨rfl, trivial⟩ ?_
 clear hS
 rintro ⟨k, rs⟩ g w ⟨hk, hrs, hS⟩
 show WC _ _ _ (lf _ [(8, .int .i64 (k : Int))] _ _) _ _
 by_cases hlt : k < l.length
 ·have hat : l[k]? = some l[k] := List.getElem?_eq_getElem hlt
  rw [List.drop_eq_getElem_cons hlt, applyE_cons] at hrs
  generalize l[k] = o at *
  obtain ⟨key, val, gone⟩ := o
  obtain ⟨rg, ro, rfl⟩ := hS.own_addr (List.Mem.tail _ (List.Mem.tail _ Zh)) (Nat.lt_of_le_of_lt (Nat.zero_le k) hlt)
  rcases gone with _ | _
  ·replace hrs : applyE (mset rs key val) (l.drop (k + 1)) = applyE rows l := hrs
   repeat' (first | (show WL _ _ _ _ _ _ _; first | refine WL.pure rfl rfl rfl rfl ?_ | refine WL.nil ?_ | refine WL.load hS rfl rfl (LdOk.box (by repeat (first | exact Zh | apply List.Mem.tail)) rfl) rfl rfl rfl ?_ | refine WL.add rfl rfl rfl Zo rfl rfl rfl ?_ | (refine WL.load hS rfl rfl (LdOk.ownElemE (fun _ => rfl) (by repeat (first | exact Zh | apply List.Mem.tail)) hat rfl rfl) rfl rfl rfl ?_) | (refine WL.alloc (t := 79) hS rfl rfl rfl rfl rfl rfl ?_; intro w ob hS) | (refine WL.store hS rfl rfl rfl Sb rfl rfl rfl ?_; intro w hS) | refine WL.index rfl rfl rfl rfl Zw rfl rfl rfl rfl ?_) | (show WC _ _ _ _ _ _; first | refine WC.seq ?_ | refine WC.region ?_ | refine WC.block ?_ | refine WC.skip ?_ | (show WC _ _ (Code.region _ (List.toArray [_, _, _, _, _, _, _, _, _, _]) true) _ _ _; refine WC.drawL [rowsC m rs] hS Pu [0,1,2,3,4,5,6,7,8] [0,1,2,3,4,5,6,7,8,9] Zk Zk ?_; clear hS; intro w hS hM) | refine WC.condF rfl Zr ?_ | refine WC.condT rfl (decide_eq_true Zw) ?_) | (show WD _ _ _ _ _ _ _ _ _; first | refine WD.pure rfl rfl rfl rfl rfl ?_ | refine WD.nil ?_ | refine WD.load rfl rfl (LdOk.box (by repeat (first | exact Zh | apply List.Mem.tail)) rfl) rfl rfl rfl rfl ?_ | (refine WD.msetC hS (More.refl _ _) (.inl rfl) rfl rfl rfl rfl rfl rfl rfl rfl ?_; clear hS; intro w hS) | refine WD.build rfl rfl rfl rfl rfl rfl ?_) | refine seqQ_n ?_ | refine blkQ_n ?_)
   exact rndQ_n (k + 1, mset rs key val) ⟨Zo, hrs, by rw [← rows_set]; exact hS.droplast2 Pu⟩ (by show l.length - (k + 1) < l.length - k; omega) ⟨vint Zo, trivial⟩ ⟨rfl, rfl, rfl, trivial⟩
  ·replace hrs : applyE (mdel rs key) (l.drop (k + 1)) = applyE rows l := hrs
   repeat' (first | (show WL _ _ _ _ _ _ _; first | refine WL.pure rfl rfl rfl rfl ?_ | refine WL.nil ?_ | refine WL.load hS rfl rfl (LdOk.box (by repeat (first | exact Zh | apply List.Mem.tail)) rfl) rfl rfl rfl ?_ | refine WL.add rfl rfl rfl Zo rfl rfl rfl ?_ | (refine WL.load hS rfl rfl (LdOk.ownElemE (fun _ => rfl) (by repeat (first | exact Zh | apply List.Mem.tail)) hat rfl rfl) rfl rfl rfl ?_) | (refine WL.alloc (t := 79) hS rfl rfl rfl rfl rfl rfl ?_; intro w ob hS) | (refine WL.store hS rfl rfl rfl Sb rfl rfl rfl ?_; intro w hS) | refine WL.index rfl rfl rfl rfl Zw rfl rfl rfl rfl ?_) | (show WC _ _ _ _ _ _; first | refine WC.seq ?_ | refine WC.region ?_ | refine WC.block ?_ | refine WC.skip ?_ | (show WC _ _ (Code.region _ (List.toArray [_, _, _, _, _, _, _]) true) _ _ _; refine WC.drawL [rowsC m rs] hS Pu [0,1,2,3,4,5] [0,1,2,3,4,5,6] Zk Zk ?_; clear hS; intro w hS hM) | refine WC.condT rfl Zr ?_ | refine WC.condT rfl (decide_eq_true Zw) ?_) | (show WD _ _ _ _ _ _ _ _ _; first | refine WD.pure rfl rfl rfl rfl rfl ?_ | refine WD.nil ?_ | refine WD.load rfl rfl (LdOk.box (by repeat (first | exact Zh | apply List.Mem.tail)) rfl) rfl rfl rfl rfl ?_ | (refine WD.mdelC0 hS (More.refl _ _) rfl rfl rfl rfl rfl rfl rfl rfl ?_; clear hS; intro w hS)) | refine seqQ_n ?_ | refine blkQ_n ?_)
   exact rndQ_n (k + 1, mdel rs key) ⟨Zo, hrs, by rw [← rows_del]; exact hS.droplast2 Pu⟩ (by show l.length - (k + 1) < l.length - k; omega) ⟨vint Zo, trivial⟩ ⟨rfl, rfl, rfl, trivial⟩
 ·have hke : k = l.length := Zo
  subst hke
  rw [List.drop_length] at hrs
  have hrs : rs = applyE rows l := hrs
  subst hrs
  repeat' (first | (show WL _ _ _ _ _ _ _; first | refine WL.pure rfl rfl rfl rfl ?_ | refine WL.nil ?_) | (show WC _ _ _ _ _ _; first | refine WC.seq ?_ | refine WC.region ?_ | refine WC.exit ?_ | refine WC.condF rfl (decide_eq_false Zw) ?_) | refine seqQ_n ?_ | refine seqQ_x ?_ | refine blkQ_hit rfl ?_ | refine rndQ_x ?_)
  exact fin0n rfl ⟨rfl, hS.mutLp Pu⟩
abbrev baseP (dir : List UInt8) : List UInt8 := dir ++ [47, 98, 97, 115, 101]
abbrev logP (dir : List UInt8) : List UInt8 := dir ++ [47, 108, 111, 103]
def tabLoad (D : Dk) (dir : List UInt8) : Int × Rws :=
 if (D.read (baseP dir)).2 ≠ 0 then ((D.read (baseP dir)).2, [])
 else if (readE (D.read (baseP dir)).1).2.2 ≠ 0 then ((readE (D.read (baseP dir)).1).2.2, [])
 else if (readE (D.read (baseP dir)).1).2.1 < (D.read (baseP dir)).1.length then (5, [])
 else if (opsE (readE (D.read (baseP dir)).1).1).2 ≠ 0 then ((opsE (readE (D.read (baseP dir)).1).1).2, [])
 else (0, applyE [] (opsE (readE (D.read (baseP dir)).1).1).1)
theorem readE_len (t : List UInt8) : (readE t).1.length ≤ t.length := by
 by_cases h : (readE t).2.2 = 0
 ·exact (readE_le t h).2.2
 ·unfold readE at h ⊢
  split
  ·rename_i h1
   rw [if_pos h1] at h
   split
   ·exact Nat.zero_le _
   ·rename_i h2
    rw [if_neg h2] at h
    split
    ·rename_i h3
     rw [if_pos h3] at h
     exact absurd rfl h
    ·exact Nat.zero_le _
  ·exact Nat.zero_le _
theorem frV_0 (x : List UInt8) (u : Nat) : frV 0 (x, u, 0) = .tuple #[str x, .int .i64 (u : Int), .int .i64 0] := by simp [frV]
theorem frV_e {x : List UInt8} {u : Nat} {e : Int} (h : e ≠ 0) : frV 0 (x, u, e) = .tuple #[str [], .int .i64 0, .int .i64 e] := by simp [frV, h]
theorem read_len {D : Dk} {B : Nat} (h : D.Sm B) (p : List UInt8) : (D.read p).1.length ≤ B := by
 have h2 := h.at_ p
 unfold Dk.read
 repeat' split
 all_goals first | exact Nat.zero_le _ | exact h2
theorem load_c {T q mb lb m : Nat} {lp : Option Addr} {dir : List UInt8} {D : Dk} {w0 : World} (hi : InL w0 [tbB T (some ⟨q, 0, none⟩) dir lp m, rowsC m [], dkC q mb lb D]) (hl : dir.length ≤ 1099511000) (hno : D.Sm 1099511627776) :
  Cal Tryz.prog 90 [.pointer (some ⟨T, 0, none⟩)] w0
   (fun v w' => v = .int .i64 (tabLoad D dir).1 ∧ MutL w0 w' [tbB T (some ⟨q, 0, none⟩) dir lp m, rowsC m [], dkC q mb lb D] [tbB T (some ⟨q, 0, none⟩) dir lp m, rowsC m (tabLoad D dir).2, dkC q mb lb D]) := by
 refine Cal.mkL hi Zk Tryz.func90 rfl rfl fun hS => ?_
 have hk5 : ([47, 98, 97, 115, 101] : List UInt8).length = 5 := rfl
 have hsl := read_len hno (baseP dir)
 unfold tabLoad
 have hrd : ∀ w0, DkIs q mb lb D w0 → Cal Tryz.prog 27 [.pointer (some ⟨q, 0, none⟩), str (baseP dir)] w0 (fun v w' => Upd [] w0 w' ∧ v = .tuple #[str (D.read (baseP dir)).1, .int .i64 (D.read (baseP dir)).2]) := fun w0 h => dread_c _ h
 generalize (D.read (baseP dir)).1 = s at *
 generalize (D.read (baseP dir)).2 = e at *
 by_cases he : e = 0
 rotate_left
 ·rw [if_pos he]
  repeat' (first | (show WL _ _ _ _ _ _ _; first | refine WL.pure rfl rfl rfl rfl ?_ | refine WL.nil ?_) | (show WC _ _ _ _ _ _; first | refine WC.seq ?_ | refine WC.region ?_ | refine WC.ret ?_ | (show WC _ _ (Code.region _ (List.toArray [_, _, _, _, _, _, _, _, _, _, _, _, _, _, _]) true) _ _ _; refine WC.drawS hS [0,1,2,3,4,5,6,7,8,10,11,12,13,14] [0,1,2,3,4,5,6,7,8,9,10,11,12,13,14] Zk Zk ?_; clear hS; intro w hS hM) | refine WC.condT rfl (decide_eq_true Zw) ?_) | (show WD _ _ _ _ _ _ _ _ _; first | refine WD.pure rfl rfl rfl rfl rfl ?_ | refine WD.nil ?_ | refine WD.load rfl rfl (LdOk.box (by repeat (first | exact Zh | apply List.Mem.tail)) rfl) rfl rfl rfl rfl ?_ | (refine WD.cat rfl rfl rfl Zo rfl rfl rfl rfl ?_) | (refine WD.calls hS hM rfl rfl (hrd _ (hS.holds (dkC q mb lb D) (by repeat (first | exact Zh | apply List.Mem.tail))).1) rfl rfl rfl rfl rfl ?_; clear hS; rintro v w rfl hS)) | refine seqQ_n ?_ | refine seqQ_r ?_)
  exact fin1r rfl rfl ⟨rfl, hS.mutLp Pu⟩
 subst he
 rw [if_neg (fun h => h rfl)]
 have hfr : ∀ w0, Cal Tryz.prog 127 [str s, .int .i64 0] w0 (fun v w' => Upd [] w0 w' ∧ v = frV 0 (readE s)) := fun w0 => fread_c s 0 w0 (Nat.zero_le _) hsl
 have hxl := readE_len s
 rcases hf : readE s with ⟨x, u, e⟩
 rw [hf] at hfr hxl
 dsimp only at hxl ⊢
 by_cases he : e = 0
 rotate_left
 ·rw [if_pos he]
  rw [frV_e he] at hfr
  repeat' (first | (show WL _ _ _ _ _ _ _; first | refine WL.pure rfl rfl rfl rfl ?_ | refine WL.nil ?_ | (refine WL.calls hS rfl rfl (hfr _) rfl rfl rfl ?_; rintro v w rfl hS)) | (show WC _ _ _ _ _ _; first | refine WC.seq ?_ | refine WC.region ?_ | refine WC.skip ?_ | refine WC.ret ?_ | (show WC _ _ (Code.region _ (List.toArray [_, _, _, _, _, _, _, _, _, _, _, _, _, _, _]) true) _ _ _; refine WC.drawS hS [0,1,2,3,4,5,6,7,8,10,11,12,13,14] [0,1,2,3,4,5,6,7,8,9,10,11,12,13,14] Zk Zk ?_; clear hS; intro w hS hM) | refine WC.condF rfl Zd ?_ | refine WC.condT rfl (decide_eq_true Zw) ?_) | (show WD _ _ _ _ _ _ _ _ _; first | refine WD.pure rfl rfl rfl rfl rfl ?_ | refine WD.nil ?_ | refine WD.load rfl rfl (LdOk.box (by repeat (first | exact Zh | apply List.Mem.tail)) rfl) rfl rfl rfl rfl ?_ | (refine WD.cat rfl rfl rfl Zo rfl rfl rfl rfl ?_) | (refine WD.calls hS hM rfl rfl (hrd _ (hS.holds (dkC q mb lb D) (by repeat (first | exact Zh | apply List.Mem.tail))).1) rfl rfl rfl rfl rfl ?_; clear hS; rintro v w rfl hS)) | refine seqQ_n ?_ | refine seqQ_r ?_)
  exact fin1r rfl rfl ⟨rfl, hS.mutLp Pu⟩
 subst he
 rw [if_neg (fun h => h rfl)]
 rw [frV_0] at hfr
 by_cases hu : u < s.length
 ·rw [if_pos hu]
  repeat' (first | (show WL _ _ _ _ _ _ _; first | refine WL.pure rfl rfl rfl rfl ?_ | refine WL.nil ?_ | (refine WL.calls hS rfl rfl (hfr _) rfl rfl rfl ?_; rintro v w rfl hS)) | (show WC _ _ _ _ _ _; first | refine WC.seq ?_ | refine WC.region ?_ | refine WC.skip ?_ | refine WC.ret ?_ | (show WC _ _ (Code.region _ (List.toArray [_, _, _, _, _, _, _, _, _, _, _, _, _, _, _]) true) _ _ _; refine WC.drawS hS [0,1,2,3,4,5,6,7,8,10,11,12,13,14] [0,1,2,3,4,5,6,7,8,9,10,11,12,13,14] Zk Zk ?_; clear hS; intro w hS hM) | refine WC.condF rfl Zd ?_ | refine WC.condT rfl (decide_eq_true Zw) ?_) | (show WD _ _ _ _ _ _ _ _ _; first | refine WD.pure rfl rfl rfl rfl rfl ?_ | refine WD.nil ?_ | refine WD.load rfl rfl (LdOk.box (by repeat (first | exact Zh | apply List.Mem.tail)) rfl) rfl rfl rfl rfl ?_ | (refine WD.cat rfl rfl rfl Zo rfl rfl rfl rfl ?_) | (refine WD.calls hS hM rfl rfl (hrd _ (hS.holds (dkC q mb lb D) (by repeat (first | exact Zh | apply List.Mem.tail))).1) rfl rfl rfl rfl rfl ?_; clear hS; rintro v w rfl hS)) | refine seqQ_n ?_ | refine seqQ_r ?_)
  exact fin1r rfl rfl ⟨rfl, hS.mutLp Pu⟩
 rw [if_neg hu]
 have hop := fun w0 => ops_c x w0 Zo
 rcases ho : opsE x with ⟨l, e⟩
 rw [ho] at hop
 unfold opsR at hop
 dsimp only at hop ⊢
 by_cases he : e = 0
 rotate_left
 ·rw [if_pos he]
  repeat' (first | (show WL _ _ _ _ _ _ _; first | refine WL.pure rfl rfl rfl rfl ?_ | refine WL.nil ?_ | (refine WL.calls hS rfl rfl (hfr _) rfl rfl rfl ?_; rintro v w rfl hS) | (refine WL.callG rfl rfl (hop _) rfl rfl rfl ?_; rintro v w ⟨hup, A, cap, rfl, hn⟩; replace hS := hS.new hup hn; clear hup hn)) | (show WC _ _ _ _ _ _; first | refine WC.seq ?_ | refine WC.region ?_ | refine WC.skip ?_ | refine WC.ret ?_ | (show WC _ _ (Code.region _ (List.toArray [_, _, _, _, _, _, _, _, _, _, _, _, _, _, _]) true) _ _ _; refine WC.drawS hS [0,1,2,3,4,5,6,7,8,10,11,12,13,14] [0,1,2,3,4,5,6,7,8,9,10,11,12,13,14] Zk Zk ?_; clear hS; intro w hS hM) | refine WC.condF rfl Zd ?_ | refine WC.condT rfl (decide_eq_true Zw) ?_ | refine WC.condF rfl (decide_eq_false Zw) ?_) | (show WD _ _ _ _ _ _ _ _ _; first | refine WD.pure rfl rfl rfl rfl rfl ?_ | refine WD.nil ?_ | refine WD.load rfl rfl (LdOk.box (by repeat (first | exact Zh | apply List.Mem.tail)) rfl) rfl rfl rfl rfl ?_ | (refine WD.cat rfl rfl rfl Zo rfl rfl rfl rfl ?_) | (refine WD.calls hS hM rfl rfl (hrd _ (hS.holds (dkC q mb lb D) (by repeat (first | exact Zh | apply List.Mem.tail))).1) rfl rfl rfl rfl rfl ?_; clear hS; rintro v w rfl hS)) | refine seqQ_n ?_ | refine seqQ_r ?_)
  exact fin1r rfl rfl ⟨rfl, hS.mutLp Pu⟩
 subst he
 rw [if_neg (fun h => h rfl)]
 have hll : l.length ≤ 1099511627776 := by
  have := opsE_len x
  rw [ho] at this
  exact Nat.le_trans this Zo
 repeat' (first | (show WL _ _ _ _ _ _ _; first | refine WL.pure rfl rfl rfl rfl ?_ | refine WL.nil ?_ | (refine WL.calls hS rfl rfl (hfr _) rfl rfl rfl ?_; rintro v w rfl hS) | (refine WL.callG rfl rfl (hop _) rfl rfl rfl ?_; rintro v w ⟨hup, A, cap, rfl, hn⟩; replace hS := hS.new hup hn; clear hup hn) | (refine WL.callL (D := [tbB T (some ⟨q, 0, none⟩) dir lp m, rowsC m [], chgC A cap l]) hS Pu rfl rfl (fun hI => apply_c hI hll) rfl rfl rfl ?_; rintro v w ⟨rfl, hm⟩ hS; replace hS := hS _ hm; clear hm)) | (show WC _ _ _ _ _ _; first | refine WC.seq ?_ | refine WC.region ?_ | refine WC.skip ?_ | refine WC.ret ?_ | (show WC _ _ (Code.region _ (List.toArray [_, _, _, _, _, _, _, _, _, _, _, _, _, _, _]) true) _ _ _; refine WC.drawS hS [0,1,2,3,4,5,6,7,8,10,11,12,13,14] [0,1,2,3,4,5,6,7,8,9,10,11,12,13,14] Zk Zk ?_; clear hS; intro w hS hM) | refine WC.condF rfl Zd ?_ | refine WC.condF rfl (decide_eq_false Zw) ?_) | (show WD _ _ _ _ _ _ _ _ _; first | refine WD.pure rfl rfl rfl rfl rfl ?_ | refine WD.nil ?_ | refine WD.load rfl rfl (LdOk.box (by repeat (first | exact Zh | apply List.Mem.tail)) rfl) rfl rfl rfl rfl ?_ | (refine WD.cat rfl rfl rfl Zo rfl rfl rfl rfl ?_) | (refine WD.calls hS hM rfl rfl (hrd _ (hS.holds (dkC q mb lb D) (by repeat (first | exact Zh | apply List.Mem.tail))).1) rfl rfl rfl rfl rfl ?_; clear hS; rintro v w rfl hS)) | refine seqQ_n ?_)
 exact fin1r rfl rfl ⟨rfl, hS.mutLp Pu⟩
open Go Go.J Go.RowKit
structure Tb where
 dir : List UInt8
 rows : Rws
 log : Lg
def tabφ (Tp q : Nat) (T : Tb) (D : List Chunk) : Prop := ∃ m L fp, D = [tbB Tp (some ⟨q, 0, none⟩) T.dir (some ⟨L, 0, none⟩) m, rowsC m T.rows, lgC L q T.log fp]
abbrev tabC (Tp q : Nat) (T : Tb) (fp : List Nat) : Chunk := objC (tabφ Tp q T) fp
def replay : Rws → List (List UInt8) → Int × Rws
 |rows, [] => (0, rows)
 |rows, r :: rs => if (opsE r).2 ≠ 0 then ((opsE r).2, []) else replay (applyE rows (opsE r).1) rs
theorem replay_cons (rows : Rws) (r : List UInt8) (rs : List (List UInt8)) : replay rows (r :: rs) = if (opsE r).2 ≠ 0 then ((opsE r).2, []) else replay (applyE rows (opsE r).1) rs := rfl
def tabMk (D : Dk) (dir : List UInt8) : Int × Dk := if D.kind dir = 0 then D.mkdir dir else (0, D)
def tabBase (D : Dk) (dir : List UInt8) : Int × Rws := if D.kind (baseP dir) = 0 then (0, []) else tabLoad D dir
def tabLog (dir : List UInt8) (rows : Rws) : Int × Option Lg × Dk → Int × Option Tb × Dk
 |(e, none, D) => (e, none, D)
 |(_, some G, D) => if (replay rows G.recs).1 ≠ 0 then ((replay rows G.recs).1, none, D) else (0, some ⟨dir, (replay rows G.recs).2, G⟩, D)
def tabOpen (D : Dk) (dir : List UInt8) : Int × Option Tb × Dk :=
 if (tabMk D dir).1 ≠ 0 then ((tabMk D dir).1, none, (tabMk D dir).2)
 else if (tabBase (tabMk D dir).2 dir).1 ≠ 0 then ((tabBase (tabMk D dir).2 dir).1, none, (tabMk D dir).2)
 else tabLog dir (tabBase (tabMk D dir).2 dir).2 (walOpen (tabMk D dir).2 (logP dir))
def topenR (q mb lb : Nat) (D : Dk) (w0 : World) (r : Int × Option Tb × Dk) (v : Value) (w' : World) : Prop :=
 match r with
 |(e, none, D') => v = .tuple #[.pointer none, .int .i64 e] ∧ MutL w0 w' [dkC q mb lb D] [dkC q mb lb D']
 |(e, some T, D') => ∃ Tp fp, v = .tuple #[.pointer (some ⟨Tp, 0, none⟩), .int .i64 e] ∧ MutL w0 w' [dkC q mb lb D] [tabC Tp q T fp, dkC q mb lb D']
theorem Dk.Sm.mkdir {D : Dk} {B : Nat} (h : D.Sm B) {p : List UInt8} : (D.mkdir p).2.Sm B := by
 unfold Dk.mkdir
 repeat' split
 all_goals first | exact h | exact h.step | exact h.step.put (Nat.zero_le _)
theorem tabMk_sm {D : Dk} {B : Nat} (h : D.Sm B) (dir : List UInt8) : (tabMk D dir).2.Sm B := by
 unfold tabMk
 split
 ·exact h.mkdir
 ·exact h
theorem kind_ne (D : Dk) (p : List UInt8) : D.kind p = 0 ∨ D.kind p = 1 ∨ D.kind p = 2 := by
 unfold Dk.kind
 repeat' split
 ·exact .inr (.inl rfl)
 ·exact .inr (.inr rfl)
 ·exact .inl rfl
theorem walOpen_e (D : Dk) (p : List UInt8) : ((walOpen D p).2.1 = none → (walOpen D p).1 ≠ 0) ∧ ∀ G, (walOpen D p).2.1 = some G → (walOpen D p).1 = 0 := by
 unfold walOpen
 repeat' split
 all_goals
  constructor
  ·intro h
   first
    |assumption
    |cases h
  ·intro G h
   first
    |rfl
    |cases h
theorem topen_c {q mb lb : Nat} {D : Dk} (dir : List UInt8) {w0 : World} (hi : InL w0 [dkC q mb lb D]) (hl : dir.length ≤ 1099511000) (hno : D.Sm 1099511627776)
  (hlog : ∀ e G D', walOpen (tabMk D dir).2 (logP dir) = (e, some G, D') → G.recs.length ≤ 4194304 ∧ ∀ r ∈ G.recs, r.length ≤ 1099511627776) :
  Cal Tryz.prog 36 [.pointer (some ⟨q, 0, none⟩), str dir] w0 (topenR q mb lb D w0 (tabOpen D dir)) := by
 refine Cal.mkL hi Zk Tryz.func36 rfl rfl fun hS => ?_
 have k5 : ([47, 98, 97, 115, 101] : List UInt8).length = 5 := rfl
 have k4 : ([47, 108, 111, 103] : List UInt8).length = 4 := rfl
 have hno1 := tabMk_sm hno dir
 unfold tabOpen
 rcases hmk : tabMk D dir with ⟨e1, D1⟩
 rw [hmk] at hno1 hlog
 dsimp only at hno1 hlog ⊢
 generalize hRES : (if e1 ≠ 0 then (e1, none, D1) else if (tabBase D1 dir).1 ≠ 0 then ((tabBase D1 dir).1, none, D1) else tabLog dir (tabBase D1 dir).2 (walOpen D1 (logP dir))) = RES
 repeat' (first | (show WL _ _ _ _ _ _ _; first | refine WL.pure rfl rfl rfl rfl ?_ | refine WL.nil ?_) | (show WC _ _ _ _ _ _; first | (show WC _ _ (Code.seq (Code.seq (Code.region 3 _ _) _) _) _ _ _; refine WC.cutS (σ := Unit) [0, 1] (fun _ => []) (fun _ w => e1 = 0 ∧ St w0 (fps [dkC q mb lb D]) w [dkC q mb lb D1] (ZL w0 [dkC q mb lb D])) ?_ ?_) | refine WC.seq ?_ | refine WC.region ?_ | refine WC.skip ?_ | refine WC.condF rfl Zr ?_) | refine seqQ_n ?_)
 ·-- the folder
  unfold tabMk at hmk
  by_cases hk : D.kind dir = 0
  ·rw [if_pos hk] at hmk
   by_cases he : e1 = 0
   ·subst he
    clear hRES hlog hno1
    repeat' (first | (show WL _ _ _ _ _ _ _; first | refine WL.pure rfl rfl rfl rfl ?_ | refine WL.nil ?_ | (refine WL.calls hS rfl rfl (dkind_c dir (hS.holds (dkC q mb lb D) (by repeat (first | exact Zh | apply List.Mem.tail))).1) rfl rfl rfl ?_; rintro v w rfl hS; rw [hk]) | (refine WL.callL (D := [dkC q mb lb D]) hS Pu rfl rfl (fun hI => mkdir_c dir hI.head hI.headB Zo) rfl rfl rfl ?_; rintro v w ⟨rfl, hm⟩ hS; rw [hmk] at hm ⊢; replace hS := hS _ (.of1 hm); clear hm)) | (show WC _ _ _ _ _ _; first | refine WC.seq ?_ | refine WC.region ?_ | refine WC.skip ?_ | refine WC.condT rfl Zd ?_ | refine WC.condF rfl (decide_eq_false Zw) ?_) | refine seqQ_n ?_)
    exact endQ_n () ⟨rfl, hS⟩ trivial ⟨rfl, rfl, trivial⟩
   ·rw [if_pos he] at hRES
    subst hRES
    clear hlog hno1
    repeat' (first | (show WL _ _ _ _ _ _ _; first | refine WL.pure rfl rfl rfl rfl ?_ | refine WL.nil ?_ | (refine WL.calls hS rfl rfl (dkind_c dir (hS.holds (dkC q mb lb D) (by repeat (first | exact Zh | apply List.Mem.tail))).1) rfl rfl rfl ?_; rintro v w rfl hS; rw [hk]) | (refine WL.callL (D := [dkC q mb lb D]) hS Pu rfl rfl (fun hI => mkdir_c dir hI.head hI.headB Zo) rfl rfl rfl ?_; rintro v w ⟨rfl, hm⟩ hS; rw [hmk] at hm ⊢; replace hS := hS _ (.of1 hm); clear hm)) | (show WC _ _ _ _ _ _; first | refine WC.seq ?_ | refine WC.region ?_ | refine WC.ret ?_ | refine WC.condT rfl Zd ?_ | refine WC.condT rfl (decide_eq_true Zw) ?_) | refine seqQ_n ?_ | refine endQ_r ?_)
    exact fin2r rfl rfl rfl ⟨rfl, hS.mutLp Pu⟩
  ·rw [if_neg hk] at hmk
   cases hmk
   clear hRES hlog hno1
   have hk' : ¬ D.kind dir = 0 := hk
   generalize hkv : D.kind dir = kv at *
   repeat' (first | (show WL _ _ _ _ _ _ _; first | refine WL.pure rfl rfl rfl rfl ?_ | refine WL.nil ?_ | (refine WL.calls hS rfl rfl (dkind_c dir (hS.holds (dkC q mb lb D) (by repeat (first | exact Zh | apply List.Mem.tail))).1) rfl rfl rfl ?_; rintro v w rfl hS; rw [hkv])) | (show WC _ _ _ _ _ _; first | refine WC.skip ?_ | refine WC.condF rfl (decide_eq_false Zw) ?_) | refine seqQ_n ?_)
   exact endQ_n () ⟨rfl, hS⟩ trivial ⟨rfl, rfl, trivial⟩
 ·rintro _ g w ⟨rfl, hS⟩
  clear hmk
  rw [if_neg (fun h => h rfl)] at hRES
  rcases hbs : tabBase D1 dir with ⟨e2, rows⟩
  rw [hbs] at hRES
  dsimp only at hRES
  repeat' (first | (show WL _ _ _ _ _ _ _; first | refine WL.pure rfl rfl rfl rfl ?_ | refine WL.nil ?_ | (refine WL.mmake hS rfl rfl rfl rfl rfl ?_; intro w m hS) | refine WL.cat rfl rfl rfl Zo rfl rfl rfl ?_ | (refine WL.box hS rfl rfl rfl rfl rfl ?_; intro w b hS) | refine WL.build rfl rfl rfl rfl rfl ?_) | (show WC _ _ _ _ _ _; first | (show WC _ _ (Code.seq (Code.seq (Code.region 8 _ _) _) _) _ _ _; refine WC.cutS (σ := Unit) [0, 1, 7] (fun _ => []) (fun _ w => e2 = 0 ∧ St w0 (fps [dkC q mb lb D]) w [tbB b (some ⟨q, 0, none⟩) dir none m, rowsC m rows, dkC q mb lb D1] (ZL w0 [dkC q mb lb D])) ?_ ?_) | refine WC.seq ?_ | refine WC.region ?_) | refine seqQ_n ?_)
  ·-- the base
   unfold tabBase at hbs
   clear hlog
   have hkn := kind_ne D1 (baseP dir)
   by_cases hk : D1.kind (baseP dir) = 0
   ·rw [if_pos hk] at hbs
    cases hbs
    clear hRES hkn
    repeat' (first | (show WL _ _ _ _ _ _ _; first | refine WL.pure rfl rfl rfl rfl ?_ | refine WL.nil ?_ | (refine WL.calls hS rfl rfl (dkind_c (baseP dir) (hS.holds (dkC q mb lb D1) (by repeat (first | exact Zh | apply List.Mem.tail))).1) rfl rfl rfl ?_; rintro v w rfl hS; rw [hk])) | (show WC _ _ _ _ _ _; first | refine WC.skip ?_ | refine WC.condF rfl Zd ?_) | refine seqQ_n ?_)
    exact endQ_n () ⟨rfl, hS.droplast2 Pu⟩ trivial ⟨rfl, rfl, rfl, trivial⟩
   ·rw [if_neg hk] at hbs
    obtain ⟨kv, hkv, hkv0⟩ : ∃ kv, D1.kind (baseP dir) = kv ∧ kv ≠ 0 := ⟨_, rfl, hk⟩
    clear hkn hk
    have hld := fun (w0 : World) (hi : InL w0 [tbB b (some ⟨q, 0, none⟩) dir none m, rowsC m [], dkC q mb lb D1]) => load_c hi Zo hno1
    rw [hbs] at hld
    dsimp only at hld
    by_cases he : e2 = 0
    ·subst he
     clear hRES
     repeat' (first | (show WL _ _ _ _ _ _ _; first | refine WL.pure rfl rfl rfl rfl ?_ | refine WL.nil ?_ | (refine WL.calls hS rfl rfl (dkind_c (baseP dir) (hS.holds (dkC q mb lb D1) (by repeat (first | exact Zh | apply List.Mem.tail))).1) rfl rfl rfl ?_; rintro v w rfl hS; rw [hkv]) | (refine WL.callL (D := [tbB b (some ⟨q, 0, none⟩) dir none m, rowsC m [], dkC q mb lb D1]) hS Pu rfl rfl (fun hI => hld _ hI) rfl rfl rfl ?_; rintro v w ⟨rfl, hm⟩ hS; replace hS := hS _ hm; clear hm)) | (show WC _ _ _ _ _ _; first | refine WC.seq ?_ | refine WC.region ?_ | refine WC.skip ?_ | refine WC.condF rfl Zd ?_ | refine WC.condT rfl (decide_eq_true Zw) ?_) | refine seqQ_n ?_)
     exact endQ_n () ⟨rfl, hS.droplast2 Pu⟩ trivial ⟨rfl, rfl, rfl, trivial⟩
    ·rw [if_pos he] at hRES
     subst hRES
     repeat' (first | (show WL _ _ _ _ _ _ _; first | refine WL.pure rfl rfl rfl rfl ?_ | refine WL.nil ?_ | (refine WL.calls hS rfl rfl (dkind_c (baseP dir) (hS.holds (dkC q mb lb D1) (by repeat (first | exact Zh | apply List.Mem.tail))).1) rfl rfl rfl ?_; rintro v w rfl hS; rw [hkv]) | (refine WL.callL (D := [tbB b (some ⟨q, 0, none⟩) dir none m, rowsC m [], dkC q mb lb D1]) hS Pu rfl rfl (fun hI => hld _ hI) rfl rfl rfl ?_; rintro v w ⟨rfl, hm⟩ hS; replace hS := hS _ hm; clear hm)) | (show WC _ _ _ _ _ _; first | refine WC.seq ?_ | refine WC.region ?_ | refine WC.ret ?_ | refine WC.condT rfl (decide_eq_true Zw) ?_) | refine seqQ_n ?_ | refine endQ_r ?_)
     exact fin2r rfl rfl rfl ⟨rfl, hS.mutLp Pu⟩
  ·rintro _ g2 w ⟨rfl, hS⟩
   rw [if_neg (fun h => h rfl)] at hRES
   clear hbs
   have hop := fun (w0 : World) (hi : InL w0 [dkC q mb lb D1]) => open_c (logP dir) hi (by simp; omega) hno1
   rcases hwo : walOpen D1 (logP dir) with ⟨e, G, D2⟩
   have hwe := walOpen_e D1 (logP dir)
   rw [hwo] at hop hRES hwe
   rcases G with _ | G
   ·have hop : ∀ w0, InL w0 [dkC q mb lb D1] → Cal Tryz.prog 13 [.pointer (some ⟨q, 0, none⟩), str (logP dir)] w0 (fun v w' => v = .tuple #[.pointer none, .int .i64 e] ∧ MutL w0 w' [dkC q mb lb D1] [dkC q mb lb D2]) := hop
    replace hRES : (e, none, D2) = RES := hRES
    subst hRES
    have hwe : e ≠ 0 := hwe.1 rfl
    clear hlog
    repeat' (first | (show WL _ _ _ _ _ _ _; first | refine WL.pure rfl rfl rfl rfl ?_ | refine WL.nil ?_ | (refine WL.callL (D := [dkC q mb lb D1]) hS Pu rfl rfl (fun hI => hop _ hI) rfl rfl rfl ?_; rintro v w ⟨rfl, hm⟩ hS; replace hS := hS _ hm; clear hm) | refine WL.cat rfl rfl rfl Zo rfl rfl rfl ?_) | (show WC _ _ _ _ _ _; first | refine WC.seq ?_ | refine WC.region ?_ | refine WC.ret ?_ | refine WC.condT rfl (decide_eq_true Zw) ?_) | refine seqQ_n ?_ | refine seqQ_r ?_)
    exact fin2r rfl rfl rfl ⟨rfl, hS.mutLp Pu⟩
   ·have hop : ∀ w0, InL w0 [dkC q mb lb D1] → Cal Tryz.prog 13 [.pointer (some ⟨q, 0, none⟩), str (logP dir)] w0 (fun v w' => ∃ L fp, v = .tuple #[.pointer (some ⟨L, 0, none⟩), .int .i64 e] ∧ MutL w0 w' [dkC q mb lb D1] [lgC L q G fp, dkC q mb lb D2]) := hop
    replace hRES : (if (replay rows G.recs).1 ≠ 0 then ((replay rows G.recs).1, none, D2) else (0, some ⟨dir, (replay rows G.recs).2, G⟩, D2)) = RES := hRES
    obtain rfl : e = 0 := hwe.2 G rfl
    obtain ⟨hn, hrl⟩ := hlog 0 G D2 hwo
    clear hlog hwe
    repeat' (first | (show WL _ _ _ _ _ _ _; first | refine WL.pure rfl rfl rfl rfl ?_ | refine WL.nil ?_ | (refine WL.callL (D := [dkC q mb lb D1]) hS Pu rfl rfl (fun hI => hop _ hI) rfl rfl rfl ?_; rintro v w ⟨L, fp, rfl, hm⟩ hS; replace hS := hS _ hm; clear hm) | (refine WL.callL (D := [lgC L q G fp]) hS Pu rfl rfl (fun hI => records_c hI hn) rfl rfl rfl ?_; rintro v w ⟨A, cap, rfl, hm⟩ hS; replace hS := hS _ hm; clear hm) | refine WL.cat rfl rfl rfl Zo rfl rfl rfl ?_ | (refine WL.store hS rfl rfl rfl Sb rfl rfl rfl ?_; intro w hS)) | (show WC _ _ _ _ _ _; first | refine WC.seq ?_ | refine WC.region ?_ | refine WC.block ?_ | refine WC.skip ?_ | refine WC.condF rfl Zd ?_) | refine seqQ_n ?_)
    refine WC.loop (σ := Nat × Rws) [7, 57, 58] (fun (k, rs) => [(59, .int .i64 (k : Int))])
     (fun (k, rs) w => k ≤ G.recs.length ∧ replay rs (G.recs.drop k) = replay rows G.recs ∧ St w0 (fps [dkC q mb lb D]) w [tbB b (some ⟨q, 0, none⟩) dir (some ⟨L, 0, none⟩) m, rowsC m rs, lgC L q G fp, .own (.slice A G.recs.length cap) 9 1 G.recs.length (strs G.recs), dkC q mb lb D2] (ZL w0 [dkC q mb lb D]))
     (fun (k, _) => G.recs.length - k) (0, rows) ⟨Nat.zero_le _, rfl, hS.droplast2 Pu⟩ ⟨rfl, trivial⟩ ?_
    clear hS
    rintro ⟨k, rs⟩ g w ⟨hk, hrs, hS⟩
    show WC _ _ _ (lf _ [(59, .int .i64 (k : Int))] _ _) _ _
    by_cases hlt : k < G.recs.length
    ·have hx : (strs G.recs)[k * 1]? = some (str G.recs[k]) := by rw [Nat.mul_one]; exact strs_at hlt
     have hxl := hrl _ (List.getElem_mem hlt)
     rw [List.drop_eq_getElem_cons hlt] at hrs
     generalize G.recs[k] = r at *
     obtain ⟨rg, ro, rfl⟩ := hS.own_addr (List.Mem.tail _ (List.Mem.tail _ (List.Mem.tail _ Zh))) (Nat.lt_of_le_of_lt (Nat.zero_le k) hlt)
     have hop2 := fun w0 => ops_c r w0 hxl
     have hol := opsE_len r
     rw [replay_cons] at hrs
     rcases ho : opsE r with ⟨l, eo⟩
     rw [ho] at hop2 hrs hol
     dsimp only at hrs hol
     unfold opsR at hop2
     dsimp only at hop2
     by_cases heo : eo = 0
     ·subst heo
      rw [if_neg (fun h => h rfl)] at hrs
      repeat' (first | (show WL _ _ _ _ _ _ _; first | refine WL.pure rfl rfl rfl rfl ?_ | refine WL.nil ?_ | refine WL.add rfl rfl rfl Zo rfl rfl rfl ?_ | (refine WL.load hS rfl rfl (LdOk.ownAt (by repeat (first | exact Zh | apply List.Mem.tail)) rfl ⟨_, rfl⟩ hx rfl) rfl rfl rfl ?_) | (refine WL.callG rfl rfl (hop2 _) rfl rfl rfl ?_; rintro v w ⟨hup, A2, cap2, rfl, hnw⟩; replace hS := hS.new hup hnw; clear hup hnw) | (refine WL.callL (D := [tbB b (some ⟨q, 0, none⟩) dir (some ⟨L, 0, none⟩) m, rowsC m rs, chgC A2 cap2 l]) hS Pu rfl rfl (fun hI => apply_c hI Zo) rfl rfl rfl ?_; rintro v w ⟨rfl, hm⟩ hS; replace hS := hS _ hm; clear hm) | refine WL.index rfl rfl rfl rfl Zw rfl rfl rfl rfl ?_) | (show WC _ _ _ _ _ _; first | refine WC.seq ?_ | refine WC.region ?_ | refine WC.block ?_ | refine WC.skip ?_ | refine WC.condF rfl Zd ?_ | refine WC.condT rfl (decide_eq_true Zw) ?_) | refine seqQ_n ?_ | refine blkQ_n ?_)
      exact rndQ_n (k + 1, applyE rs l) ⟨Zo, hrs, hS.droplast2 Pu⟩ (by show G.recs.length - (k + 1) < G.recs.length - k; omega) ⟨vint Zo, trivial⟩ ⟨rfl, rfl, rfl, trivial⟩
     ·rw [if_pos heo] at hrs
      rw [← hrs, if_pos heo] at hRES
      dsimp only at hRES
      subst hRES
      repeat' (first | (show WL _ _ _ _ _ _ _; first | refine WL.pure rfl rfl rfl rfl ?_ | refine WL.nil ?_ | (refine WL.load hS rfl rfl (LdOk.ownAt (by repeat (first | exact Zh | apply List.Mem.tail)) rfl ⟨_, rfl⟩ hx rfl) rfl rfl rfl ?_) | (refine WL.callG rfl rfl (hop2 _) rfl rfl rfl ?_; rintro v w ⟨hup, A2, cap2, rfl, hnw⟩; replace hS := hS.new hup hnw; clear hup hnw) | refine WL.index rfl rfl rfl rfl Zw rfl rfl rfl rfl ?_) | (show WC _ _ _ _ _ _; first | refine WC.seq ?_ | refine WC.region ?_ | refine WC.block ?_ | refine WC.skip ?_ | refine WC.ret ?_ | refine WC.condT rfl (decide_eq_true Zw) ?_) | refine seqQ_n ?_ | refine seqQ_r ?_ | refine blkQ_r ?_ | refine rndQ_r ?_)
      exact fin2r rfl rfl rfl ⟨rfl, hS.mutLp Pu⟩
    ·have hke : k = G.recs.length := Zo
     subst hke
     rw [List.drop_length] at hrs
     have hrs : (0, rs) = replay rows G.recs := hrs
     rw [← hrs, if_neg (fun h => h rfl)] at hRES
     dsimp only at hRES
     subst hRES
     repeat' (first | (show WL _ _ _ _ _ _ _; first | refine WL.pure rfl rfl rfl rfl ?_ | refine WL.nil ?_) | (show WC _ _ _ _ _ _; first | refine WC.seq ?_ | refine WC.region ?_ | refine WC.exit ?_ | refine WC.ret ?_ | refine WC.condF rfl (decide_eq_false Zw) ?_) | refine seqQ_n ?_ | refine seqQ_x ?_ | refine blkQ_hit rfl ?_ | refine rndQ_x ?_)
     have hS := St.objClose (φ := tabφ b q ⟨dir, rs, G⟩) (hS.pulls (D := [tbB b (some ⟨q, 0, none⟩) dir (some ⟨L, 0, none⟩) m, rowsC m rs, lgC L q G fp]) Pu) ⟨m, L, fp, rfl⟩
     exact fin2r rfl rfl rfl ⟨_, _, rfl, hS.mutLp Pu⟩
open Go Go.J Go.RowKit
abbrev Bch := List (List UInt8 × Chg)
def bchφ (B : Nat) (tp : Option Addr) (m : Bch) (D : List Chunk) : Prop := ∃ A cap mb, D = [.box B 153 [.pointer tp, .slice A m.length cap, .map (some mb)], .own (.slice A m.length cap) 9 1 m.length (strs (m.map Prod.fst)), mapC mb (mmap encChg m)]
abbrev bchC (B : Nat) (tp : Option Addr) (m : Bch) (fp : List Nat) : Chunk := objC (bchφ B tp m) fp
def noteE (m : Bch) (o : Chg) : Bch := mset m o.key o
theorem look_chg (m : Bch) (k : List UInt8) : lookV (encChg Chg0) (mmap encChg m) k true = .tuple #[encChg ((mget m k).getD Chg0), .bool (mget m k).isSome] := by
 unfold lookV
 rw [mget_map]
 cases mget m k <;> rfl
theorem look_chg1 (m : Bch) (k : List UInt8) : lookV (encChg Chg0) (mmap encChg m) k false = encChg ((mget m k).getD Chg0) := by
 unfold lookV
 rw [mget_map]
 cases mget m k <;> rfl
theorem begin_c {tp : Option Addr} (w0 : World) : Cal Tryz.prog 38 [.pointer tp] w0 (fun v w' => Upd [] w0 w' ∧ ∃ B fp, v = .pointer (some ⟨B, 0, none⟩) ∧ New w0 w' (bchC B tp [] fp)) := by
 refine Cal.mk' Zk Tryz.func38 rfl rfl fun hS => ?_
 repeat' (first | (show WL _ _ _ _ _ _ _; first | refine WL.pure rfl rfl rfl rfl ?_ | refine WL.nil ?_ | (refine WL.mmake hS rfl rfl rfl rfl rfl ?_; intro w mb hS) | (refine WL.box hS rfl rfl rfl rfl rfl ?_; intro w b hS) | refine WL.build rfl rfl rfl rfl rfl ?_) | (show WC _ _ _ _ _ _; first | refine WC.seq ?_ | refine WC.region ?_ | refine WC.ret ?_) | refine seqQ_n ?_)
 have hS := St.objClose (φ := bchφ _ tp []) ((hS.nilRow 9 1).pulls (D := [.box _ 153 [.pointer tp, .slice none 0 0, .map (some mb)], .own (.slice none 0 0) 9 1 0 [], mapC mb []]) Pu) ⟨none, 0, mb, rfl⟩
 exact fin1r rfl rfl ⟨hS.upd, _, _, rfl, hS.newOf Zh⟩
theorem mset_fst (m : Bch) (k : List UInt8) (o : Chg) : (mget m k).isSome = true → (mset m k o).map Prod.fst = m.map Prod.fst := by
 intro h
 rw [mset_keys, if_pos]
 apply Classical.byContradiction
 intro hn
 rw [mget_none.2 hn] at h
 cases h
theorem mset_fst2 (m : Bch) (k : List UInt8) (o : Chg) : (mget m k).isSome = false → (mset m k o).map Prod.fst = m.map Prod.fst ++ [k] := by
 intro h
 rw [mset_keys, if_neg]
 intro hn
 cases hg : mget m k with
 |none => exact mget_none.1 hg hn
 |some v => rw [hg] at h; cases h
theorem len_of_fst {m : Bch} {l : List (List UInt8)} (h : m.map Prod.fst = l) : m.length = l.length := by rw [← h, List.length_map]
theorem note_c {B : Nat} {tp : Option Addr} {m : Bch} {fp : List Nat} (o : Chg) {w0 : World} (hc : (bchC B tp m fp).holds w0) (hi : inB (bchC B tp m fp) w0) (hm : m.length ≤ 1099511627) :
  Cal Tryz.prog 96 [.pointer (some ⟨B, 0, none⟩), encChg o] w0 (fun v w' => v = .tuple #[] ∧ ∃ fp', Mut w0 w' (bchC B tp m fp) (bchC B tp (noteE m o) fp')) := by
 refine Cal.mkM hc hi Zk Tryz.func96 rfl rfl fun hS => ?_
 obtain ⟨_, ⟨A, cap, mb, rfl⟩, hfp, hS⟩ := St.objOpen (H := []) hS
 replace hS : St w0 (bchC B tp m fp).fp w0 [.box B 153 [.pointer tp, .slice A m.length cap, .map (some mb)], .own (.slice A m.length cap) 9 1 m.length (strs (m.map Prod.fst)), mapC mb (mmap encChg m)] _ := hS
 obtain ⟨key, val, gone⟩ := o
 have hlk := look_chg m key
 have h1 := mset_fst m key ⟨key, val, gone⟩
 have h2 := mset_fst2 m key ⟨key, val, gone⟩
 generalize (mget m key).isSome = there at *
 generalize (mget m key).getD Chg0 = was at *
 obtain ⟨k0, v0, g0⟩ := was
 rcases there with _ | _
 ·have h2 := h2 rfl
  clear h1
  repeat' (first | (show WL _ _ _ _ _ _ _; first | refine WL.pure rfl rfl rfl rfl ?_ | refine WL.nil ?_ | (refine WL.box hS rfl rfl rfl rfl rfl ?_; intro w b hS)) | (show WC _ _ _ _ _ _; first | refine WC.seq ?_ | refine WC.region ?_ | refine WC.skip ?_ | (show WC _ _ (Code.region _ (List.toArray [_, _, _, _, _, _, _, _, _, _, _, _, _]) true) _ _ _; refine WC.drawS hS [0,1,2,3,4,5,6,7,8,9,12] [0,1,2,3,4,5,6,7,8,9,10,11,12] Zk Zk ?_; clear hS; intro w hS hM) | (show WC _ _ (Code.region _ (List.toArray [_, _, _, _, _, _, _, _, _, _, _, _]) true) _ _ _; refine WC.drawLV [.own (.slice A m.length cap) 9 1 m.length (strs (m.map Prod.fst))] hS Pu [0,1,2,3,4,5,6,9,10] [0,1,2,3,4,5,6,7,8,9,10] 11 [] Zk Zk ?_; clear hS; intro w hS hM) | (show WC _ _ (Code.region _ (List.toArray [_, _, _, _, _, _, _, _]) true) _ _ _; refine WC.drawL [mapC mb (mmap encChg m)] hS Pu [0,1,2,3,4,5,6] [0,1,2,3,4,5,6,7] Zk Zk ?_; clear hS; intro w hS hM) | refine WC.condF rfl Zr ?_ | refine WC.condT rfl Zd ?_) | (show WD _ _ _ _ _ _ _ _ _; first | refine WD.pure rfl rfl rfl rfl rfl ?_ | refine WD.nil ?_ | refine WD.load rfl rfl (LdOk.box (by repeat (first | exact Zh | apply List.Mem.tail)) rfl) rfl rfl rfl rfl ?_ | (refine WD.mget rfl rfl rfl rfl (.mk' (by repeat (first | exact Zh | apply List.Mem.tail))) hlk rfl rfl rfl rfl ?_) | (refine WD.alloc (t := 79) hS hM rfl rfl rfl rfl rfl rfl rfl rfl ?_; clear hS; intro w xb hS hM) | (refine WD.store hS rfl rfl rfl Sb rfl (More.chunk (.refl _ _) _) rfl rfl rfl rfl ?_; clear hS hM; intro w hS hM) | (refine WD.app hS Pl1 (More.chunk (.refl _ _) _) rfl rfl rfl rfl (RdOk.box (by repeat (first | exact Zh | apply List.Mem.tail))) rfl rfl Zo rfl rfl rfl rfl rfl ?_; clear hS hM; intro A2 cap2 w hS hM) | (refine WD.pivStore hS rfl rfl rfl Sb rfl rfl rfl rfl ?_; clear hS; intro w hS hM) | (refine WD.msetC hS (More.refl _ _) (.inl rfl) rfl rfl rfl rfl rfl rfl rfl rfl ?_; clear hS; intro w hS) | (refine WD.slit hS hM rfl rfl rfl rfl rfl rfl rfl ?_; intro w b hS hM)) | refine seqQ_n ?_)
  have e1 : (noteE m ⟨key, val, gone⟩).length = m.length + 1 := by have := len_of_fst h2; unfold noteE; simpa using this
  have e2 : strs ((noteE m ⟨key, val, gone⟩).map Prod.fst) = strs (m.map Prod.fst) ++ [str key] := by
   show strs ((mset m key ⟨key, val, gone⟩).map Prod.fst) = _
   rw [h2, strs_snoc]
  have e3 : mmap encChg (noteE m ⟨key, val, gone⟩) = mset (mmap encChg m) key (encChg ⟨key, val, gone⟩) := by unfold noteE; rw [← mset_map]
  have hS := St.objClose (φ := bchφ B tp (noteE m ⟨key, val, gone⟩)) (hS.pulls (D := [.box B 153 [.pointer tp, .slice A2 (m.length + 1) cap2, .map (some mb)], .own (.slice A2 (m.length + 1) cap2) 9 1 (m.length + 1) (strs (m.map Prod.fst) ++ [str key]), mapC mb (mset (mmap encChg m) key (encChg ⟨key, val, gone⟩))]) Pu) ⟨A2, cap2, mb, by rw [e1, e2, e3]⟩
  exact fin0n rfl ⟨rfl, _, hS.mutOf Zh⟩
 ·have h1 := h1 rfl
  clear h2
  repeat' (first | (show WL _ _ _ _ _ _ _; first | refine WL.pure rfl rfl rfl rfl ?_ | refine WL.nil ?_ | (refine WL.box hS rfl rfl rfl rfl rfl ?_; intro w b hS)) | (show WC _ _ _ _ _ _; first | refine WC.seq ?_ | refine WC.region ?_ | refine WC.skip ?_ | (show WC _ _ (Code.region _ (List.toArray [_, _, _, _, _, _, _, _, _, _, _, _, _]) true) _ _ _; refine WC.drawS hS [0,1,2,3,4,5,6,7,8,9,12] [0,1,2,3,4,5,6,7,8,9,10,11,12] Zk Zk ?_; clear hS; intro w hS hM) | (show WC _ _ (Code.region _ (List.toArray [_, _, _, _, _, _, _, _]) true) _ _ _; refine WC.drawL [mapC mb (mmap encChg m)] hS Pu [0,1,2,3,4,5,6] [0,1,2,3,4,5,6,7] Zk Zk ?_; clear hS; intro w hS hM) | refine WC.condF rfl Zr ?_ | refine WC.condF rfl Zd ?_) | (show WD _ _ _ _ _ _ _ _ _; first | refine WD.pure rfl rfl rfl rfl rfl ?_ | refine WD.nil ?_ | refine WD.load rfl rfl (LdOk.box (by repeat (first | exact Zh | apply List.Mem.tail)) rfl) rfl rfl rfl rfl ?_ | (refine WD.mget rfl rfl rfl rfl (.mk' (by repeat (first | exact Zh | apply List.Mem.tail))) hlk rfl rfl rfl rfl ?_) | (refine WD.alloc (t := 79) hS hM rfl rfl rfl rfl rfl rfl rfl rfl ?_; clear hS; intro w xb hS hM) | (refine WD.store hS rfl rfl rfl Sb rfl (More.chunk (.refl _ _) _) rfl rfl rfl rfl ?_; clear hS hM; intro w hS hM) | (refine WD.msetC hS (More.refl _ _) (.inl rfl) rfl rfl rfl rfl rfl rfl rfl rfl ?_; clear hS; intro w hS)) | refine seqQ_n ?_)
  have e1 : (noteE m ⟨key, val, gone⟩).length = m.length := by have := len_of_fst h1; unfold noteE; simpa using this
  have e2 : strs ((noteE m ⟨key, val, gone⟩).map Prod.fst) = strs (m.map Prod.fst) := by
   show strs ((mset m key ⟨key, val, gone⟩).map Prod.fst) = _
   rw [h1]
  have e3 : mmap encChg (noteE m ⟨key, val, gone⟩) = mset (mmap encChg m) key (encChg ⟨key, val, gone⟩) := by unfold noteE; rw [← mset_map]
  have hS := St.objClose (φ := bchφ B tp (noteE m ⟨key, val, gone⟩)) (hS.pulls (D := [.box B 153 [.pointer tp, .slice A m.length cap, .map (some mb)], .own (.slice A m.length cap) 9 1 m.length (strs (m.map Prod.fst)), mapC mb (mset (mmap encChg m) key (encChg ⟨key, val, gone⟩))]) Pu) ⟨A, cap, mb, by rw [e1, e2, e3]⟩
  exact fin0n rfl ⟨rfl, _, hS.mutOf Zh⟩
theorem bput_c {B : Nat} {tp : Option Addr} {m : Bch} {fp : List Nat} (key val : List UInt8) {w0 : World} (hc : (bchC B tp m fp).holds w0) (hi : inB (bchC B tp m fp) w0) (hm : m.length ≤ 1099511627) :
  Cal Tryz.prog 39 [.pointer (some ⟨B, 0, none⟩), str key, str val] w0 (fun v w' => v = .tuple #[] ∧ ∃ fp', Mut w0 w' (bchC B tp m fp) (bchC B tp (noteE m ⟨key, val, false⟩) fp')) := by
 refine Cal.mkM hc hi Zk Tryz.func39 rfl rfl fun hS => ?_
 repeat' (first | (show WL _ _ _ _ _ _ _; first | refine WL.pure rfl rfl rfl rfl ?_ | refine WL.nil ?_ | (refine WL.callG rfl rfl (note_c ⟨key, val, false⟩ (hS.holds _ Zh) (hS.inB_of Zh) hm) rfl rfl rfl ?_; rintro v w ⟨rfl, fp', hmut⟩; have hS := hS.mut hmut .here; clear hmut) | refine WL.build rfl rfl rfl rfl rfl ?_) | (show WC _ _ _ _ _ _; first | refine WC.region ?_) | fail)
 exact fin0n rfl ⟨rfl, _, hS.mutOf Zh⟩
theorem bdrop_c {B : Nat} {tp : Option Addr} {m : Bch} {fp : List Nat} (key : List UInt8) {w0 : World} (hc : (bchC B tp m fp).holds w0) (hi : inB (bchC B tp m fp) w0) (hm : m.length ≤ 1099511627) :
  Cal Tryz.prog 41 [.pointer (some ⟨B, 0, none⟩), str key] w0 (fun v w' => v = .tuple #[] ∧ ∃ fp', Mut w0 w' (bchC B tp m fp) (bchC B tp (noteE m ⟨key, [], true⟩) fp')) := by
 refine Cal.mkM hc hi Zk Tryz.func41 rfl rfl fun hS => ?_
 repeat' (first | (show WL _ _ _ _ _ _ _; first | refine WL.pure rfl rfl rfl rfl ?_ | refine WL.nil ?_ | (refine WL.callG rfl rfl (note_c ⟨key, [], true⟩ (hS.holds _ Zh) (hS.inB_of Zh) hm) rfl rfl rfl ?_; rintro v w ⟨rfl, fp', hmut⟩; have hS := hS.mut hmut .here; clear hmut) | refine WL.build rfl rfl rfl rfl rfl ?_) | (show WC _ _ _ _ _ _; first | refine WC.region ?_) | fail)
 exact fin0n rfl ⟨rfl, _, hS.mutOf Zh⟩
open Go Go.J Go.RowKit
theorem look_row (m : Rws) (k : List UInt8) : lookV (encRow []) (mmap encRow m) k true = .tuple #[encRow ((mget m k).getD []), .bool (mget m k).isSome] := by
 unfold lookV
 rw [mget_map]
 cases mget m k <;> rfl
theorem look_row1 (m : Rws) (k : List UInt8) : lookV (encRow []) (mmap encRow m) k false = encRow ((mget m k).getD []) := by
 unfold lookV
 rw [mget_map]
 cases mget m k <;> rfl
def getE (rows : Rws) (k : List UInt8) : List UInt8 × Bool := ((mget rows k).getD [], (mget rows k).isSome)
theorem tget_c {Tp q : Nat} {T : Tb} {fp : List Nat} (k : List UInt8) {w0 : World} (hi : InL w0 [tabC Tp q T fp]) :
  Cal Tryz.prog 59 [.pointer (some ⟨Tp, 0, none⟩), str k] w0 (fun v w' => v = .tuple #[str (getE T.rows k).1, .bool (getE T.rows k).2] ∧ MutL w0 w' [tabC Tp q T fp] [tabC Tp q T fp]) := by
 refine Cal.mkL hi Zk Tryz.func59 rfl rfl fun hS => ?_
 obtain ⟨_, ⟨m, L, fpl, rfl⟩, hfp, hS⟩ := St.objOpen (H := []) hS
 replace hS : St w0 (fps [tabC Tp q T fp]) w0 [tbB Tp (some ⟨q, 0, none⟩) T.dir (some ⟨L, 0, none⟩) m, rowsC m T.rows, lgC L q T.log fpl] _ := hS
 have hlk := look_row T.rows k
 unfold getE
 dsimp only
 repeat' (first | (show WL _ _ _ _ _ _ _; first | refine WL.pure rfl rfl rfl rfl ?_ | refine WL.nil ?_ | refine WL.load hS rfl rfl (LdOk.box (by repeat (first | exact Zh | apply List.Mem.tail)) rfl) rfl rfl rfl ?_ | (refine WL.mget hS rfl rfl rfl rfl (.mk' (by repeat (first | exact Zh | apply List.Mem.tail))) hlk rfl rfl rfl ?_) | (refine WL.alloc (t := 157) hS rfl rfl rfl rfl rfl rfl ?_; intro w xb hS) | (refine WL.store hS rfl rfl rfl Sb rfl rfl rfl ?_; intro w hS)) | (show WC _ _ _ _ _ _; first | refine WC.seq ?_ | refine WC.region ?_ | refine WC.skip ?_ | refine WC.ret ?_ | refine WC.condF rfl Zr ?_) | refine seqQ_n ?_)
 have hS := St.objClose (H := []) (φ := tabφ Tp q T) (D := [tbB Tp (some ⟨q, 0, none⟩) T.dir (some ⟨L, 0, none⟩) m, rowsC m T.rows, lgC L q T.log fpl]) hS.drop ⟨m, L, fpl, rfl⟩
 rw [← hfp] at hS
 exact fin2r rfl rfl rfl ⟨rfl, hS.mutLp Pu⟩
def bgetE (rows : Rws) (m : Bch) (k : List UInt8) : List UInt8 × Bool := match mget m k with
 |some o => (o.val, !o.gone)
 |none => getE rows k
open Go Go.J Go.RowKit Go.ChangeShapes Go.WideShapes Go.Deep
def Opens {α : Type} (P : Program) (t : TypeId) (c : Cod α) (Q : α → Nat → Prop) : Prop :=
 ∀ {H : Type} (enc : TypeId × Value → H) (W : World) (fuel : Nat) (cs : List Value) (x : DataW H × List MemPlace), DataW.trod enc P W 0 (fun _ => true) true fuel t cs = some x → ∃ y, c.rd (Old W) W cs y ∧ Q y (Rows.uptoBulk x.1)
def QL {α : Type} (Q : α → Nat → Prop) (ys : List α) (b : Nat) : Prop := ∃ bs : List Nat, bs.length = ys.length ∧ (∀ i (h : i < ys.length) (h' : i < bs.length), Q ys[i] bs[i]) ∧ bs.sum + 1 ≤ b
theorem bulkAll_sum {H : Type} (l : List (DataW H)) : Rows.uptoBulkAll l = (l.map Rows.uptoBulk).sum := by
 induction l with
 |nil => simp [Rows.uptoBulkAll]
 |cons d l ih => simp [Rows.uptoBulkAll, ih]
theorem Opens.int {P : Program} {t : TypeId} (ht : P.underlying t = some (.int .i64)) : Opens P t cInt (fun n b => -9223372036854775808 ≤ n ∧ n ≤ 9223372036854775807 ∧ 1 ≤ b) := by
 intro H enc W fuel cs x h
 obtain ⟨n, rfl, rfl, hw⟩ := DataW.trod_int ht h
 refine ⟨n, rfl, ?_⟩
 have h1 := bounds_i64 hw
 exact ⟨h1.1, h1.2, by simp [Rows.uptoBulk]⟩
theorem Opens.str {P : Program} {t : TypeId} (ht : P.underlying t = some .string) : Opens P t cStr (fun s b => s.length + 1 ≤ b) := by
 intro H enc W fuel cs x h
 obtain ⟨s, rfl, rfl, hw⟩ := DataW.trod_string ht h
 exact ⟨s.data.toList, rfl, by simp [Rows.uptoBulk]⟩
theorem Opens.slice {α : Type} [Inhabited α] {P : Program} {t e : TypeId} {c : Cod α} {Q : α → Nat → Prop} (ht : P.underlying t = some (.slice e)) (he : P.cellsOf e = c.sz) (hs : 0 < c.sz) (ho : Opens P e c Q) : Opens P t (cSl c) (QL Q) := by
 intro H enc W fuel cs x h
 rcases open_slice ht h with ⟨rfl, rfl⟩ | ⟨a, len, cap, m, n, D, Pl, rfl, hb, hl, hm, hmm, rfl, hx⟩
 ·exact ⟨[], ⟨none, 0, rfl, Nat.le_refl _, fun k hk => absurd hk (by simp)⟩, [], rfl, fun i h => absurd h (by simp), by simp [Rows.uptoBulk]⟩
 ·have hml : len ≤ m := by rw [hmm]; simp; omega
  have key : ∀ i, i < len → ∃ y : α, (∃ es, c.rd (Old W) W es y ∧ (a.add (i * c.sz)).block < W.heap.size ∧ (∀ j v, es[j]? = some v → W.cell? ((a.add (i * c.sz)).add j) = some v)) ∧ Q y (Rows.uptoBulk (D i)) := by
   intro i hi
   obtain ⟨cs', hc, htr⟩ := hx i Zo
   rw [he] at hc
   obtain ⟨y, hy, hq⟩ := ho enc W n cs' _ htr
   obtain ⟨_, hlen, hat⟩ := World.cells?_some hc
   refine ⟨y, ⟨cs', hy, ?_, fun j v hv => ?_⟩, hq⟩
   ·have h0 := hat 0 hs
    have hlt : 0 < cs'.length := Zo
    rw [List.getElem?_eq_getElem hlt] at h0
    have hlt' := World.block_lt_of_cell? W _ h0
    have e0 : ((a.add (i * c.sz)).add 0).block = (a.add (i * c.sz)).block := by simp [Addr.add]
    rwa [e0] at hlt'
   ·have hj : j < cs'.length := (List.getElem?_eq_some_iff.1 hv).1
    rw [hat j Zo]; exact hv
  obtain ⟨Y, hY⟩ := choose_lt key
  have hspot : 0 < len → a.spot = none := fun h0 => by
   obtain ⟨es, hrd, hbl, hc⟩ := (hY 0 h0).1
   have hl := c.len hrd
   have h1 := hc 0 es[0] (List.getElem?_eq_getElem Zo)
   have e : (a.add (0 * c.sz)).add 0 = a := by simp [Addr.add]
   rw [e] at h1
   unfold World.cell? at h1
   cases hsp : a.spot with
   |none => rfl
   |some s => simp [hsp] at h1; split at h1 <;> simp at h1
  refine ⟨(List.range len).map Y, ⟨some a, cap, by simp, by simpa using hl, fun k hk => ?_⟩, (List.range len).map fun i => Rows.uptoBulk (D i), by simp, fun i h h' => ?_, ?_⟩
  ·have hk' : k < len := by simpa using hk
   obtain ⟨es, hrd, hbl, hc⟩ := (hY k hk').1
   have ha : a = ⟨a.block, a.off, none⟩ := by rw [← hspot Zo]
   refine ⟨a.block, a.off, es, by rw [← ha], ?_, fun j v hv => ?_, by simpa using hrd⟩
   ·have : (a.add (k * c.sz)).block = a.block := by unfold Addr.add; split <;> rfl
    rw [this] at hbl; exact hbl
   ·have := hc j v hv
    rw [Go.Deep.add_add, ha, Addr.add_mid] at this
    rw [← Nat.add_assoc] at this
    exact this
  ·have hi : i < len := by simpa using h
   simpa using (hY i hi).2
  ·simp only [Rows.uptoBulk, bulkAll_sum, List.map_map]
   have : ((List.range len).map (Rows.uptoBulk ∘ D)) = (List.range len).map fun i => Rows.uptoBulk (D i) := rfl
   rw [this]
   omega
section
variable {H : Type} {enc : TypeId × Value → H} {P : Program}
theorem post_of_below {f : Func} {s : ChangeSpec} {apart fresh handsOn again : Bool} {W W' : World} {args : Array Value} {v : Value} {ds gs : List (DataW H)} {before pa pv : List MemPlace}
  (hW : DataW.Whole enc P f.params.toList s.vars apart W args.toList ds gs before)
  (hres : ∀ (b : Nat) (sp : Nat → Bool) (hd : Bool), DataW.TrodAll enc P W' b sp hd f.resultTypes.toList (v.resultList f.resultTypes.size) (s.fn H (ds ++ gs)).results [])
  (hargs : ∀ sp : Nat → Bool, (∀ p ∈ before, sp p.block = true) → DataW.TrodAll enc P W' 0 sp true f.params.toList args.toList (s.fn H (ds ++ gs)).args pa)
  (hvars : ∀ sp : Nat → Bool, (∀ p ∈ before, sp p.block = true) → DataW.TrodVars enc P W' sp s.vars (s.fn H (ds ++ gs)).vars pv)
  (hps : before = pa ++ pv) (hb : Below W.heap.size W W')
  (hok : ∀ (j : Nat) (t : TypeId) (r : Value), f.resultTypes[j]? = some t → (v.resultList f.resultTypes.size)[j]? = some r → Value.okWide P W' .any 0 t r) :
  s.post enc P f apart fresh handsOn again W args v W' := by
 have hlt : ∀ p ∈ before, p.block < W.heap.size := fun p hp => hW.lt p hp
 have hold : ∀ p ∈ before, (fun b => decide (b < W.heap.size)) p.block = true := fun p hp => by simpa using hlt p hp
 refine ⟨ds, gs, before, [], pa, pv, hW, hres _ _ _, hargs _ hold, hvars _ hold, World.keptBut_mono (fun p hp => ⟨hp, ?_⟩) (hb.frame (· ∈ before)), fun _ => ?_⟩
 ·rw [hps, List.mem_append] at hp
  exact Or.inr hp
 ·obtain ⟨_, _, _, _, _, hz, hn⟩ := hW
  refine ⟨hok, _, _, ([] ++ pa) ++ pv, ⟨[] ++ pa, pv, trodAll_append (hargs _ (fun _ _ => rfl)) (hres _ _ _), hvars _ (fun _ _ => rfl), rfl, ?_, ?_⟩, ?_⟩
  ·intro b off hp
   have hin : MemPlace.cell b off ∈ before := by rw [hps]; simpa using hp
   rw [hb.frozen (hlt _ hin)]
   exact hz b off hin
  ·intro ha
   have := hn ha
   rw [hps] at this
   simpa using this
  ·intro p hp _
   rw [hps]
   simpa using hp
end
open Go Go.J Go.RowKit Go.ChangeShapes Go.WideShapes Go.ChangeAt Go.Deep
def Arg {α : Type} (P : Program) (t : TypeId) (A : World → Value → α → Prop) (Q : α → Nat → Prop) : Prop :=
 ∀ {H : Type} (enc : TypeId × Value → H) (W : World) (base : Nat) (v : Value) (d : DataW H) (p : List MemPlace), Value.okWide P W .any base t v → DataW.Trod enc P W 0 (fun _ => true) true t v d p → ∃ y, A W v y ∧ Q y (Rows.uptoBulk d)
def AInt (_ : World) (v : Value) (n : Int) : Prop := v = .int .i64 n
def QInt (n : Int) (b : Nat) : Prop := -9223372036854775808 ≤ n ∧ n ≤ 9223372036854775807 ∧ 1 ≤ b
def AStr (_ : World) (v : Value) (s : List UInt8) : Prop := v = str s
def QStr (s : List UInt8) (b : Nat) : Prop := s.length + 1 ≤ b
def ASl {α : Type} (c : Cod α) (W : World) (v : Value) (xs : List α) : Prop := ∃ A cap, v = .slice A xs.length cap ∧ xs.length ≤ cap ∧ SlAt c (Old W) W A xs
def AAgg {α : Type} (c : Cod α) (W : World) (v : Value) (y : α) : Prop := ∃ cs, v = .agg ⟨cs⟩ ∧ c.rd (Old W) W cs y
theorem Arg.int {P : Program} {t : TypeId} (ht : P.underlying t = some (.int .i64)) : Arg P t AInt QInt := by
 intro H enc W base v d p hk hd
 obtain ⟨n, rfl⟩ := okWide_int ht hk
 obtain ⟨fuel, hf⟩ := hd
 obtain ⟨y, hy, hq⟩ := Opens.int ht enc W fuel _ _ hf
 have hy' : [Value.int .i64 n] = [.int .i64 y] := hy
 simp only [List.cons.injEq, Value.int.injEq, true_and, and_true] at hy'
 exact ⟨y, by rw [hy']; rfl, hq⟩
theorem Arg.str {P : Program} {t : TypeId} (ht : P.underlying t = some .string) : Arg P t AStr QStr := by
 intro H enc W base v d p hk hd
 obtain ⟨s, rfl⟩ := okWide_string ht hk
 obtain ⟨fuel, hf⟩ := hd
 obtain ⟨y, hy, hq⟩ := Opens.str ht enc W fuel _ _ hf
 have hy' : [Value.string s] = [Go.J.str y] := hy
 exact ⟨y, by show Value.string s = Go.J.str y; simpa using hy', hq⟩
theorem Arg.slice {α : Type} {P : Program} {t e : TypeId} {c : Cod α} {Q : List α → Nat → Prop} (ht : P.underlying t = some (.slice e)) (ho : Opens P t (cSl c) Q) : Arg P t (ASl c) Q := by
 intro H enc W base v d p hk hd
 obtain ⟨a, len, cap, rfl⟩ := okWide_slice ht hk
 obtain ⟨fuel, hf⟩ := hd
 obtain ⟨y, ⟨A, cap', e0, hcap, hsl⟩, hq⟩ := ho enc W fuel _ _ hf
 have e0' : [Value.slice a len cap] = [.slice A y.length cap'] := e0
 exact ⟨y, ⟨A, cap', by simpa using e0', hcap, hsl⟩, hq⟩
theorem Arg.agg {α : Type} {P : Program} {t : TypeId} {fs : Array Field} {c : Cod α} {Q : α → Nat → Prop} (ht : P.underlying t = some (.struct fs)) (ho : Opens P t c Q) : Arg P t (AAgg c) Q := by
 intro H enc W base v d p hk hd
 obtain ⟨cs, rfl, _⟩ := okWide_struct ht hk
 obtain ⟨fuel, hf⟩ := hd
 obtain ⟨y, hy, hq⟩ := ho enc W fuel _ _ hf
 exact ⟨y, ⟨cs.toList, by cases cs; rfl, hy⟩, hq⟩
theorem own : ownKnob Tryz.prog.godebug = none := Zk
theorem laid : laidOutB Tryz.prog = true := Zk
theorem all_stays {H : Type} {enc : TypeId × Value → H} {P : Program} (hl : laidOutB P = true) {W W' : World} (hu : Upd [] W W') {sp : Nat → Bool} : ∀ {ts : List TypeId} {vs : List Value} {ds : List (DataW H)} {p : List MemPlace}, (ts.all fun t => P.readableRec t && decide (t < P.types.size)) = true →
  DataW.TrodAll enc P W 0 (fun _ => true) true ts vs ds p → (∀ x ∈ p, x.block < W.heap.size) → (∀ x ∈ p, sp x.block = true) → DataW.TrodAll enc P W' 0 sp true ts vs ds p
 |[], [], [], p, _, h, _, _ => h
 |t :: ts, vs, ds, p, hr, h, hlt, hsp => by
  obtain ⟨v, vs', d, ds', p1, q1, rfl, rfl, rfl, h1, h2⟩ := trodAll_cons h
  simp only [List.all_cons, Bool.and_eq_true] at hr
  refine trodAll_cons_mk ?_ (all_stays hl hu (by simpa using hr.2) h2 (fun x hx => hlt x (by simp [hx])) fun x hx => hsp x (by simp [hx]))
  exact WideElems.Trod_stays hl hr.1.1 (of_decide_eq_true hr.1.2) h1 (fun x hx => hu.below.same (hlt x (by simp [hx]))) (fun x hx => hsp x (by simp [hx]))
 |[], [], _ :: _, _, _, h, _, _ => by simp [DataW.TrodAll] at h
 |[], _ :: _, _, _, _, h, _, _ => by simp [DataW.TrodAll] at h
theorem all_len {H : Type} {enc : TypeId × Value → H} {P : Program} {W : World} {sp : Nat → Bool} : ∀ {ts : List TypeId} {vs : List Value} {ds : List (DataW H)} {p : List MemPlace}, DataW.TrodAll enc P W 0 sp true ts vs ds p → ds.length = ts.length
 |[], [], [], _, _ => rfl
 |t :: ts, vs, ds, p, h => by
  obtain ⟨v, vs', d, ds', p1, q1, rfl, rfl, rfl, h1, h2⟩ := trodAll_cons h
  simp [all_len h2]
 |[], [], _ :: _, _, h => by simp [DataW.TrodAll] at h
 |[], _ :: _, _, _, h => by simp [DataW.TrodAll] at h
theorem law_post {H : Type} {enc : TypeId × Value → H} {P : Program} (hl : laidOutB P = true) {f : Func} {s : ChangeSpec} {tb : TypeId} {W W' : World} {args : Array Value} {ds gs : List (DataW H)} {before : List MemPlace}
  (hb : P.underlying tb = some .bool) (hrt : f.resultTypes = #[tb]) (hread : (f.params.toList.all fun t => P.readableRec t && decide (t < P.types.size)) = true) (hv : s.vars = [])
  (hs : ∀ ds : List (DataW H), ds.length = f.params.toList.length → (s.fn H ds).results = [.lit (.bool true)] ∧ (s.fn H ds).args = ds ∧ (s.fn H ds).vars = [])
  (hW : DataW.Whole enc P f.params.toList s.vars false W args.toList ds gs before) (hu : Upd [] W W') : s.post enc P f false true false false W args (.bool true) W' := by
 obtain ⟨p, q, hA, hV, rfl, hfz, hnd⟩ := id hW
 have hV' := hV
 rw [hv] at hV'
 obtain ⟨rfl, rfl⟩ := trodVars_none hV'
 have hlen := all_len hA
 obtain ⟨h1, h2, h3⟩ := hs ds hlen
 have hlt : ∀ x ∈ p, x.block < W.heap.size := fun x hx => hW.lt x (by simp [hx])
 refine post_of_below (pa := p) (pv := []) hW (fun _ _ _ => ?_) (fun sp hsp => ?_) (fun sp hsp => ?_) rfl hu.below (fun j t r hj hr => ?_)
 ·rw [hrt, List.append_nil, h1]
  exact trodAll_cons_mk (shut_bool hb _) trodAll_mk0
 ·rw [List.append_nil, h2]
  exact all_stays hl hu hread hA hlt fun x hx => hsp x (by simp [hx])
 ·rw [hv, List.append_nil, h3]
  exact rfl
 ·exact ok_one hrt rfl (okWide_bool_mk hb _) j t r hj hr
end Go.Proofs.YtccfiohagbneaaaGreatDoor

namespace Go.J
open Go
theorem cmp_lt : ∀ a b : List UInt8, (Lib.compareBytes a b < 0 ↔ Op.bytesLess a b = true)
 |[], [] => by simp [Lib.compareBytes, Op.bytesLess]
 |[], _ :: _ => by simp [Lib.compareBytes, Op.bytesLess]
 |_ :: _, [] => by simp [Lib.compareBytes, Op.bytesLess]
 |a :: x, b :: y => by
  have ih := cmp_lt x y
  unfold Lib.compareBytes Op.bytesLess
  by_cases h1 : a < b
  ·simp [h1]
  ·rw [if_neg h1]
   by_cases h2 : b < a
   ·have h3 : ¬ a = b := fun e => by subst e; exact h1 h2
    rw [if_pos h2]
    simp [h1, h3]
   ·have h3 : a = b := by
     apply UInt8.toNat_inj.1
     have h1 : ¬ a.toNat < b.toNat := h1
     have h2 : ¬ b.toNat < a.toNat := h2
     omega
    rw [if_neg h2, ih]
    simp [h1, h3]
theorem cmp_eq : ∀ a b : List UInt8, (Lib.compareBytes a b = 0 ↔ a = b)
 |[], [] => by simp [Lib.compareBytes]
 |[], _ :: _ => by simp [Lib.compareBytes]
 |_ :: _, [] => by simp [Lib.compareBytes]
 |a :: x, b :: y => by
  have ih := cmp_eq x y
  unfold Lib.compareBytes
  by_cases h1 : a < b
  ·rw [if_pos h1]
   constructor
   ·intro h; omega
   ·intro h
    rw [List.cons.injEq] at h
    rw [h.1] at h1
    exact absurd h1 (by simp)
  ·rw [if_neg h1]
   by_cases h2 : b < a
   ·rw [if_pos h2]
    constructor
    ·intro h; omega
    ·intro h
     rw [List.cons.injEq] at h
     rw [h.1] at h2
     exact absurd h2 (by simp)
   ·have h3 : a = b := by
     apply UInt8.toNat_inj.1
     have h1 : ¬ a.toNat < b.toNat := h1
     have h2 : ¬ b.toNat < a.toNat := h2
     omega
    rw [if_neg h2, ih, h3]
    simp
theorem less_irr (a : List UInt8) : Op.bytesLess a a = false := by
 cases h : Op.bytesLess a a with
 |false => rfl
 |true =>
  have := (cmp_lt a a).2 h
  rw [(cmp_eq a a).2 rfl] at this
  omega
theorem less_trans : ∀ {a b c : List UInt8}, Op.bytesLess a b = true → Op.bytesLess b c = true → Op.bytesLess a c = true
 |_, _, [], _, h => by simp [Op.bytesLess] at h
 |_, [], _ :: _, h, _ => by simp [Op.bytesLess] at h
 |[], _ :: _, _ :: _, _, _ => by simp [Op.bytesLess]
 |x :: a, y :: b, z :: c, h1, h2 => by
  unfold Op.bytesLess at *
  simp only [Bool.or_eq_true, decide_eq_true_eq, Bool.and_eq_true, beq_iff_eq] at *
  rcases h1 with h1 | ⟨h1, h1'⟩ <;> rcases h2 with h2 | ⟨h2, h2'⟩
  ·exact .inl (UInt8.lt_trans h1 h2)
  ·subst h2; exact .inl h1
  ·subst h1; exact .inl h2
  ·subst h1 h2; exact .inr ⟨rfl, less_trans h1' h2'⟩
theorem less_asym {a b : List UInt8} (h : Op.bytesLess a b = true) : Op.bytesLess b a = false := by
 cases h2 : Op.bytesLess b a with
 |false => rfl
 |true => have := less_trans h h2; rw [less_irr] at this; cases this
theorem less_tri (a b : List UInt8) : Op.bytesLess a b = true ∨ a = b ∨ Op.bytesLess b a = true := by
 rcases Int.lt_trichotomy (Lib.compareBytes a b) 0 with h | h | h
 ·exact .inl ((cmp_lt a b).1 h)
 ·exact .inr (.inl ((cmp_eq a b).1 h))
 ·refine .inr (.inr ?_)
  induction a generalizing b with
  |nil => cases b <;> simp [Lib.compareBytes] at h
  |cons x a ih =>
   cases b with
   |nil => simp [Op.bytesLess]
   |cons y b =>
    unfold Lib.compareBytes at h
    unfold Op.bytesLess
    split at h
    ·omega
    ·rename_i h1
     split at h
     ·rename_i h2; simp [h2]
     ·rename_i h2
      have h3 : x = y := by
       apply UInt8.toNat_inj.1
       have h1 : ¬ x.toNat < y.toNat := h1
       have h2 : ¬ y.toNat < x.toNat := h2
       omega
      subst h3
      simp [ih b h]
structure Ent where
 path : List UInt8
 kind : Int
 data : List UInt8
instance : Inhabited Ent := ⟨⟨[], 0, []⟩⟩
def encEnt (e : Ent) : List Value := [str e.path, .int .i64 e.kind, str e.data]
def cEnt : Cod Ent := .flat encEnt 3 fun _ => rfl
def wholeE (kind : Int) (data : List UInt8) : Bool := if kind = 0 ∨ kind = 1 then decide (data = []) else if kind = 2 then decide (data.length ≤ 4096) else false
structure EntOk (t : List Ent) (i : Nat) (h : i < t.length) : Prop where
 path : checkE t[i].path 5 = 0
 whole : wholeE t[i].kind t[i].data = true
 kind : t[i].kind ≠ 0
 ord : ∀ j (hj : j + 1 = i), Op.bytesLess (t[j]'Zo).path t[i].path = true
 up : parentE t[i].path ≠ [] → ∃ j, ∃ hj : j < i, (t[j]'Zo).path = parentE t[i].path ∧ (t[j]'Zo).kind = 1
def TreeOk (t : List Ent) : Prop := ∀ i (h : i < t.length), EntOk t i h
open Classical in
noncomputable def checkT (t : List Ent) : Int := if 200 < t.length then 4 else if TreeOk t then 0 else 3
def Rise (t : List Ent) (n : Nat) : Prop := ∀ i j (hi : i < j) (hj : j < t.length), j < n → Op.bytesLess (t[i]'Zo).path t[j].path = true
theorem Rise.of {t : List Ent} {n : Nat} (h : ∀ i (h : i < t.length), i < n → ∀ j (hj : j + 1 = i), Op.bytesLess (t[j]'Zo).path t[i].path = true) : Rise t n := by
 intro i j hi hj hn
 induction j with
 |zero => omega
 |succ j ih =>
  have h1 := h (j + 1) hj hn j rfl
  by_cases e : i = j
  ·subst e; exact h1
  ·exact less_trans (ih Zo Zo Zo) h1
theorem TreeOk.rise {t : List Ent} (h : TreeOk t) : Rise t t.length := Rise.of fun i hi _ j hj => (h i hi).ord j hj
def getT (t : List Ent) (p : List UInt8) : Ent := (t.find? fun e => decide (e.path = p)).getD ⟨[], 0, []⟩
theorem getT_at {t : List Ent} (hr : Rise t t.length) {i : Nat} (hi : i < t.length) : getT t t[i].path = t[i] := by
 unfold getT
 cases hf : t.find? fun e => decide (e.path = t[i].path) with
 |none => exact absurd (decide_eq_true rfl) (List.find?_eq_none.1 hf t[i] (List.getElem_mem hi))
 |some e =>
  have h1 := List.find?_some hf
  have h1 : e.path = t[i].path := by simpa using h1
  obtain ⟨j, hj, rfl⟩ := List.getElem_of_mem (List.mem_of_find?_eq_some hf)
  have : j = i := by
   rcases Nat.lt_trichotomy j i with h | h | h
   ·have := hr j i h hi hi; rw [h1, less_irr] at this; cases this
   ·exact h
   ·have := hr i j h hj hj; rw [h1, less_irr] at this; cases this
  subst this
  rfl
theorem getT_no {t : List Ent} {p : List UInt8} (h : ∀ e ∈ t, e.path ≠ p) : getT t p = ⟨[], 0, []⟩ := by
 unfold getT
 rw [List.find?_eq_none.2 fun e he => by simpa using h e he]
 rfl
open Go
theorem parent_less {p : List UInt8} (h : parentE p ≠ []) : Op.bytesLess (parentE p) p = true := by
 have hl := lastE_ge p
 have hlt : (lastE p).toNat < p.length := by
  apply Classical.byContradiction
  intro hn
  have : p = [] := by
   cases p with
   |nil => rfl
   |cons a l => simp at hn hl; omega
  subst this
  exact h (by unfold parentE; simp)
 unfold parentE
 have e := List.take_append_drop (lastE p).toNat p
 cases hd : p.drop (lastE p).toNat with
 |nil =>
  have := congrArg List.length hd
  rw [List.length_drop] at this
  simp at this
  omega
 |cons c r =>
  rw [hd] at e
  have h2 := less_app [] r c (p.take (lastE p).toNat)
  rw [e] at h2
  exact h2
theorem getT_kind {t : List Ent} (hr : Rise t t.length) {q : List UInt8} : (getT t q).kind = 1 ↔ ∃ j, ∃ h : j < t.length, t[j].path = q ∧ t[j].kind = 1 := by
 constructor
 ·intro hk
  unfold getT at hk
  cases hf : t.find? fun e => decide (e.path = q) with
  |none => rw [hf] at hk; exact absurd hk Zd
  |some e =>
   rw [hf] at hk
   have h1 := List.find?_some hf
   have h1 : e.path = q := by simpa using h1
   obtain ⟨j, hj, rfl⟩ := List.getElem_of_mem (List.mem_of_find?_eq_some hf)
   exact ⟨j, hj, h1, hk⟩
 ·rintro ⟨j, hj, rfl, hk⟩
  rw [getT_at hr hj]
  exact hk
structure RefOk (t : List Ent) (i : Nat) (h : i < t.length) : Prop where
 path : checkE t[i].path 5 = 0
 whole : wholeE t[i].kind t[i].data = true
 kind : t[i].kind ≠ 0
 ord : ∀ j (hj : j + 1 = i), Op.bytesLess (t[j]'Zo).path t[i].path = true
 up : parentE t[i].path ≠ [] → (getT t (parentE t[i].path)).kind = 1
theorem refOk_tree {t : List Ent} (h : ∀ i (h : i < t.length), RefOk t i h) : TreeOk t := by
 have hr : Rise t t.length := Rise.of fun i hi _ j hj => (h i hi).ord j hj
 refine fun i hi => ⟨(h i hi).path, (h i hi).whole, (h i hi).kind, (h i hi).ord, fun hne => ?_⟩
 obtain ⟨j, hj, e1, e2⟩ := (getT_kind hr).1 ((h i hi).up hne)
 have hpl := parent_less hne
 rw [← e1] at hpl
 refine ⟨j, ?_, e1, e2⟩
 rcases Nat.lt_trichotomy j i with h4 | h4 | h4
 ·exact h4
 ·subst h4; rw [less_irr] at hpl; cases hpl
 ·have := hr i j h4 hj hj
  rw [less_asym hpl] at this
  cases this
theorem tree_refOk {t : List Ent} (h : TreeOk t) : ∀ i (h : i < t.length), RefOk t i h := fun i hi =>
 ⟨(h i hi).path, (h i hi).whole, (h i hi).kind, (h i hi).ord, fun hne => by
  obtain ⟨j, hj, e1, e2⟩ := (h i hi).up hne
  exact (getT_kind h.rise).2 ⟨j, Zo, e1, e2⟩⟩
def TreeTo (t : List Ent) (n : Nat) : Prop := ∀ i (h : i < t.length), i < n → EntOk t i h
theorem TreeTo.rise {t : List Ent} {n : Nat} (h : TreeTo t n) : Rise t n := Rise.of fun i hi hn j hj => (h i hi hn).ord j hj
theorem Rise.take {t : List Ent} {n : Nat} (h : Rise t n) (hn : n ≤ t.length) : Rise (t.take n) (t.take n).length := by
 intro i j hi hj _
 rw [List.length_take] at hj
 rw [List.getElem_take, List.getElem_take]
 exact h i j hi Zo Zo
theorem up_take {t : List Ent} {n : Nat} (h : Rise t n) (hn : n ≤ t.length) {q : List UInt8} : (getT (t.take n) q).kind = 1 ↔ ∃ j, ∃ hj : j < n, (t[j]'Zo).path = q ∧ (t[j]'Zo).kind = 1 := by
 rw [getT_kind (h.take hn)]
 constructor
 ·rintro ⟨j, hj, e1, e2⟩
  rw [List.length_take] at hj
  rw [List.getElem_take] at e1 e2
  exact ⟨j, Zo, e1, e2⟩
 ·rintro ⟨j, hj, e1, e2⟩
  refine ⟨j, by rw [List.length_take]; omega, ?_, ?_⟩ <;> rw [List.getElem_take]
  ·exact e1
  ·exact e2
open Go Go.RowKit
section
variable {P : Program} {N : Fz} {f : Fr} {w w0 : World} {Q : Post} {ops l : List Oper} {o : Oper} {M : List Nat} {H H' : List Chunk} {Z : List Snap} {ρ : Operand → Value}
theorem SlAt.pre {α : Type} {c : Cod α} {F : Nat → Prop} {w : World} {A : Option Addr} {xs ys : List α} (h : SlAt c F w A (xs ++ ys)) : SlAt c F w A xs := fun k hk => by
 obtain ⟨b, o, es, h1, h2, h3, h4⟩ := h k (by rw [List.length_append]; omega)
 exact ⟨b, o, es, h1, h2, h3, by rwa [List.getElem_append_left hk] at h4⟩
end
open Go Go.RowKit
section
variable {P : Program} {N : Fz} {f : Fr} {w w0 : World} {Q : Post} {ops : List Oper} {q : List Nat} {l : List Nat} {i : Nat} {S : World → Prop}
variable {M : List Nat} {H0 H : List Chunk} {Z0 Z : List Snap}
end
section
variable {P : Program} {N : Fz} {f : Fr} {w : World} {Q : Post} {ops l : List Oper} {o : Oper}
theorem wrapU64 {a : Int} (h : 0 ≤ a ∧ a < 18446744073709551616) : IntKind.u64.wrap a = a := by rw [IntKind.wrap_u64]; omega
def intoU64 (P : Program) (s d : TypeId) : Bool := match P.underlying s, P.underlying d with
 |some (.int _), some (.int .u64) => true
 |_, _ => false
theorem WL.cvU {s d' : TypeId} {x : Operand} {k : IntKind} {a : Int} (ho : o.op = .convert s d' x) (ht : intoU64 P s d' = true) (hx : ev f x = .int k a) (hr : 0 ≤ a ∧ a < 18446744073709551616)
  (hg : wants ops f o = true) {d : Nat} (hd : o.dst = some d) (hn : N.ok d = true) (h : WL P N ops l (up f d (.int .u64 a)) w Q) : WL P N ops (o :: l) f w Q := by
 refine .pure (v := .int .u64 a) ?_ hg hd hn h
 unfold intoU64 at ht
 split at ht
 ·rename_i k1 h1 h2
  unfold pureV
  rw [ho]
  simp only [pureOp, h1, h2, hx, wrapU64 hr]
  rfl
 ·cases ht
end
open Go Go.RowKit
section
variable {P : Program} {fn : Func} {rs : Array ResultVar} {R : Value → World → Prop} {f : Fr} {w w0 : World} {M : List Nat} {H : List Chunk} {Z : List Snap}
theorem St.loads (hS : St w0 M w H Z) {ty : TypeId} {a : Addr} {v : Value} (hl : LdOk P H Z ty a v) : (loadVar ty a).run P w = .ok v w := hl.out w0 M w [] [] hS
theorem resC1 {t : Tmp} {ty : TypeId} {a : Addr} {v : Value} (hS : St w0 M w H Z) (h : fn.results = #[.cell t ty]) (hx : f t = .pointer (some a)) (hl : LdOk P H Z ty a v) : ∀ b, Is b fn.ntmps f → (results fn b.tmps).run P w = .ok v w := fun b hb => by
 have h1 := hb.get t
 rw [hx] at h1
 have h2 := hS.loads hl
 simp only [Array.getD_eq_getD_getElem?] at h1
 simp [results, h, h1, h2, asAddr, Sem.run_bind]
theorem finC1r {t : Tmp} {ty : TypeId} {a : Addr} {v : Value} (hS : St w0 M w H Z) (h : fn.results = #[.cell t ty]) (hx : f t = .pointer (some a)) (hl : LdOk P H Z ty a v) (hR : R v w) : funQ P rs fn (Ret R) .ret f w := by unfold funQ; exact ⟨v, ⟨v, rfl, hR⟩, resC1 hS h hx hl⟩
end
section
variable {P : Program} {N : Fz} {f : Fr} {w w0 : World} {Q : Post} {ops l : List Oper} {o : Oper} {M : List Nat} {H H' : List Chunk} {Z : List Snap} {ρ : Operand → Value}
theorem WL.b2sBox {t t2 : TypeId} {x : Operand} {e e' : TypeId} {b n : Nat} {s : List UInt8} {cs : List Value} (hS : St w0 M w H Z) (ho : o.op = .convert t t2 x) (ht : bytesOf P t = some e) (ht2 : isStr P t2 = true) (hx : ev f x = .slice (some ⟨b, 0, none⟩) n n) (hm : Chunk.box b e' cs ∈ H) (hxs : cs = byteC s) (hl : s.length = n) (hmx : n ≤ 1048576)
  (hg : wants ops f o = true) {d : Nat} (hd : o.dst = some d) (hn : N.ok d = true) (h : WL P N ops l (up f d (str s)) w Q) : WL P N ops (o :: l) f w Q :=
 .val hg hd hn (run_b2s ho ht ht2 hx (hxs ▸ row_box (hS.holds _ hm) (by rw [hxs, byteC_len]; exact hl) (by unfold maxLen; omega))) h
end
open Go
structure StrictO {κ : Type} (lt : κ → κ → Bool) : Prop where
 irr : ∀ a, lt a a = false
 trans : ∀ {a b c}, lt a b = true → lt b c = true → lt a c = true
 tri : ∀ a b, lt a b = true ∨ a = b ∨ lt b a = true
theorem bytesO : StrictO Op.bytesLess := ⟨less_irr, fun h k => less_trans h k, less_tri⟩
section
variable {α κ : Type} [DecidableEq κ] (key : α → κ) (lt : κ → κ → Bool)
def findG (l : List α) (k : κ) : Option α := l.find? fun x => decide (key x = k)
def RiseG (l : List α) : Prop := l.Pairwise fun x y => lt (key x) (key y) = true
def putG (l : List α) (x : α) : List α := l.takeWhile (fun y => lt (key y) (key x)) ++ x :: ((l.dropWhile fun y => lt (key y) (key x)).filter fun y => decide (key y ≠ key x))
def dropG (l : List α) (k : κ) : List α := l.filter fun y => decide (key y ≠ k)
end
section
variable {α κ : Type} [DecidableEq κ] {key : α → κ} {lt : κ → κ → Bool} (O : StrictO lt) {l : List α} {x y z : α} {k q : κ}
theorem findG_cons : findG key (x :: l) k = if key x = k then some x else findG key l k := by
 unfold findG
 rw [List.find?_cons]
 by_cases h : key x = k
 ·rw [if_pos h]; simp [h]
 ·rw [if_neg h]; simp [h]
theorem findG_some (h : findG key l k = some x) : x ∈ l ∧ key x = k := ⟨List.mem_of_find?_eq_some h, by have := List.find?_some h; simpa using this⟩
include O
theorem findG_mem (hr : RiseG key lt l) (hx : x ∈ l) : findG key l (key x) = some x := by
 induction l with
 |nil => cases hx
 |cons y l ih =>
  rw [findG_cons]
  have hr1 := List.pairwise_cons.1 hr
  rcases List.mem_cons.1 hx with rfl | hx
  ·rw [if_pos rfl]
  ·rw [if_neg]
   ·exact ih hr1.2 hx
   ·intro e
    have := hr1.1 x hx
    rw [e, O.irr] at this
    cases this
omit O in
theorem findG_drop : findG key (dropG key l k) q = if q = k then none else findG key l q := by
 induction l with
 |nil => unfold dropG findG; simp
 |cons x l ih =>
  have e : dropG key (x :: l) k = if key x = k then dropG key l k else x :: dropG key l k := by
   unfold dropG
   rw [List.filter_cons]
   by_cases h : key x = k <;> simp [h]
  rw [e]
  by_cases h : key x = k
  ·rw [if_pos h, ih]
   by_cases hq : q = k
   ·rw [if_pos hq, if_pos hq]
   ·rw [if_neg hq, if_neg hq, findG_cons, if_neg (by rw [h]; exact fun e => hq e.symm)]
  ·rw [if_neg h, findG_cons, findG_cons, ih]
   by_cases hq : q = k
   ·rw [if_pos hq, if_neg (by rw [hq]; exact h), if_pos hq]
   ·rw [if_neg hq, if_neg hq]
omit O in
theorem putG_cons : putG key lt (y :: l) x = if lt (key y) (key x) then y :: putG key lt l x else x :: (y :: l).filter fun z => decide (key z ≠ key x) := by
 unfold putG
 rw [List.takeWhile_cons, List.dropWhile_cons]
 cases lt (key y) (key x) <;> rfl
theorem mem_putG (h : z ∈ putG key lt l x) : z = x ∨ (z ∈ l ∧ key z ≠ key x) := by
 induction l with
 |nil => unfold putG at h; simp at h; exact .inl h
 |cons y l ih =>
  rw [putG_cons] at h
  split at h
  ·rename_i hl
   rcases List.mem_cons.1 h with rfl | h
   ·refine .inr ⟨List.mem_cons_self .., fun e => ?_⟩
    rw [e, O.irr] at hl
    cases hl
   ·rcases ih h with h | ⟨h1, h2⟩
    ·exact .inl h
    ·exact .inr ⟨List.mem_cons_of_mem _ h1, h2⟩
  ·rcases List.mem_cons.1 h with rfl | h
   ·exact .inl rfl
   ·obtain ⟨h1, h2⟩ := List.mem_filter.1 h
    exact .inr ⟨h1, of_decide_eq_true h2⟩
theorem findG_put : findG key (putG key lt l x) q = if q = key x then some x else findG key l q := by
 induction l with
 |nil =>
  have e : putG key lt [] x = [x] := rfl
  rw [e, findG_cons]
  by_cases h : key x = q
  ·rw [if_pos h, if_pos h.symm]
  ·rw [if_neg h, if_neg (fun e => h e.symm)]
 |cons y l ih =>
  rw [putG_cons]
  split
  ·rename_i hl
   rw [findG_cons, findG_cons, ih]
   by_cases hq : q = key x
   ·rw [if_pos hq, if_pos hq, if_neg]
    intro e
    rw [e, hq, O.irr] at hl
    cases hl
   ·rw [if_neg hq, if_neg hq]
  ·rw [findG_cons]
   by_cases hq : q = key x
   ·rw [if_pos hq, if_pos hq.symm]
   ·rw [if_neg hq, if_neg (fun e => hq e.symm)]
    have := findG_drop (key := key) (l := y :: l) (k := key x) (q := q)
    rw [if_neg hq] at this
    exact this
theorem putG_rise (hr : RiseG key lt l) : RiseG key lt (putG key lt l x) := by
 induction l with
 |nil => exact List.pairwise_singleton _ _
 |cons y l ih =>
  have hr1 := List.pairwise_cons.1 hr
  rw [putG_cons]
  split
  ·rename_i hl
   refine List.pairwise_cons.2 ⟨fun z hz => ?_, ih hr1.2⟩
   rcases mem_putG O hz with rfl | ⟨hz, _⟩
   ·exact hl
   ·exact hr1.1 z hz
  ·rename_i hl
   refine List.pairwise_cons.2 ⟨fun z hz => ?_, List.Pairwise.sublist List.filter_sublist hr⟩
   obtain ⟨hz, hne⟩ := List.mem_filter.1 hz
   have hne : key z ≠ key x := of_decide_eq_true hne
   have hyx : lt (key x) (key y) = true ∨ key x = key y := by
    rcases O.tri (key x) (key y) with h | h | h
    ·exact .inl h
    ·exact .inr h
    ·exact absurd h hl
   rcases List.mem_cons.1 hz with rfl | hz
   ·rcases hyx with h | h
    ·exact h
    ·exact absurd h.symm hne
   ·have h2 := hr1.1 z hz
    rcases hyx with h | h
    ·exact O.trans h h2
    ·rw [h]; exact h2
theorem filter_gt (hx : ∀ z ∈ l, lt (key x) (key z) = true) : (l.filter fun z => decide (key z ≠ key x)) = l := List.filter_eq_self.2 fun z hz => decide_eq_true fun e => by
 have := hx z hz
 rw [e, O.irr] at this; cases this
theorem putG_eq (hr : RiseG key lt l) {k : Nat} (hk : k < l.length) (h1 : ∀ j (h : j < l.length), j < k → lt (key l[j]) (key x) = true) (h2 : key l[k] = key x) : putG key lt l x = l.take k ++ x :: l.drop (k + 1) := by
 induction l generalizing k with
 |nil => exact absurd hk (Nat.not_lt_zero _)
 |cons y l ih =>
  have hr1 := List.pairwise_cons.1 hr
  rw [putG_cons]
  cases k with
  |zero =>
   have h2 : key y = key x := h2
   rw [if_neg (by rw [h2, O.irr]; decide), List.filter_cons, if_neg (by simp [h2]), filter_gt O fun z hz => by rw [← h2]; exact hr1.1 z hz]
   rfl
  |succ k =>
   have h0 : lt (key y) (key x) = true := h1 0 (by simp) (Nat.succ_pos _)
   rw [if_pos h0, ih hr1.2 (by simpa using hk) (fun j h hj => h1 (j + 1) (by simpa using h) Zo) h2]
   rfl
theorem putG_ne (hr : RiseG key lt l) {k : Nat} (hk : k ≤ l.length) (h1 : ∀ j (h : j < l.length), j < k → lt (key l[j]) (key x) = true) (h2 : ∀ h : k < l.length, lt (key l[k]) (key x) = false ∧ key l[k] ≠ key x) : putG key lt l x = l.take k ++ x :: l.drop k := by
 induction l generalizing k with
 |nil =>
  have : k = 0 := by simpa using hk
  subst this; rfl
 |cons y l ih =>
  have hr1 := List.pairwise_cons.1 hr
  rw [putG_cons]
  cases k with
  |zero =>
   obtain ⟨h3, h4⟩ := h2 (Nat.succ_pos _)
   have h3 : lt (key y) (key x) = false := h3
   have h4 : key y ≠ key x := h4
   have h5 : lt (key x) (key y) = true := by
    rcases O.tri (key x) (key y) with h | h | h
    ·exact h
    ·exact absurd h.symm h4
    ·rw [h] at h3; cases h3
   rw [if_neg (by rw [h3]; decide), filter_gt O fun z hz => by
    rcases List.mem_cons.1 hz with rfl | hz
    ·exact h5
    ·exact O.trans h5 (hr1.1 z hz)]
   rfl
  |succ k =>
   have h0 : lt (key y) (key x) = true := h1 0 (by simp) (Nat.succ_pos _)
   rw [if_pos h0, ih hr1.2 (by simpa using hk) (fun j h hj => h1 (j + 1) (by simpa using h) Zo) (fun h => h2 (by simpa using h))]
   rfl
theorem rise_ext {l' : List α} (hr : RiseG key lt l) (hr' : RiseG key lt l') (h : ∀ x, x ∈ l ↔ x ∈ l') : l = l' := by
 induction l generalizing l' with
 |nil =>
  cases l' with
  |nil => rfl
  |cons y l' => exact absurd ((h y).2 (List.mem_cons_self ..)) (by simp)
 |cons x l ih =>
  cases l' with
  |nil => exact absurd ((h x).1 (List.mem_cons_self ..)) (by simp)
  |cons y l' =>
   have h1 := List.pairwise_cons.1 hr
   have h2 := List.pairwise_cons.1 hr'
   have hasym : ∀ a b, lt a b = true → lt b a = true → False := fun a b p q => by have := O.trans p q; rw [O.irr] at this; cases this
   have hxy : x = y := by
    rcases List.mem_cons.1 ((h x).1 (List.mem_cons_self ..)) with e | e
    ·exact e
    ·rcases List.mem_cons.1 ((h y).2 (List.mem_cons_self ..)) with e2 | e2
     ·exact e2.symm
     ·exact (hasym _ _ (h2.1 x e) (h1.1 y e2)).elim
   subst hxy
   refine congrArg _ (ih h1.2 h2.2 fun z => ?_)
   have hne : ∀ {m : List α}, (∀ w ∈ m, lt (key x) (key w) = true) → ∀ w ∈ m, w ≠ x := fun hm w hw e => by
    have := hm w hw
    rw [e, O.irr] at this; cases this
   constructor
   ·intro hz
    rcases List.mem_cons.1 ((h z).1 (List.mem_cons_of_mem _ hz)) with e | e
    ·exact absurd e (hne h1.1 z hz)
    ·exact e
   ·intro hz
    rcases List.mem_cons.1 ((h z).2 (List.mem_cons_of_mem _ hz)) with e | e
    ·exact absurd e (hne h2.1 z hz)
    ·exact e
end
end Go.J

namespace Go.Proofs.YtccfiohagbneaaaGreatDoor
open Go Go.J Go.RowKit
structure Ac where
 root : Int
 path : List UInt8
 kind : Int
 data : List UInt8
instance : Inhabited Ac := ⟨⟨0, [], 0, []⟩⟩
def encAc (a : Ac) : List Value := [.int .i64 a.root, str a.path, .int .i64 a.kind, str a.data]
def cAc : Cod Ac := .flat encAc 4 fun _ => rfl
theorem encAc_len (a : Ac) : (encAc a).length = 4 := rfl
abbrev keyA (a : Ac) : Int × List UInt8 := (a.root, a.path)
def ltA (x y : Int × List UInt8) : Bool := if x.1 = y.1 then Op.bytesLess x.2 y.2 else decide (x.1 < y.1)
theorem actO : StrictO ltA where
 irr a := by unfold ltA; rw [if_pos rfl]; exact less_irr _
 trans {a b c} h k := by
  unfold ltA at *
  by_cases h1 : a.1 = b.1
  ·rw [if_pos h1] at h
   by_cases h2 : b.1 = c.1
   ·rw [if_pos h2] at k
    rw [if_pos (h1.trans h2)]
    exact less_trans h k
   ·rw [if_neg h2] at k
    rw [if_neg (by rw [h1]; exact h2), h1]; exact k
  ·rw [if_neg h1] at h
   have h := of_decide_eq_true h
   by_cases h2 : b.1 = c.1
   ·rw [if_neg (by rw [← h2]; exact h1), ← h2]; exact decide_eq_true h
   ·rw [if_neg h2] at k
    have k := of_decide_eq_true k
    rw [if_neg Zo]; exact decide_eq_true Zo
 tri a b := by
  unfold ltA
  by_cases h : a.1 = b.1
  ·rw [if_pos h, if_pos h.symm]
   rcases less_tri a.2 b.2 with h1 | h1 | h1
   ·exact .inl h1
   ·exact .inr (.inl (Prod.ext h h1))
   ·exact .inr (.inr h1)
  ·rw [if_neg h, if_neg (fun e => h e.symm)]
   rcases Int.lt_or_gt_of_ne h with h1 | h1
   ·exact .inl (decide_eq_true h1)
   ·exact .inr (.inr (decide_eq_true h1))
def finalE (l : List Ac) : List Ac := l.foldl (putG keyA ltA) []
theorem final_rise (l : List Ac) : RiseG keyA ltA (finalE l) := by
 unfold finalE
 have : ∀ (l : List Ac) (r : List Ac), RiseG keyA ltA r → RiseG keyA ltA (l.foldl (putG keyA ltA) r) := by
  intro l
  induction l with
  |nil => exact fun r hr => hr
  |cons a l ih => exact fun r hr => ih _ (putG_rise actO hr)
 exact this l [] List.Pairwise.nil
theorem final_len (l : List Ac) : (finalE l).length ≤ l.length := by
 unfold finalE
 have : ∀ (l : List Ac) (r : List Ac), (l.foldl (putG keyA ltA) r).length ≤ r.length + l.length := by
  intro l
  induction l with
  |nil => exact fun r => Nat.le_refl _
  |cons a l ih =>
   intro r
   refine Nat.le_trans (ih _) ?_
   have : (putG keyA ltA r a).length ≤ r.length + 1 := by
    unfold putG
    rw [List.length_append, List.length_cons]
    have h1 := List.length_filter_le (fun y => decide (keyA y ≠ keyA a)) (r.dropWhile fun y => ltA (keyA y) (keyA a))
    have h2 := congrArg List.length (List.takeWhile_append_dropWhile (p := fun y => ltA (keyA y) (keyA a)) (l := r))
    rw [List.length_append] at h2
    omega
   rw [List.length_cons]; omega
 simpa using this l []
def lastA (l : List Ac) (k : Int × List UInt8) : Option Ac := l.foldl (fun o a => if keyA a = k then some a else o) none
theorem final_find (l : List Ac) (k : Int × List UInt8) : findG keyA (finalE l) k = lastA l k := by
 unfold finalE lastA
 have : ∀ (l : List Ac) (r : List Ac), findG keyA (l.foldl (putG keyA ltA) r) k = l.foldl (fun o a => if keyA a = k then some a else o) (findG keyA r k) := by
  intro l
  induction l with
  |nil => exact fun r => rfl
  |cons a l ih =>
   intro r
   rw [List.foldl_cons, List.foldl_cons, ih, findG_put actO]
   by_cases h : keyA a = k
   ·rw [if_pos h, if_pos h.symm]
   ·rw [if_neg h, if_neg (fun e => h e.symm)]
 exact this l []
end Go.Proofs.YtccfiohagbneaaaGreatDoor

namespace Go.J
open Go Go.RowKit
section
variable {P : Program} {N : Fz} {f : Fr} {w w0 : World} {Q : Post} {ops l : List Oper} {o : Oper} {M : List Nat} {H H' : List Chunk} {Z : List Snap} {ρ : Operand → Value}
theorem WL.highAt {t e : TypeId} {size g off n cap j : Nat} {x y : Operand} {k : IntKind} (ho : o.op = .slice t x none (some y) none) (he : elemOf P t = some (e, size)) (hx : ev f x = .slice (some ⟨g, off, none⟩) n cap) (hy : ev f y = .int k (Int.ofNat j)) (hj : j ≤ cap)
  (hg : wants ops f o = true) {d : Nat} (hd : o.dst = some d) (hn : N.ok d = true) (h : WL P N ops l (up f d (.slice (some ⟨g, off, none⟩) j cap)) w Q) : WL P N ops (o :: l) f w Q :=
 .val hg hd hn (run_sliceHigh ho he hx hy hj) h
theorem low_add {g off cap j size : Nat} (hc : j < cap) : (if cap = j then some (⟨g, off, none⟩ : Addr) else (some (⟨g, off, none⟩ : Addr)).map (·.add (j * size))) = some ⟨g, off + j * size, none⟩ := by
 rw [if_neg Zo, Option.map_some, Addr.add_mid]
theorem WL.lowAt {t e : TypeId} {size g off n cap j m c : Nat} {x y : Operand} {k : IntKind} (ho : o.op = .slice t x (some y) none none) (he : elemOf P t = some (e, size)) (hx : ev f x = .slice (some ⟨g, off, none⟩) n cap) (hy : ev f y = .int k (Int.ofNat j)) (hj : j ≤ n) (hc : j < cap) (hm : n - j = m) (hcc : cap - j = c)
  (hg : wants ops f o = true) {d : Nat} (hd : o.dst = some d) (hn : N.ok d = true) (h : WL P N ops l (up f d (.slice (some ⟨g, off + j * size, none⟩) m c)) w Q) : WL P N ops (o :: l) f w Q := by
 subst hm hcc
 refine .val hg hd hn (run_sliceLow ho he hx hy hj) ?_
 rw [low_add hc]
 exact h
theorem WL.capB {x : Operand} {t : TypeId} {n cap : Nat} {A : Option Addr} {ee : TypeId} (ho : o.op = .call ⟨.builtin .cap, ⟨[x]⟩, ⟨[t]⟩⟩) (ht : P.underlying t = some (.slice ee)) (hx : ev f x = .slice A n cap)
  (hg : wants ops f o = true) {d : Nat} (hd : o.dst = some d) (hn : N.ok d = true) (h : WL P N ops l (up f d (.int .i64 (cap : Int))) w Q) : WL P N ops (o :: l) f w Q := by
 refine .val hg hd hn (v := .int .i64 (cap : Int)) (w' := w) ?_ h
 have hr : (Builtin.cap_ #[t] o.type #[.slice A n cap]).run P w = .ok (goInt cap) w := by
  simp [Builtin.cap_, run_underlying ht]
 unfold execOp
 simp only [ho, resolve, invoke, builtin, Sem.run_bind, Sem.run_pure, Result.andThen_ok, List.map_toArray, List.map_cons, List.map_nil, hx, hr]
 rfl
theorem RowAt.ext {e : TypeId} {size n cap j g off : Nat} {xs : List Value} (h : RowAt w e size (.slice (some ⟨g, off, none⟩) n cap) n xs) (hj : n ≤ j) (hc : j ≤ cap) : ∃ ys, ys.length = (j - n) * size ∧ RowAt w e size (.slice (some ⟨g, off, none⟩) j cap) j (xs ++ ys) := by
 obtain ⟨h1, h2⟩ := h
 rcases h2 with ⟨h2, h3⟩ | ⟨g', og, cap', cur, h2, hh, hnc, hcm, hcs, htake⟩
 ·simp at h2
 ·simp only [Value.slice.injEq, Option.some.injEq, Addr.mk.injEq, and_true] at h2
  obtain ⟨⟨rfl, rfl⟩, _, rfl⟩ := h2
  have e1 : j * size = n * size + (j - n) * size := by rw [← Nat.add_mul]; congr 1; omega
  have hle : j * size ≤ cap * size := Nat.mul_le_mul_right _ hc
  have e2 : ((cur.drop off).take (j * size)) = xs ++ (((cur.drop off).drop (n * size)).take ((j - n) * size)) := by
   rw [e1, List.take_add, htake]
  refine ⟨((cur.drop off).drop (n * size)).take ((j - n) * size), by simp only [List.length_take, List.length_drop]; omega, ?_, .inr ⟨g, off, cap, cur, rfl, hh, hc, hcm, hcs, e2⟩⟩
  rw [List.length_append, h1, List.length_take, List.length_drop, List.length_drop]
  omega
theorem St.ext {e : TypeId} {size n cap j g off : Nat} {xs : List Value} (hS : St w0 M w (.own (.slice (some ⟨g, off, none⟩) n cap) e size n xs :: H) Z) (hj : n ≤ j) (hc : j ≤ cap) :
  ∃ ys, ys.length = (j - n) * size ∧ St w0 M w (.own (.slice (some ⟨g, off, none⟩) j cap) e size j (xs ++ ys) :: H) Z := by
 obtain ⟨ys, h1, h2⟩ := RowAt.ext (hS.holds _ (List.mem_cons_self ..)) hj hc
 exact ⟨ys, h1, hS.recast (.here) (fun _ => h2) fun b hb => hb⟩
theorem run_copyOp {x y : Operand} {t e : TypeId} {size bytes a dl dc m c b so g off n cap : Nat} {xs cs : List Value} (ho : o.op = .call ⟨.builtin .copy, ⟨[x, y]⟩, ⟨[t, t]⟩⟩) (hi : appOf P t = some (e, size, bytes))
  (hx : ρ x = .slice (some ⟨g, off + a * size, none⟩) dl dc) (hy : ρ y = .slice (some ⟨b, so, none⟩) m c) (hown : RowAt w e size (.slice (some ⟨g, off, none⟩) n cap) n xs) (hfit : a + dl ≤ n) (hl : cs.length = Nat.min m dl * size) (hcs : ∀ j u, cs[j]? = some u → w.cell? ⟨b, so + j, none⟩ = some u) (h1 : one cs = true) :
  ∃ cur', (execOp ρ o).run P w = .ok (.value (goInt (Nat.min m dl))) (w.setRow g ⟨cur'⟩) ∧ RowAt (w.setRow g ⟨cur'⟩) e size (.slice (some ⟨g, off, none⟩) n cap) n (xs.take (a * size) ++ cs ++ xs.drop (a * size + cs.length)) := by
 obtain ⟨i, z, hu, hinfo, hz, rfl, rfl, hzs, h0, h0b⟩ := appOf_spec hi
 obtain ⟨hxl, h2⟩ := hown
 rcases h2 with ⟨h2, _⟩ | ⟨g', og, cap', cur, he, hh, hnc, hcm, hcap, htake⟩
 ·simp at h2
 ·simp only [Value.slice.injEq, Option.some.injEq, Addr.mk.injEq, and_true] at he
  obtain ⟨⟨rfl, rfl⟩, _, rfl⟩ := he
  have hmd : Nat.min m dl ≤ dl := Nat.min_le_right _ _
  have hfit2 : a * i.size + cs.length ≤ n * i.size := by
   rw [hl, ← Nat.add_mul]
   exact Nat.mul_le_mul_right _ Zo
  have hncs : n * i.size ≤ cap * i.size := Nat.mul_le_mul_right _ hnc
  have hf := run_firstCells_some (P := P) w i.size (Nat.min m dl) ⟨b, so, none⟩ m c cs hl (fun j u hj => by rw [Addr.add_mid]; exact hcs j u hj)
  have hst := run_storeCells_at P g (off + a * i.size) e cs 0 ⟨cur⟩ w hh (by simp; omega) (by simpa [one] using h1)
  simp only [Nat.add_zero] at hst
  refine ⟨cur.take (off + a * i.size) ++ cs ++ cur.drop (off + a * i.size + cs.length), ?_, ?_, .inr ⟨g, off, cap, _, rfl, heap_setRow hh, hnc, hcm, ?_, ?_⟩⟩
  ·unfold execOp
   have hcp : (Builtin.copy_ #[t, t] o.type #[.slice (some ⟨g, off + a * i.size, none⟩) dl dc, .slice (some ⟨b, so, none⟩) m c]).run P w = .ok (goInt (Nat.min m dl)) (w.setRow g ⟨cur.take (off + a * i.size) ++ cs ++ cur.drop (off + a * i.size + cs.length)⟩) := by
    simp [Builtin.copy_, run_underlying hu, Builtin.lenOf, sizeOf, typeInfo, hinfo, hf, hst]
   simp only [ho, resolve, invoke, builtin, Sem.run_bind, Sem.run_pure, Result.andThen_ok, List.map_toArray, List.map_cons, List.map_nil, hx, hy, hcp]
  ·simp only [List.length_append, List.length_take, List.length_drop, hxl]; omega
  ·simp only [List.length_append, List.length_take, List.length_drop]; omega
  ·have hml : n * i.size = a * i.size + cs.length + (n * i.size - (a * i.size + cs.length)) := Zo
   rw [← htake]
   rw [List.append_assoc, List.drop_append_of_le_length (by simp; omega), List.drop_take, show off + a * i.size - off = a * i.size by omega]
   rw [List.take_append, List.take_append, List.take_take, List.take_take, List.length_take, List.length_drop]
   rw [show min (n * i.size) (a * i.size) = a * i.size by omega, show min (a * i.size) (n * i.size) = a * i.size by omega, show min (a * i.size) (cur.length - off) = a * i.size by omega]
   rw [List.append_assoc]
   congr 1
   rw [List.take_of_length_le (l := cs) Zo]
   congr 1
   rw [List.drop_take, List.drop_drop]
   congr 1
   ·omega
   ·congr 1; omega
theorem WL.copyOwn {x y : Operand} {t e : TypeId} {size bytes a dl dc m c b so g off n cap : Nat} {xs cs : List Value} (hS : St w0 M w H Z) (ho : o.op = .call ⟨.builtin .copy, ⟨[x, y]⟩, ⟨[t, t]⟩⟩) (hi : appOf P t = some (e, size, bytes))
  (hx : ev f x = .slice (some ⟨g, off + a * size, none⟩) dl dc) (hy : ev f y = .slice (some ⟨b, so, none⟩) m c) (hfit : a + dl ≤ n) (hcs : RdOk H Z b so cs) (hl : cs.length = Nat.min m dl * size) (h1 : one cs = true)
  (hr : Repl (.own (.slice (some ⟨g, off, none⟩) n cap) e size n xs) (.own (.slice (some ⟨g, off, none⟩) n cap) e size n (xs.take (a * size) ++ cs ++ xs.drop (a * size + cs.length))) H H')
  (hg : wants ops f o = true) {d : Nat} (hd : o.dst = some d) (hn : N.ok d = true) (h : ∀ w', St w0 M w' H' Z → WL P N ops l (up f d (goInt (Nat.min m dl))) w' Q) : WL P N ops (o :: l) f w Q := by
 obtain ⟨cur', hrun, hown'⟩ := run_copyOp (P := P) (w := w) ho hi hx hy (hS.holds _ hr.mem) hfit hl (hcs.out w0 M w [] [] hS) h1
 exact .val hg hd hn hrun (h _ (hS.step hr ((Upd.setRow _ _ _).mono (by simp [Chunk.fp, Value.ownBlock])) hown' fun b hb => .inl (by simpa [Chunk.fp, Value.ownBlock] using hb)))
theorem WL.appZ {x y : Operand} {t tn e : TypeId} {size bytes n cap k b off m : Nat} {news : List Value} (hS : St w0 M w H Z) (ho : o.op = .call ⟨.builtin .append, ⟨[x, y]⟩, ⟨[t, tn]⟩⟩) (hi : appOf P t = some (e, size, bytes)) (htn : P.underlying tn = some (.int .i64))
  (hx : ev f x = .slice (some ⟨b, off, none⟩) n cap) (hy : ev f y = .int .i64 (Int.ofNat k)) (hnews : RdOk H Z b off news) (hl : news.length = n * size) (hk : 0 < k) (hnk : n + k = m) (hg2 : cap < n + k) (hb : (n + k) * bytes ≤ 140737488355328)
  (hg : wants ops f o = true) {d : Nat} (hd : o.dst = some d) (hn : N.ok d = true)
  (h : ∀ g cap' zs w', zs.length = k * size → St w0 M w' (.own (.slice (some ⟨g, 0, none⟩) m cap') e size m (news ++ zs) :: H) Z → WL P N ops l (up f d (.slice (some ⟨g, 0, none⟩) m cap')) w' Q) : WL P N ops (o :: l) f w Q := by
 subst hnk
 obtain ⟨i, z, hu, hinfo, hz, rfl, rfl, hzs, h0, h0b⟩ := appOf_spec hi
 have hle : n + k ≤ (n + k) * i.bytes := Nat.le_mul_of_pos_right _ h0b
 have hke : k * i.bytes ≤ (n + k) * i.bytes := Nat.mul_le_mul_right _ Zo
 have hmx : n + k ≤ maxLen := by unfold maxLen; omega
 have hf : (Builtin.firstCells i.size n (.slice (some ⟨b, off, none⟩) n cap)).run P w.drew = .ok news.toArray w.drew :=
  run_firstCells_some (P := P) w.drew i.size n ⟨b, off, none⟩ n cap news hl fun j u hj => by
   rw [Addr.add_mid]; exact hnews.out w0 M w [] [] hS j u hj
 have hap := Lib.run_append_grow_zeros (P := P) w t tn o.type e i z .i64 .i64 hu htn hinfo hz (some ⟨b, off, none⟩) n cap news hf k hk h0 hg2 Zo Zo (growslice_fits Zo hb)
 have hrun : (execOp (ev f) o).run P w = .ok (.value (.slice (some ⟨w.heap.size, 0, none⟩) (n + k) (grownCap w (n + k) cap e))) (w.drew.alloc (.cells (news.toArray ++ Builtin.zeroCells z.cells k ++ Builtin.zeroCells z.cells (grownCap w (n + k) cap e - (n + k))) e)) := by
  unfold execOp
  have hy' : ev f y = .int .i64 (k : Int) := hy
  simp only [ho, resolve, invoke, builtin, Sem.run_bind, Sem.run_pure, Result.andThen_ok, List.map_toArray, List.map_cons, List.map_nil, hx, hy', hap]
 have hge := grownCap_ge w (n + k) cap e
 have hcm : grownCap w (n + k) cap e ≤ maxLen := grownCap_le_maxLen w (n + k) cap e hmx
 refine .val hg hd hn hrun (h w.heap.size (grownCap w (n + k) cap e) (Builtin.zeroCells z.cells k).toList _ (by simp [size_zeroCells, hzs]) ?_)
 refine hS.push ((Upd.drew _ w).trans (.alloc _ _ _)) ⟨?_, .inr ⟨w.heap.size, 0, _, (news.toArray ++ Builtin.zeroCells z.cells k ++ Builtin.zeroCells z.cells (grownCap w (n + k) cap e - (n + k))).toList, rfl, heap_alloc_new w.drew _, hge, hcm, ?_, ?_⟩⟩ fun b hb => ?_
 ·simp [size_zeroCells, hzs, hl, Nat.add_mul]
 ·simp only [Array.length_toList, Array.size_append, List.size_toArray, size_zeroCells, hzs, hl, ← Nat.add_mul, Nat.zero_add]
  exact Nat.mul_le_mul_right _ Zo
 ·simp only [Array.toList_append, List.append_assoc, List.drop_zero]
  rw [← List.append_assoc]
  have : (news ++ (Builtin.zeroCells z.cells k).toList).length = (n + k) * i.size := by simp [size_zeroCells, hzs, hl, Nat.add_mul]
  rw [← this]
  exact List.take_left
 ·have : b = w.heap.size := by simpa [Chunk.fp, Value.ownBlock] using hb
  subst this
  simp
theorem WL.overl {x y : Operand} {ts : Array TypeId} {fid : FuncId} {fn : Func} {tS tR e : TypeId} {size a ao la ca b bo n cap yo lb cb : Nat} {xs ys : List Value} (hS : St w0 M w H Z)
  (hp : Pulls [.own (.slice (some ⟨a, ao, none⟩) la ca) e size la xs, .own (.slice (some ⟨b, bo, none⟩) n cap) e size n ys] H H') (ho : o.op = .call ⟨.value (.func fid), ⟨[x, y]⟩, ts⟩)
  (hf : P.funcs[fid]? = some fn) (hname : (fn.name == "runtime.NumGoroutine") = false) (hb : fn.body.isNone = true) (hnx : Extern.findNext fn = none) (he : Extern.find fn = some (Extern.SlicesOverlaps.overlaps #[tS, tS] #[tR])) (ht : P.underlying tS = some (.slice e)) (hz : tySize P e = some size) (h0 : 0 < n * size)
  (hx : ev f x = .slice (some ⟨a, ao, none⟩) la ca) (hy : ev f y = .slice (some ⟨b, yo, none⟩) lb cb)
  (hg : wants ops f o = true) {d : Nat} (hd : o.dst = some d) (hn : N.ok d = true) (h : WL P N ops l (up f d (.bool false)) w Q) : WL P N ops (o :: l) f w Q := by
 have hS' := hS.pulls hp
 have hne : a ≠ b := by
  have := (List.pairwise_cons.1 hS'.disj).1 _ (List.mem_cons_self ..)
  intro e
  subst e
  exact this a (by simp [Chunk.fp, Value.ownBlock]) (by simp [Chunk.fp, Value.ownBlock])
 have blk : ∀ (a ao la ca : Nat) (xs : List Value), RowAt w e size (.slice (some ⟨a, ao, none⟩) la ca) la xs → ∃ cur, w.heap[a]? = some (.cells ⟨cur⟩ e (0, 0)) ∧ ao + ca * size ≤ cur.length ∧ la ≤ ca := by
  intro a ao la ca xs hr
  rcases hr.2 with ⟨h, _⟩ | ⟨g, og, cap', cur, he, hh, hnc, hcm, hcap, htake⟩
  ·simp at h
  ·simp only [Value.slice.injEq, Option.some.injEq, Addr.mk.injEq, and_true] at he
   obtain ⟨⟨rfl, rfl⟩, _, rfl⟩ := he
   exact ⟨cur, hh, hcap, hnc⟩
 obtain ⟨curA, hA, _, _⟩ := blk _ _ _ _ _ (hS'.holds _ (List.mem_cons_self ..))
 obtain ⟨curB, hB, hBl, hBn⟩ := blk _ _ _ _ _ (hS'.holds _ (List.mem_cons_of_mem _ (List.mem_cons_self ..)))
 have hmul : n * size ≤ cap * size := Nat.mul_le_mul_right _ hBn
 have hsa : w.shape? a = some (e, curA.length) := by simp [World.shape?, hA]
 have hsb : w.shape? b = some (e, curB.length) := by simp [World.shape?, hB]
 have hrun : (execOp (ev f) o).run P w = .ok (.value (.bool false)) w := by
  have e1 : execOp (ev f) o = callFunc fid (#[] ++ (Array.mk [x, y]).map (ev f) ++ #[]) := by
   obtain ⟨dst, op, type, pos, after, guard⟩ := o
   simp only at ho
   subst ho
   rfl
  rw [e1, run_callFunc_extern hf hname hb hnx he]
  have e2 : (#[] ++ (Array.mk [x, y]).map (ev f) ++ #[] : Array Value) = #[.slice (some ⟨a, ao, none⟩) la ca, .slice (some ⟨b, yo, none⟩) lb cb] := by simp [hx, hy]
  rw [e2, Lib.run_overlaps_apart w tS tR e ht size (run_sizeOf hz) ⟨a, ao, none⟩ ⟨b, yo, none⟩ la ca lb cb hne e e curA.length curB.length hsa hsb Zo (by simp [World.frozen?, hA]) (by simp [World.frozen?, hA])]
  rfl
 exact .val hg hd hn hrun h
end
section
variable {P : Program} {N : Fz} {f : Fr} {w w0 : World} {Q : Post} {ops : List Oper} {M : List Nat} {H H0 : List Chunk} {Z Z0 : List Snap} {l : List Nat} {i : Nat} {q : Qs}
theorem WD.lowAt {S : World → Prop} {t e : TypeId} {size g off n cap j m c : Nat} {x y : Operand} {k : IntKind} (ho : (ix ops i).op = .slice t x (some y) none none) (he : elemOf P t = some (e, size)) (hx : ev f x = .slice (some ⟨g, off, none⟩) n cap) (hy : ev f y = .int k (Int.ofNat j)) (hj : j ≤ n) (hc : j < cap) (hm : n - j = m) (hcc : cap - j = c)
  (hq : q.contains i = true) (hg : wants ops f (ix ops i) = true) {d : Nat} (hd : (ix ops i).dst = some d) (hn : N.ok d = true) (h : WD P N S ops q l (up f d (.slice (some ⟨g, off + j * size, none⟩) m c)) w Q) : WD P N S ops q (i :: l) f w Q := by
 subst hm hcc
 refine .take hq hd hn (.inl ⟨hg, fun _ _ => run_sliceLow ho he hx hy hj⟩) ?_
 rw [low_add hc]
 exact h
theorem WD.callF {x : Operand} {xs : List Operand} {ts : Array TypeId} {fid : FuncId} {first cap args : List Value} {R : Value → World → Prop} (hS : St w0 M w H Z) (hM : More H0 Z0 H Z) (ho : (ix ops i).op = .call ⟨.value x, ⟨xs⟩, ts⟩) (hx : ev f x = .func (.func fid) ⟨first⟩ ⟨cap⟩) (ha : first ++ xs.map (ev f) ++ cap = args)
  (hc : Cal P fid args w fun v w' => Upd [] w w' ∧ R v w') (hq : q.contains i = false) (hi : Nat.blt i ops.length = true) (hg : wants ops f (ix ops i) = true) {d : Nat} (hd : (ix ops i).dst = some d) (hn : N.ok d = true)
  (h : ∀ v w', R v w' → St w0 M w' H Z → WD P N (SS w0 M H0 Z0) ops q l (up f d v) w' Q) : WD P N (SS w0 M H0 Z0) ops q (i :: l) f w Q :=
 .enter hq hi hg hd hn (run_callF ho hx ha hc.ok) hc.calls fun v w' ⟨hu, hR⟩ => ⟨hM.ss (hS.upd0 hu), h v w' hR (hS.upd0 hu)⟩
theorem WD.copyOwn {x y : Operand} {t e : TypeId} {size bytes a dl dc m c b so g off n cap : Nat} {xs cs : List Value} {H' : List Chunk} (hS : St w0 M w H Z) (hp : Pull (.own (.slice (some ⟨g, off, none⟩) n cap) e size n xs) H H') (hM : More H0 Z0 H' Z) (ho : (ix ops i).op = .call ⟨.builtin .copy, ⟨[x, y]⟩, ⟨[t, t]⟩⟩) (hi0 : appOf P t = some (e, size, bytes))
  (hx : ev f x = .slice (some ⟨g, off + a * size, none⟩) dl dc) (hy : ev f y = .slice (some ⟨b, so, none⟩) m c) (hfit : a + dl ≤ n) (hcs : RdOk H Z b so cs) (hl : cs.length = Nat.min m dl * size) (h1 : one cs = true)
  (hq : q.contains i = false) (hi : Nat.blt i ops.length = true) (hg : wants ops f (ix ops i) = true) {d : Nat} (hd : (ix ops i).dst = some d) (hn : N.ok d = true)
  (h : ∀ w', St w0 M w' (.own (.slice (some ⟨g, off, none⟩) n cap) e size n (xs.take (a * size) ++ cs ++ xs.drop (a * size + cs.length)) :: H') Z → More H0 Z0 (.own (.slice (some ⟨g, off, none⟩) n cap) e size n (xs.take (a * size) ++ cs ++ xs.drop (a * size + cs.length)) :: H') Z →
   WD P N (SS w0 M H0 Z0) ops q l (up f d (goInt (Nat.min m dl))) w' Q) : WD P N (SS w0 M H0 Z0) ops q (i :: l) f w Q := by
 have hS' := hS.pull hp
 obtain ⟨cur', hrun, hown'⟩ := run_copyOp (P := P) (w := w) ho hi0 hx hy (hS'.holds _ Zh) hfit hl (hcs.out w0 M w [] [] hS) h1
 have hS2 : St w0 M (w.setRow g ⟨cur'⟩) (.own (.slice (some ⟨g, off, none⟩) n cap) e size n (xs.take (a * size) ++ cs ++ xs.drop (a * size + cs.length)) :: H') Z := hS'.step (.here) ((Upd.setRow _ _ _).mono (by simp [Chunk.fp, Value.ownBlock])) hown' fun b hb => .inl (by simpa [Chunk.fp, Value.ownBlock] using hb)
 exact .val hq hi hg hd hn hrun ((hM.chunk _).ss hS2) (h _ hS2 (hM.chunk _))
end
theorem flat_take {α : Type} {enc : α → List Value} {sz : Nat} (hsz : ∀ x, (enc x).length = sz) : ∀ (l : List α) (k : Nat), (l.flatMap enc).take (k * sz) = (l.take k).flatMap enc
 |[], k => by simp
 |a :: l, 0 => by simp
 |a :: l, k + 1 => by
  rw [List.flatMap_cons, List.take_succ_cons, List.flatMap_cons, ← flat_take hsz l k, show (k + 1) * sz = sz + k * sz by rw [Nat.add_mul]; omega, List.take_append, hsz]
  rw [List.take_of_length_le (by rw [hsz]; omega), show sz + k * sz - sz = k * sz by omega]
theorem flat_drop {α : Type} {enc : α → List Value} {sz : Nat} (hsz : ∀ x, (enc x).length = sz) : ∀ (l : List α) (k : Nat), (l.flatMap enc).drop (k * sz) = (l.drop k).flatMap enc
 |[], k => by simp
 |a :: l, 0 => by simp
 |a :: l, k + 1 => by
  rw [List.flatMap_cons, List.drop_succ_cons, ← flat_drop hsz l k, show (k + 1) * sz = sz + k * sz by rw [Nat.add_mul]; omega, List.drop_append, hsz]
  rw [List.drop_of_length_le (by rw [hsz]; omega), show sz + k * sz - sz = k * sz by omega, List.nil_append]
open Go Go.RowKit
section
variable {P : Program} {N : Fz} {f : Fr} {w w0 : World} {Q : Post} {ops l : List Oper} {o : Oper} {M : List Nat} {H H' : List Chunk} {Z : List Snap} {ρ : Operand → Value}
end
section
variable {P : Program} {N : Fz} {f : Fr} {w w0 : World} {Q : Post} {ops : List Oper} {M : List Nat} {H0 H H' : List Chunk} {Z0 Z : List Snap} {q : Qs} {l : List Nat} {i : Nat}
end
theorem St.freeze {w0 w : World} {M : List Nat} {H : List Chunk} {Z : List Snap} (hS : St w0 M w H Z) : St w0 M w [] (⟨w, fun b => b < w.heap.size⟩ :: Z) :=
 ⟨hS.upd, fun c hc => (by cases hc), fun c hc => (by cases hc), .nil, fun z hz b hb => by
  rcases List.mem_cons.1 hz with rfl | hz
  ·exact ⟨hb, rfl, fun c hc => (by cases hc)⟩
  ·obtain ⟨h1, h2, _⟩ := hS.snap z hz b hb
   exact ⟨h1, h2, fun c hc => (by cases hc)⟩⟩
theorem flat_set {α : Type} {enc : α → List Value} {sz : Nat} (hsz : ∀ x, (enc x).length = sz) (x : α) : ∀ {l : List α} {k : Nat}, k < l.length → (l.flatMap enc).take (k * sz) ++ enc x ++ (l.flatMap enc).drop (k * sz + (enc x).length) = (l.set k x).flatMap enc
 |[], _, h => absurd h (Nat.not_lt_zero _)
 |a :: l, 0, _ => by
  simp only [List.flatMap_cons, List.set_cons_zero, Nat.zero_mul, List.take_zero, List.nil_append, Nat.zero_add, hsz]
  rw [List.drop_append_of_le_length (by rw [hsz]; exact Nat.le_refl _), List.drop_of_length_le (by rw [hsz]; exact Nat.le_refl _), List.nil_append]
 |a :: l, k + 1, h => by
  have ih := flat_set hsz x (l := l) (k := k) (by simpa using h)
  rw [List.flatMap_cons, List.set_cons_succ, List.flatMap_cons, ← ih, show (k + 1) * sz = (enc a).length + k * sz by rw [hsz, Nat.add_mul]; omega]
  rw [List.take_append, List.take_of_length_le (show (enc a).length ≤ (enc a).length + k * sz by omega), Nat.add_sub_cancel_left, Nat.add_assoc, ← List.drop_drop, List.drop_left]
  simp only [List.append_assoc]
structure Rw where
 A : Option Addr
 n : Nat
 cap : Nat
def Rw.val (r : Rw) : Value := .slice r.A r.n r.cap
def encRw (r : Rw) : List Value := [r.val]
def ownRw {α : Type} (enc : α → List Value) (e : TypeId) (sz : Nat) (r : Rw) (l : List α) : Chunk := .own (.slice r.A r.n r.cap) e sz r.n (l.flatMap enc)
def grw {α : Type} (mk nw : Nat → α) (j n k : Nat) : List α := List.replicate n (mk j) ++ List.replicate k (nw j)
def GrowP {α : Type} (enc : α → List Value) (e : TypeId) (sz : Nat) (mk nw : Nat → α) (j : Nat) (r : Rw) (k : Nat) (A : Option Addr) (cap : Nat) (D : List Chunk) : Prop :=
 (A = r.A ∧ cap = r.cap ∧ D = [.own (.slice r.A (r.n + k) r.cap) e sz (r.n + k) ((grw mk nw j r.n k).flatMap enc)]) ∨
 (∃ i, D = [.own (.slice A (r.n + k) cap) e sz (r.n + k) ((grw mk nw j r.n k).flatMap enc), .own (.slice r.A (r.n + i) r.cap) e sz (r.n + i) ((grw mk nw j r.n i).flatMap enc)])
section
variable {α : Type} {enc : α → List Value} {e : TypeId} {sz : Nat} {mk nw : Nat → α} {rs ls : List Rw} {cs : List Chunk} {i j : Nat}
structure MarkIs (enc : α → List Value) (e : TypeId) (sz : Nat) (mk : Nat → α) (rs : List Rw) (cs : List Chunk) (i : Nat) : Prop where
 len : cs.length = rs.length
 at_ : ∀ j (h : j < rs.length), ∃ l : List α, l.length = rs[j].n ∧ cs[j]? = some (ownRw enc e sz rs[j] l) ∧ (j < i → l = List.replicate rs[j].n (mk j))
structure GrowIs (enc : α → List Value) (e : TypeId) (sz : Nat) (mk nw : Nat → α) (rs ls : List Rw) (cs : List Chunk) (i : Nat) : Prop where
 len : cs.length = rs.length
 llen : ls.length = i
 at_ : ∀ j (h : j < rs.length), i ≤ j → cs[j]? = some (ownRw enc e sz rs[j] (List.replicate rs[j].n (mk j)))
 got : ∀ j (h : j < rs.length), j < i → ∃ l fp, ls[j]? = some l ∧ l.n = rs[j].n + 20 ∧ cs[j]? = some (objC (GrowP enc e sz mk nw j rs[j] 20 l.A l.cap) fp)
theorem MarkIs.next (h : MarkIs enc e sz mk rs cs i) (hi : i < rs.length) : MarkIs enc e sz mk rs (cs.set i (ownRw enc e sz rs[i] (List.replicate rs[i].n (mk i)))) (i + 1) := by
 refine ⟨by rw [List.length_set]; exact h.len, fun j hj => ?_⟩
 obtain ⟨l, h0, h1, h2⟩ := h.at_ j hj
 by_cases e : i = j
 ·subst e
  exact ⟨_, List.length_replicate, by rw [List.getElem?_set_self (by rw [h.len]; exact hi)], fun _ => rfl⟩
 ·exact ⟨l, h0, by rw [List.getElem?_set_ne e]; exact h1, fun hlt => h2 Zo⟩
theorem MarkIs.grow (h : MarkIs enc e sz mk rs cs i) (hi : i = rs.length) : GrowIs enc e sz mk nw rs [] cs 0 := by
 subst hi
 refine ⟨h.len, rfl, fun j hj _ => ?_, fun j _ hj => absurd hj (Nat.not_lt_zero _)⟩
 obtain ⟨l, _, h1, h2⟩ := h.at_ j hj
 rw [h1, h2 hj]
theorem GrowIs.next (h : GrowIs enc e sz mk nw rs ls cs i) (hi : i < rs.length) {A : Option Addr} {cap : Nat} {fp : List Nat} : GrowIs enc e sz mk nw rs (ls ++ [⟨A, rs[i].n + 20, cap⟩]) (cs.set i (objC (GrowP enc e sz mk nw i rs[i] 20 A cap) fp)) (i + 1) := by
 refine ⟨by rw [List.length_set]; exact h.len, by rw [List.length_append, h.llen]; rfl, fun j hj hij => ?_, fun j hj hij => ?_⟩
 ·rw [List.getElem?_set_ne Zo]; exact h.at_ j hj Zo
 ·by_cases e : i = j
  ·subst e
   refine ⟨⟨A, rs[i].n + 20, cap⟩, fp, ?_, rfl, by rw [List.getElem?_set_self (by rw [h.len]; exact hi)]⟩
   rw [List.getElem?_append_right (by rw [h.llen]; exact Nat.le_refl _), h.llen, Nat.sub_self]; rfl
  ·obtain ⟨l, fp', h1, h2, h3⟩ := h.got j hj Zo
   exact ⟨l, fp', by rw [List.getElem?_append_left (by rw [h.llen]; omega)]; exact h1, h2, by rw [List.getElem?_set_ne e]; exact h3⟩
theorem ownAll {hsz : ∀ x, (enc x).length = sz} (h0 : 0 < sz) {w : World} {A : Option Addr} {n cap n' : Nat} {l : List α} (h : RowAt w e sz (.slice A n cap) n' (l.flatMap enc)) (hin : ∀ b ∈ (Value.slice A n cap).ownBlock.toList, b < w.heap.size) : SlAt (Cod.flat enc sz hsz) (fun b => b < w.heap.size) w A l :=
 SlAt.ofOwn h0 h fun g hg => hin g (by rw [hg]; simp)
theorem GrowIs.reads (h : GrowIs enc e sz mk nw rs ls cs i) (hi : i = rs.length) {hsz : ∀ x, (enc x).length = sz} (h0 : 0 < sz) {w w0 : World} {M : List Nat} {H : List Chunk} {Z : List Snap} (hS : St w0 M w H Z) (hc : ∀ c ∈ cs, c ∈ H) (j : Nat) (hj : j < rs.length) :
  ∃ l, ls[j]? = some l ∧ l.n = rs[j].n + 20 ∧ SlAt (Cod.flat enc sz hsz) (fun b => b < w.heap.size) w rs[j].A (List.replicate rs[j].n (mk j)) ∧ SlAt (Cod.flat enc sz hsz) (fun b => b < w.heap.size) w l.A (grw mk nw j rs[j].n 20) := by
 subst hi
 obtain ⟨l, fp, h1, h2, h3⟩ := h.got j hj hj
 have hm := hc _ (List.mem_of_getElem? h3)
 obtain ⟨D, hD, hfp, _, hh⟩ := (hS.holds _ hm).1
 have hb : ∀ d ∈ D, ∀ b ∈ d.fp, b < w.heap.size := fun d hd b hb => (hS.inb _ hm b (by show b ∈ fp; rw [hfp]; exact List.mem_flatMap.2 ⟨d, hd, hb⟩)).1
 refine ⟨l, h1, h2, ?_⟩
 rcases hD with ⟨e1, e2, rfl⟩ | ⟨k, rfl⟩
 ·have hd := hh _ Zh
  have hf := ownAll (hsz := hsz) h0 (show RowAt w e sz _ _ _ from hd) (hb _ Zh)
  rw [e1]
  exact ⟨SlAt.pre hf, hf⟩
 ·have hd := hh _ Zh
  have hf := ownAll (hsz := hsz) h0 (show RowAt w e sz _ _ _ from hd) (hb _ Zh)
  have hd2 := hh _ (List.Mem.tail _ Zh)
  have hf2 := ownAll (hsz := hsz) h0 (show RowAt w e sz _ _ _ from hd2) (hb _ (List.Mem.tail _ Zh))
  exact ⟨SlAt.pre hf2, hf⟩
end
open Go Go.RowKit
def RetP (R : Value → World → Prop) (S : List PanicEntry → World → Prop) : Ending → World → Prop := fun e w => Ret R e w ∨ ∃ c, e = .panicked c ∧ S c w
structure CalP (P : Program) (fid : FuncId) (args : List Value) (w : World) (R : Value → World → Prop) (S : List PanicEntry → World → Prop) : Prop where
 ok : callOk P fid = true
 calls : Calls P fid ⟨args⟩ w (RetP R S)
theorem CalP.mono {P : Program} {fid : FuncId} {args : List Value} {w : World} {R R' : Value → World → Prop} {S S' : List PanicEntry → World → Prop} (h : CalP P fid args w R S) (hr : ∀ v w', R v w' → R' v w') (hs : ∀ c w', S c w' → S' c w') : CalP P fid args w R' S' :=
 ⟨h.ok, h.calls.mono fun e w' he => by
  rcases he with ⟨v, rfl, hv⟩ | ⟨c, rfl, hc⟩
  ·exact .inl ⟨v, rfl, hr _ _ hv⟩
  ·exact .inr ⟨c, rfl, hs _ _ hc⟩⟩
theorem CalP.mkL {P : Program} {fid : FuncId} {fn : Func} {c : Code} {args : List Value} {w : World} {R : Value → World → Prop} {S : List PanicEntry → World → Prop} {D : List Chunk} (hi : InL w D) (hk : callOk P fid = true)
  (hf : P.funcs[fid]? = some fn) (hb : fn.body = some c) (hn : Nat.ble args.length fn.ntmps = true)
  (h : St w (fps D) w D [⟨w, fun b => b < w.heap.size ∧ b ∉ fps D⟩] → WC P fn.ntmps c (fr0 args) w (funQ P fn.results fn (RetP R S))) : CalP P fid args w R S :=
 ⟨hk, J.calls hf hb hn (h (St.initL hi))⟩
section
variable {P : Program} {rs : Array ResultVar} {fn : Func} {R : Value → World → Prop} {S : List PanicEntry → World → Prop} {e : Exit} {f : Fr} {w : World} {c : List PanicEntry}
theorem finR (h : funQ P rs fn (Ret R) e f w) : funQ P rs fn (RetP R S) e f w := by
 unfold funQ at *
 cases e with
 |normal => obtain ⟨v, hv, h2⟩ := h; exact ⟨v, .inl hv, h2⟩
 |ret => obtain ⟨v, hv, h2⟩ := h; exact ⟨v, .inl hv, h2⟩
 |panic c => exact .inl h
 |exit i => exact h
 |goto l => exact h
 |outgrown => exact h
theorem finP (h : S c w) : funQ P rs fn (RetP R S) (.panic c) f w := by
 unfold funQ
 exact .inr ⟨c, rfl, h⟩
end
section
variable {P : Program} {N : Fz} {f : Fr} {w w0 : World} {Q : Post} {ops l : List Oper} {o : Oper} {M : List Nat} {H H' D : List Chunk} {Z : List Snap} {ρ : Operand → Value}
theorem WL.enterP (hg : wants ops f o = true) {d : Nat} (hd : o.dst = some d) (hn : N.ok d = true) {fid : FuncId} {args : Array Value} {w' : World} (hr : (execOp (ev f) o).run P w = .ok (.enter fid args) w')
  {R : Value → World → Prop} {S : List PanicEntry → World → Prop} (hc : Calls P fid args w' (RetP R S))
  (h : ∀ v w'', R v w'' → WL P N ops l (up f d v) w'' Q) (hx : ∀ c w'', S c w'' → Q (.panic c) (fun _ => undef) w'') : WL P N ops (o :: l) f w Q := by
 refine ⟨fun a ha => wpList_step fun K hK => ?_⟩
 rw [if_pos ((wanted_eq ha o).trans hg)]
 simp only [Oper.wp, ha.eval, hr, Oper.upon]
 refine hc.mono fun e w'' he => ?_
 rcases he with ⟨v, rfl, hR⟩ | ⟨c, rfl, hS⟩
 ·exact hK _ _ ((h v w'' hR).out _ (ha.put1 hd hn v))
 ·exact ⟨ha.defers, ha.pins, hx c w'' hS⟩
theorem WL.callPL {fid : FuncId} {xs : List Operand} {ts : Array TypeId} {args : List Value} {R : Value → World → Prop} {S : List PanicEntry → World → Prop} (hS : St w0 M w H Z) (hp : Pulls D H H') (ho : o.op = .call ⟨.value (.func fid), ⟨xs⟩, ts⟩) (ha : xs.map (ev f) = args) (hc : InL w D → CalP P fid args w R S)
  (hg : wants ops f o = true) {d : Nat} (hd : o.dst = some d) (hn : N.ok d = true) (h : ∀ v w', R v w' → (∀ D', MutL w w' D D' → St w0 M w' (D' ++ H') Z) → WL P N ops l (up f d v) w' Q)
  (hx : ∀ c w', S c w' → (∀ D', MutL w w' D D' → St w0 M w' (D' ++ H') Z) → Q (.panic c) (fun _ => undef) w') : WL P N ops (o :: l) f w Q :=
 have hS' := hS.pulls hp
 have hcc := hc hS'.inL
 .enterP hg hd hn (run_callOp ho ha hcc.ok) hcc.calls (fun v w' hR => h v w' hR fun D' hm => hS'.mutL hm) (fun c w' hs => hx c w' hs fun D' hm => hS'.mutL hm)
theorem WL.panic {x : Operand} {t : TypeId} {v : Value} (ho : o.op = .panic x) (hx : ev f x = .iface t v) (hg : wants ops f o = true)
  (h : Q (.panic [{ v := .iface t v, recovered := false }]) (fun _ => undef) w) : WL P N ops (o :: l) f w Q := by
 refine ⟨fun a ha => wpList_step fun K hK => ?_⟩
 rw [if_pos ((wanted_eq ha o).trans hg)]
 have hr : (execOp (ev f) o).run P w = .halt (.panic (.iface t v)) w := by
  simp only [execOp, ho, hx, Instr.panic, goPanic, Sem.run_bind]
  rfl
 simp only [Oper.wp, ha.eval, hr, Oper.upon]
 exact ⟨ha.defers, ha.pins, h⟩
def notIface (P : Program) (t : TypeId) : Bool := match P.underlying t with
 |some (.interface _) => false
 |some _ => true
 |none => false
theorem run_iface {t : TypeId} {x : Operand} (ho : o.op = .makeInterface t x) (ht : notIface P t = true) : (execOp ρ o).run P w = .ok (.value (.iface t (ρ x))) w := by
 unfold notIface at ht
 cases hu : P.underlying t with
 |none => rw [hu] at ht; cases ht
 |some d =>
  cases d <;> first
   |(rw [hu] at ht; exact absurd ht Bool.false_ne_true)
   |simp [execOp, ho, Instr.makeInterface, Sem.run_bind, run_under hu]
theorem WL.iface {t : TypeId} {x : Operand} {v : Value} (ho : o.op = .makeInterface t x) (ht : notIface P t = true) (hx : nfv (ev f x) = some v) (hg : wants ops f o = true) {d : Nat} (hd : o.dst = some d) (hn : N.ok d = true)
  (h : WL P N ops l (up f d (.iface t v)) w Q) : WL P N ops (o :: l) f w Q := by
 have e := nfv_eq hx
 subst e
 exact .val hg hd hn (run_iface ho ht) h
theorem run_assertOk {x : Operand} {xt t : TypeId} {v : Value} (ho : o.op = .typeAssert x xt t true) (ht : notIface P t = true) (hx : ρ x = .iface t v) : (execOp ρ o).run P w = .ok (.value (.tuple #[v, .bool true])) w := by
 unfold notIface at ht
 cases hu : P.underlying t with
 |none => rw [hu] at ht; cases ht
 |some d =>
  cases d <;> first
   |(rw [hu] at ht; exact absurd ht Bool.false_ne_true)
   |simp [execOp, ho, hx, Instr.typeAssert, Sem.run_bind, run_under hu]
theorem WL.assertOk {x : Operand} {xt t : TypeId} {v : Value} (ho : o.op = .typeAssert x xt t true) (ht : notIface P t = true) (hx : ev f x = .iface t v) (hg : wants ops f o = true) {d : Nat} (hd : o.dst = some d) (hn : N.ok d = true)
  (h : WL P N ops l (up f d (.tuple #[v, .bool true])) w Q) : WL P N ops (o :: l) f w Q := .val hg hd hn (run_assertOk ho ht hx) h
end
open Go Go.RowKit
theorem upon_swap {P : Program} {o : Oper} {a : Act} {K1 K2 : Act → World → Prop} {Q1 Q2 : Exit → Act → World → Prop} (hk : ∀ a w, K1 a w → K2 a w) (hp : ∀ c a w, Q1 (.panic c) a w → Q2 (.panic c) a w) (hl : LetsOut Q1 → LetsOut Q2) {r : Result Next}
  (h : o.upon P a K1 Q1 r) : o.upon P a K2 Q2 r := by
 unfold Oper.upon at *
 split at h
 ·exact hk _ _ h
 ·exact hk _ _ h
 ·exact hk _ _ h
 ·refine h.mono fun e w' he => ?_
  cases e with
  |returned v => exact hk _ _ he
  |panicked c => exact hp _ _ _ he
  |outgrown => exact hl he
 ·exact fun c cs => let ⟨v, w', r, s⟩ := h c cs; ⟨v, w', hk _ _ r, s⟩
 ·exact hp _ _ _ h
 ·exact h.elim
def thenL (P : Program) (ops : Array Oper) (Q : Exit → Act → World → Prop) (l2 : List Oper) : Exit → Act → World → Prop
 |.normal, a, w => wpList P ops Q l2 a w
 |e, a, w => Q e a w
theorem wpList_app {P : Program} {ops : Array Oper} {Q : Exit → Act → World → Prop} : ∀ (l1 l2 : List Oper) (a : Act) (w : World), wpList P ops (thenL P ops Q l2) l1 a w → wpList P ops Q (l1 ++ l2) a w
 |[], _, _, _, h => h
 |o :: l1, l2, a, w, h => by
  unfold wpList at h
  rw [List.cons_append]
  unfold wpList
  split
  ·rename_i hw
   rw [if_pos hw] at h
   rcases h with h | ⟨h1, a', w', h2⟩
   ·exact .inl (upon_swap (fun a w => wpList_app l1 l2 a w) (fun _ _ _ h => h) (fun ⟨a, w, h⟩ => ⟨a, w, h⟩) h)
   ·exact .inr ⟨h1, a', w', h2⟩
  ·rename_i hw
   rw [if_neg hw] at h
   exact wpList_app l1 l2 _ _ h
theorem wpList_post {P : Program} {ops : Array Oper} {Q1 Q2 : Exit → Act → World → Prop} : ∀ (l : List Oper) (a : Act) (w : World), wpList P ops Q1 l a w → (∀ a w, Q1 .normal a w → Q2 .normal a w) → (∀ e a w, e ≠ .normal → Q1 e a w → Q2 e a w) → wpList P ops Q2 l a w
 |[], a, w, h, hn, _ => hn a w h
 |o :: l, a, w, h, hn, he => by
  unfold wpList at h ⊢
  split
  ·rename_i hw
   rw [if_pos hw] at h
   rcases h with h | ⟨h1, a', w', h2⟩
   ·exact .inl (upon_swap (fun a w h => wpList_post l a w h hn he) (fun _ _ _ h => he _ _ _ (by simp) h) (fun ⟨a, w, h⟩ => ⟨a, w, he _ _ _ (by simp) h⟩) h)
   ·exact .inr ⟨h1, a', w', he _ _ _ (by simp) h2⟩
  ·rename_i hw
   rw [if_neg hw] at h
   exact wpList_post l _ _ h hn he
section
variable {P : Program} {fn : Func} {tmps : Array Value} {R : Ending → World → Prop} {fv : Fn} {cap args : Array Value} {w : World} {f : FuncId} {S : World → Prop}
theorem leaves_ret (hi : (invoke (.fn fv cap) #[]).run P w = .ok (.enter f args) w) (hc : CallsD P f args .returning w fun e u' w' => u' = .returning ∧ (∃ x, e = .returned x) ∧ S w')
  (h : ∀ w', S w' → ∃ v, (results fn tmps).run P w' = .ok v w' ∧ R (.returned v) w') : Leaves P fn tmps R [⟨.fn fv cap, #[]⟩] .returning w := by
 refine leaves_cons (by simp) hi (hc.mono fun e u' w' he => ?_)
 obtain ⟨rfl, ⟨x, rfl⟩, hs⟩ := he
 exact h w' hs
theorem leaves_pan {x : Value} (hi : (invoke (.fn fv cap) #[]).run P w = .ok (.enter f args) w) (hc : CallsD P f args (.panicking [⟨x, false, false⟩]) w fun e u' w' => u' = .panicking [⟨x, true, false⟩] ∧ (∃ y, e = .returned y) ∧ S w')
  (h : ∀ w', S w' → ∃ v, (results fn tmps).run P w' = .ok v w' ∧ R (.returned v) w') : Leaves P fn tmps R [⟨.fn fv cap, #[]⟩] (.panicking [⟨x, false, false⟩]) w := by
 refine leaves_cons (by simp) hi (hc.mono fun e u' w' he => ?_)
 obtain ⟨rfl, ⟨y, rfl⟩, hs⟩ := he
 exact h w' hs
end
def dfQ (P : Program) (fn : Func) (N : Fz) (R : Ending → World → Prop) : Post
 |.normal, f, w => ∀ a, Is a N f → Leaves P fn a.tmps R N.ds .returning w
 |.ret, f, w => ∀ a, Is a N f → Leaves P fn a.tmps R N.ds .returning w
 |.panic c, _, w => ∀ tmps : Array Value, (∀ i, i < N.lo → tmps.getD i undef = N.pin i) → Leaves P fn tmps R N.ds (.panicking c) w
 |_, _, _ => False
def entQ (P : Program) (fn : Func) (lo : Nat) (x : Operand) (rest : Code) (R : Ending → World → Prop) : Post
 |.normal, f, w => ∃ fv cap, ev f x = .func fv #[] cap ∧ WC P ⟨fn.ntmps, [⟨.fn fv cap, #[]⟩], none, lo, f⟩ rest f w (dfQ P fn ⟨fn.ntmps, [⟨.fn fv cap, #[]⟩], none, lo, f⟩ R)
 |_, _, _ => False
theorem run_defer {P : Program} {ρ : Operand → Value} {od : Oper} {x : Operand} {ts : Array TypeId} {fv : Fn} {cap : Array Value} {w : World} (ho : od.op = .defer ⟨.value x, #[], ts⟩) (hx : ρ x = .func fv #[] cap) :
  (execOp ρ od).run P w = .ok (.defer ⟨.fn fv cap, #[]⟩) w := by
 simp [execOp, ho, resolve, hx, Deferred.ofValue, Sem.run_bind]
theorem opsS_of {P : Program} {ops : Array Oper} {Q : Exit → Act → List Frame → World → Prop} {cs : List Frame} (hQ : ∀ a w, ¬ Q .outgrown a cs w) : ∀ (l : List Nat) (a : Act) (w : World), wpOps P ops (fun e a w => Q e a cs w) l a w → wpOpsS P ops Q l a cs w
 |[], _, _, h => h
 |i :: l, a, w, h => by
  unfold wpOps at h
  unfold wpOpsS
  cases ho : ops[i]? with
  |none => rw [ho] at h; exact opsS_of hQ l a w h
  |some o =>
   rw [ho] at h
   dsimp only at h ⊢
   split
   ·rename_i hw
    rw [if_pos hw] at h
    rcases h with h | ⟨_, a', w', h2⟩
    ·unfold Oper.wp at h
     generalize (execOp a.eval o).run P w = r at h ⊢
     have h' : o.upon P a (fun a' w' => wpOpsS P ops Q l a' cs w') (fun e a' w' => Q e a' cs w') r := upon_swap (fun a w h => opsS_of hQ l a w h) (fun _ _ _ h => h) (fun h => h) h
     split
     ·exact h'.elim
     ·exact h'
    ·exact (hQ _ _ h2).elim
   ·rename_i hw
    rw [if_neg hw] at h
    exact opsS_of hQ l _ _ h
theorem run_recover {P : Program} {ts : Array TypeId} {ρ : Operand → Value} {o : Oper} {w : World} (ho : o.op = .call ⟨.builtin .recover, #[], ts⟩) : (execOp ρ o).run P w = .ok .recover w := by
 simp [execOp, ho, resolve, invoke, builtin, Sem.run_bind]
theorem callsD_rec {P : Program} {fid : FuncId} {fn : Func} {id : Nat} {o : Oper} {l : List Oper} {rest : Code} {args : List Value} {w : World} {R : Value → World → Prop} {x : Value} {u u' : FrameMode} {ts : Array TypeId}
  (hf : P.funcs[fid]? = some fn) (hb : fn.body = some (.seq (.region id (o :: l).toArray false) rest)) (hn : Nat.ble args.length fn.ntmps = true) (ho : o.op = .call ⟨.builtin .recover, #[], ts⟩) (hg : o.guard = none) {d : Nat} (hd : o.dst = some d) (hdn : Nat.blt d fn.ntmps = true)
  (hu : (u = .returning ∧ u' = .returning ∧ x = .nilIface) ∨ (u = .panicking [⟨x, false, false⟩] ∧ u' = .panicking [⟨x, true, false⟩]))
  (h : WL P fn.ntmps (o :: l) l (up (fr0 args) d x) w (seqQ P fn.ntmps rest (funQ P fn.results fn (Ret R)))) :
  CallsD P fid args.toArray u w fun e u'' w' => u'' = u' ∧ Ret R e w' := by
 refine callsD_of_wpS hf hb fun c₀ cs hm => wpS_seq (wpS_region ?_)
 have hfr : Is { tmps := args.toArray ++ Array.replicate (fn.ntmps - args.toArray.size) undef, defers := [] } fn.ntmps (fr0 args) := by
  refine ⟨rfl, ?_, fun i hi => absurd hi (Nat.not_lt_zero _), ?_⟩
  ·have : args.length ≤ fn.ntmps := Nat.le_of_ble_eq_true hn
   simp; omega
  ·intro i
   simp only [fr0, Array.getD_eq_getD_getElem?]
   rw [Array.getElem?_append]
   simp only [List.size_toArray, List.getElem?_toArray]
   by_cases hi : i < args.length
   ·rw [if_pos hi]; simp [hi]
   ·rw [if_neg hi]
    have : args[i]? = none := List.getElem?_eq_none Zo
    rw [this]
    simp only [Array.getElem?_replicate]
    split <;> rfl
 have hok : Fz.ok (fn.ntmps : Fz) d = true := by
  unfold Fz.ok
  rw [hdn]
  rfl
 generalize ({ tmps := args.toArray ++ Array.replicate (fn.ntmps - args.toArray.size) undef, defers := [] } : Act) = a0 at *
 have h1 := h.out _ (hfr.put1 hd hok x)
 rw [show (o :: l).toArray.size = l.length + 1 by simp, List.range_eq_range', List.range'_succ]
 unfold wpOpsS
 rw [List.getElem?_toArray]
 dsimp only [List.getElem?_cons_zero]
 have hwn : Region.wanted o (yielded (o :: l).toArray a0.tmps) = true := by unfold Region.wanted; rw [hg]
 rw [if_pos hwn, run_recover ho]
 dsimp only
 -- the frame that the closure was called from, behind the recovery
 have key : ∀ Q : Exit → Act → List Frame → World → Prop, wpOpsS P (o :: l).toArray Q (List.range' 1 l.length) (a0.put o.dst x) ({ c₀ with mode := u' } :: cs) w →
   (match recoverD (c₀ :: cs) with
    |some (v, cs') => wpOpsS P (o :: l).toArray Q (List.range' (0 + 1) l.length) (a0.put o.dst v) cs' w
    |none => wpOpsS P (o :: l).toArray Q (List.range' (0 + 1) l.length) (a0.put o.dst .nilIface) (c₀ :: cs) w) := by
  intro Q hq
  rcases hu with ⟨rfl, rfl, rfl⟩ | ⟨rfl, rfl⟩
  ·have e : recoverD (c₀ :: cs) = none := by simp [recoverD, hm]
   rw [e]
   have e2 : ({ c₀ with mode := FrameMode.returning } : Frame) = c₀ := by rw [← hm]
   rw [e2] at hq
   exact hq
  ·have e : recoverD (c₀ :: cs) = some (x, { c₀ with mode := .panicking [⟨x, true, false⟩] } :: cs) := by simp [recoverD, hm]
   rw [e]
   exact hq
 refine key _ (opsS_of (fun a w hq => ?_) _ _ _ ?_)
 ·obtain ⟨_, hq⟩ := (show ∃ u', u' = _ ∧ Ret R .outgrown w from hq)
  obtain ⟨v, hv, _⟩ := hq.2
  cases hv
 ·rw [wpOps_eq_wpList (ops := (o :: l).toArray) l 1 (fun j => by rw [List.getElem?_toArray, Nat.add_comm, List.getElem?_cons_succ])]
  have fin : ∀ e a' w', lift fn.ntmps (funQ P fn.results fn (Ret R)) e a' w' → bodyPostS P fn c₀ cs (fun e u'' w' => u'' = u' ∧ Ret R e w') e a' ({ c₀ with mode := u' } :: cs) w' := by
   intro e a' w' hq
   unfold funQ at hq
   cases e with
   |normal => obtain ⟨f', hf', v, hR, hv⟩ := hq; exact ⟨hf'.defers, u', rfl, v, hv a' hf', rfl, hR⟩
   |ret => obtain ⟨f', hf', v, hR, hv⟩ := hq; exact ⟨hf'.defers, u', rfl, v, hv a' hf', rfl, hR⟩
   |panic c => exact ⟨hq.1, u', rfl, rfl, hq.2.2⟩
   |exit i => obtain ⟨_, _, h⟩ := hq; exact h.elim
   |goto l => obtain ⟨_, _, h⟩ := hq; exact h.elim
   |outgrown => exact hq.elim
  refine wpList_post _ _ _ h1 (fun a' w' hq => ?_) (fun e a' w' hne hq => ?_)
  ·obtain ⟨f', hf', hw⟩ := hq
   unfold seqQ at hw
   exact wpS_of_wp (wp_mono ((wpIn_wide (n := 0)).1 (hw.out a' hf')) fun e a2 w2 hq => fin e a2 w2 hq)
  ·unfold seqQ at hq
   cases e with
   |normal => exact absurd rfl hne
   |ret => exact fin .ret _ _ hq
   |panic c => exact fin (.panic c) _ _ hq
   |exit i => exact fin (.exit i) _ _ hq
   |goto l => exact fin (.goto l) _ _ hq
   |outgrown => exact hq.elim
open Go Go.RowKit
abbrev FW : Fence := ⟨fun _ => True, none, false, none⟩
theorem roomW (n : Nat) : FW.room n := fun _ h => by cases h
theorem fencedW {P : Program} (m : Machine) : m.fenced P FW := fun g hg => ⟨fun h => (by cases h), .inl trivial, fun _ _ => trivial, roomW _⟩
theorem callsW {P : Program} {f : FuncId} {args : Array Value} {w : World} {R : Ending → World → Prop} {n : Nat} (h : Calls P f args w R) : CallsIn FW n P f args w R := (callsIn_wide (n := n)).2 h
theorem callsW' {P : Program} {f : FuncId} {args : Array Value} {w : World} {R : Ending → World → Prop} {n : Nat} (h : CallsIn FW n P f args w R) : Calls P f args w R := (callsIn_wide (n := n)).1 h
structure WR (P : Program) (N : Fz) (c : Code) (f : Fr) (w : World) (Q : Exit → Act → World → Prop) : Prop where
 out : ∀ a, Is a N f → ∀ (b : Frame) (k : List Item) (cs : List Frame) (F0 : Func), b.roundOf = none → P.funcs[b.fn]? = some F0 →
  ∃ e a' w', Q e a' w' ∧ ArrivesIn (Machine.fenced P FW) P (lone (b.atR a (.code c :: k)) cs w) b k cs e a' w'
def seqR (P : Program) (N : Fz) (y : Code) (Q : Exit → Act → World → Prop) (Q0 : Post) : Post
 |.normal, f, w => WR P N y f w Q
 |e, f, w => Q0 e f w
section
variable {P : Program} {N : Fz} {f : Fr} {w : World} {Q : Exit → Act → World → Prop} {Q0 : Post} {x y r rest : Code}
theorem Fz.FW (h : N.rd = none) : N.F = FW := by
 obtain ⟨n, ds, rd, lo, pin⟩ := N
 subst h
 rfl
theorem WR.ofC (hrd : N.rd = none) (h : WC P N x f w Q0) (hq : ∀ e a w, lift N Q0 e a w → Q e a w) : WR P N x f w Q := ⟨fun a ha b k cs F0 hb hf => by
 have h1 := h.out a ha
 rw [Fz.FW hrd] at h1
 obtain ⟨e, a', w', q, s⟩ := h1 b k cs hb trivial (roomW _)
 exact ⟨e, a', w', hq _ _ _ q, s⟩⟩
theorem WR.seqX (h : ∀ a, Is a N f → x.wpIn FW 0 P (fun e a' w' => match e with
   |.normal => ∃ N' f', Is a' N' f' ∧ WR P N' y f' w' Q
   |e => Q e a' w') a w) : WR P N (.seq x y) f w Q := by
 refine ⟨fun a ha b k cs F0 hb hf => ?_⟩
 obtain ⟨e, a1, w1, hq, harr⟩ := h a ha b (.code y :: k) cs hb trivial (roomW _)
 have h0 := fencedW (P := P) (lone (b.atR a (.code (.seq x y) :: k)) cs w)
 cases e with
 |normal =>
  obtain ⟨N', f', ha', hw⟩ := hq
  obtain ⟨e2, a2, w2, q2, s2⟩ := hw.out a1 ha' b k cs F0 hb hf
  exact ⟨e2, a2, w2, q2, .of_steps (.head h0 stepR_seq harr) s2⟩
 |exit id => exact ⟨_, a1, w1, hq, .of_steps (.one h0 stepR_seq) (.pass (x := .code y) rfl (fun _ _ => .inl (by simp)) harr)⟩
 |goto l => exact ⟨_, a1, w1, hq, .of_steps (.one h0 stepR_seq) (.pass (x := .code y) rfl (fun _ _ => .inl (by simp)) harr)⟩
 |ret => exact ⟨_, a1, w1, hq, .of_steps (.one h0 stepR_seq) (.pass (x := .code y) rfl (fun _ _ => .inl (by simp)) harr)⟩
 |panic ch => exact ⟨_, a1, w1, hq, .of_steps (.one h0 stepR_seq) (.pass (x := .code y) rfl (fun _ _ => .inl (by simp)) harr)⟩
 |outgrown => exact ⟨_, a1, w1, hq, .of_steps (.one h0 stepR_seq) (.pass (x := .code y) rfl (fun _ _ => .inl (by simp)) harr)⟩
theorem WR.seq (hrd : N.rd = none) (hq : ∀ e a w, lift N Q0 e a w → Q e a w) (h : WC P N x f w (seqR P N y Q Q0)) : WR P N (.seq x y) f w Q := by
 refine .seqX fun a ha => ?_
 have h1 := h.out a ha
 rw [Fz.FW hrd] at h1
 refine wpIn_mono h1 fun e a' w' q => ?_
 cases e with
 |normal => obtain ⟨f', hf', hw⟩ := q; exact ⟨N, f', hf', hw⟩
 |panic c => exact hq (.panic c) a' w' q
 |exit i => exact hq (.exit i) a' w' q
 |goto l => exact hq (.goto l) a' w' q
 |ret => exact hq .ret a' w' q
 |outgrown => exact hq .outgrown a' w' q
theorem WR.defer {id n : Nat} {ops : List Oper} {od : Oper} {z : Operand} {ts : Array TypeId} (lo : Nat) (hsp : ops.take n ++ [od] = ops) (hrd : N.rd = none) (ho : od.op = .defer ⟨.value z, #[], ts⟩) (hg : od.guard = none) (hd : od.dst = none)
  (h : WL P N ops (ops.take n) f w (fun e f' w' => match e with
   |.normal => ∃ fv cap, ev f' z = .func fv #[] cap ∧ WR P ⟨N.n, ⟨.fn fv cap, #[]⟩ :: N.ds, none, lo, f'⟩ rest f' w' Q
   |_ => False)) : WR P N (.seq (.region id ops.toArray false) rest) f w Q := by
 refine .seqX fun a ha => (wpIn_wide (n := 0)).2 (wp_region ?_)
 rw [List.range_eq_range', show ops.toArray.size = ops.length by simp, wpOps_eq_wpList (ops := ops.toArray) ops 0 (fun j => by rw [List.getElem?_toArray, Nat.zero_add])]
 suffices hw : ∀ Qx : Exit → Act → World → Prop, (∀ a' w', (∃ N' f', Is a' N' f' ∧ WR P N' rest f' w' Q) → Qx .normal a' w') → wpList P ops.toArray Qx (ops.take n ++ [od]) a w by
  have h2 := hw (fun e a' w' => match e with
   |.normal => ∃ N' f', Is a' N' f' ∧ WR P N' rest f' w' Q
   |e => Q e a' w') (fun a' w' h => h)
  rw [hsp] at h2
  exact h2
 ·intro Qx hQx
  refine wpList_app (ops.take n) [od] _ _ ?_
  refine wpList_post _ _ _ (h.out a ha) ?_ ?_
  ·intro a' w' hq
   obtain ⟨f', hf', fv, cap, hx, hw⟩ := hq
   show wpList P _ _ [od] a' w'
   unfold wpList
   have hwn : Region.wanted od (yielded ops.toArray a'.tmps) = true := by unfold Region.wanted; rw [hg]
   rw [if_pos hwn]
   refine .inl ?_
   have hr := run_defer (P := P) (ρ := a'.eval) (w := w') ho (by rw [hf'.eval]; exact hx)
   unfold Oper.wp
   rw [hr, Oper.upon_defer]
   refine hQx _ _ ⟨_, f', ?_, hw⟩
   rw [hd]
   refine ⟨?_, hf'.size, fun i _ => rfl, hf'.get⟩
   show _ :: a'.defers = _
   rw [hf'.defers]
  ·intro e a' w' hne hq
   cases e with
   |normal => exact absurd rfl hne
   |ret => obtain ⟨_, _, h⟩ := hq; exact h.elim
   |panic c => exact hq.2.2.elim
   |exit i => obtain ⟨_, _, h⟩ := hq; exact h.elim
   |goto l => obtain ⟨_, _, h⟩ := hq; exact h.elim
   |outgrown => exact hq.elim
def noQ : Post := fun _ _ _ => False
theorem noQ_ok : ∀ e a w, lift N noQ e a w → Q e a w := by
 intro e a w h
 cases e with
 |panic c => exact h.2.2.elim
 |outgrown => exact h.elim
 |normal => obtain ⟨_, _, h⟩ := h; exact h.elim
 |ret => obtain ⟨_, _, h⟩ := h; exact h.elim
 |exit i => obtain ⟨_, _, h⟩ := h; exact h.elim
 |goto l => obtain ⟨_, _, h⟩ := h; exact h.elim
abbrev markD (r : Nat) : Deferred := ⟨.collected r, #[]⟩
def LvM (P : Program) (fn : Func) (tmps : Array Value) (R : Ending → World → Prop) (ds : List Deferred) (u : FrameMode) : List Nat → World → Prop
 |[], w => Leaves P fn tmps R ds u w
 |r :: rs, w => ∃ w', (Instr.takeDeferred r).run P w = .ok [] w' ∧ LvM P fn tmps R ds u rs w'
theorem leaves_stepsR {fn : Func} {tmps : Array Value} {R : Ending → World → Prop} {ds : List Deferred} {u : FrameMode} (hu0 : u ≠ .run) : ∀ (rs : List Nat) (w : World) (fr : Frame) (cs : List Frame), fr.mode = u → fr.defers = rs.map markD ++ ds → fr.tmps = tmps → P.funcs[fr.fn]? = some fn → fr.kind = .normal →
  LvM P fn tmps R ds u rs w → ∃ e w' fr', R e w' ∧ Comes P (lone fr cs w) (lone fr' cs w') e ∧ fr'.fn = fr.fn ∧ fr'.leaving P w' e
 |[], w, fr, cs, hu, hd, ht, hf, hk, h => leaves_steps ds u w fr cs hu hd ht hf hk h
 |r :: rs, w, fr, cs, hu, hd, ht, hf, hk, h => by
  obtain ⟨w', htake, hrest⟩ := h
  have h1 := step_collected (cs := cs) (by rw [hu]; exact hu0) (show fr.defers = markD r :: (rs.map markD ++ ds) from hd) rfl htake
  obtain ⟨e, w'', fr', hR, hs, hfn, hl⟩ := leaves_stepsR hu0 rs w' { fr with defers := [] ++ (rs.map markD ++ ds) } cs hu rfl ht hf hk hrest
  exact ⟨e, w'', fr', hR, Comes.of_steps (.one h1) hs, hfn, hl⟩
def bodyPostR (P : Program) (fn : Func) (R : Ending → World → Prop) : Exit → Act → World → Prop
 |.normal, a, w | .ret, a, w => ∃ rs ds, a.defers = rs.map markD ++ ds ∧ LvM P fn a.tmps R ds .returning rs w
 |.panic c, a, w => ∃ rs ds, a.defers = rs.map markD ++ ds ∧ LvM P fn a.tmps R ds (.panicking c) rs w
 |_, _, _ => False
def endQ0 (P : Program) (fn : Func) (N : Fz) (rs : List Nat) (ds : List Deferred) (R : Ending → World → Prop) : Post
 |.ret, f, w => ∀ a, Is a N f → LvM P fn a.tmps R ds .returning rs w
 |.normal, f, w => ∀ a, Is a N f → LvM P fn a.tmps R ds .returning rs w
 |.panic c, _, w => ∀ tmps : Array Value, (∀ i, i < N.lo → tmps.getD i undef = N.pin i) → LvM P fn tmps R ds (.panicking c) rs w
 |_, _, _ => False
theorem endQ0_ok {fn : Func} {rs : List Nat} {ds : List Deferred} {R : Ending → World → Prop} (hds : N.ds = rs.map markD ++ ds) : ∀ e a w, lift N (endQ0 P fn N rs ds R) e a w → bodyPostR P fn R e a w := by
 intro e a w h
 cases e with
 |normal => obtain ⟨f, hf, hq⟩ := h; exact ⟨rs, ds, hf.defers.trans hds, hq a hf⟩
 |ret => obtain ⟨f, hf, hq⟩ := h; exact ⟨rs, ds, hf.defers.trans hds, hq a hf⟩
 |panic c => exact ⟨rs, ds, h.1.trans hds, h.2.2 a.tmps h.2.1⟩
 |exit i => obtain ⟨_, _, h⟩ := h; exact h.elim
 |goto l => obtain ⟨_, _, h⟩ := h; exact h.elim
 |outgrown => exact h.elim
theorem callsR {fid : FuncId} {fn : Func} {c : Code} {args : List Value} {R : Ending → World → Prop} (hf : P.funcs[fid]? = some fn) (hb : fn.body = some c) (hn : Nat.ble args.length fn.ntmps = true)
  (h : WR P fn.ntmps c (fr0 args) w (bodyPostR P fn R)) : Calls P fid args.toArray w R := by
 intro cs
 let b : Frame := { (default : Frame) with fn := fid, kind := .normal, roundOf := none }
 have henter : Frame.enter P fid args.toArray .normal = b.atR { tmps := args.toArray ++ Array.replicate (fn.ntmps - args.toArray.size) undef, defers := [] } [.code c] := by
  simp [Frame.enter, Frame.atR, hf, hb, b]
 have hle : args.length ≤ fn.ntmps := Nat.le_of_ble_eq_true hn
 obtain ⟨e, a', w', hq, harr⟩ := h.out { tmps := args.toArray ++ Array.replicate (fn.ntmps - args.toArray.size) undef, defers := [] } ⟨rfl, by simp; omega, fun i hi => absurd hi (Nat.not_lt_zero _), fun i => by
  simp only [fr0, Array.getD_eq_getD_getElem?]
  rw [Array.getElem?_append]
  simp only [List.size_toArray, List.getElem?_toArray]
  by_cases hi : i < args.length
  ·rw [if_pos hi]; simp [hi]
  ·rw [if_neg hi]
   have : args[i]? = none := List.getElem?_eq_none Zo
   rw [this]
   simp only [Array.getElem?_replicate]
   split <;> rfl⟩ b [] cs fn rfl hf
 rw [← henter] at harr
 cases e with
 |normal =>
  obtain ⟨rs, ds, hd, hq⟩ := hq
  obtain ⟨e', w'', fr', hR, hs, hfn, hl⟩ := leaves_stepsR (by simp) rs w' { b.atR a' [] with mode := .returning } cs rfl hd rfl hf rfl hq
  exact ⟨e', w'', fr', hR, Comes.of_steps (StepsIn.trans harr (.one (fencedW _) (stepR_end rfl))).steps hs, hfn, hl⟩
 |ret =>
  obtain ⟨rs, ds, hd, hq⟩ := hq
  obtain ⟨todo, hs₀⟩ := harr.1 rfl
  obtain ⟨e', w'', fr', hR, hs, hfn, hl⟩ := leaves_stepsR (by simp) rs w' { b.atR a' todo with mode := .returning } cs rfl hd rfl hf rfl hq
  exact ⟨e', w'', fr', hR, Comes.of_steps hs₀.steps hs, hfn, hl⟩
 |panic chain =>
  obtain ⟨rs, ds, hd, hq⟩ := hq
  obtain ⟨todo, hs₀⟩ := harr
  obtain ⟨e', w'', fr', hR, hs, hfn, hl⟩ := leaves_stepsR (by simp) rs w' { b.atR a' todo with mode := .panicking chain } cs rfl hd rfl hf rfl hq
  exact ⟨e', w'', fr', hR, Comes.of_steps hs₀.steps hs, hfn, hl⟩
 |exit id => exact hq.elim
 |goto l => exact hq.elim
 |outgrown => exact hq.elim
end
def rndR (P : Program) (l : Nat) (R : Ending → World → Prop) : Post
 |.normal, _, w => ∃ v w', (Instr.endRound l none).run P w = .ok v w' ∧ R (.returned v) w'
 |.ret, _, w => ∃ v w', (Instr.endRound l (some .ret)).run P w = .ok v w' ∧ R (.returned v) w'
 |.panic c, _, w => R (.panicked c) w
 |_, _, _ => False
def asgR (P : Program) (N : Fz) (l : Nat) (body : Code) (R : Ending → World → Prop) : Post
 |.normal, f, w => ∃ w2, (Instr.beginRound l).run P w = .ok () w2 ∧ WC P N body f w2 (rndR P l R)
 |_, _, _ => False
abbrev Nrd (n l : Nat) : Fz := ⟨n, [], some l, 0, fun _ => undef⟩
theorem roundIn_walk {P : Program} {l n : Nat} {fn : FuncId} {F0 : Func} {tm : Array Value} {assign body : Code} {f : Fr} {w : World} {R : Ending → World → Prop} (hfn : P.funcs[fn]? = some F0) (hn : tm.size = n) (hf : ∀ i, tm.getD i undef = f i)
  (h : WC P (Nrd n l) assign f w (asgR P (Nrd n l) l body R)) : RoundIn FW 0 P l fn tm assign body w R := by
 refine ⟨trivial, fun c cs hr => ?_⟩
 let b : Frame := { (default : Frame) with fn := fn, kind := .normal, roundOf := some l }
 have hb0 : Frame.round l fn tm assign body .normal = b.atR { tmps := tm, defers := [] } [.code assign, .beginRound, .code body] := by
  simp [Frame.round, Frame.atR, b]
 have hI : ∀ m : Machine, m.fenced P (Nrd n l).F := fun m g hg => ⟨fun h => (by cases h), .inl trivial, fun _ _ => trivial, fun _ h => by cases h⟩
 obtain ⟨e, a₁, w₁, hq, harr⟩ := h.out { tmps := tm, defers := [] } ⟨rfl, hn, fun i hi => absurd hi (Nat.not_lt_zero _), hf⟩ b [.beginRound, .code body] (c :: cs) rfl trivial (fun _ h => by cases h)
 rw [← hb0] at harr
 cases e with
 |normal =>
  obtain ⟨f1, hf1, w₂, hbr, hbody⟩ := hq
  have s1 : StepsIn (Machine.fenced P FW) P (lone (b.atR a₁ [.beginRound, .code body]) (c :: cs) w₁) (lone (b.atR a₁ [.code body]) (c :: cs) w₂) :=
   .one (fencedW _) (stepR_beginRound rfl hbr)
  obtain ⟨e₂, a₂, w₃, hq₂, harr₂⟩ := hbody.out a₁ hf1 b [] (c :: cs) rfl trivial (fun _ h => by cases h)
  have s2 := StepsIn.trans harr s1
  cases e₂ with
  |normal =>
   obtain ⟨f2, hf2, v, w₄, hend, hR⟩ := hq₂
   exact ⟨.returned v, w₄, hR, s2.trans (StepsIn.trans harr₂ (.one (fencedW _) (stepR_round_end rfl rfl hend)))⟩
  |ret =>
   obtain ⟨f2, hf2, v, w₄, hend, hR⟩ := hq₂
   obtain ⟨k₁, hs⟩ := harr₂.2 rfl
   exact ⟨.returned v, w₄, hR, s2.trans (StepsIn.trans hs (.one (fencedW _) (stepR_round_ret rfl rfl hend)))⟩
  |panic chain =>
   obtain ⟨hd, _, hR⟩ := hq₂
   obtain ⟨todo, hs⟩ := harr₂
   have hl : ({ b.atR a₂ todo with mode := .panicking chain } : Frame).leaving P w₃ (.panicked chain) := ⟨rfl, hd, F0, hfn⟩
   exact ⟨.panicked chain, w₃, hR, s2.trans (StepsIn.trans hs (.one (fencedW _) (step_leave_panicked hl)))⟩
  |exit id => obtain ⟨_, _, h⟩ := hq₂; exact h.elim
  |goto t => obtain ⟨_, _, h⟩ := hq₂; exact h.elim
  |outgrown => exact hq₂.elim
 |exit id => obtain ⟨_, _, h⟩ := hq; exact h.elim
 |goto t => obtain ⟨_, _, h⟩ := hq; exact h.elim
 |ret => obtain ⟨_, _, h⟩ := hq; exact h.elim
 |panic chain => exact hq.2.2.elim
 |outgrown => exact hq.elim
def layL (w : World) (fn : FuncId) (tm : Array Value) (ps : Array Tmp) (assign body : Code) : World :=
 (w.alloc (.deferred (some []))).alloc (.loop { state := .ready, pending := none, fn, tmps := tm, params := ps, assign, body, defers := w.heap.size })
def endR (P : Program) (N : Fz) (l : Nat) (f : Fr) (rest : Code) (Q : Exit → Act → World → Prop) : Ending → World → Prop
 |.returned _, w3 => ∃ pend w4, (Instr.endLoop l).run P w3 = .ok pend w4 ∧ ((pend = none ∧ WR P N rest f w4 Q) ∨ (pend = some .ret ∧ ∀ a, Is a N f → Q .ret a w4))
 |.panicked c, w3 => ∀ a, Is a N f → Q (.panic c) a w3
 |.outgrown, _ => False
def rangeAt (P : Program) (N : Fz) (g : Operand) (ps : Array Tmp) (assign body rest : Code) (Q : Exit → Act → World → Prop) : Post
 |.normal, f, w => ∃ gf cap, ev f g = .func (.func gf) #[] cap ∧ callOk P gf = true ∧ ∀ (fn : FuncId) (F0 : Func) (tm : Array Value), P.funcs[fn]? = some F0 → tm.size = N.n → (∀ i, tm.getD i undef = f i) →
   Calls P gf (#[.func (.yield (w.heap.size + 1)) #[] #[]] ++ cap) (layL w fn tm ps assign body) (endR P { N with ds := ⟨.collected w.heap.size, #[]⟩ :: N.ds } (w.heap.size + 1) f rest Q)
 |_, _, _ => False
section
variable {P : Program} {N : Fz} {f : Fr} {w : World} {Q : Exit → Act → World → Prop} {r rest assign body : Code} {g : Operand} {ps : Array Tmp} {id : Nat}
theorem run_rangeCall {P : Program} {gf : FuncId} {cap : Array Value} {l : Nat} {ρ : Operand → Value} {w : World} (hg : ρ g = .func (.func gf) #[] cap) (hc : ρ (.const (.func (.yield l) #[] #[])) = .func (.yield l) #[] #[]) : (resolve ρ (rangeCall g l) 0).run P w = .ok ⟨.fn (.func gf) cap, #[.func (.yield l) #[] #[]]⟩ w := by
 simp only [resolve, hg]
 simp [go_sem, hc]
theorem WR.range (hrd : N.rd = none) (h : WC P N r f w (rangeAt P N g ps assign body rest Q)) : WR P N (.seq (.seq r (.block id (.rangeFunc g ps assign body))) rest) f w Q := by
 refine ⟨fun a ha b k cs F0 hb hf => ?_⟩
 have h1 := h.out a ha
 rw [Fz.FW hrd] at h1
 obtain ⟨e, a1, w1, hq, harr⟩ := h1 b (.code (.block id (.rangeFunc g ps assign body)) :: .code rest :: k) cs hb trivial (roomW _)
 cases e with
 |normal =>
  obtain ⟨f1, hf1, gf, cap, hg, hok, hc⟩ := hq
  have hc := hc b.fn F0 a1.tmps hf hf1.size hf1.get
  have he : (Instr.enterLoop b.fn a1.tmps ps assign body b.roundOf).run P w1 = .ok (w1.heap.size + 1, [{ target := .collected w1.heap.size, args := #[] }]) (layL w1 b.fn a1.tmps ps assign body) := by
   rw [hb]; exact run_enterLoop_outer _ _ _ _ _
  have hres := run_rangeCall (P := P) (g := g) (gf := gf) (cap := cap) (l := w1.heap.size + 1) (ρ := a1.eval) (w := layL w1 b.fn a1.tmps ps assign body) (by rw [hf1.eval]; exact hg) rfl
  have hinv : (invoke (Deferred.mk (.fn (.func gf) cap) #[.func (.yield (w1.heap.size + 1)) #[] #[]]).target (Deferred.mk (.fn (.func gf) cap) #[.func (.yield (w1.heap.size + 1)) #[] #[]]).args).run P (layL w1 b.fn a1.tmps ps assign body)
    = .ok (.enter gf (#[.func (.yield (w1.heap.size + 1)) #[] #[]] ++ cap)) (layL w1 b.fn a1.tmps ps assign body) := by
   show (callFunc gf _).run P _ = _
   exact run_callFunc hok _
  have sE := stepR_rangeFunc (P := P) (b := b) (a := a1) (k := .inBlock id :: .code rest :: k) (cs := cs) (w := w1) (ps := ps) (assign := assign) (body := body) he hres hinv
  have s0 : StepsIn (Machine.fenced P FW) P (lone (b.atR a (.code (.seq (.seq r (.block id (.rangeFunc g ps assign body))) rest) :: k)) cs w) (lone (b.atR a1 (.code (.rangeFunc g ps assign body) :: .inBlock id :: .code rest :: k)) cs w1) :=
   .head (fencedW _) stepR_seq (.head (fencedW _) stepR_seq (StepsIn.trans harr (.one (fencedW _) stepR_block)))
  obtain ⟨e, w3, fr, hR, hsteps, hfn, hleave⟩ := hc (b.atR { a1 with defers := [{ target := .collected w1.heap.size, args := #[] }] ++ a1.defers } (.inRangeFunc (w1.heap.size + 1) :: .inBlock id :: .code rest :: k) :: cs)
  have ha2 : Is { a1 with defers := [{ target := .collected w1.heap.size, args := #[] }] ++ a1.defers } { N with ds := ⟨.collected w1.heap.size, #[]⟩ :: N.ds } f1 :=
   ⟨by show _ :: a1.defers = _; rw [hf1.defers], hf1.size, hf1.pin, hf1.get⟩
  cases e with
  |returned v =>
   obtain ⟨pend, w4, hend, hp⟩ := hR
   have hsteps : StepsIn (Machine.fenced P FW) P _ _ := stepsIn_wide.2 hsteps
   have s1 := StepsIn.trans s0 (.head (fencedW _) sE (StepsIn.trans hsteps (.one (fencedW _) (step_leave_returned hleave))))
   rw [finish_atR_inRangeFunc] at s1
   have s2 := StepsIn.trans s1 (.one (fencedW _) (stepR_endRangeFunc hend))
   rcases hp with ⟨rfl, hw⟩ | ⟨rfl, hq⟩
   ·obtain ⟨e2, a2, w5, q2, s3⟩ := hw.out _ ha2 b k cs F0 hb hf
    exact ⟨e2, a2, w5, q2, .of_steps (StepsIn.trans s2 (.one (fencedW _) stepR_inBlock)) s3⟩
   ·refine ⟨.ret, _, w4, hq _ ha2, fun hn => ⟨_, StepsIn.trans s2 (.one (fencedW _) (stepR_ret hb))⟩, fun hn => ?_⟩
    rw [hb] at hn; cases hn
  |panicked c =>
   have hsteps : StepsIn (Machine.fenced P FW) P _ _ := stepsIn_wide.2 hsteps
   have s1 := StepsIn.trans s0 (.head (fencedW _) sE (StepsIn.trans hsteps (.one (fencedW _) (step_leave_panicked hleave))))
   rw [Frame.raise_atR] at s1
   exact ⟨.panic c, _, w3, hR _ ha2, _, s1⟩
  |outgrown => exact hR.elim
 |exit i => obtain ⟨_, _, h⟩ := hq; exact h.elim
 |goto l => obtain ⟨_, _, h⟩ := hq; exact h.elim
 |ret => obtain ⟨_, _, h⟩ := hq; exact h.elim
 |panic c => exact hq.2.2.elim
 |outgrown => exact hq.elim
end
theorem uponIn_swap {P : Program} {o : Oper} {a : Act} {K1 K2 : Act → World → Prop} {Q1 Q2 : Exit → Act → World → Prop} (hk : ∀ a w, K1 a w → K2 a w) (hp : ∀ c a w, Q1 (.panic c) a w → Q2 (.panic c) a w) (hl : LetsOut Q1 → LetsOut Q2) {r : Result Next}
  (h : o.uponIn FW 0 P a K1 Q1 r) : o.uponIn FW 0 P a K2 Q2 r := by
 unfold Oper.uponIn at *
 split at h
 ·exact hk _ _ h
 ·exact hk _ _ h
 ·exact hk _ _ h
 ·refine ⟨h.1, callsW ((callsW' h.2).mono fun e w' he => ?_)⟩
  cases e with
  |returned v => exact hk _ _ he
  |panicked c => exact hp _ _ _ he
  |outgrown => exact hl he
 ·exact ⟨h.1, h.2.mono fun v w' hv => hk _ _ hv⟩
 ·refine ⟨h.1, h.2.mono fun e w' he => ?_⟩
  cases e with
  |returned v => exact hk _ _ he
  |panicked c => exact hp _ _ _ he
  |outgrown => exact hl he
 ·exact hp _ _ _ h
 ·exact h.elim
def thenL2 (P : Program) (ops : Array Oper) (Q : Exit → Act → World → Prop) (l2 : List Oper) : Exit → Act → World → Prop
 |.normal, a, w => wpListIn FW 0 P ops Q l2 a w
 |e, a, w => Q e a w
theorem wpListIn_app {P : Program} {ops : Array Oper} {Q : Exit → Act → World → Prop} : ∀ (l1 l2 : List Oper) (a : Act) (w : World), wpListIn FW 0 P ops (thenL2 P ops Q l2) l1 a w → wpListIn FW 0 P ops Q (l1 ++ l2) a w
 |[], _, _, _, h => h
 |o :: l1, l2, a, w, h => by
  unfold wpListIn at h
  rw [List.cons_append]
  unfold wpListIn
  split
  ·rename_i hw
   rw [if_pos hw] at h
   exact ⟨h.1, uponIn_swap (fun a w => wpListIn_app l1 l2 a w) (fun c a w h => h) (fun ⟨a, w, h⟩ => ⟨a, w, h⟩) h.2⟩
  ·rename_i hw
   rw [if_neg hw] at h
   exact ⟨h.1, wpListIn_app l1 l2 _ _ h.2⟩
theorem wpList_in {P : Program} {ops : Array Oper} {Q : Exit → Act → World → Prop} (hQ : ¬ LetsOut Q) : ∀ (l : List Oper) (a : Act) (w : World), wpList P ops Q l a w → wpListIn FW 0 P ops Q l a w
 |[], _, _, h => h
 |o :: l, a, w, h => by
  unfold wpList at h
  unfold wpListIn
  split
  ·rename_i hw
   rw [if_pos hw] at h
   refine operF (N := ((0 : Nat) : Fz)) rfl hQ ?_
   rcases h with h | h
   ·exact .inl (Oper.wp_mono (fun a w => wpList_in hQ l a w) h)
   ·exact .inr h
  ·rename_i hw
   rw [if_neg hw] at h
   exact ⟨fun _ _ => trivial, wpList_in hQ l _ _ h⟩
theorem run_yieldOp {P : Program} {ρ : Operand → Value} {o : Oper} {x : Operand} {xs : List Operand} {ts : Array TypeId} {l : Nat} {w : World} (ho : o.op = .call ⟨.value x, ⟨xs⟩, ts⟩) (hx : ρ x = .func (.yield l) #[] #[]) : (execOp ρ o).run P w = (Instr.yield l ⟨xs.map ρ⟩).run P w := by
 have e : execOp ρ o = Instr.yield l (#[] ++ (Array.mk xs).map ρ ++ #[]) := by
  obtain ⟨dst, op, type, pos, after, guard⟩ := o
  simp only at ho
  subst ho
  simp [execOp, resolve, hx, Deferred.ofValue, invoke]
 rw [e]
 simp
def yldQ (P : Program) (N : Fz) (ops post : List Oper) (x : Operand) (xs : List Operand) (d : Nat) (Q : Post) : Post
 |.normal, f, w => ∃ l fn tm assign body, ev f x = .func (.yield l) #[] #[] ∧ (Instr.yield l ⟨xs.map (ev f)⟩).run P w = .ok (.round l fn tm assign body) w ∧ RoundIn FW 0 P l fn tm assign body w fun e w' => match e with
   |.returned v => WL P N ops post (up f d v) w' Q
   |.panicked c => Q (.panic c) (fun _ => undef) w'
   |.outgrown => False
 |_, _, _ => False
theorem WC.regY {P : Program} {N : Fz} {f : Fr} {w : World} {Q : Post} {id : Nat} {ops : List Oper} {o : Oper} {x : Operand} {xs : List Operand} {ts : Array TypeId} {d n : Nat} (hsp : ops.take n ++ o :: ops.drop (n + 1) = ops) (hrd : N.rd = none) (ho : o.op = .call ⟨.value x, ⟨xs⟩, ts⟩) (hg : o.guard = none) (hd : o.dst = some d) (hn : N.ok d = true)
  (h : WL P N ops (ops.take n) f w (yldQ P N ops (ops.drop (n + 1)) x xs d Q)) : WC P N (.region id ops.toArray false) f w Q := by
 refine ⟨fun a ha => wpIn_region ?_⟩
 rw [Fz.FW hrd, List.range_eq_range', show ops.toArray.size = ops.length by simp, wpOpsIn_eq_wpListIn (ops := ops.toArray) ops 0 (fun j => by rw [List.getElem?_toArray, Nat.zero_add])]
 have hl : wpListIn FW 0 P ops.toArray (lift N Q) (ops.take n ++ o :: ops.drop (n + 1)) a w := by
  refine wpListIn_app (ops.take n) (o :: ops.drop (n + 1)) _ _ (wpList_in (fun ⟨_, _, h⟩ => h) _ _ _ (wpList_post _ _ _ (h.out a ha) (fun a' w' hq => ?_) fun e a' w' hne hq => ?_))
  ·obtain ⟨f', hf', l, fn, tm, assign, body, hx, hr, hR⟩ := hq
   show wpListIn FW 0 P _ _ (o :: ops.drop (n + 1)) a' w'
   unfold wpListIn
   have hwn : Region.wanted o (yielded ops.toArray a'.tmps) = true := by unfold Region.wanted; rw [hg]
   rw [if_pos hwn]
   refine ⟨fun _ _ => trivial, ?_⟩
   have hrun : (o.semAt FW.round a'.eval).run P w' = .ok (.round l fn tm assign body) w' := by
    show (execOp a'.eval o).run P w' = _
    rw [hf'.eval, run_yieldOp ho hx]; exact hr
   rw [hrun, Oper.uponIn_round]
   refine ⟨fun h => (by cases h), hR.mono fun e w'' he => ?_⟩
   cases e with
   |returned v => exact wpList_in lift_lets _ _ _ (he.out _ (hf'.put1 hd hn v))
   |panicked c => exact ⟨hf'.defers, hf'.pins, he⟩
   |outgrown => exact he.elim
  ·cases e with
   |normal => exact absurd rfl hne
   |ret => obtain ⟨_, _, h⟩ := hq; exact h.elim
   |panic c => exact hq.2.2.elim
   |exit i => obtain ⟨_, _, h⟩ := hq; exact h.elim
   |goto l => obtain ⟨_, _, h⟩ := hq; exact h.elim
   |outgrown => exact hq.elim
 rwa [hsp] at hl
def isItf (P : Program) (t : TypeId) : Bool := match P.underlying t with
 |some (.interface _) => true
 |_ => false
theorem isItf_eq {P : Program} {t : TypeId} (h : isItf P t = true) : ∃ ms, P.underlying t = some (.interface ms) := by
 unfold isItf at h
 split at h
 ·rename_i ms e; exact ⟨ms, e⟩
 ·cases h
theorem WL.neNil0 {P : Program} {N : Fz} {f : Fr} {w : World} {Q : Post} {ops l : List Oper} {o : Oper} {t ty : TypeId} {x : Operand} (ho : o.op = .binOp .neq t x (.const .nilIface) ty) (ht : isItf P t = true) (hx : ev f x = .nilIface) (hg : wants ops f o = true) {d : Nat} (hd : o.dst = some d) (hn : N.ok d = true)
  (h : WL P N ops l (up f d (.bool false)) w Q) : WL P N ops (o :: l) f w Q := by
 obtain ⟨ms, hu⟩ := isItf_eq ht
 refine .val hg hd hn (v := .bool false) (w' := w) ?_ h
 have h1 : ∀ d : Nat, (Op.equalIn (d + 1) t .nilIface .nilIface).run P w = .ok true w := fun d => by simp [Op.equalIn, run_underlying hu]
 simp [execOp, ho, hx, go_sem, binOp, Op.equal, Op.maxDepth, h1 9999]
theorem WL.neNil1 {P : Program} {N : Fz} {f : Fr} {w : World} {Q : Post} {ops l : List Oper} {o : Oper} {t ty tv : TypeId} {v : Value} {x : Operand} (ho : o.op = .binOp .neq t x (.const .nilIface) ty) (ht : isItf P t = true) (hx : ev f x = .iface tv v) (hg : wants ops f o = true) {d : Nat} (hd : o.dst = some d) (hn : N.ok d = true)
  (h : WL P N ops l (up f d (.bool true)) w Q) : WL P N ops (o :: l) f w Q := by
 obtain ⟨ms, hu⟩ := isItf_eq ht
 refine .val hg hd hn (v := .bool true) (w' := w) ?_ h
 have h1 : ∀ d : Nat, (Op.equalIn (d + 1) t (.iface tv v) .nilIface).run P w = .ok false w := fun d => by simp [Op.equalIn, run_underlying hu]
 simp [execOp, ho, hx, go_sem, binOp, Op.equal, Op.maxDepth, h1 9999]
theorem WL.callP0 {P : Program} {N : Fz} {f : Fr} {w w0 : World} {Q : Post} {ops l : List Oper} {o : Oper} {M : List Nat} {H : List Chunk} {Z : List Snap} {fid : FuncId} {xs : List Operand} {ts : Array TypeId} {args : List Value} {R : Value → World → Prop} {S : List PanicEntry → World → Prop} (hS : St w0 M w H Z)
  (ho : o.op = .call ⟨.value (.func fid), ⟨xs⟩, ts⟩) (ha : xs.map (ev f) = args) (hc : CalP P fid args w (fun v w' => Upd [] w w' ∧ R v w') (fun c w' => Upd [] w w' ∧ S c w'))
  (hg : wants ops f o = true) {d : Nat} (hd : o.dst = some d) (hn : N.ok d = true) (h : ∀ v w', R v w' → St w0 M w' H Z → WL P N ops l (up f d v) w' Q)
  (hx : ∀ c w', S c w' → St w0 M w' H Z → Q (.panic c) (fun _ => undef) w') : WL P N ops (o :: l) f w Q :=
 .enterP hg hd hn (run_callOp ho ha hc.ok) hc.calls (fun v w' hR => h v w' hR.2 (hS.upd0 hR.1)) (fun c w' hs => hx c w' hs.2 (hS.upd0 hs.1))
abbrev ocC (b : Nat) (o : Obj) : Chunk := .obj [b] fun w => w.heap[b]? = some o
theorem ocC_holds {b : Nat} {o : Obj} {w : World} (h : w.heap[b]? = some o) : (ocC b o).holds w := ⟨h, fun w w' hs e => (hs b (by simp)).trans e⟩
abbrev recL (st : LoopState) (pend : Option Code) (fn : FuncId) (tm : Array Value) (ps : Array Tmp) (assign body : Code) (db : Nat) : Obj := .loop { state := st, pending := pend, fn, tmps := tm, params := ps, assign, body, defers := db }
section
variable {P : Program} {w w0 : World} {M : List Nat} {H H' : List Chunk} {Z : List Snap} {fn : FuncId} {tm : Array Value} {ps : Array Tmp} {assign body : Code} {l db : Nat}
theorem St.newObj (hS : St w0 M w H Z) (o : Obj) : St w0 M (w.alloc o) (ocC w.heap.size o :: H) Z :=
 hS.push (.alloc _ _ _) (ocC_holds (heap_alloc_new w o)) fun b hb => by
  have : b = w.heap.size := by simpa [Chunk.fp] using hb
  subst this; simp
theorem St.layL (hS : St w0 M w H Z) : St w0 M (layL w fn tm ps assign body) (ocC (w.heap.size + 1) (recL .ready none fn tm ps assign body w.heap.size) :: ocC w.heap.size (.deferred (some [])) :: H) Z := by
 have h := (hS.newObj (.deferred (some []))).newObj (recL .ready none fn tm ps assign body w.heap.size)
 rw [World.size_alloc] at h
 exact h
theorem putObj_upd (w : World) (l : Nat) (o : Obj) : Upd [l] w (w.putObj l o) :=
 ⟨rfl, rfl, rfl, by simp, fun k _ hk => World.putObj_heap_other (fun e => hk (by simp [e]))⟩
theorem St.putObj {o o' : Obj} (hS : St w0 M w H Z) (hr : Repl (ocC l o) (ocC l o') H H') : St w0 M (w.putObj l o') H' Z := by
 have hh : w.heap[l]? = some o := (hS.holds _ hr.mem).1
 exact hS.step hr (putObj_upd _ _ _) (ocC_holds (World.putObj_heap_same (Array.getElem?_eq_some_iff.1 hh).1)) fun b hb => .inl hb
theorem St.heapOf {o : Obj} (hS : St w0 M w H Z) (hm : ocC l o ∈ H) : w.heap[l]? = some o := (hS.holds _ hm).1
theorem getD_set2 {tm : Array Value} {n p1 p2 : Nat} {v1 v2 : Value} {f : Fr} (hn : tm.size = n) (hf : ∀ i, tm.getD i undef = f i) (h1 : p1 < n) (h2 : p2 < n) :
  ∀ i, ((tm.setIfInBounds p1 v1).setIfInBounds p2 v2).getD i undef = up (up f p1 v1) p2 v2 i := by
 intro i
 have hs : ∀ (t : Array Value) (g : Fr) (p : Nat) (v : Value), p < t.size → (∀ i, t.getD i undef = g i) → ∀ i, (t.setIfInBounds p v).getD i undef = up g p v i := by
  intro t g p v hp hg i
  unfold up
  by_cases e : i = p
  ·subst e
   have : Nat.beq i i = true := by simp
   rw [this]
   simp [hp]
  ·have : Nat.beq i p = false := by
    cases hb : Nat.beq i p with
    |false => rfl
    |true => exact absurd (Nat.eq_of_beq_eq_true hb) e
   rw [this]
   have := hg i
   simp only [Array.getD_eq_getD_getElem?] at this ⊢
   rw [Array.getElem?_setIfInBounds_ne Zo]
   exact this
 exact hs _ _ _ _ (by simp; omega) (hs _ _ _ _ Zo hf) i
theorem yield2 {n p1 p2 : Nat} {F0 : Func} {f : Fr} {v1 v2 : Value} {R : Ending → World → Prop} (hl : w.heap[l]? = some (recL .ready none fn tm #[p1, p2] assign body db)) (hfn : P.funcs[fn]? = some F0) (hn : tm.size = n) (hf : ∀ i, tm.getD i undef = f i) (h1 : p1 < n) (h2 : p2 < n)
  (h : WC P (Nrd n l) assign (up (up f p1 v1) p2 v2) w (asgR P (Nrd n l) l body R)) :
  ∃ fn tm assign body, (Instr.yield l ⟨[v1, v2]⟩).run P w = .ok (.round l fn tm assign body) w ∧ RoundIn FW 0 P l fn tm assign body w R := by
 have hy := run_yield (P := P) (args := ⟨[v1, v2]⟩) hl rfl
 refine ⟨fn, _, assign, body, hy, roundIn_walk hfn ?_ ?_ h⟩
 ·simp [hn]
 ·intro i
  have := getD_set2 (v1 := v1) (v2 := v2) hn hf h1 h2 i
  simpa using this
theorem run_begin (hS : St w0 M w H Z) (hr : Repl (ocC l (recL .ready none fn tm ps assign body db)) (ocC l (recL .busy none fn tm ps assign body db)) H H') : ∃ w2, (Instr.beginRound l).run P w = .ok () w2 ∧ St w0 M w2 H' Z :=
 ⟨_, run_beginRound (hS.heapOf hr.mem) rfl, hS.putObj hr⟩
theorem run_endN (hS : St w0 M w H Z) (hr : Repl (ocC l (recL .busy none fn tm ps assign body db)) (ocC l (recL .ready none fn tm ps assign body db)) H H') : ∃ w2, (Instr.endRound l none).run P w = .ok (.bool true) w2 ∧ St w0 M w2 H' Z :=
 ⟨_, run_endRound none (hS.heapOf hr.mem), hS.putObj hr⟩
theorem run_endAll {st : LoopState} {pend : Option Code} (hb : st ≠ .busy) (hS : St w0 M w H Z) (hr : Repl (ocC l (recL st pend fn tm ps assign body db)) (ocC l (recL .exhausted pend fn tm ps assign body db)) H H') : ∃ w2, (Instr.endLoop l).run P w = .ok pend w2 ∧ St w0 M w2 H' Z :=
 ⟨_, run_endLoop (hS.heapOf hr.mem) hb, hS.putObj hr⟩
theorem run_take (hS : St w0 M w H Z) (hr : Repl (ocC l (.deferred (some []))) (ocC l (.deferred none)) H H') : ∃ w2, (Instr.takeDeferred l).run P w = .ok [] w2 ∧ St w0 M w2 H' Z :=
 ⟨_, run_takeDeferred (hS.heapOf hr.mem), hS.putObj hr⟩
end
theorem rangeAt_of {P : Program} {N : Fz} {f : Fr} {w w0 : World} {M : List Nat} {H : List Chunk} {Z : List Snap} {Q : Exit → Act → World → Prop} {rest assign body : Code} {g : Operand} {ps : Array Tmp} {gf : FuncId} {cap : Array Value} (hS : St w0 M w H Z) (hg : ev f g = .func (.func gf) #[] cap) (hok : callOk P gf = true)
  (h : ∀ (db : Nat) (fn : FuncId) (F0 : Func) (tm : Array Value) (w2 : World) (RC : LoopState → Option Code → Obj), P.funcs[fn]? = some F0 → tm.size = N.n → (∀ i, tm.getD i undef = f i) → (RC = fun st pend => recL st pend fn tm ps assign body db) → St w0 M w2 (ocC (db + 1) (RC .ready none) :: ocC db (.deferred (some [])) :: H) Z →
   Calls P gf (#[.func (.yield (db + 1)) #[] #[]] ++ cap) w2 (endR P { N with ds := markD db :: N.ds } (db + 1) f rest Q)) : rangeAt P N g ps assign body rest Q .normal f w :=
 ⟨gf, cap, hg, hok, fun fn F0 tm hfn htn htf => h w.heap.size fn F0 tm _ _ hfn htn htf rfl hS.layL⟩
section
variable {P : Program} {w w0 : World} {M : List Nat} {H H' : List Chunk} {Z : List Snap} {fn : FuncId} {tm : Array Value} {ps : Array Tmp} {assign body : Code} {l db : Nat} {RC : LoopState → Option Code → Obj} (hRC : RC = fun st pend => recL st pend fn tm ps assign body db)
include hRC
theorem rc_begin (hS : St w0 M w H Z) (hr : Repl (ocC l (RC .ready none)) (ocC l (RC .busy none)) H H') : ∃ w2, (Instr.beginRound l).run P w = .ok () w2 ∧ St w0 M w2 H' Z := by subst hRC; exact run_begin hS hr
theorem rc_endN (hS : St w0 M w H Z) (hr : Repl (ocC l (RC .busy none)) (ocC l (RC .ready none)) H H') : ∃ w2, (Instr.endRound l none).run P w = .ok (.bool true) w2 ∧ St w0 M w2 H' Z := by subst hRC; exact run_endN hS hr
theorem rc_endAll {st : LoopState} {pend : Option Code} (hb : st ≠ .busy) (hS : St w0 M w H Z) (hr : Repl (ocC l (RC st pend)) (ocC l (RC .exhausted pend)) H H') : ∃ w2, (Instr.endLoop l).run P w = .ok pend w2 ∧ St w0 M w2 H' Z := by subst hRC; exact run_endAll hb hS hr
end
end Go.J

namespace Go.Proofs.YtccfiohagbneaaaGreatDoor
open Go Go.J Go.RowKit
theorem backE_c (A : Option Addr) (n cap : Nat) (w0 : World) : Cal Tryz.prog 159 [.slice A n cap] w0 (fun v w' => ∃ b, v = .func (.func 188) #[] ⟨[.pointer (some ⟨b, 0, none⟩)]⟩ ∧ MutL w0 w' [] [.box b 84 [.slice A n cap]]) := by
 refine Cal.mkL (D := []) ⟨by simp, by simp, by simp⟩ Zk Tryz.func159 rfl rfl fun hS => ?_
 repeat' (first | (show WL _ _ _ _ _ _ _; first | refine WL.pure rfl rfl rfl rfl ?_ | refine WL.nil ?_ | (refine WL.box hS rfl rfl rfl rfl rfl ?_; intro w b hS)) | (show WC _ _ _ _ _ _; first | refine WC.seq ?_ | refine WC.region ?_ | refine WC.ret ?_) | refine seqQ_n ?_)
 exact fin1r rfl rfl ⟨_, rfl, hS.mutLp Pu⟩
theorem backInE_c {b l cap : Nat} {A : Option Addr} {t : List Ent} {I : Nat → World → Prop} {X : World → Prop} {S : List PanicEntry → World → Prop} {w0 : World} (hl : t.length ≤ 1048576)
  (hb : ∀ k w, I k w → w.heap[b]? = some (.cells ⟨[.slice A t.length cap]⟩ 84 (0, 0))) (hA : ∀ k w, I k w → SlAt cEnt (Old w) w A t)
  (hr : ∀ k (h : k < t.length) w, I (k + 1) w → ∃ fn tm assign body, (Instr.yield l ⟨[.int .i64 (k : Int), .agg ⟨encEnt t[k]⟩]⟩).run Tryz.prog w = .ok (.round l fn tm assign body) w ∧ RoundIn FW 0 Tryz.prog l fn tm assign body w fun e w' => match e with
   |.returned v => (v = .bool true ∧ I k w') ∨ (v = .bool false ∧ X w')
   |.panicked c => S c w'
   |.outgrown => False)
  (h0 : I t.length w0) : Calls Tryz.prog 188 ⟨[.func (.yield l) #[] #[], .pointer (some ⟨b, 0, none⟩)]⟩ w0 (RetP (fun _ w' => I 0 w' ∨ X w') S) := by
 refine J.calls Tryz.func188 rfl rfl ?_
 have hS := St.init w0
 have hb0 := hb _ _ h0
 repeat' (first | (show WL _ _ _ _ _ _ _; first | refine WL.pure rfl rfl rfl rfl ?_ | refine WL.nil ?_ | refine WL.sub rfl rfl rfl Zo rfl rfl rfl ?_ | (refine WL.load hS rfl rfl (LdOk.old hb0 (by repeat (first | exact Zh | apply List.Mem.tail)) rfl) rfl rfl rfl ?_)) | (show WC _ _ _ _ _ _; first | refine WC.seq ?_ | refine WC.region ?_ | refine WC.block ?_) | refine seqQ_n ?_)
 refine WC.loop (σ := Nat) [0, 1] (fun k => [(3, .int .i64 ((k : Int) - 1))]) (fun k w => k ≤ t.length ∧ I k w) (fun k => k) t.length ⟨Nat.le_refl _, h0⟩ ⟨rfl, trivial⟩ ?_
 clear hS hb0 h0
 rintro k g w ⟨hk, hI⟩
 show WC _ _ _ (lf _ [(3, .int .i64 ((k : Int) - 1))] _ _) _ _
 have hS := St.init w
 rcases k with _ | k
 ·repeat' (first | (show WL _ _ _ _ _ _ _; first | refine WL.pure rfl rfl rfl rfl ?_ | refine WL.nil ?_) | (show WC _ _ _ _ _ _; first | refine WC.seq ?_ | refine WC.region ?_ | refine WC.exit ?_ | refine WC.condF rfl Zd ?_) | refine seqQ_n ?_ | refine seqQ_x ?_ | refine blkQ_hit rfl ?_ | refine rndQ_x ?_)
  exact finR (fin0n rfl (.inl hI))
 ·have e : (((k + 1 : Nat) : Int) - 1) = (k : Int) := Zo
  rw [e]
  have hkl : k < t.length := hk
  have hb1 := hb _ _ hI
  obtain ⟨rb, ro, es, rfl, hF, hrr, hes⟩ := (hA _ _ hI).at_ hkl
  have hes : es = encEnt t[k] := hes
  subst hes
  have hrr : w.rangeAt rb (ro + k * cEnt.sz) (encEnt t[k]) := hrr
  obtain ⟨fn, tm, assign, body, hy, hR⟩ := hr k hkl w hI
  generalize t[k] = x at *
  repeat' (first | (show WL _ _ _ _ _ _ _; first | refine WL.pure rfl rfl rfl rfl ?_ | refine WL.nil ?_ | (refine WL.load hS rfl rfl (LdOk.old hb1 (by repeat (first | exact Zh | apply List.Mem.tail)) rfl) rfl rfl rfl ?_) | (refine WL.load hS rfl rfl (LdOk.snap0 hF hrr (by repeat (first | exact Zh | apply List.Mem.tail)) rfl) rfl rfl rfl ?_) | refine WL.index rfl rfl rfl rfl Zw rfl rfl rfl rfl ?_) | (show WC _ _ _ _ _ _; first | (refine WC.regY (x := .tmp 11) (n := 6) rfl rfl rfl rfl rfl rfl ?_; show WL _ _ _ [_, _, _, _, _, _] _ _ _) | refine WC.seq ?_ | refine WC.region ?_ | refine WC.block ?_ | refine WC.skip ?_ | refine WC.condT rfl (decide_eq_true Zw) ?_) | refine seqQ_n ?_)
  refine ⟨l, fn, tm, assign, body, rfl, hy, hR.mono fun e w' he => ?_⟩
  cases e with
  |returned v =>
   show WL _ _ _ [_] _ _ _
   rcases he with ⟨rfl, hI2⟩ | ⟨rfl, hX⟩
   ·repeat' (first | (show WL _ _ _ _ _ _ _; first | refine WL.pure rfl rfl rfl rfl ?_ | refine WL.nil ?_ | refine WL.sub rfl rfl rfl Zo rfl rfl rfl ?_) | (show WC _ _ _ _ _ _; first | refine WC.region ?_ | refine WC.skip ?_ | refine WC.condF rfl Zd ?_) | refine seqQ_n ?_ | refine blkQ_n ?_)
    exact rndQ_n k ⟨Zo, hI2⟩ Zo ⟨vint Zo, trivial⟩ ⟨rfl, rfl, trivial⟩
   ·repeat' (first | (show WL _ _ _ _ _ _ _; first | refine WL.pure rfl rfl rfl rfl ?_ | refine WL.nil ?_) | (show WC _ _ _ _ _ _; first | refine WC.ret ?_ | refine WC.condT rfl Zd ?_) | refine seqQ_n ?_ | refine seqQ_r ?_ | refine blkQ_r ?_ | refine rndQ_r ?_)
    exact finR (fin0r rfl (.inr hX))
  |panicked c => exact seqQ_p (blkQ_p (seqQ_p (rndQ_p (blkQ_p (finP he)))))
  |outgrown => exact he.elim
theorem backA_c (A : Option Addr) (n cap : Nat) (w0 : World) : Cal Tryz.prog 113 [.slice A n cap] w0 (fun v w' => ∃ b, v = .func (.func 164) #[] ⟨[.pointer (some ⟨b, 0, none⟩)]⟩ ∧ MutL w0 w' [] [.box b 88 [.slice A n cap]]) := by
 refine Cal.mkL (D := []) ⟨by simp, by simp, by simp⟩ Zk Tryz.func113 rfl rfl fun hS => ?_
 repeat' (first | (show WL _ _ _ _ _ _ _; first | refine WL.pure rfl rfl rfl rfl ?_ | refine WL.nil ?_ | (refine WL.box hS rfl rfl rfl rfl rfl ?_; intro w b hS)) | (show WC _ _ _ _ _ _; first | refine WC.seq ?_ | refine WC.region ?_ | refine WC.ret ?_) | refine seqQ_n ?_)
 exact fin1r rfl rfl ⟨_, rfl, hS.mutLp Pu⟩
theorem backInA_c {b l cap : Nat} {A : Option Addr} {t : List Ac} {I : Nat → World → Prop} {X : World → Prop} {S : List PanicEntry → World → Prop} {w0 : World} (hl : t.length ≤ 1048576)
  (hb : ∀ k w, I k w → w.heap[b]? = some (.cells ⟨[.slice A t.length cap]⟩ 88 (0, 0))) (hA : ∀ k w, I k w → SlAt cAc (Old w) w A t)
  (hr : ∀ k (h : k < t.length) w, I (k + 1) w → ∃ fn tm assign body, (Instr.yield l ⟨[.int .i64 (k : Int), .agg ⟨encAc t[k]⟩]⟩).run Tryz.prog w = .ok (.round l fn tm assign body) w ∧ RoundIn FW 0 Tryz.prog l fn tm assign body w fun e w' => match e with
   |.returned v => (v = .bool true ∧ I k w') ∨ (v = .bool false ∧ X w')
   |.panicked c => S c w'
   |.outgrown => False)
  (h0 : I t.length w0) : Calls Tryz.prog 164 ⟨[.func (.yield l) #[] #[], .pointer (some ⟨b, 0, none⟩)]⟩ w0 (RetP (fun _ w' => I 0 w' ∨ X w') S) := by
 refine J.calls Tryz.func164 rfl rfl ?_
 have hS := St.init w0
 have hb0 := hb _ _ h0
 repeat' (first | (show WL _ _ _ _ _ _ _; first | refine WL.pure rfl rfl rfl rfl ?_ | refine WL.nil ?_ | refine WL.sub rfl rfl rfl Zo rfl rfl rfl ?_ | (refine WL.load hS rfl rfl (LdOk.old hb0 (by repeat (first | exact Zh | apply List.Mem.tail)) rfl) rfl rfl rfl ?_)) | (show WC _ _ _ _ _ _; first | refine WC.seq ?_ | refine WC.region ?_ | refine WC.block ?_) | refine seqQ_n ?_)
 refine WC.loop (σ := Nat) [0, 1] (fun k => [(3, .int .i64 ((k : Int) - 1))]) (fun k w => k ≤ t.length ∧ I k w) (fun k => k) t.length ⟨Nat.le_refl _, h0⟩ ⟨rfl, trivial⟩ ?_
 clear hS hb0 h0
 rintro k g w ⟨hk, hI⟩
 show WC _ _ _ (lf _ [(3, .int .i64 ((k : Int) - 1))] _ _) _ _
 have hS := St.init w
 rcases k with _ | k
 ·repeat' (first | (show WL _ _ _ _ _ _ _; first | refine WL.pure rfl rfl rfl rfl ?_ | refine WL.nil ?_) | (show WC _ _ _ _ _ _; first | refine WC.seq ?_ | refine WC.region ?_ | refine WC.exit ?_ | refine WC.condF rfl Zd ?_) | refine seqQ_n ?_ | refine seqQ_x ?_ | refine blkQ_hit rfl ?_ | refine rndQ_x ?_)
  exact finR (fin0n rfl (.inl hI))
 ·have e : (((k + 1 : Nat) : Int) - 1) = (k : Int) := Zo
  rw [e]
  have hkl : k < t.length := hk
  have hb1 := hb _ _ hI
  obtain ⟨rb, ro, es, rfl, hF, hrr, hes⟩ := (hA _ _ hI).at_ hkl
  have hes : es = encAc t[k] := hes
  subst hes
  have hrr : w.rangeAt rb (ro + k * cAc.sz) (encAc t[k]) := hrr
  obtain ⟨fn, tm, assign, body, hy, hR⟩ := hr k hkl w hI
  generalize t[k] = x at *
  repeat' (first | (show WL _ _ _ _ _ _ _; first | refine WL.pure rfl rfl rfl rfl ?_ | refine WL.nil ?_ | (refine WL.load hS rfl rfl (LdOk.old hb1 (by repeat (first | exact Zh | apply List.Mem.tail)) rfl) rfl rfl rfl ?_) | (refine WL.load hS rfl rfl (LdOk.snap0 hF hrr (by repeat (first | exact Zh | apply List.Mem.tail)) rfl) rfl rfl rfl ?_) | refine WL.index rfl rfl rfl rfl Zw rfl rfl rfl rfl ?_) | (show WC _ _ _ _ _ _; first | (refine WC.regY (x := .tmp 11) (n := 6) rfl rfl rfl rfl rfl rfl ?_; show WL _ _ _ [_, _, _, _, _, _] _ _ _) | refine WC.seq ?_ | refine WC.region ?_ | refine WC.block ?_ | refine WC.skip ?_ | refine WC.condT rfl (decide_eq_true Zw) ?_) | refine seqQ_n ?_)
  refine ⟨l, fn, tm, assign, body, rfl, hy, hR.mono fun e w' he => ?_⟩
  cases e with
  |returned v =>
   show WL _ _ _ [_] _ _ _
   rcases he with ⟨rfl, hI2⟩ | ⟨rfl, hX⟩
   ·repeat' (first | (show WL _ _ _ _ _ _ _; first | refine WL.pure rfl rfl rfl rfl ?_ | refine WL.nil ?_ | refine WL.sub rfl rfl rfl Zo rfl rfl rfl ?_) | (show WC _ _ _ _ _ _; first | refine WC.region ?_ | refine WC.skip ?_ | refine WC.condF rfl Zd ?_) | refine seqQ_n ?_ | refine blkQ_n ?_)
    exact rndQ_n k ⟨Zo, hI2⟩ Zo ⟨vint Zo, trivial⟩ ⟨rfl, rfl, trivial⟩
   ·repeat' (first | (show WL _ _ _ _ _ _ _; first | refine WL.pure rfl rfl rfl rfl ?_ | refine WL.nil ?_) | (show WC _ _ _ _ _ _; first | refine WC.ret ?_ | refine WC.condT rfl Zd ?_) | refine seqQ_n ?_ | refine seqQ_r ?_ | refine blkQ_r ?_ | refine rndQ_r ?_)
    exact finR (fin0r rfl (.inr hX))
  |panicked c => exact seqQ_p (blkQ_p (seqQ_p (rndQ_p (blkQ_p (finP he)))))
  |outgrown => exact he.elim
end Go.Proofs.YtccfiohagbneaaaGreatDoor

namespace Go.J
open Go Go.Lib
def digB (c : UInt8) : Bool := decide (48 ≤ c.toNat ∧ c.toNat ≤ 57)
def valE (s : List UInt8) : Nat := s.foldl (fun n c => 10 * n + (c.toNat - 48)) 0
open Go Go.RowKit
abbrev PK := List UInt8 × Int
abbrev pk (x : PK) : Value := .agg ⟨[str x.1, .int .i64 x.2]⟩
section
variable {β γ : Type}
def mgetP : List (PK × β) → PK → Option β
 |[], _ => none
 |(k, v) :: r, x => if x = k then some v else mgetP r x
def msetP : List (PK × β) → PK → β → List (PK × β)
 |[], x, v => [(x, v)]
 |(k, u) :: r, x, v => if x = k then (k, v) :: r else (k, u) :: msetP r x v
def mdelP : List (PK × β) → PK → List (PK × β)
 |[], _ => []
 |(k, u) :: r, x => if x = k then r else (k, u) :: mdelP r x
def mmapP (f : β → γ) (m : List (PK × β)) : List (PK × γ) := m.map fun p => (p.1, f p.2)
theorem mget_mapP (f : β → γ) (x : PK) : ∀ m : List (PK × β), mgetP (mmapP f m) x = (mgetP m x).map f
 |[] => rfl
 |(k, v) :: r => by
  have := mget_mapP f x r
  unfold mmapP at this ⊢
  simp only [List.map_cons, mgetP]
  split
  ·rfl
  ·exact this
theorem mset_mapP (f : β → γ) (x : PK) (v : β) : ∀ m : List (PK × β), msetP (mmapP f m) x (f v) = mmapP f (msetP m x v)
 |[] => rfl
 |(k, u) :: r => by
  have := mset_mapP f x v r
  unfold mmapP at this ⊢
  simp only [List.map_cons, msetP]
  split
  ·rfl
  ·simp [this]
theorem mset_keysP (m : List (PK × β)) (x : PK) (v : β) : (msetP m x v).map Prod.fst = if x ∈ m.map Prod.fst then m.map Prod.fst else m.map Prod.fst ++ [x] := by
 induction m with
 |nil => simp [msetP]
 |cons p r ih =>
  obtain ⟨k, u⟩ := p
  simp only [msetP]
  split
  ·rename_i h; subst h; simp
  ·rename_i h
   rw [List.map_cons, ih]
   by_cases h2 : x ∈ r.map Prod.fst
   ·rw [if_pos h2, if_pos (by simp only [List.map_cons, List.mem_cons]; exact .inr h2)]; rfl
   ·rw [if_neg h2, if_neg (by simp only [List.map_cons, List.mem_cons, not_or]; exact ⟨h, h2⟩)]; rfl
theorem mset_nodupP {m : List (PK × β)} (h : (m.map Prod.fst).Nodup) (x : PK) (v : β) : ((msetP m x v).map Prod.fst).Nodup := by
 rw [mset_keysP]
 split
 ·exact h
 ·rename_i h2
  rw [List.nodup_append]
  exact ⟨h, by simp, fun a ha b hb => by simp at hb; subst hb; rintro rfl; exact h2 ha⟩
theorem mdel_subP (m : List (PK × β)) (x : PK) : (mdelP m x).Sublist m := by
 induction m with
 |nil => exact .slnil
 |cons p r ih =>
  obtain ⟨k, u⟩ := p
  simp only [mdelP]
  split
  ·exact List.sublist_cons_self _ _
  ·exact ih.cons_cons _
theorem mdel_nodupP {m : List (PK × β)} (h : (m.map Prod.fst).Nodup) (x : PK) : ((mdelP m x).map Prod.fst).Nodup := h.sublist ((mdel_subP m x).map _)
theorem mget_setP (m : List (PK × β)) (x y : PK) (v : β) : mgetP (msetP m x v) y = if y = x then some v else mgetP m y := by
 induction m with
 |nil => simp [msetP, mgetP]
 |cons p r ih =>
  obtain ⟨k, u⟩ := p
  simp only [msetP]
  split
  ·rename_i h; subst h
   simp only [mgetP]
   split <;> rfl
  ·rename_i h
   simp only [mgetP, ih]
   split
   ·rename_i h2; subst h2; rw [if_neg (Ne.symm h)]
   ·rfl
end
abbrev KVP := List (PK × Value)
def kvsP (es : List MapEntry) : List (Value × Value) := es.map fun e => (e.key, e.val)
def kvmP (m : KVP) : List (Value × Value) := m.map fun p => (pk p.1, p.2)
def MapIsP (b : Nat) (m : KVP) (w : World) : Prop := (m.map Prod.fst).Nodup ∧ ∃ es clock, w.heap[b]? = some (.map ⟨es⟩ clock) ∧ kvsP es = kvmP m ∧ (es.map (·.born)).Nodup ∧ ∀ e ∈ es, e.born < clock
theorem MapIsP.local {b : Nat} {m : KVP} : Local [b] (MapIsP b m) := fun w w' h ⟨h0, es, c, e, r⟩ => ⟨h0, es, c, (h b (by simp)).trans e, r⟩
abbrev mapCP (b : Nat) (m : KVP) : Chunk := .obj [b] (MapIsP b m)
theorem mapC_holdsP {b : Nat} {m : KVP} {w : World} (h : MapIsP b m w) : (mapCP b m).holds w := ⟨h, MapIsP.local⟩
structure KeyTy (P : Program) (k : TypeId) : Prop where
 eq : ∀ a b : PK, eqV P 5 k (pk a) (pk b) = some (decide (a.1 = b.1) && decide (a.2 = b.2))
 ok : eqOk P 5 k = true
 agg : ∃ fs, P.underlying k = some (.struct fs)
 ck : ∀ (a : PK) (em : Bool) (w : World), (Instr.checkKey em 10000 k (pk a)).run P w = .ok () w
theorem same_pk {P : Program} {k : TypeId} (h : KeyTy P k) (a b : PK) (w : World) : (Op.equal k (pk a) (pk b)).run P w = .ok (decide (a = b)) w := by
 have h1 : (Op.equalIn 10000 k (pk a) (pk b)).run P w = .ok (decide (a.1 = b.1) && decide (a.2 = b.2)) w := eqV_spec 9995 w 5 (h.eq a b) h.ok
 have h2 : (decide (a.1 = b.1) && decide (a.2 = b.2)) = decide (a = b) := by
  obtain ⟨a1, a2⟩ := a; obtain ⟨b1, b2⟩ := b
  simp only [Prod.mk.injEq, Bool.decide_and]
 rw [h2] at h1; exact h1
theorem find_specP {P : Program} {kt : TypeId} (hk : KeyTy P kt) (x : PK) (w : World) : ∀ (es : List MapEntry) (m : KVP) (i : Nat), kvsP es = kvmP m →
  (mgetP m x = none ∧ (Instr.findAsking kt (pk x) es i).run P w = .ok none w ∧ (∀ u, msetP m x u = m ++ [(x, u)]) ∧ mdelP m x = m) ∨
  ∃ v j e, mgetP m x = some v ∧ (Instr.findAsking kt (pk x) es i).run P w = .ok (some (i + j, v)) w ∧ es[j]? = some e ∧ e.key = pk x ∧ e.val = v ∧ (∀ u, kvsP (es.modify j fun e => { e with key := pk x, val := u }) = kvmP (msetP m x u)) ∧ kvsP (es.eraseIdx j) = kvmP (mdelP m x)
 |[], [], i, _ => .inl ⟨rfl, rfl, fun _ => rfl, rfl⟩
 |[], _ :: _, i, h => by simp [kvsP, kvmP] at h
 |_ :: _, [], i, h => by simp [kvsP, kvmP] at h
 |e :: es, (k, v) :: m, i, h => by
  simp only [kvsP, kvmP, List.map_cons, List.cons.injEq, Prod.mk.injEq] at h
  obtain ⟨⟨h1, h2⟩, h3⟩ := h
  by_cases hx : x = k
  ·subst hx
   refine .inr ⟨v, 0, e, by simp [mgetP], ?_, rfl, h1, h2, fun u => ?_, ?_⟩
   ·simp only [Instr.findAsking, h1, Sem.run_bind, same_pk hk, decide_true, Result.andThen_ok, if_true, h2, Nat.add_zero, Sem.run_pure]
   ·simp only [List.modify_zero_cons, msetP, if_true, kvsP, kvmP, List.map_cons]
    rw [h3]
   ·simp only [List.eraseIdx_zero, List.tail_cons, mdelP, if_true]; exact h3
  ·have hf : (Instr.findAsking kt (pk x) (e :: es) i).run P w = (Instr.findAsking kt (pk x) es (i + 1)).run P w := by
    simp only [Instr.findAsking, h1, Sem.run_bind, same_pk hk, decide_eq_false hx, Result.andThen_ok]; rfl
   rcases find_specP hk x w es m (i + 1) h3 with ⟨h4, h5, h6, h7⟩ | ⟨u, j, e', h4, h5, h6, h7, h8, h9, h10⟩
   ·refine .inl ⟨by simp [mgetP, hx, h4], by rw [hf, h5], fun u => by simp [msetP, hx, h6], by simp [mdelP, hx, h7]⟩
   ·refine .inr ⟨u, j + 1, e', by simp [mgetP, hx, h4], by rw [hf, h5, Nat.add_right_comm i 1 j]; rfl, by simpa using h6, h7, h8, fun y => ?_, ?_⟩
    ·simp only [List.modify_succ_cons, msetP, if_neg hx, kvsP, kvmP, List.map_cons, h1, h2]
     have := h9 y; unfold kvsP kvmP at this; rw [this]
    ·simp only [List.eraseIdx_cons_succ, mdelP, if_neg hx, kvsP, kvmP, List.map_cons, h1, h2]
     have := h10; unfold kvsP kvmP at this; rw [this]
def mapOfP (P : Program) (t : TypeId) : Option (TypeId × Value) := match P.underlying t with
 |some (.map k e) => match tyZero P e with
   |some z => some (k, z)
   |none => none
 |_ => none
theorem mapOf_specP {P : Program} {t k : TypeId} {z : Value} (h : mapOfP P t = some (k, z)) : ∃ e, P.underlying t = some (.map k e) ∧ tyZero P e = some z := by
 unfold mapOfP at h
 split at h
 ·rename_i k' e hu
  split at h
  ·rename_i z' hz
   simp only [Option.some.injEq, Prod.mk.injEq] at h
   obtain ⟨rfl, rfl⟩ := h
   exact ⟨e, hu, hz⟩
  ·cases h
 ·cases h
section
variable {P : Program} {w : World} {ρ : Operand → Value} {o : Oper}
theorem run_getMapP {b clock : Nat} {es : List MapEntry} (hb : w.heap[b]? = some (.map ⟨es⟩ clock)) : (getObj b).run P w = .ok (.map ⟨es⟩ clock) w := by simp [getObj, Sem.run, hb]
theorem run_setMapP {b clock : Nat} {es : List MapEntry} (hb : w.heap[b]? = some (.map ⟨es⟩ clock)) (ob : Obj) : (setObj b ob).run P w = .ok () { w with heap := w.heap.setIfInBounds b ob } := by simp [setObj, Sem.run, hb]
theorem run_findKeyP {k : TypeId} {x : PK} {es : List MapEntry} {r : Option (Nat × Value)} (hk : KeyTy P k) (hf : (Instr.findAsking k (pk x) es 0).run P w = .ok r w) : (Instr.findKey k (pk x) es).run P w = .ok r w := by
 obtain ⟨fs, hu⟩ := hk.agg
 cases es with
 |nil =>
  have hf : r = none := by simpa [Instr.findAsking] using hf.symm
  subst hf
  simp only [Instr.findKey, Sem.run_bind, run_underlying hu, Result.andThen_ok, Instr.findNow]; rfl
 |cons e es => simp only [Instr.findKey, Sem.run_bind, run_underlying hu, Result.andThen_ok, Instr.findNow, Instr.sameNow, hf]
def lookVP (z : Value) (m : KVP) (x : PK) (ok : Bool) : Value := match ok with
 |true => .tuple #[(mgetP m x).getD z, .bool (mgetP m x).isSome]
 |false => (mgetP m x).getD z
theorem run_lookupP {t k : TypeId} {z : Value} {x i : Operand} {ok : Bool} {b : Nat} {m : KVP} {s : PK} (ho : o.op = .lookup t x i ok) (ht : mapOfP P t = some (k, z)) (hk : KeyTy P k) (hx : ρ x = .map (some b)) (hi : ρ i = pk s) (hm : MapIsP b m w) :
  (execOp ρ o).run P w = .ok (.value (lookVP z m s ok)) w := by
 obtain ⟨e, hu, hz⟩ := mapOf_specP ht
 obtain ⟨hnd, es, clock, hb, hkv, _, _⟩ := hm
 have hz := run_zero hz
 rcases find_specP hk s w es m 0 hkv with ⟨h1, h2, _⟩ | ⟨v, j, e', h1, h2, _⟩
 ·simp only [execOp, ho, hx, hi, Instr.lookup, Sem.run_bind, run_underlying hu, Result.andThen_ok, run_getMapP hb, hk.ck, run_findKeyP hk h2, hz, Sem.run_pure]
  cases ok <;> simp [lookVP, h1, Sem.run]
 ·simp only [execOp, ho, hx, hi, Instr.lookup, Sem.run_bind, run_underlying hu, Result.andThen_ok, run_getMapP hb, hk.ck, run_findKeyP hk h2, Sem.run_pure]
  cases ok <;> simp [lookVP, h1, Sem.run]
theorem sameBits_pk (s : PK) (n : Nat) : Instr.sameBits (n + 1) (pk s) (pk s) = true := by cases n <;> simp [pk, Instr.sameBits, ba_beq]
theorem run_mapUpdateP {t k : TypeId} {z u : Value} {b : Nat} {m : KVP} {s : PK} (ht : mapOfP P t = some (k, z)) (hk : KeyTy P k) (hm : MapIsP b m w) :
  ∃ ob, (Instr.mapUpdate t (.map (some b)) (pk s) u).run P w = .ok () { w with heap := w.heap.setIfInBounds b ob } ∧ MapIsP b (msetP m s u) { w with heap := w.heap.setIfInBounds b ob } := by
 obtain ⟨e, hu, hz⟩ := mapOf_specP ht
 obtain ⟨hnd, es, clock, hb, hkv, hbo, hcl⟩ := hm
 have hlt : b < w.heap.size := by
  rcases Nat.lt_or_ge b w.heap.size with h | h
  ·exact h
  ·rw [Array.getElem?_eq_none Zo] at hb; cases hb
 rcases find_specP hk s w es m 0 hkv with ⟨h1, h2, h3, _⟩ | ⟨v, j, e', h1, h2, h3, h4, h5, h6, _⟩
 ·refine ⟨_, by simp only [Instr.mapUpdate, Sem.run_bind, run_underlying hu, Result.andThen_ok, run_getMapP hb, hk.ck, run_findKeyP hk h2, Sem.run_pure]; exact run_setMapP hb _, mset_nodupP hnd _ _, es ++ [{ key := pk s, val := u, born := clock }], clock + 1, by simp [hlt], ?_, ?_, ?_⟩
  ·rw [h3]; simp only [kvsP, kvmP, List.map_append] at hkv ⊢; rw [hkv]; rfl
  ·rw [List.map_append, List.nodup_append]
   refine ⟨hbo, by simp, fun a ha b hb => ?_⟩
   simp at hb; subst hb
   obtain ⟨e, he, rfl⟩ := List.mem_map.1 ha
   have := hcl e he; omega
  ·intro e he
   rcases List.mem_append.1 he with he | he
   ·have := hcl e he; omega
   ·simp at he; subst he; show clock < clock + 1; omega
 ·simp only [Nat.zero_add] at h2
  have hkey : (((Array.mk es)[j]?).map (·.key)).getD (pk s) = pk s := by simp [h3, h4]
  refine ⟨.map ⟨es.modify j fun e => { e with key := pk s, val := u }⟩ clock, ?_, mset_nodupP hnd _ _, _, clock, by simp [hlt], h6 u, ?_, ?_⟩
  ·have hks : (Instr.keyThatStays (pk s) (pk s)).run P w = .ok (pk s) w := by
    unfold Instr.keyThatStays; rw [sameBits_pk]; rfl
   simp only [Instr.mapUpdate, Sem.run_bind, run_underlying hu, Result.andThen_ok, run_getMapP hb, hk.ck, run_findKeyP hk h2, hkey, hks]
   rw [run_setMapP hb]
   simp
  ·have : (es.modify j fun e => { e with key := pk s, val := u }).map (·.born) = es.map (·.born) := by
    apply List.ext_getElem?; intro i
    simp only [List.getElem?_map, List.getElem?_modify]
    split <;> simp_all
   rw [this]; exact hbo
  ·intro e he
   obtain ⟨i, hi, hge⟩ := List.mem_iff_getElem.1 he
   rw [List.getElem_modify] at hge
   split at hge
   ·subst hge; exact hcl (es[i]'(by simpa using hi)) (List.getElem_mem _)
   ·subst hge; exact hcl _ (List.getElem_mem _)
theorem run_deleteP {t k : TypeId} {z : Value} {b : Nat} {m : KVP} {s : PK} {t2 ty : TypeId} (ht : mapOfP P t = some (k, z)) (hk : KeyTy P k) (hm : MapIsP b m w) :
  ∃ ob, (Builtin.delete_ #[t, t2] ty #[.map (some b), pk s]).run P w = .ok (.tuple #[]) { w with heap := w.heap.setIfInBounds b ob } ∧ MapIsP b (mdelP m s) { w with heap := w.heap.setIfInBounds b ob } := by
 obtain ⟨e, hu, hz⟩ := mapOf_specP ht
 obtain ⟨hnd, es, clock, hb, hkv, hbo, hcl⟩ := hm
 have hlt : b < w.heap.size := by
  rcases Nat.lt_or_ge b w.heap.size with h | h
  ·exact h
  ·rw [Array.getElem?_eq_none Zo] at hb; cases hb
 rcases find_specP hk s w es m 0 hkv with ⟨h1, h2, _, h3⟩ | ⟨v, j, e', h1, h2, h3, h4, h5, _, h6⟩
 ·refine ⟨.map ⟨es⟩ clock, ?_, mdel_nodupP hnd _, es, clock, by simp [hlt], by rw [h3]; exact hkv, hbo, hcl⟩
  simp [Builtin.delete_, Sem.run_bind, run_underlying hu, run_getMapP hb, hk.ck, run_findKeyP hk h2, run_setMapP hb]
 ·simp only [Nat.zero_add] at h2
  refine ⟨.map ⟨es.eraseIdx j⟩ clock, ?_, mdel_nodupP hnd _, _, clock, by simp [hlt], h6, ?_, ?_⟩
  ·simp [Builtin.delete_, Sem.run_bind, run_underlying hu, run_getMapP hb, hk.ck, run_findKeyP hk h2, run_setMapP hb]
  ·exact hbo.sublist ((List.eraseIdx_sublist _ _).map _)
  ·exact fun e he => hcl e ((List.eraseIdx_sublist _ _).subset he)
end
structure MapOkP (H : List Chunk) (Z : List Snap) (b : Nat) (m : KVP) : Prop where
 out : ∀ w0 M w (Hn : List Chunk) (Zn : List Snap), St w0 M w (Hn ++ H) (Zn ++ Z) → MapIsP b m w
theorem MapOkP.mk' {H : List Chunk} {Z : List Snap} {b : Nat} {m : KVP} (hm : mapCP b m ∈ H) : MapOkP H Z b m :=
 ⟨fun w0 M w Hn Zn hS => (hS.holds _ (List.mem_append_right _ hm)).1⟩
theorem MapOkP.old {w0 : World} {H : List Chunk} {Z : List Snap} {b : Nat} {m : KVP} (h : MapIsP b m w0) (hz : Snap.mk w0 (Old w0) ∈ Z) : MapOkP H Z b m := by
 refine ⟨fun w1 M w Hn Zn hS => ?_⟩
 obtain ⟨h0, es, c, e, r⟩ := h
 have hlt : b < w0.heap.size := by
  rcases Nat.lt_or_ge b w0.heap.size with h2 | h2
  ·exact h2
  ·rw [Array.getElem?_eq_none Zo] at e; cases e
 exact ⟨h0, es, c, (hS.snap _ (List.mem_append_right _ hz) b hlt).2.1.trans e, r⟩
section
variable {P : Program} {N : Fz} {f : Fr} {w w0 : World} {Q : Post} {ops l : List Oper} {o : Oper} {M : List Nat} {H H' : List Chunk} {Z : List Snap} {ρ : Operand → Value}
theorem St.setMapP {b : Nat} {m m' : KVP} {ob : Obj} (hS : St w0 M w H Z) (hr : Repl (mapCP b m) (mapCP b m') H H') (h : MapIsP b m' { w with heap := w.heap.setIfInBounds b ob }) : St w0 M { w with heap := w.heap.setIfInBounds b ob } H' Z := by
 refine hS.step hr ⟨rfl, rfl, rfl, by simp, fun k hk hn => ?_⟩ (mapC_holdsP h) fun b hb => .inl hb
 have hne : k ≠ b := fun e => hn (by simp [Chunk.fp, e])
 show (w.heap.setIfInBounds b _)[k]? = _
 rw [Array.getElem?_setIfInBounds_ne Zo]
theorem WL.mgetP {t k : TypeId} {z v : Value} {x i : Operand} {ok : Bool} {b : Nat} {m : KVP} {s : PK} (hS : St w0 M w H Z) (ho : o.op = .lookup t x i ok) (ht : mapOfP P t = some (k, z)) (hk : KeyTy P k) (hx : ev f x = .map (some b)) (hi : ev f i = pk s) (hm : MapOkP H Z b m) (hv : lookVP z m s ok = v)
  (hg : wants ops f o = true) {d : Nat} (hd : o.dst = some d) (hn : N.ok d = true) (h : WL P N ops l (up f d v) w Q) : WL P N ops (o :: l) f w Q :=
 .val hg hd hn (hv ▸ run_lookupP ho ht hk hx hi (hm.out _ _ _ [] [] hS)) h
theorem WL.msetP {t k : TypeId} {z u : Value} {x i y : Operand} {b : Nat} {m : KVP} {s : PK} (hS : St w0 M w H Z) (ho : o.op = .mapUpdate t x i y ∨ o.op = .insert t x i y) (ht : mapOfP P t = some (k, z)) (hk : KeyTy P k) (hx : ev f x = .map (some b)) (hi : ev f i = pk s) (hy : nfv (ev f y) = some u)
  (hr : Repl (mapCP b m) (mapCP b (msetP m s u)) H H') (hg : wants ops f o = true) (hd : o.dst = none) (h : ∀ w', St w0 M w' H' Z → WL P N ops l f w' Q) : WL P N ops (o :: l) f w Q := by
 obtain ⟨ob, h1, h2⟩ := run_mapUpdateP (u := u) (s := s) ht hk (hS.holds _ hr.mem).1
 have hrun : (execOp (ev f) o).run P w = .ok .skip { w with heap := w.heap.setIfInBounds b ob } := by
  rcases ho with ho | ho <;> simp [execOp, ho, hx, hi, ← nfv_eq hy, Sem.run_bind, h1]
 exact .unit0 hg hd hrun (h _ (hS.setMapP hr h2))
theorem WL.mdelP {t k t2 : TypeId} {z : Value} {x i : Operand} {b : Nat} {m : KVP} {s : PK} (hS : St w0 M w H Z) (ho : o.op = .call ⟨.builtin .delete, ⟨[x, i]⟩, ⟨[t, t2]⟩⟩) (ht : mapOfP P t = some (k, z)) (hk : KeyTy P k) (hx : ev f x = .map (some b)) (hi : ev f i = pk s)
  (hr : Repl (mapCP b m) (mapCP b (mdelP m s)) H H') (hg : wants ops f o = true) {d : Nat} (hd : o.dst = some d) (hn : N.ok d = true) (h : ∀ w', St w0 M w' H' Z → WL P N ops l (up f d (.tuple #[])) w' Q) : WL P N ops (o :: l) f w Q := by
 obtain ⟨ob, h1, h2⟩ := run_deleteP (t2 := t2) (ty := o.type) (s := s) ht hk (hS.holds _ hr.mem).1
 have hrun : (execOp (ev f) o).run P w = .ok (.value (.tuple #[])) { w with heap := w.heap.setIfInBounds b ob } := by
  simp [execOp, ho, resolve, invoke, builtin, hx, hi, Sem.run_bind, h1]
 exact .val hg hd hn hrun (h _ (hS.setMapP hr h2))
theorem WL.mmakeP {t k : TypeId} {z : Value} (hS : St w0 M w H Z) (ho : o.op = .makeMap t none) (ht : mapOfP P t = some (k, z)) (hk : KeyTy P k) (hg : wants ops f o = true) {d : Nat} (hd : o.dst = some d) (hn : N.ok d = true)
  (h : ∀ w' b, St w0 M w' (mapCP b [] :: H) Z → WL P N ops l (up f d (.map (some b))) w' Q) : WL P N ops (o :: l) f w Q := by
 have hrun : (execOp (ev f) o).run P w = .ok (.value (.map (some w.heap.size))) (w.alloc (.map #[] 0)) := by
  simp only [execOp, ho, Instr.makeMap, Option.map_none, Sem.run_bind, newObj, Result.andThen_ok]
  rfl
 refine .val hg hd hn hrun (h _ _ (hS.push (.alloc _ _ _) (mapC_holdsP ⟨.nil, [], 0, heap_alloc_new w _, rfl, .nil, by simp⟩) fun b hb => ?_))
 have : b = w.heap.size := by simpa [Chunk.fp] using hb
 subst this; simp
end
section
variable {P : Program} {N : Fz} {f : Fr} {w w0 : World} {Q : Post} {ops : List Oper} {M : List Nat} {H0 H H' : List Chunk} {Z0 Z : List Snap} {q : Qs} {l : List Nat} {i : Nat}
theorem WD.mgetP {t k : TypeId} {z v : Value} {x y : Operand} {ok : Bool} {b : Nat} {m : KVP} {s : PK} (ho : (ix ops i).op = .lookup t x y ok) (ht : mapOfP P t = some (k, z)) (hk : KeyTy P k) (hx : ev f x = .map (some b)) (hi : ev f y = pk s) (hm : MapOkP H0 Z0 b m) (hv : lookVP z m s ok = v)
  (hq : q.contains i = true) (hg : wants ops f (ix ops i) = true) {d : Nat} (hd : (ix ops i).dst = some d) (hn : N.ok d = true) (h : WD P N (SS w0 M H0 Z0) ops q l (up f d v) w Q) : WD P N (SS w0 M H0 Z0) ops q (i :: l) f w Q :=
 .takeS hq (by unfold blind; rw [ho]) hd hn hg (fun w' ⟨Hn, Zn, hS⟩ => hv ▸ run_lookupP ho ht hk hx hi (hm.out _ _ _ Hn Zn hS)) h
end
open Go Go.RowKit
section
variable {β γ : Type}
def mgetI : List (Int × β) → Int → Option β
 |[], _ => none
 |(k, v) :: r, x => if x = k then some v else mgetI r x
def msetI : List (Int × β) → Int → β → List (Int × β)
 |[], x, v => [(x, v)]
 |(k, u) :: r, x, v => if x = k then (k, v) :: r else (k, u) :: msetI r x v
def mdelI : List (Int × β) → Int → List (Int × β)
 |[], _ => []
 |(k, u) :: r, x => if x = k then r else (k, u) :: mdelI r x
def mmapI (f : β → γ) (m : List (Int × β)) : List (Int × γ) := m.map fun p => (p.1, f p.2)
theorem mset_keysI (m : List (Int × β)) (x : Int) (v : β) : (msetI m x v).map Prod.fst = if x ∈ m.map Prod.fst then m.map Prod.fst else m.map Prod.fst ++ [x] := by
 induction m with
 |nil => simp [msetI]
 |cons p r ih =>
  obtain ⟨k, u⟩ := p
  simp only [msetI]
  split
  ·rename_i h; subst h; simp
  ·rename_i h
   rw [List.map_cons, ih]
   by_cases h2 : x ∈ r.map Prod.fst
   ·rw [if_pos h2, if_pos (by simp only [List.map_cons, List.mem_cons]; exact .inr h2)]; rfl
   ·rw [if_neg h2, if_neg (by simp only [List.map_cons, List.mem_cons, not_or]; exact ⟨h, h2⟩)]; rfl
theorem mset_nodupI {m : List (Int × β)} (h : (m.map Prod.fst).Nodup) (x : Int) (v : β) : ((msetI m x v).map Prod.fst).Nodup := by
 rw [mset_keysI]
 split
 ·exact h
 ·rename_i h2
  rw [List.nodup_append]
  exact ⟨h, by simp, fun a ha b hb => by simp at hb; subst hb; rintro rfl; exact h2 ha⟩
theorem mdel_subI (m : List (Int × β)) (x : Int) : (mdelI m x).Sublist m := by
 induction m with
 |nil => exact .slnil
 |cons p r ih =>
  obtain ⟨k, u⟩ := p
  simp only [mdelI]
  split
  ·exact List.sublist_cons_self _ _
  ·exact ih.cons_cons _
theorem mdel_nodupI {m : List (Int × β)} (h : (m.map Prod.fst).Nodup) (x : Int) : ((mdelI m x).map Prod.fst).Nodup := h.sublist ((mdel_subI m x).map _)
end
abbrev ik (n : Int) : Value := .int .i64 n
abbrev KVI := List (Int × Value)
def kvsI (es : List MapEntry) : List (Value × Value) := es.map fun e => (e.key, e.val)
def kvmI (m : KVI) : List (Value × Value) := m.map fun p => (ik p.1, p.2)
def MapIsI (b : Nat) (m : KVI) (w : World) : Prop := (m.map Prod.fst).Nodup ∧ ∃ es clock, w.heap[b]? = some (.map ⟨es⟩ clock) ∧ kvsI es = kvmI m ∧ (es.map (·.born)).Nodup ∧ ∀ e ∈ es, e.born < clock
theorem MapIsI.local {b : Nat} {m : KVI} : Local [b] (MapIsI b m) := fun w w' h ⟨h0, es, c, e, r⟩ => ⟨h0, es, c, (h b (by simp)).trans e, r⟩
abbrev mapCI (b : Nat) (m : KVI) : Chunk := .obj [b] (MapIsI b m)
theorem mapC_holdsI {b : Nat} {m : KVI} {w : World} (h : MapIsI b m w) : (mapCI b m).holds w := ⟨h, MapIsI.local⟩
theorem same_int (a b : Int) : Instr.sameNow (.int .i64) (ik a) (ik b) = some (decide (a = b)) := by
 simp only [ik, Instr.sameNow, if_true]; rw [beq_dec]
theorem find_specI (x : Int) : ∀ (es : List MapEntry) (m : KVI) (i : Nat), kvsI es = kvmI m →
  (mgetI m x = none ∧ Instr.findNow (.int .i64) (ik x) es i = some none ∧ (∀ u, msetI m x u = m ++ [(x, u)]) ∧ mdelI m x = m) ∨
  ∃ v j e, mgetI m x = some v ∧ Instr.findNow (.int .i64) (ik x) es i = some (some (i + j, v)) ∧ es[j]? = some e ∧ e.key = ik x ∧ e.val = v ∧ (∀ u, kvsI (es.modify j fun e => { e with key := ik x, val := u }) = kvmI (msetI m x u)) ∧ kvsI (es.eraseIdx j) = kvmI (mdelI m x)
 |[], [], i, _ => .inl ⟨rfl, rfl, fun _ => rfl, rfl⟩
 |[], _ :: _, i, h => by simp [kvsI, kvmI] at h
 |_ :: _, [], i, h => by simp [kvsI, kvmI] at h
 |e :: es, (k, v) :: m, i, h => by
  simp only [kvsI, kvmI, List.map_cons, List.cons.injEq, Prod.mk.injEq] at h
  obtain ⟨⟨h1, h2⟩, h3⟩ := h
  by_cases hx : x = k
  ·subst hx
   refine .inr ⟨v, 0, e, by simp [mgetI], ?_, rfl, h1, h2, fun u => ?_, ?_⟩
   ·simp only [Instr.findNow, h1, same_int, decide_true, h2, Nat.add_zero]
   ·simp only [List.modify_zero_cons, msetI, if_true, kvsI, kvmI, List.map_cons]
    rw [h3]
   ·simp only [List.eraseIdx_zero, List.tail_cons, mdelI, if_true]; exact h3
  ·have hf : Instr.findNow (.int .i64) (ik x) (e :: es) i = Instr.findNow (.int .i64) (ik x) es (i + 1) := by
    simp only [Instr.findNow, h1, same_int, decide_eq_false hx]
   rcases find_specI x es m (i + 1) h3 with ⟨h4, h5, h6, h7⟩ | ⟨u, j, e', h4, h5, h6, h7, h8, h9, h10⟩
   ·refine .inl ⟨by simp [mgetI, hx, h4], by rw [hf, h5], fun u => by simp [msetI, hx, h6], by simp [mdelI, hx, h7]⟩
   ·refine .inr ⟨u, j + 1, e', by simp [mgetI, hx, h4], by rw [hf, h5, Nat.add_right_comm i 1 j]; rfl, by simpa using h6, h7, h8, fun y => ?_, ?_⟩
    ·simp only [List.modify_succ_cons, msetI, if_neg hx, kvsI, kvmI, List.map_cons, h1, h2]
     have := h9 y; unfold kvsI kvmI at this; rw [this]
    ·simp only [List.eraseIdx_cons_succ, mdelI, if_neg hx, kvsI, kvmI, List.map_cons, h1, h2]
     have := h10; unfold kvsI kvmI at this; rw [this]
def mapOfI (P : Program) (t : TypeId) : Option (TypeId × Value) := match P.underlying t with
 |some (.map k e) => match P.underlying k with
  |some (.int .i64) => match tyZero P e with
   |some z => some (k, z)
   |none => none
  |_ => none
 |_ => none
theorem mapOf_specI {P : Program} {t k : TypeId} {z : Value} (h : mapOfI P t = some (k, z)) : ∃ e, P.underlying t = some (.map k e) ∧ P.underlying k = some (.int .i64) ∧ tyZero P e = some z := by
 unfold mapOfI at h
 split at h
 ·rename_i k' e hu
  split at h
  ·rename_i hk
   split at h
   ·rename_i z' hz
    simp only [Option.some.injEq, Prod.mk.injEq] at h
    obtain ⟨rfl, rfl⟩ := h
    exact ⟨e, hu, hk, hz⟩
   ·cases h
  ·cases h
 ·cases h
section
variable {P : Program} {w : World} {ρ : Operand → Value} {o : Oper}
theorem run_getMapI {b clock : Nat} {es : List MapEntry} (hb : w.heap[b]? = some (.map ⟨es⟩ clock)) : (getObj b).run P w = .ok (.map ⟨es⟩ clock) w := by simp [getObj, Sem.run, hb]
theorem run_setMapI {b clock : Nat} {es : List MapEntry} (hb : w.heap[b]? = some (.map ⟨es⟩ clock)) (ob : Obj) : (setObj b ob).run P w = .ok () { w with heap := w.heap.setIfInBounds b ob } := by simp [setObj, Sem.run, hb]
theorem run_checkKeyI {k : TypeId} {x : Int} (hk : P.underlying k = some (.int .i64)) (em : Bool) (n : Nat) : (Instr.checkKey em (n + 1) k (ik x)).run P w = .ok () w := by
 simp only [Instr.checkKey, Sem.run_bind, run_underlying hk, Result.andThen_ok]; rfl
theorem run_findKeyI {k : TypeId} {x : Int} {es : List MapEntry} {r : Option (Nat × Value)} (hk : P.underlying k = some (.int .i64)) (hf : Instr.findNow (.int .i64) (ik x) es 0 = some r) : (Instr.findKey k (ik x) es).run P w = .ok r w := by
 simp only [Instr.findKey, Sem.run_bind, run_underlying hk, Result.andThen_ok, hf]; rfl
def lookVI (z : Value) (m : KVI) (x : Int) (ok : Bool) : Value := match ok with
 |true => .tuple #[(mgetI m x).getD z, .bool (mgetI m x).isSome]
 |false => (mgetI m x).getD z
theorem run_lookupI {t k : TypeId} {z : Value} {x i : Operand} {ok : Bool} {b : Nat} {m : KVI} {s : Int} (ho : o.op = .lookup t x i ok) (ht : mapOfI P t = some (k, z)) (hx : ρ x = .map (some b)) (hi : ρ i = ik s) (hm : MapIsI b m w) :
  (execOp ρ o).run P w = .ok (.value (lookVI z m s ok)) w := by
 obtain ⟨e, hu, hk, hz⟩ := mapOf_specI ht
 obtain ⟨hnd, es, clock, hb, hkv, _, _⟩ := hm
 have hz := run_zero hz
 rcases find_specI s es m 0 hkv with ⟨h1, h2, _⟩ | ⟨v, j, e', h1, h2, _⟩
 ·simp only [execOp, ho, hx, hi, Instr.lookup, Sem.run_bind, run_underlying hu, Result.andThen_ok, run_getMapI hb, run_checkKeyI hk, run_findKeyI hk h2, hz, Sem.run_pure]
  cases ok <;> simp [lookVI, h1, Sem.run]
 ·simp only [execOp, ho, hx, hi, Instr.lookup, Sem.run_bind, run_underlying hu, Result.andThen_ok, run_getMapI hb, run_checkKeyI hk, run_findKeyI hk h2, Sem.run_pure]
  cases ok <;> simp [lookVI, h1, Sem.run]
theorem sameBits_intI (s : Int) (n : Nat) : Instr.sameBits n (ik s) (ik s) = true := by cases n <;> simp [ik, Instr.sameBits]
theorem run_mapUpdateI {t k : TypeId} {z u : Value} {b : Nat} {m : KVI} {s : Int} (ht : mapOfI P t = some (k, z)) (hm : MapIsI b m w) :
  ∃ ob, (Instr.mapUpdate t (.map (some b)) (ik s) u).run P w = .ok () { w with heap := w.heap.setIfInBounds b ob } ∧ MapIsI b (msetI m s u) { w with heap := w.heap.setIfInBounds b ob } := by
 obtain ⟨e, hu, hk, hz⟩ := mapOf_specI ht
 obtain ⟨hnd, es, clock, hb, hkv, hbo, hcl⟩ := hm
 have hlt : b < w.heap.size := by
  rcases Nat.lt_or_ge b w.heap.size with h | h
  ·exact h
  ·rw [Array.getElem?_eq_none Zo] at hb; cases hb
 rcases find_specI s es m 0 hkv with ⟨h1, h2, h3, _⟩ | ⟨v, j, e', h1, h2, h3, h4, h5, h6, _⟩
 ·refine ⟨_, by simp only [Instr.mapUpdate, Sem.run_bind, run_underlying hu, Result.andThen_ok, run_getMapI hb, run_checkKeyI hk, run_findKeyI hk h2, Sem.run_pure]; exact run_setMapI hb _, mset_nodupI hnd _ _, es ++ [{ key := ik s, val := u, born := clock }], clock + 1, by simp [hlt], ?_, ?_, ?_⟩
  ·rw [h3]; simp only [kvsI, kvmI, List.map_append] at hkv ⊢; rw [hkv]; rfl
  ·rw [List.map_append, List.nodup_append]
   refine ⟨hbo, by simp, fun a ha b hb => ?_⟩
   simp at hb; subst hb
   obtain ⟨e, he, rfl⟩ := List.mem_map.1 ha
   have := hcl e he; omega
  ·intro e he
   rcases List.mem_append.1 he with he | he
   ·have := hcl e he; omega
   ·simp at he; subst he; show clock < clock + 1; omega
 ·simp only [Nat.zero_add] at h2
  have hkey : (((Array.mk es)[j]?).map (·.key)).getD (ik s) = ik s := by simp [h3, h4]
  refine ⟨.map ⟨es.modify j fun e => { e with key := ik s, val := u }⟩ clock, ?_, mset_nodupI hnd _ _, _, clock, by simp [hlt], h6 u, ?_, ?_⟩
  ·have hks : (Instr.keyThatStays (ik s) (ik s)).run P w = .ok (ik s) w := by
    unfold Instr.keyThatStays; rw [sameBits_intI]; rfl
   simp only [Instr.mapUpdate, Sem.run_bind, run_underlying hu, Result.andThen_ok, run_getMapI hb, run_checkKeyI hk, run_findKeyI hk h2, hkey, hks]
   rw [run_setMapI hb]
   simp
  ·have : (es.modify j fun e => { e with key := ik s, val := u }).map (·.born) = es.map (·.born) := by
    apply List.ext_getElem?; intro i
    simp only [List.getElem?_map, List.getElem?_modify]
    split <;> simp_all
   rw [this]; exact hbo
  ·intro e he
   obtain ⟨i, hi, hge⟩ := List.mem_iff_getElem.1 he
   rw [List.getElem_modify] at hge
   split at hge
   ·subst hge; exact hcl (es[i]'(by simpa using hi)) (List.getElem_mem _)
   ·subst hge; exact hcl _ (List.getElem_mem _)
theorem run_deleteI {t k : TypeId} {z : Value} {b : Nat} {m : KVI} {s : Int} {t2 ty : TypeId} (ht : mapOfI P t = some (k, z)) (hm : MapIsI b m w) :
  ∃ ob, (Builtin.delete_ #[t, t2] ty #[.map (some b), ik s]).run P w = .ok (.tuple #[]) { w with heap := w.heap.setIfInBounds b ob } ∧ MapIsI b (mdelI m s) { w with heap := w.heap.setIfInBounds b ob } := by
 obtain ⟨e, hu, hk, hz⟩ := mapOf_specI ht
 obtain ⟨hnd, es, clock, hb, hkv, hbo, hcl⟩ := hm
 have hlt : b < w.heap.size := by
  rcases Nat.lt_or_ge b w.heap.size with h | h
  ·exact h
  ·rw [Array.getElem?_eq_none Zo] at hb; cases hb
 rcases find_specI s es m 0 hkv with ⟨h1, h2, _, h3⟩ | ⟨v, j, e', h1, h2, h3, h4, h5, _, h6⟩
 ·refine ⟨.map ⟨es⟩ clock, ?_, mdel_nodupI hnd _, es, clock, by simp [hlt], by rw [h3]; exact hkv, hbo, hcl⟩
  simp [Builtin.delete_, Sem.run_bind, run_underlying hu, run_getMapI hb, run_checkKeyI hk, run_findKeyI hk h2, run_setMapI hb]
 ·simp only [Nat.zero_add] at h2
  refine ⟨.map ⟨es.eraseIdx j⟩ clock, ?_, mdel_nodupI hnd _, _, clock, by simp [hlt], h6, ?_, ?_⟩
  ·simp [Builtin.delete_, Sem.run_bind, run_underlying hu, run_getMapI hb, run_checkKeyI hk, run_findKeyI hk h2, run_setMapI hb]
  ·exact hbo.sublist ((List.eraseIdx_sublist _ _).map _)
  ·exact fun e he => hcl e ((List.eraseIdx_sublist _ _).subset he)
end
structure MapOkI (H : List Chunk) (Z : List Snap) (b : Nat) (m : KVI) : Prop where
 out : ∀ w0 M w (Hn : List Chunk) (Zn : List Snap), St w0 M w (Hn ++ H) (Zn ++ Z) → MapIsI b m w
theorem MapOkI.mk' {H : List Chunk} {Z : List Snap} {b : Nat} {m : KVI} (hm : mapCI b m ∈ H) : MapOkI H Z b m :=
 ⟨fun w0 M w Hn Zn hS => (hS.holds _ (List.mem_append_right _ hm)).1⟩
theorem MapOkI.old {w0 : World} {H : List Chunk} {Z : List Snap} {b : Nat} {m : KVI} (h : MapIsI b m w0) (hz : Snap.mk w0 (Old w0) ∈ Z) : MapOkI H Z b m := by
 refine ⟨fun w1 M w Hn Zn hS => ?_⟩
 obtain ⟨h0, es, c, e, r⟩ := h
 have hlt : b < w0.heap.size := by
  rcases Nat.lt_or_ge b w0.heap.size with h2 | h2
  ·exact h2
  ·rw [Array.getElem?_eq_none Zo] at e; cases e
 exact ⟨h0, es, c, (hS.snap _ (List.mem_append_right _ hz) b hlt).2.1.trans e, r⟩
section
variable {P : Program} {N : Fz} {f : Fr} {w w0 : World} {Q : Post} {ops l : List Oper} {o : Oper} {M : List Nat} {H H' : List Chunk} {Z : List Snap} {ρ : Operand → Value}
theorem St.setMapI {b : Nat} {m m' : KVI} {ob : Obj} (hS : St w0 M w H Z) (hr : Repl (mapCI b m) (mapCI b m') H H') (h : MapIsI b m' { w with heap := w.heap.setIfInBounds b ob }) : St w0 M { w with heap := w.heap.setIfInBounds b ob } H' Z := by
 refine hS.step hr ⟨rfl, rfl, rfl, by simp, fun k hk hn => ?_⟩ (mapC_holdsI h) fun b hb => .inl hb
 have hne : k ≠ b := fun e => hn (by simp [Chunk.fp, e])
 show (w.heap.setIfInBounds b _)[k]? = _
 rw [Array.getElem?_setIfInBounds_ne Zo]
theorem WL.mgetI {t k : TypeId} {z v : Value} {x i : Operand} {ok : Bool} {b : Nat} {m : KVI} {s : Int} (hS : St w0 M w H Z) (ho : o.op = .lookup t x i ok) (ht : mapOfI P t = some (k, z)) (hx : ev f x = .map (some b)) (hi : ev f i = ik s) (hm : MapOkI H Z b m) (hv : lookVI z m s ok = v)
  (hg : wants ops f o = true) {d : Nat} (hd : o.dst = some d) (hn : N.ok d = true) (h : WL P N ops l (up f d v) w Q) : WL P N ops (o :: l) f w Q :=
 .val hg hd hn (hv ▸ run_lookupI ho ht hx hi (hm.out _ _ _ [] [] hS)) h
theorem WL.msetI {t k : TypeId} {z u : Value} {x i y : Operand} {b : Nat} {m : KVI} {s : Int} (hS : St w0 M w H Z) (ho : o.op = .mapUpdate t x i y ∨ o.op = .insert t x i y) (ht : mapOfI P t = some (k, z)) (hx : ev f x = .map (some b)) (hi : ev f i = ik s) (hy : nfv (ev f y) = some u)
  (hr : Repl (mapCI b m) (mapCI b (msetI m s u)) H H') (hg : wants ops f o = true) (hd : o.dst = none) (h : ∀ w', St w0 M w' H' Z → WL P N ops l f w' Q) : WL P N ops (o :: l) f w Q := by
 obtain ⟨ob, h1, h2⟩ := run_mapUpdateI (u := u) (s := s) ht (hS.holds _ hr.mem).1
 have hrun : (execOp (ev f) o).run P w = .ok .skip { w with heap := w.heap.setIfInBounds b ob } := by
  rcases ho with ho | ho <;> simp [execOp, ho, hx, hi, ← nfv_eq hy, Sem.run_bind, h1]
 exact .unit0 hg hd hrun (h _ (hS.setMapI hr h2))
theorem WL.mdelI {t k t2 : TypeId} {z : Value} {x i : Operand} {b : Nat} {m : KVI} {s : Int} (hS : St w0 M w H Z) (ho : o.op = .call ⟨.builtin .delete, ⟨[x, i]⟩, ⟨[t, t2]⟩⟩) (ht : mapOfI P t = some (k, z)) (hx : ev f x = .map (some b)) (hi : ev f i = ik s)
  (hr : Repl (mapCI b m) (mapCI b (mdelI m s)) H H') (hg : wants ops f o = true) {d : Nat} (hd : o.dst = some d) (hn : N.ok d = true) (h : ∀ w', St w0 M w' H' Z → WL P N ops l (up f d (.tuple #[])) w' Q) : WL P N ops (o :: l) f w Q := by
 obtain ⟨ob, h1, h2⟩ := run_deleteI (t2 := t2) (ty := o.type) (s := s) ht (hS.holds _ hr.mem).1
 have hrun : (execOp (ev f) o).run P w = .ok (.value (.tuple #[])) { w with heap := w.heap.setIfInBounds b ob } := by
  simp [execOp, ho, resolve, invoke, builtin, hx, hi, Sem.run_bind, h1]
 exact .val hg hd hn hrun (h _ (hS.setMapI hr h2))
end
section
variable {P : Program} {N : Fz} {f : Fr} {w w0 : World} {Q : Post} {ops : List Oper} {M : List Nat} {H0 H H' : List Chunk} {Z0 Z : List Snap} {q : Qs} {l : List Nat} {i : Nat}
theorem WD.mgetI {t k : TypeId} {z v : Value} {x y : Operand} {ok : Bool} {b : Nat} {m : KVI} {s : Int} (ho : (ix ops i).op = .lookup t x y ok) (ht : mapOfI P t = some (k, z)) (hx : ev f x = .map (some b)) (hi : ev f y = ik s) (hm : MapOkI H0 Z0 b m) (hv : lookVI z m s ok = v)
  (hq : q.contains i = true) (hg : wants ops f (ix ops i) = true) {d : Nat} (hd : (ix ops i).dst = some d) (hn : N.ok d = true) (h : WD P N (SS w0 M H0 Z0) ops q l (up f d v) w Q) : WD P N (SS w0 M H0 Z0) ops q (i :: l) f w Q :=
 .takeS hq (by unfold blind; rw [ho]) hd hn hg (fun w' ⟨Hn, Zn, hS⟩ => hv ▸ run_lookupI ho ht hx hi (hm.out _ _ _ Hn Zn hS)) h
end
open Go Go.RowKit
theorem run_checkKey_pair {P : Program} {k : TypeId} {f1 f2 : Field} {kk : IntKind} {s : List UInt8} {n : Int} {w : World} (em : Bool) (m : Nat) (hk : P.underlying k = some (.struct #[f1, f2])) (h1 : P.underlying f1.type = some .string) (h2 : P.underlying f2.type = some (.int kk))
  (p1 : partOf P f1.type [str s, .int .i64 n] f1.offset = some (str s)) (p2 : partOf P f2.type [str s, .int .i64 n] f2.offset = some (.int .i64 n)) : (Instr.checkKey em (m + 2) k (pk (s, n))).run P w = .ok () w := by
 have c1 : ∀ w, (Instr.checkKey em (m + 1) f1.type (str s)).run P w = .ok () w := fun w => run_checkKey h1 em m
 have c2 : ∀ w, (Instr.checkKey em (m + 1) f2.type (.int .i64 n)).run P w = .ok () w := fun w => by
  simp only [Instr.checkKey, Sem.run_bind, run_underlying h2, Result.andThen_ok]; rfl
 have q1 := fun w => run_part (P := P) (w := w) p1
 have q2 := fun w => run_part (P := P) (w := w) p2
 rw [show m + 2 = (m + 1) + 1 from rfl, Instr.checkKey]
 simp only [Sem.run_bind, run_underlying hk, Result.andThen_ok]
 by_cases e1 : f1.name = "_" <;> by_cases e2 : f2.name = "_" <;> simp [e1, e2, q1, q2, c1, c2, Sem.run_bind, pk]
open Go Go.RowKit
theorem str_inj {a b : List UInt8} (h : str a = str b) : a = b := by
 have h1 : ByteArray.mk ⟨a⟩ = ByteArray.mk ⟨b⟩ := Value.string.inj h
 have h2 := congrArg (fun x : ByteArray => x.data.toList) h1
 exact h2
def entM (m : KV) (s : List UInt8) (z : Value) : KV := match mget m s with
 |some _ => m
 |none => m ++ [(s, z)]
def EntIs (b : Nat) (m : KV) (s : List UInt8) (n : Int) (w : World) : Prop := (m.map Prod.fst).Nodup ∧ ∃ es clock, w.heap[b]? = some (.map ⟨es⟩ clock) ∧ kvs es = kvm m ∧ (es.map (·.born)).Nodup ∧ (∀ e ∈ es, e.born < clock) ∧ ∃ (i : Nat) (e : MapEntry), es[i]? = some e ∧ e.key = str s ∧ (e.born : Int) = n
theorem EntIs.local {b : Nat} {m : KV} {s : List UInt8} {n : Int} : Local [b] (EntIs b m s n) := fun w w' h ⟨h0, es, c, e, r⟩ => ⟨h0, es, c, (h b (by simp)).trans e, r⟩
abbrev entC (b : Nat) (m : KV) (s : List UInt8) (n : Int) : Chunk := .obj [b] (EntIs b m s n)
theorem entC_holds {b : Nat} {m : KV} {s : List UInt8} {n : Int} {w : World} (h : EntIs b m s n w) : (entC b m s n).holds w := ⟨h, EntIs.local⟩
theorem mset_entM {m : KV} {s : List UInt8} {z u : Value} : mset (entM m s z) s u = mset m s u := by
 unfold entM
 cases h : mget m s with
 |some v => rfl
 |none =>
  dsimp only
  induction m with
  |nil => simp [mset]
  |cons p r ih =>
   obtain ⟨k, v⟩ := p
   simp only [mget] at h
   by_cases e : s = k
   ·rw [if_pos e] at h; cases h
   ·rw [if_neg e] at h
    simp only [List.cons_append, mset, if_neg e]
    rw [ih h]
section
variable {P : Program} {w : World} {ρ : Operand → Value} {o : Oper}
theorem run_mapEntry {t k : TypeId} {z : Value} {b : Nat} {m : KV} {s : List UInt8} (ht : mapOf P t = some (k, z)) (hm : MapIs b m w) :
  ∃ ob n, (Instr.mapEntry t (.map (some b)) (str s)).run P w = .ok (.tuple #[(mget m s).getD z, .int .i64 n]) { w with heap := w.heap.setIfInBounds b ob } ∧ EntIs b (entM m s z) s n { w with heap := w.heap.setIfInBounds b ob } := by
 obtain ⟨e, hu, hk, hz⟩ := mapOf_spec ht
 obtain ⟨hnd, es, clock, hb, hkv, hbo, hcl⟩ := hm
 have hz := run_zero hz
 have hlt : b < w.heap.size := by
  rcases Nat.lt_or_ge b w.heap.size with h | h
  ·exact h
  ·rw [Array.getElem?_eq_none Zo] at hb; cases hb
 rcases find_spec s es m 0 hkv with ⟨h1, h2, h3, _⟩ | ⟨v, j, e', h1, h2, h3, h4, h5, h6, _⟩
 ·refine ⟨.map ⟨es ++ [{ key := str s, val := z, born := clock }]⟩ (clock + 1), clock, ?_, ?_, es ++ [{ key := str s, val := z, born := clock }], clock + 1, by simp [hlt], ?_, ?_, ?_, es.length, { key := str s, val := z, born := clock }, by simp, rfl, rfl⟩
  ·simp only [Instr.mapEntry, Sem.run_bind, run_underlying hu, Result.andThen_ok, run_getMap hb, run_checkKey hk, run_findKey hk h2, hz]
   rw [run_setMap hb, h1]
   simp [goInt]
  ·unfold entM
   rw [h1]
   show ((m ++ [(s, z)]).map Prod.fst).Nodup
   rw [List.map_append, List.nodup_append]
   exact ⟨hnd, by simp, fun a ha b hb => by
    simp at hb; subst hb; rintro rfl; exact mget_none.1 h1 ha⟩
  ·unfold entM
   rw [h1]
   simp only [kvs, kvm, List.map_append] at hkv ⊢
   rw [hkv]; rfl
  ·rw [List.map_append, List.nodup_append]
   refine ⟨hbo, by simp, fun a ha b hb => ?_⟩
   simp at hb; subst hb
   obtain ⟨e, he, rfl⟩ := List.mem_map.1 ha
   have := hcl e he; omega
  ·intro e he
   rcases List.mem_append.1 he with he | he
   ·have := hcl e he; omega
   ·simp at he; subst he; show clock < clock + 1; omega
 ·simp only [Nat.zero_add] at h2
  have hkey : (((Array.mk es)[j]?).map (·.key)).getD (str s) = str s := by simp [h3, h4]
  have hborn : (((Array.mk es)[j]?).map (·.born)).getD 0 = e'.born := by simp [h3]
  have hsame : es.modify j (fun e => { e with key := str s }) = es := by
   apply List.ext_getElem?; intro i
   rw [List.getElem?_modify]
   by_cases hi : j = i
   ·subst hi
    rw [h3]
    simp only [Option.map_some, if_true]
    congr 1
    obtain ⟨k, v, n⟩ := e'
    have h4 : k = str s := h4
    subst h4; rfl
   ·simp [hi]
  refine ⟨.map ⟨es⟩ clock, e'.born, ?_, ?_, es, clock, by simp [hlt], ?_, hbo, hcl, j, e', h3, h4, rfl⟩
  ·have hks : (Instr.keyThatStays (str s) (str s)).run P w = .ok (str s) w := by
    unfold Instr.keyThatStays; rw [sameBits_str]; rfl
   simp only [Instr.mapEntry, Sem.run_bind, run_underlying hu, Result.andThen_ok, run_getMap hb, run_checkKey hk, run_findKey hk h2, hkey, hks, hborn]
   have hsm : (Array.mk es).modify j (fun e => { e with key := str s }) = ⟨es⟩ := by
    apply Array.ext'
    rw [Array.toList_modify]
    exact hsame
   rw [hsm, run_setMap hb, h1]
   simp [goInt, h3]
  ·unfold entM
   rw [h1]; exact hnd
  ·unfold entM
   rw [h1]; exact hkv
theorem run_entryStore {t : TypeId} {u : Value} {b : Nat} {m : KV} {s : List UInt8} {n : Int} {k : IntKind} (hm : EntIs b m s n w) :
  ∃ ob, (Instr.entryStore t (.map (some b)) (.int k n) u).run P w = .ok () { w with heap := w.heap.setIfInBounds b ob } ∧ MapIs b (mset m s u) { w with heap := w.heap.setIfInBounds b ob } := by
 obtain ⟨hnd, es, clock, hb, hkv, hbo, hcl, i, e, hi, hek, heb⟩ := hm
 have hlt : b < w.heap.size := by
  rcases Nat.lt_or_ge b w.heap.size with h | h
  ·exact h
  ·rw [Array.getElem?_eq_none Zo] at hb; cases hb
 have hil : i < es.length := by
  rcases Nat.lt_or_ge i es.length with h | h
  ·exact h
  ·rw [List.getElem?_eq_none h] at hi; cases hi
 have hge : es[i] = e := by rw [List.getElem?_eq_getElem hil] at hi; exact Option.some.inj hi
 have hfi : (Array.mk es).findIdx? (fun e => (e.born : Int) == n) = some i := by
  rw [List.findIdx?_toArray, List.findIdx?_eq_some_iff_getElem]
  refine ⟨hil, by rw [hge]; simpa using heb, fun j hj => ?_⟩
  have hne : (es.map (·.born))[j]'(by simp; omega) ≠ (es.map (·.born))[i]'(by simpa using hil) := fun h => by
   have := (List.getElem_inj hbo).1 h
   omega
  simp only [List.getElem_map] at hne
  rw [hge] at hne
  have : ¬ ((es[j]).born : Int) = n := fun h => hne Zo
  simpa using this
 have hkl : (kvm m).length = es.length := by rw [← hkv]; simp [kvs]
 rcases find_spec s es m 0 hkv with ⟨h1, _⟩ | ⟨v, j, e', h1, h2, h3, h4, h5, h6, _⟩
 ·exfalso
  refine mget_none.1 h1 ?_
  have hml : i < m.length := by simp [kvm] at hkl; omega
  have : (kvs es)[i]? = (kvm m)[i]? := by rw [hkv]
  simp only [kvs, kvm, List.getElem?_map, hi, List.getElem?_eq_getElem hml, Option.map_some, Option.some.injEq, Prod.mk.injEq] at this
  have h2 : (m[i]).1 = s := by
   have h3 := this.1
   rw [hek] at h3
   exact (str_inj h3).symm
  rw [← h2]
  exact List.mem_map_of_mem (List.getElem_mem hml)
 ·have hij : j = i := by
   have hjl : j < es.length := by
    rcases Nat.lt_or_ge j es.length with h | h
    ·exact h
    ·rw [List.getElem?_eq_none h] at h3; cases h3
   have hmi : i < m.length := by simp [kvm] at hkl; omega
   have hmj : j < m.length := by simp [kvm] at hkl; omega
   have ki : (m[i]).1 = s := by
    have : (kvs es)[i]? = (kvm m)[i]? := by rw [hkv]
    simp only [kvs, kvm, List.getElem?_map, hi, List.getElem?_eq_getElem hmi, Option.map_some, Option.some.injEq, Prod.mk.injEq] at this
    have h3 := this.1
    rw [hek] at h3
    exact (str_inj h3).symm
   have kj : (m[j]).1 = s := by
    have : (kvs es)[j]? = (kvm m)[j]? := by rw [hkv]
    simp only [kvs, kvm, List.getElem?_map, h3, List.getElem?_eq_getElem hmj, Option.map_some, Option.some.injEq, Prod.mk.injEq] at this
    have h3 := this.1
    rw [h4] at h3
    exact (str_inj h3).symm
   have hne : (m.map Prod.fst)[j]'(by simpa using hmj) = (m.map Prod.fst)[i]'(by simpa using hmi) := by
    rw [List.getElem_map, List.getElem_map, ki, kj]
   exact (List.getElem_inj hnd).1 hne
  subst hij
  have hmod : es.modify j (fun e => { e with val := u }) = es.modify j (fun e => { e with key := str s, val := u }) := by
   apply List.ext_getElem?; intro i
   rw [List.getElem?_modify, List.getElem?_modify]
   by_cases hi2 : j = i
   ·subst hi2
    rw [hi]
    simp only [Option.map_some, if_true]
    obtain ⟨k, v, n⟩ := e
    have hek : k = str s := hek
    subst hek; rfl
   ·simp [hi2]
  refine ⟨.map ⟨es.modify j fun e => { e with val := u }⟩ clock, ?_, mset_nodup hnd _ _, es.modify j fun e => { e with val := u }, clock, by simp [hlt], by rw [hmod]; exact h6 u, ?_, ?_⟩
  ·simp only [Instr.entryStore, Sem.run_bind, run_getMap hb, Result.andThen_ok, asInt, asIntOf, Sem.run_pure, hfi]
   rw [run_setMap hb]
   simp
  ·have : (es.modify j fun e => { e with val := u }).map (·.born) = es.map (·.born) := by
    apply List.ext_getElem?; intro i
    simp only [List.getElem?_map, List.getElem?_modify]
    split <;> simp_all
   rw [this]; exact hbo
  ·intro e he
   obtain ⟨i, hi, hge⟩ := List.mem_iff_getElem.1 he
   rw [List.getElem_modify] at hge
   split at hge
   ·subst hge; exact hcl (es[i]'(by simpa using hi)) (List.getElem_mem _)
   ·subst hge; exact hcl _ (List.getElem_mem _)
end
section
variable {P : Program} {N : Fz} {f : Fr} {w w0 : World} {Q : Post} {ops : List Oper} {M : List Nat} {H0 H H' : List Chunk} {Z0 Z : List Snap} {q : Qs} {l : List Nat} {i : Nat}
theorem WD.mapEntry {H' : Int → List Chunk} {t k : TypeId} {z : Value} {x y : Operand} {b : Nat} {m : KV} {s : List UInt8} (hS : St w0 M w H Z) (ho : (ix ops i).op = .mapEntry t x y) (ht : mapOf P t = some (k, z)) (hx : ev f x = .map (some b)) (hy : ev f y = str s)
  (hr : ∀ n, Repl (mapC b m) (entC b (entM m s z) s n) H (H' n)) (hM : ∀ n, More H0 Z0 (H' n) Z) (hq : q.contains i = false) (hi : Nat.blt i ops.length = true) (hg : wants ops f (ix ops i) = true) {d : Nat} (hd : (ix ops i).dst = some d) (hn : N.ok d = true)
  (h : ∀ w' n, St w0 M w' (H' n) Z → More H0 Z0 (H' n) Z → WD P N (SS w0 M H0 Z0) ops q l (up f d (.tuple #[(Go.J.mget m s).getD z, .int .i64 n])) w' Q) : WD P N (SS w0 M H0 Z0) ops q (i :: l) f w Q := by
 obtain ⟨ob, n, h1, h2⟩ := run_mapEntry (s := s) ht (hS.holds _ (hr 0).mem).1
 have hrun : (execOp (ev f) (ix ops i)).run P w = .ok (.value (.tuple #[(Go.J.mget m s).getD z, .int .i64 n])) { w with heap := w.heap.setIfInBounds b ob } := by
  simp [execOp, ho, hx, hy, Sem.run_bind, h1]
 have hS' : St w0 M { w with heap := w.heap.setIfInBounds b ob } (H' n) Z := by
  refine hS.step (hr n) ⟨rfl, rfl, rfl, by simp, fun k hk hn => ?_⟩ (entC_holds h2) fun b hb => .inl hb
  have hne : k ≠ b := fun e => hn (by simp [Chunk.fp, e])
  show (w.heap.setIfInBounds b _)[k]? = _
  rw [Array.getElem?_setIfInBounds_ne Zo]
 exact .val hq hi hg hd hn hrun ((hM n).ss hS') (h _ n hS' (hM n))
theorem WD.entryStore {t : TypeId} {u : Value} {x y a : Operand} {b : Nat} {m : KV} {s : List UInt8} {n : Int} {k : IntKind} (hS : St w0 M w H Z) (ho : (ix ops i).op = .entryStore t x y a) (hx : ev f x = .map (some b)) (hy : ev f y = .int k n) (ha : nfv (ev f a) = some u)
  (hr : Repl (entC b m s n) (mapC b (mset m s u)) H H') (hM : More H0 Z0 H' Z) (hq : q.contains i = false) (hi : Nat.blt i ops.length = true) (hg : wants ops f (ix ops i) = true) (hd : (ix ops i).dst = none)
  (h : ∀ w', St w0 M w' H' Z → More H0 Z0 H' Z → WD P N (SS w0 M H0 Z0) ops q l f w' Q) : WD P N (SS w0 M H0 Z0) ops q (i :: l) f w Q := by
 obtain ⟨ob, h1, h2⟩ := run_entryStore (P := P) (t := t) (u := u) (k := k) (hS.holds _ hr.mem).1
 have hrun : (execOp (ev f) (ix ops i)).run P w = .ok .skip { w with heap := w.heap.setIfInBounds b ob } := by
  simp [execOp, ho, hx, hy, ← nfv_eq ha, Sem.run_bind, h1]
 have hS' : St w0 M { w with heap := w.heap.setIfInBounds b ob } H' Z := by
  refine hS.step hr ⟨rfl, rfl, rfl, by simp, fun k hk hn => ?_⟩ (mapC_holds h2) fun b hb => .inl hb
  have hne : k ≠ b := fun e => hn (by simp [Chunk.fp, e])
  show (w.heap.setIfInBounds b _)[k]? = _
  rw [Array.getElem?_setIfInBounds_ne Zo]
 exact .unit0 hq hi hg hd hrun (hM.ss hS') (h _ hS' hM)
end
section
variable {P : Program} {rs : Array ResultVar} {fn : Func} {R : Value → World → Prop} {f : Fr} {w : World}
theorem res4 {t u x y : Tmp} (h : fn.results = #[.tmp t, .tmp u, .tmp x, .tmp y]) : ∀ a, Is a fn.ntmps f → (results fn a.tmps).run P w = .ok (.tuple #[f t, f u, f x, f y]) w := fun a ha => by
 rw [← ha.get t, ← ha.get u, ← ha.get x, ← ha.get y]
 simp [results, h]
theorem fin4r {t u x y : Tmp} {v v' v'' v3 : Value} (h : fn.results = #[.tmp t, .tmp u, .tmp x, .tmp y]) (hv : nfv (f t) = some v) (hv' : nfv (f u) = some v') (hv'' : nfv (f x) = some v'') (hv3 : nfv (f y) = some v3) (hR : R (.tuple #[v, v', v'', v3]) w) : funQ P rs fn (Ret R) .ret f w := by unfold funQ; exact ⟨_, ⟨_, rfl, hR⟩, by rw [nfv_eq hv, nfv_eq hv', nfv_eq hv'', nfv_eq hv3]; exact res4 h⟩
end
open Go Go.RowKit
section
variable {P : Program} {N : Fz} {f : Fr} {w w0 : World} {Q : Post} {ops : List Oper} {M : List Nat} {H0 H H' : List Chunk} {Z0 Z : List Snap} {q : Qs} {l : List Nat} {i : Nat}
theorem WDo.app {s x : Operand} {t e : TypeId} {size bytes n m cap c b off : Nat} {A : Option Addr} {xs news : List Value} (hS : St w0 M w H Z) (hp : Pull (.own (.slice A n cap) e size n xs) H H') (hM : More H0 Z0 H' Z) (ho : (ix ops i).op = .call ⟨.builtin .append, ⟨[s, x]⟩, ⟨[t, t]⟩⟩) (hi0 : appOf P t = some (e, size, bytes))
  (hs : ev f s = .slice A n cap) (hx : ev f x = .slice (some ⟨b, off, none⟩) m c) (hnews : RdOk H Z b off news) (hl : news.length = m * size) (h1 : one news = true) (hb : (n + m) * bytes ≤ 140737488355328)
  (hi : Nat.blt i ops.length = true) (hg : wants ops f (ix ops i) = true) {d : Nat} (hd : (ix ops i).dst = some d) (hn : N.ok d = true)
  (h : ∀ A' cap' w', St w0 M w' (.own (.slice A' (n + m) cap') e size (n + m) (xs ++ news) :: H') Z → More H0 Z0 (.own (.slice A' (n + m) cap') e size (n + m) (xs ++ news) :: H') Z → WD P N (SS w0 M H0 Z0) ops q l (up f d (.slice A' (n + m) cap')) w' Q) : WDo P N (SS w0 M H0 Z0) ops q i l f w Q := by
 have hS' := hS.pull hp
 obtain ⟨A', cap', w', hrun, hown', hgr, hat⟩ := run_appOp (P := P) (w := w) ho hi0 hs hx (hS'.holds _ Zh) (hnews.out w0 M w [] [] hS) hl h1 hb
 have hS2 := hS'.app (.here) hown' hgr hat
 exact .val hi hg hd hn hrun ((hM.chunk _).ss hS2) (h A' cap' w' hS2 (hM.chunk _))
theorem WD.appS {s x : Operand} {t e : TypeId} {size bytes n m cap c : Nat} {A B : Option Addr} {xs news : List Value} (hS : St w0 M w H Z) (hp : Pull (.own (.slice A n cap) e size n xs) H H') (hM : More H0 Z0 H' Z) (ho : (ix ops i).op = .call ⟨.builtin .append, ⟨[s, x]⟩, ⟨[t, t]⟩⟩) (hi0 : appOf P t = some (e, size, bytes))
  (hs : ev f s = .slice A n cap) (hx : ev f x = .slice B m c) (hnews : RdSl H Z B m news) (hl : news.length = m * size) (h1 : one news = true) (hb : (n + m) * bytes ≤ 140737488355328)
  (hq : q.contains i = false) (hi : Nat.blt i ops.length = true) (hg : wants ops f (ix ops i) = true) {d : Nat} (hd : (ix ops i).dst = some d) (hn : N.ok d = true)
  (h : ∀ A' cap' w', St w0 M w' (.own (.slice A' (n + m) cap') e size (n + m) (xs ++ news) :: H') Z → More H0 Z0 (.own (.slice A' (n + m) cap') e size (n + m) (xs ++ news) :: H') Z → WD P N (SS w0 M H0 Z0) ops q l (up f d (.slice A' (n + m) cap')) w' Q) : WD P N (SS w0 M H0 Z0) ops q (i :: l) f w Q := by
 rcases hnews with ⟨rfl, rfl, rfl⟩ | ⟨b, off, rfl, hnews⟩
 ·have hS' := hS.pull hp
  have hcap := (hS'.own_len Zh).2.2
  have hS2 := hS'.recast (c' := .own (.slice A (n + 0) cap) e size (n + 0) (xs ++ [])) .here (fun h => by simpa using h) (fun b hb => by simpa using hb)
  exact .val hq hi hg hd hn (run_app0 ho hi0 hs hx hcap) ((hM.chunk _).ss hS2) (h A cap w hS2 (hM.chunk _))
 ·exact .app hS hp hM ho hi0 hs hx hnews hl h1 hb hq hi hg hd hn h
theorem WDo.callG {fid : FuncId} {xs : List Operand} {ts : Array TypeId} {args : List Value} {R : Value → World → Prop} (ho : (ix ops i).op = .call ⟨.value (.func fid), ⟨xs⟩, ts⟩) (ha : xs.map (ev f) = args)
  (hc : Cal P fid args w R) (hi : Nat.blt i ops.length = true) (hg : wants ops f (ix ops i) = true) {d : Nat} (hd : (ix ops i).dst = some d) (hn : N.ok d = true)
  (h : ∀ v w', R v w' → SS w0 M H0 Z0 w' ∧ WD P N (SS w0 M H0 Z0) ops q l (up f d v) w' Q) : WDo P N (SS w0 M H0 Z0) ops q i l f w Q :=
 .enter hi hg hd hn (run_callOp ho ha hc.ok) hc.calls h
theorem WDo.alloc {t : TypeId} {z : Value} (hS : St w0 M w H Z) (hM : More H0 Z0 H Z) (ho : (ix ops i).op = .alloc t) (hz : tyZero P t = some z) {cs : List Value} (hcs : cellsO z = some cs) (hi : Nat.blt i ops.length = true) (hg : wants ops f (ix ops i) = true) {d : Nat} (hd : (ix ops i).dst = some d) (hn : N.ok d = true)
  (h : ∀ w' b, St w0 M w' (.box b t cs :: H) Z → More H0 Z0 (.box b t cs :: H) Z → WD P N (SS w0 M H0 Z0) ops q l (up f d (.pointer (some ⟨b, 0, none⟩))) w' Q) : WDo P N (SS w0 M H0 Z0) ops q i l f w Q :=
 .val hi hg hd hn (run_allocOp ho hz) ((hM.chunk _).ss (hS.newBox _ _)) (by rw [cellsO_eq hcs]; exact h _ _ (hS.newBox _ _) (hM.chunk _))
end
theorem St.ownSlY {w0 w : World} {M : List Nat} {D H : List Chunk} {Z : List Snap} {α : Type} {enc : α → List Value} {sz : Nat} {hsz : ∀ x, (enc x).length = sz} {e : TypeId} {A : Option Addr} {n cap n' : Nat} {l : List α} (h0 : 0 < sz) (hS : St w0 M w (D ++ H) Z) (hm : Chunk.own (.slice A n cap) e sz n' (l.flatMap enc) ∈ H) :
  SlAt (Cod.flat enc sz hsz) (fun b => b < w.heap.size ∧ b ∉ fps D) w A l :=
 SlAt.ofOwn h0 (hS.holds _ (List.mem_append_right _ hm)) fun g hg => by
  refine ⟨(hS.inb _ (List.mem_append_right _ hm) g (by simp [Chunk.fp, hg])).1, fun hf => ?_⟩
  obtain ⟨c, hc, hb⟩ := mem_fps.1 hf
  exact (List.pairwise_append.1 hS.disj).2.2 c hc _ hm g hb (by simp [Chunk.fp, hg])
theorem St.slY {w0 w wz : World} {M : List Nat} {D H : List Chunk} {Z : List Snap} {α : Type} {c : Cod α} {F : Nat → Prop} {A : Option Addr} {l : List α} (hS : St w0 M w (D ++ H) Z) (hz : Snap.mk wz F ∈ Z) (h : SlAt c F wz A l) : SlAt c (fun b => b < w.heap.size ∧ b ∉ fps D) w A l :=
 (h.loc fun b hb => (hS.snap _ hz b hb).2.1).mono fun b hb => by
  obtain ⟨h1, _, h3⟩ := hS.snap _ hz b hb
  refine ⟨h1, fun hf => ?_⟩
  obtain ⟨d, hd, hbd⟩ := mem_fps.1 hf
  exact h3 d (List.mem_append_left _ hd) hbd
theorem WC.drawLP {P : Program} {N : Fz} {f : Fr} {w w0 : World} {Q : Post} {ops : List Oper} {M : List Nat} {H H' : List Chunk} {Z : List Snap} {id : Nat} (D : List Chunk) (hS : St w0 M w H Z) (hp : Pulls D H H') (q l : List Nat) (t : Pl) (hm : P.follows .mixedOrders = true)
  (hk : (Region.noSelect ops.toArray && ordOk ops.toArray ⟨q, t⟩ (Array.replicate ops.toArray.size false) l && Nat.beq (l.length + t.len) ops.length) = true)
  (h : ∀ w', St w0 M w' (D ++ H') Z → More H' Z (D ++ H') Z → WD P N (SS w0 M H' Z) ops ⟨q, t⟩ l f w' Q) (hok : okR N ops = true := by rfl) : WC P N (.region id ops.toArray true) f w Q := by
 have hS' := hS.pulls hp
 simp only [Bool.and_eq_true] at hk
 exact WC.draw (SS w0 M H' Z) ⟨q, t⟩ l hm hk.1.1 hk.1.2 hk.2 ((More.app (.refl _ _)).ss hS'.drew) (h _ hS'.drew (More.app (.refl _ _))) hok
theorem InL.none (w : World) : InL w [] := ⟨fun c hc => (by cases hc), fun c hc => (by cases hc), .nil⟩
end Go.J

namespace Go.Proofs.YtccfiohagbneaaaGreatDoor
open Go Go.J Go.RowKit
abbrev eC (A : Option Addr) (c : Nat) (s : List Ent) : Chunk := .own (.slice A s.length c) 165 3 s.length (s.flatMap encEnt)
theorem eC_snoc {A : Option Addr} {c : Nat} {s : List Ent} {e : Ent} : Chunk.own (.slice A (s.length + 1) c) 165 3 (s.length + 1) (s.flatMap encEnt ++ encEnt e) = eC A c (s ++ [e]) := by
 unfold eC
 rw [List.flatMap_append, List.length_append]
 rfl
open Go Go.J Go.RowKit
theorem ddown_c {b mb lb : Nat} {D : Dk} {w0 : World} (h : DkIs b mb lb D w0) : Cal Tryz.prog 26 [.pointer (some ⟨b, 0, none⟩)] w0 (fun v w' => Upd [] w0 w' ∧ v = .bool D.down) := by
 refine Cal.mk' Zk Tryz.func26 rfl rfl fun hS => ?_
 obtain ⟨_, _, _, hb, hm, hlm⟩ := h
 have hb : w0.heap[b]? = some (.cells ⟨[.map (some mb), .map (some lb), .int .i64 D.steps, .int .i64 D.stamps, .int .i64 D.armed, .bool D.down]⟩ 122 (0, 0)) := hb
 repeat' (first | (show WL _ _ _ _ _ _ _; first | refine WL.pure rfl rfl rfl rfl ?_ | refine WL.nil ?_ | (refine WL.load hS rfl rfl (LdOk.old hb (by repeat (first | exact Zh | apply List.Mem.tail)) rfl) rfl rfl rfl ?_)) | (show WC _ _ _ _ _ _; first | refine WC.seq ?_ | refine WC.region ?_ | refine WC.ret ?_) | refine seqQ_n ?_)
 exact fin1r rfl rfl ⟨hS.upd, rfl⟩
end Go.Proofs.YtccfiohagbneaaaGreatDoor

namespace Go.J
open Go Go.RowKit
section
variable {P : Program} {N : Fz} {f : Fr} {w w0 : World} {Q : Post} {ops : List Oper} {S : World → Prop} {q : Qs} {l : List Nat} {i : Nat} {M : List Nat} {H0 H H' D : List Chunk} {Z0 Z : List Snap}
theorem WD.enterP (hq : q.contains i = false) (hi : Nat.blt i ops.length = true) (hg : wants ops f (ix ops i) = true) {d : Nat} (hd : (ix ops i).dst = some d) (hn : N.ok d = true) {fid : FuncId} {args : Array Value} {w' : World}
  (hr : (execOp (ev f) (ix ops i)).run P w = .ok (.enter fid args) w') {R : Value → World → Prop} {X : List PanicEntry → World → Prop} (hc : Calls P fid args w' (RetP R X))
  (h : ∀ v w'', R v w'' → S w'' ∧ WD P N S ops q l (up f d v) w'' Q) (hx : ∀ c w'', X c w'' → Q (.panic c) (fun _ => undef) w'') : WD P N S ops q (i :: l) f w Q := by
 refine .eff hq fun a ha K hK => ?_
 unfold Go.wpOp
 rw [ix_some (by simp only [List.size_toArray]; exact Nat.le_of_ble_eq_true hi)]
 simp only
 rw [if_pos ((wanted_eq ha _).trans hg)]
 refine .inl ?_
 simp only [Oper.wp, ha.eval, hr, Oper.upon]
 refine hc.mono fun e w'' he => ?_
 rcases he with ⟨v, rfl, hR⟩ | ⟨c, rfl, hX⟩
 ·obtain ⟨h1, h2⟩ := h v w'' hR
  exact hK _ _ _ (ha.put1 hd hn v) h1 h2
 ·exact ⟨ha.defers, ha.pins, hx c w'' hX⟩
theorem WD.callPL {fid : FuncId} {xs : List Operand} {ts : Array TypeId} {args : List Value} {R : Value → World → Prop} {X : List PanicEntry → World → Prop} (hS : St w0 M w H Z) (hp : Pulls D H H') (hM : More H0 Z0 H' Z) (ho : (ix ops i).op = .call ⟨.value (.func fid), ⟨xs⟩, ts⟩) (ha : xs.map (ev f) = args)
  (hc : InL w D → CalP P fid args w R X) (hq : q.contains i = false) (hi : Nat.blt i ops.length = true) (hg : wants ops f (ix ops i) = true) {d : Nat} (hd : (ix ops i).dst = some d) (hn : N.ok d = true)
  (h : ∀ v w', R v w' → ∃ D', MutL w w' D D' ∧ (St w0 M w' (D' ++ H') Z → More H0 Z0 (D' ++ H') Z → WD P N (SS w0 M H0 Z0) ops q l (up f d v) w' Q))
  (hx : ∀ c w', X c w' → (∀ D', MutL w w' D D' → St w0 M w' (D' ++ H') Z) → Q (.panic c) (fun _ => undef) w') : WD P N (SS w0 M H0 Z0) ops q (i :: l) f w Q :=
 have hS' := hS.pulls hp
 .enterP hq hi hg hd hn (run_callOp ho ha (hc hS'.inL).ok) (hc hS'.inL).calls (fun v w' hR => by
  obtain ⟨D', hm, hk⟩ := h v w' hR
  have hS2 := hS'.mutL hm
  exact ⟨(More.app hM).ss hS2, hk hS2 (More.app hM)⟩) fun c w' hX => hx c w' hX fun D' hm => hS'.mutL hm
end
end Go.J
