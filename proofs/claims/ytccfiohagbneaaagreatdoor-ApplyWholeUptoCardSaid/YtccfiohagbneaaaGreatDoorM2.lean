/- What is proved: contracts and plain facts that the law leans on (texts put together). Conditions: as each names them. -/
import Derived.Test.YtccfiohagbneaaaGreatDoorM1
import Derived.Test.YtccfiohagbneaaaGreatDoorRows
import Derived.Laws.IdiomStrings
import Derived.Laws.IdiomCopy
import Derived.Lib.AppendStr
set_option linter.unusedSimpArgs false
set_option linter.unusedVariables false
set_option linter.unusedSectionVars false
set_option maxHeartbeats 64000000
set_option maxRecDepth 100000
namespace Go.Proofs.YtccfiohagbneaaaGreatDoor
open Go Go.J Go.RowKit
theorem ext_index : ExtIs Tryz.prog 250 Extern.BytealgIndexByte.indexByte := ⟨_, Tryz.func250, Zk, Zk, Zk, Zk⟩
theorem ext_count : ExtIs Tryz.prog 223 Extern.BytealgCount.count := ⟨_, Tryz.func223, Zk, Zk, Zk, Zk⟩
theorem sindexByte_c (s : List UInt8) (c : UInt8) (w0 : World) : Cal Tryz.prog 241 [str s, .int .u8 (c.toNat : Int)] w0 (fun v w' => Upd [] w0 w' ∧ v = .int .i64 (Lib.indexByte s c)) := by
 refine Cal.mk' Zk Tryz.func241 rfl rfl fun hS => ?_
 repeat' (first | (show WL _ _ _ _ _ _ _; first | refine WL.pure rfl rfl rfl rfl ?_ | refine WL.nil ?_ | refine WL.ext rfl rfl ext_index (run_indexByte s c) rfl rfl rfl ?_) | (show WC _ _ _ _ _ _; first | refine WC.seq ?_ | refine WC.region ?_ | refine WC.ret ?_) | refine seqQ_n ?_)
 exact fin1r rfl rfl ⟨hS.upd, rfl⟩
theorem sindex_c (s : List UInt8) (c : UInt8) (w0 : World) : Cal Tryz.prog 232 [str s, str [c]] w0 (fun v w' => Upd [] w0 w' ∧ v = .int .i64 (Lib.indexByte s c)) := by
 refine Cal.mk' Zk Tryz.func232 rfl rfl fun hS => ?_
 have hc : ([c] : List UInt8)[0]? = some c := rfl
 by_cases hs : [c] = s
 ·subst hs
  repeat' (first | (show WL _ _ _ _ _ _ _; first | refine WL.pure rfl rfl rfl rfl ?_ | refine WL.nil ?_) | (show WC _ _ _ _ _ _; first | refine WC.seq ?_ | refine WC.region ?_ | refine WC.block ?_ | refine WC.ret ?_ | refine WC.condT rfl Zs ?_) | refine seqQ_n ?_ | refine seqQ_r ?_ | refine blkQ_r ?_)
  exact fin1r rfl rfl ⟨hS.upd, by simp [Lib.indexByte]⟩
 ·repeat' (first | (show WL _ _ _ _ _ _ _; first | refine WL.pure rfl rfl rfl rfl ?_ | refine WL.nil ?_ | (refine WL.calls hS rfl rfl (sindexByte_c s c _) rfl rfl rfl ?_; rintro v w rfl hS) | refine WL.idxS rfl rfl rfl rfl Za rfl rfl rfl ?_) | (show WC _ _ _ _ _ _; first | refine WC.seq ?_ | refine WC.region ?_ | refine WC.block ?_ | refine WC.ret ?_ | refine WC.condF rfl (decide_eq_false Zw) ?_ | refine WC.condT rfl Zs ?_) | refine seqQ_n ?_ | refine seqQ_r ?_ | refine blkQ_r ?_)
  exact fin1r rfl rfl ⟨hS.upd, rfl⟩
theorem index_c (s : List UInt8) (c : UInt8) (w0 : World) : Cal Tryz.prog 224 [str s, str [c]] w0 (fun v w' => Upd [] w0 w' ∧ v = .int .i64 (Lib.indexByte s c)) := by
 refine Cal.mk' Zk Tryz.func224 rfl rfl fun hS => ?_
 repeat' (first | (show WL _ _ _ _ _ _ _; first | refine WL.pure rfl rfl rfl rfl ?_ | refine WL.nil ?_ | (refine WL.calls hS rfl rfl (sindex_c s c _) rfl rfl rfl ?_; rintro v w rfl hS)) | (show WC _ _ _ _ _ _; first | refine WC.seq ?_ | refine WC.region ?_ | refine WC.ret ?_) | refine seqQ_n ?_)
 exact fin1r rfl rfl ⟨hS.upd, rfl⟩
theorem count_c (s : List UInt8) (c : UInt8) (w0 : World) : Cal Tryz.prog 199 [str s, str [c]] w0 (fun v w' => Upd [] w0 w' ∧ v = .int .i64 ((s.count c : Nat) : Int)) := by
 refine Cal.mk' Zk Tryz.func199 rfl rfl fun hS => ?_
 have hc : ([c] : List UInt8)[0]? = some c := rfl
 repeat' (first | (show WL _ _ _ _ _ _ _; first | refine WL.pure rfl rfl rfl rfl ?_ | refine WL.nil ?_ | refine WL.ext rfl rfl ext_count (run_countByte s c) rfl rfl rfl ?_ | refine WL.idxS rfl rfl rfl rfl Za rfl rfl rfl ?_) | (show WC _ _ _ _ _ _; first | refine WC.seq ?_ | refine WC.region ?_ | refine WC.skip ?_ | refine WC.ret ?_ | refine WC.condT rfl Zs ?_ | refine WC.condF rfl Zs ?_) | refine seqQ_n ?_ | refine seqQ_r ?_)
 exact fin1r rfl rfl ⟨hS.upd, rfl⟩
theorem lastL_stop (s : List UInt8) (k : Nat) (h : s[k]? = some 47) : lastL s (k + 1) = k := by simp [lastL, h]
theorem lastL_go (s : List UInt8) (k : Nat) (h : s[k]? ≠ some 47) : lastL s (k + 1) = lastL s k := by simp [lastL, h]
theorem lastIndexByte_c (s : List UInt8) (w0 : World) (hl : s.length ≤ 4611686018427387904) : Cal Tryz.prog 200 [str s, .int .u8 47] w0 (fun v w' => Upd [] w0 w' ∧ v = .int .i64 (lastE s)) := by
 have h0 : ∀ w0, Cal Tryz.prog 225 [str s, .int .u8 47] w0 (fun v w' => Upd [] w0 w' ∧ v = .int .i64 (lastE s)) := by
  intro w0
  refine Cal.mk' Zk Tryz.func225 rfl rfl fun hS => ?_
  repeat' (first | (show WL _ _ _ _ _ _ _; first | refine WL.pure rfl rfl rfl rfl ?_ | refine WL.nil ?_ | refine WL.sub rfl rfl rfl Zo rfl rfl rfl ?_) | (show WC _ _ _ _ _ _; first | refine WC.seq ?_ | refine WC.region ?_ | refine WC.block ?_) | refine seqQ_n ?_)
  refine WC.loop (σ := Nat) [0, 1] (fun k => [(5, .int .i64 ((k : Int) - 1))]) (fun k w => k ≤ s.length ∧ lastE s = lastL s k ∧ St w0 [] w _ _) (fun k => k) s.length ⟨Nat.le_refl _, rfl, hS⟩ ⟨rfl, trivial⟩ ?_
  clear hS
  rintro k g w ⟨hk, he, hS⟩
  rcases k with _ | k
  ·rw [he]
   repeat' (first | (show WL _ _ _ _ _ _ _; first | refine WL.pure rfl rfl rfl rfl ?_ | refine WL.nil ?_) | (show WC _ _ _ _ _ _; first | refine WC.seq ?_ | refine WC.region ?_ | refine WC.exit ?_ | refine WC.ret ?_ | refine WC.condF rfl Zd ?_) | refine seqQ_n ?_ | refine seqQ_x ?_ | refine blkQ_hit rfl ?_ | refine rndQ_x ?_)
   exact fin1r rfl rfl ⟨hS.upd, rfl⟩
  ·have hlt : k < s.length := Zo
   have hc : s[k]? = some s[k] := List.getElem?_eq_getElem hlt
   have hst := lastL_stop s k
   have hgo := lastL_go s k
   rw [hc] at hst hgo
   generalize s[k] = c at *
   by_cases h47 : c = 47
   ·rw [he, hst (by rw [h47])]
    have h47' : (c.toNat : Int) = 47 := by rw [h47]; rfl
    repeat' (first | (show WL _ _ _ _ _ _ _; first | refine WL.pure rfl rfl rfl rfl ?_ | refine WL.nil ?_ | refine WL.idxS (j := k) rfl rfl rfl (congrArg (Value.int .i64) (pred_ofNat k)) hc rfl rfl rfl ?_) | (show WC _ _ _ _ _ _; first | refine WC.seq ?_ | refine WC.region ?_ | refine WC.block ?_ | refine WC.skip ?_ | refine WC.ret ?_ | refine WC.condT rfl (decide_eq_true Zw) ?_) | refine seqQ_n ?_ | refine seqQ_r ?_ | refine blkQ_r ?_ | refine rndQ_r ?_)
    exact fin1r rfl rfl ⟨hS.upd, vint Zo⟩
   ·have h47' : ¬ (c.toNat : Int) = 47 := fun e => h47 (UInt8.toNat_inj.1 (by show c.toNat = 47; omega))
    have hgo := hgo (by simpa using h47)
    repeat' (first | (show WL _ _ _ _ _ _ _; first | refine WL.pure rfl rfl rfl rfl ?_ | refine WL.nil ?_ | refine WL.sub rfl rfl rfl Zo rfl rfl rfl ?_ | refine WL.idxS (j := k) rfl rfl rfl (congrArg (Value.int .i64) (pred_ofNat k)) hc rfl rfl rfl ?_) | (show WC _ _ _ _ _ _; first | refine WC.seq ?_ | refine WC.region ?_ | refine WC.block ?_ | refine WC.skip ?_ | refine WC.condT rfl (decide_eq_true Zw) ?_ | refine WC.condF rfl (decide_eq_false Zw) ?_) | refine seqQ_n ?_ | refine blkQ_n ?_)
    exact rndQ_n k ⟨Zo, Zo, hS⟩ Zo ⟨vint Zo, trivial⟩ ⟨rfl, rfl, trivial⟩
 refine Cal.mk' Zk Tryz.func200 rfl rfl fun hS => ?_
 repeat' (first | (show WL _ _ _ _ _ _ _; first | refine WL.pure rfl rfl rfl rfl ?_ | refine WL.nil ?_ | (refine WL.calls hS rfl rfl (h0 _) rfl rfl rfl ?_; rintro v w rfl hS)) | (show WC _ _ _ _ _ _; first | refine WC.seq ?_ | refine WC.region ?_ | refine WC.ret ?_) | refine seqQ_n ?_)
 exact fin1r rfl rfl ⟨hS.upd, rfl⟩
def strs (l : List (List UInt8)) : List Value := l.flatMap fun s => [str s]
theorem strs_len (l : List (List UInt8)) : (strs l).length = l.length := by unfold strs; rw [flat_len (sz := 1) (fun _ => rfl), Nat.mul_one]
theorem strs_snoc (l : List (List UInt8)) (x : List UInt8) : strs l ++ [str x] = strs (l ++ [x]) := by simp [strs]
theorem strs_put (l : List (List UInt8)) (x : List UInt8) (zs : List Value) (k m : Nat) (hk : l.length = k) :
  (strs l ++ repZ [str []] (m + 1)).take (k * 1) ++ [str x] ++ (strs l ++ repZ [str []] (m + 1)).drop (k * 1 + 1) = strs (l ++ [x]) ++ repZ [str []] m := by
 have h1 : (strs l).length = k := by rw [strs_len, hk]
 rw [Nat.mul_one, List.take_append_of_le_length Zo, List.take_of_length_le Zo, List.drop_append, List.drop_of_length_le Zo, List.nil_append, h1, show k + 1 - k = 1 by omega]
 rw [← strs_snoc]
 rfl
theorem split_c (s : List UInt8) (w0 : World) (hl : s.length ≤ 4611686018427) : Cal Tryz.prog 195 [str s, str [47]] w0
  (fun v w' => Upd [] w0 w' ∧ ∃ A cap, v = .slice A (splitL s).length cap ∧ New w0 w' (.own (.slice A (splitL s).length cap) 9 1 (splitL s).length (strs (splitL s)))) := by
 have h0 : ∀ w0, Cal Tryz.prog 221 [str s, str [47], .int .i64 0, .int .i64 (-1)] w0
   (fun v w' => Upd [] w0 w' ∧ ∃ A cap, v = .slice A (splitL s).length cap ∧ New w0 w' (.own (.slice A (splitL s).length cap) 9 1 (splitL s).length (strs (splitL s)))) := by
  intro w0
  refine Cal.mk' Zk Tryz.func221 rfl rfl fun hS => ?_
  have hcl : s.count 47 ≤ s.length := List.count_le_length
  have hsep : ([47] : List UInt8).length = 1 := rfl
  have hmin : min ((s.count 47 : Int) + 1) ((s.length : Int) + 1) = ((s.count 47 + 1 : Nat) : Int) := Zo
  repeat' (first | (show WL _ _ _ _ _ _ _; first | refine WL.pure rfl rfl rfl rfl ?_ | refine WL.nil ?_ | refine WL.add rfl rfl rfl Zo rfl rfl rfl ?_ | refine WL.sub rfl rfl rfl Zo rfl rfl rfl ?_ | (refine WL.calls hS rfl rfl (count_c s 47 _) rfl rfl rfl ?_; rintro v w rfl hS) | (refine WL.minI rfl rfl rfl rfl rfl rfl ?_; rw [hmin]) | (refine WL.mkS (n := s.count 47 + 1) hS rfl rfl ⟨_, rfl, rfl⟩ rfl rfl Zo rfl rfl rfl ?_; intro w b hS)) | (show WC _ _ _ _ _ _; first | refine WC.seq ?_ | refine WC.region ?_ | refine WC.block ?_ | refine WC.skip ?_ | refine WC.condT rfl Zd ?_ | refine WC.condF rfl Zd ?_) | refine seqQ_n ?_)
  refine WC.loop (σ := List (List UInt8) × List UInt8 × List Value) [1, 2, 3, 9] (fun (done, r, xs) => [(0, str r), (10, .int .i64 (done.length : Int))])
   (fun (done, r, xs) w => done.length + r.count 47 = s.count 47 ∧ splitL s = done ++ splitL r ∧ r.length ≤ s.length ∧ xs = strs done ++ repZ [str []] (r.count 47 + 1) ∧ St w0 [] w [.own _ 9 1 _ xs] _)
   (fun (done, r, xs) => r.count 47) ([], s, _) ⟨by simp, rfl, Nat.le_refl _, rfl, hS⟩ ⟨rfl, rfl, trivial⟩ ?_
  clear hS
  rintro ⟨done, r, xs⟩ g w ⟨hk, hsp, hrl, hx, hS⟩
  have hxl := (hS.own_len Zh).1
  by_cases hlt : 0 < r.count 47
  ·obtain ⟨j, hj1, hj2, hj3, hj4⟩ := indexByte_spec r 47 hlt
   have hcf := count_first r j hj3 hj4
   have hsf := splitA_first r [] j hj3 hj4
   obtain ⟨m, hm⟩ : ∃ m, r.count 47 = m + 1 := ⟨r.count 47 - 1, Zo⟩
   rw [hm] at hx
   have hp := strs_put done (r.take j) [] done.length (m + 1) rfl
   repeat' (first | (show WL _ _ _ _ _ _ _; first | refine WL.pure rfl rfl rfl rfl ?_ | refine WL.nil ?_ | refine WL.add rfl rfl rfl Zo rfl rfl rfl ?_ | (refine WL.calls hS rfl rfl (index_c r 47 _) rfl rfl rfl ?_; rintro v w rfl hS; rw [hj1]) | refine WL.highS (j := j) rfl rfl rfl (congrArg (Value.int .i64) (Int.add_zero _)) Zo rfl rfl rfl ?_ | refine WL.lowS (j := j + 1) rfl rfl rfl (show Value.int .i64 ((j : Int) + (([47] : List UInt8).length : Int)) = .int .i64 (Int.ofNat (j + 1)) from rfl) Zo rfl rfl rfl ?_ | (refine WL.storeOwn hS rfl rfl rfl Rp (by show done.length * 1 + 1 ≤ _; omega) rfl rfl rfl rfl ?_; intro w hS) | refine WL.index rfl rfl rfl rfl Zw rfl rfl rfl rfl ?_) | (show WC _ _ _ _ _ _; first | refine WC.seq ?_ | refine WC.region ?_ | refine WC.block ?_ | refine WC.skip ?_ | refine WC.condT rfl (decide_eq_true Zw) ?_ | refine WC.condF rfl (decide_eq_false Zw) ?_) | refine seqQ_n ?_ | refine blkQ_n ?_)
   rw [hx] at hS
   have hS : St _ _ _ [.own _ _ _ _ _] _ := hS
   exact rndQ_n (done ++ [r.take j], r.drop (j + 1), _) ⟨by simp; omega, by rw [hsp]; unfold splitL; rw [hsf]; simp, by simp; omega, by rw [show (r.drop (j + 1)).count 47 + 1 = m + 1 by omega]; exact hp, hS⟩ (by show (r.drop (j + 1)).count 47 < r.count 47; omega) ⟨rfl, vint (by simp), trivial⟩ ⟨rfl, rfl, rfl, rfl, trivial⟩
  ·have h47 : r.count 47 = 0 := Zo
   have hsn := splitA_none r h47 []
   rw [h47] at hx
   have hp := strs_put done r [] done.length 0 rfl
   have hle : (splitL s).length = done.length + 1 := by rw [hsp]; unfold splitL; rw [hsn]; simp
   have hfull : splitL s = done ++ [r] := by rw [hsp]; unfold splitL; rw [hsn]; simp
   rw [hle, hfull]
   repeat' (first | (show WL _ _ _ _ _ _ _; first | refine WL.pure rfl rfl rfl rfl ?_ | refine WL.nil ?_ | refine WL.add rfl rfl rfl Zo rfl rfl rfl ?_ | (refine WL.storeOwn hS rfl rfl rfl Rp (by show done.length * 1 + 1 ≤ _; omega) rfl rfl rfl rfl ?_; intro w hS) | (refine WL.sliceHigh (j := done.length + 1) hS rfl rfl rfl rfl Rp Zo Zo rfl rfl rfl ?_; intro hS) | refine WL.index rfl rfl rfl rfl Zw rfl rfl rfl rfl ?_) | (show WC _ _ _ _ _ _; first | refine WC.seq ?_ | refine WC.region ?_ | refine WC.exit ?_ | refine WC.ret ?_ | refine WC.condF rfl (decide_eq_false Zw) ?_) | refine seqQ_n ?_ | refine seqQ_x ?_ | refine blkQ_hit rfl ?_ | refine rndQ_x ?_)
   have he : ((strs (done ++ [r]) ++ repZ [str []] 0).take ((done.length + 1) * 1)) = strs (done ++ [r]) := by
    simp only [repZ, List.append_nil, Nat.mul_one]
    exact List.take_of_length_le (by rw [strs_len]; simp)
   rw [hx] at hS
   have hS2 : St w0 [] w [.own (.slice (some ⟨b, 0, none⟩) (done.length + 1) (s.count 47 + 1)) 9 1 (done.length + 1) (strs (done ++ [r]))] [⟨w0, Old w0⟩] := by rw [← he, ← hp]; exact hS
   exact fin1r rfl rfl ⟨hS2.upd, _, _, rfl, hS2.newOf Zh⟩
 refine Cal.mk' Zk Tryz.func195 rfl rfl fun hS => ?_
 repeat' (first | (show WL _ _ _ _ _ _ _; first | refine WL.pure rfl rfl rfl rfl ?_ | refine WL.nil ?_ | (refine WL.callG rfl rfl (h0 _) rfl rfl rfl ?_; rintro v w ⟨hu, A, cap, rfl, hn⟩; have hS := hS.new hu hn; clear hu hn)) | (show WC _ _ _ _ _ _; first | refine WC.seq ?_ | refine WC.region ?_ | refine WC.ret ?_) | refine seqQ_n ?_)
 exact fin1r rfl rfl ⟨hS.upd, A, cap, rfl, hS.newOf Zh⟩
open Go Go.J Go.RowKit
theorem rsplit_c (s : List UInt8) (w0 : World) (hl : s.length ≤ 4611686018427) : Cal Tryz.prog 125 [str s] w0
  (fun v w' => Upd [] w0 w' ∧ ∃ A cap, v = .slice A (splitL s).length cap ∧ New w0 w' (.own (.slice A (splitL s).length cap) 9 1 (splitL s).length (strs (splitL s)))) := by
 refine Cal.mk' Zk Tryz.func125 rfl rfl fun hS => ?_
 have hlen := splitA_len s []
 have hcl : s.count 47 ≤ s.length := List.count_le_length
 repeat' (first | (show WL _ _ _ _ _ _ _; first | refine WL.pure rfl rfl rfl rfl ?_ | refine WL.nil ?_) | (show WC _ _ _ _ _ _; first | refine WC.seq ?_ | refine WC.region ?_ | refine WC.block ?_) | refine seqQ_n ?_)
 have hS := hS.nilRow 9 1
 refine WC.loop (σ := Nat × List (List UInt8) × List UInt8 × Nat × List Value × Option Addr × Nat) [0] (fun (k, done, one, n, xs, A, cap) => [(3, .slice A n cap), (4, str one), (5, .int .i64 (k : Int))])
  (fun (k, done, one, n, xs, A, cap) w => k ≤ s.length ∧ n = done.length ∧ n ≤ k ∧ one.length ≤ k ∧ xs = strs done ∧ splitL s = done ++ splitA one (s.drop k) ∧ St w0 [] w [.own (.slice A n cap) 9 1 n xs] _)
  (fun (k, _) => s.length - k) (0, [], [], 0, [], none, 0) ⟨Nat.zero_le _, rfl, Nat.zero_le _, Nat.zero_le _, rfl, rfl, hS⟩ ⟨rfl, rfl, rfl, trivial⟩ ?_
 clear hS
 rintro ⟨k, done, one, n, xs, A, cap⟩ g w ⟨hk, hn, hnk, hok, hx, hsp, hS⟩
 by_cases hlt : k < s.length
 ·have hc : s[k]? = some s[k] := List.getElem?_eq_getElem hlt
  have hd : s.drop k = s[k] :: s.drop (k + 1) := List.drop_eq_getElem_cons hlt
  have htd : (s.take (k + 1)).drop k = [s[k]] := by rw [List.take_succ_eq_append_getElem hlt, List.drop_append, List.drop_of_length_le (by simp; omega)]; simp; rw [Nat.min_eq_left Zo]; simp
  rw [hd] at hsp
  generalize s[k] = c at *
  by_cases h47 : c = 47
  ·subst h47
   have h47' : (((47 : UInt8).toNat : Nat) : Int) = 47 := rfl
   repeat' (first | (show WL _ _ _ _ _ _ _; first | refine WL.pure rfl rfl rfl rfl ?_ | refine WL.nil ?_ | refine WL.add rfl rfl rfl Zo rfl rfl rfl ?_ | (refine WL.app hS rfl rfl rfl rfl (RdOk.box (by repeat (first | exact Zh | apply List.Mem.tail))) rfl rfl (fun A cap => Rp) Zo rfl rfl rfl ?_; intro A cap w hS) | refine WL.idxS rfl rfl rfl rfl Za rfl rfl rfl ?_ | (refine WL.slit hS rfl rfl rfl rfl rfl ?_; intro w b hS)) | (show WC _ _ _ _ _ _; first | refine WC.seq ?_ | refine WC.region ?_ | refine WC.block ?_ | refine WC.skip ?_ | refine WC.exit ?_ | refine WC.condT rfl Zd ?_ | refine WC.condT rfl (decide_eq_true Zw) ?_) | refine seqQ_n ?_ | refine seqQ_x ?_ | refine blkQ_hit rfl ?_)
   exact rndQ_n (k + 1, done ++ [one], [], n + 1, xs ++ [str one], _, _) ⟨Zo, by simp [hn], Zo, by simp, by rw [hx, strs_snoc], by rw [hsp]; simp [splitA], hS.drop⟩ (by show s.length - (k + 1) < s.length - k; omega) ⟨rfl, rfl, vint Zo, trivial⟩ ⟨rfl, trivial⟩
  ·have h47' : ¬ (c.toNat : Int) = 47 := fun e => h47 (UInt8.toNat_inj.1 (by show c.toNat = 47; omega))
   have hl1 : ([c] : List UInt8).length = 1 := rfl
   repeat' (first | (show WL _ _ _ _ _ _ _; first | refine WL.pure rfl rfl rfl rfl ?_ | refine WL.nil ?_ | refine WL.add rfl rfl rfl Zo rfl rfl rfl ?_ | (refine WL.midS (j := k + 1) rfl rfl rfl rfl rfl Zo Zo rfl rfl rfl ?_; rw [htd]) | refine WL.cat rfl rfl rfl Zo rfl rfl rfl ?_ | refine WL.idxS rfl rfl rfl rfl Za rfl rfl rfl ?_) | (show WC _ _ _ _ _ _; first | refine WC.seq ?_ | refine WC.region ?_ | refine WC.block ?_ | refine WC.skip ?_ | refine WC.condT rfl (decide_eq_true Zw) ?_ | refine WC.condF rfl (decide_eq_false Zw) ?_) | refine seqQ_n ?_ | refine blkQ_n ?_)
   exact rndQ_n (k + 1, done, one ++ [c], n, xs, _, _) ⟨Zo, hn, Zo, by simp; omega, hx, by rw [hsp]; simp [splitA, h47], hS⟩ (by show s.length - (k + 1) < s.length - k; omega) ⟨rfl, rfl, vint Zo, trivial⟩ ⟨rfl, trivial⟩
 ·have hke : s.drop k = [] := List.drop_of_length_le Zo
  rw [hke] at hsp
  have hsp : splitL s = done ++ [one] := hsp
  have hle : (splitL s).length = n + 1 := by rw [hsp, hn]; simp
  rw [hle, hsp]
  repeat' (first | (show WL _ _ _ _ _ _ _; first | refine WL.pure rfl rfl rfl rfl ?_ | refine WL.nil ?_ | (refine WL.app hS rfl rfl rfl rfl (RdOk.box (by repeat (first | exact Zh | apply List.Mem.tail))) rfl rfl (fun A cap => Rp) Zo rfl rfl rfl ?_; intro A cap w hS) | (refine WL.slit hS rfl rfl rfl rfl rfl ?_; intro w b hS)) | (show WC _ _ _ _ _ _; first | refine WC.seq ?_ | refine WC.region ?_ | refine WC.exit ?_ | refine WC.ret ?_ | refine WC.condF rfl (decide_eq_false Zw) ?_) | refine seqQ_n ?_ | refine seqQ_x ?_ | refine blkQ_hit rfl ?_ | refine rndQ_x ?_)
  have hS2 : St w0 [] w [.own (.slice A (n + 1) cap) 9 1 (n + 1) (strs (done ++ [one]))] [⟨w0, Old w0⟩] := by rw [← strs_snoc, ← hx]; exact hS.drop
  exact fin1r rfl rfl ⟨hS2.upd, _, _, rfl, hS2.newOf Zh⟩
theorem okC_cases (c : UInt8) : (okC c = true ∧ (97 ≤ c.toNat ∧ c.toNat ≤ 122)) ∨ (okC c = true ∧ (48 ≤ c.toNat ∧ c.toNat ≤ 57)) ∨ (okC c = true ∧ c.toNat = 95) ∨ (okC c = false ∧ ¬ (97 ≤ c.toNat ∧ c.toNat ≤ 122) ∧ ¬ (48 ≤ c.toNat ∧ c.toNat ≤ 57) ∧ c.toNat ≠ 95) := by
 unfold okC
 by_cases h1 : 97 ≤ c.toNat ∧ c.toNat ≤ 122
 ·exact .inl ⟨decide_eq_true (.inl h1), h1⟩
 ·by_cases h2 : 48 ≤ c.toNat ∧ c.toNat ≤ 57
  ·exact .inr (.inl ⟨decide_eq_true (.inr (.inl h2)), h2⟩)
  ·by_cases h3 : c.toNat = 95
   ·exact .inr (.inr (.inl ⟨decide_eq_true (.inr (.inr h3)), h3⟩))
   ·exact .inr (.inr (.inr ⟨decide_eq_false (fun h => by rcases h with h | h | h <;> contradiction), h1, h2, h3⟩))
theorem rname_c (s : List UInt8) (w0 : World) (hl : s.length ≤ 4611686018427) : Cal Tryz.prog 173 [str s] w0 (fun v w' => Upd [] w0 w' ∧ v = .bool (nameB s)) := by
 refine Cal.mk' Zk Tryz.func173 rfl rfl fun hS => ?_
 by_cases hb : 1 ≤ s.length ∧ s.length ≤ 12
 ·repeat' (first | (show WL _ _ _ _ _ _ _; first | refine WL.pure rfl rfl rfl rfl ?_ | refine WL.nil ?_ | ((fail_if_success (refine WL.wanted rfl ?_)); refine WL.guard rfl rfl rfl (fun h => ?_) (fun h => ?_) <;> (try simp only [Ya,Yb,Yc,Yd,Ye,Yf,Yg,Yh,Yi,Yj,Yk,Yl,Ym,Yn,Yo,Yp] at h) <;> (try exact Zx))) | (show WC _ _ _ _ _ _; first | refine WC.seq ?_ | refine WC.region ?_ | refine WC.block ?_ | refine WC.skip ?_ | refine WC.condF rfl (decide_eq_false Zw) ?_) | refine seqQ_n ?_)
  refine WC.loop (σ := Nat) [0] (fun k => [(3, .int .i64 (k : Int))]) (fun k w => k ≤ s.length ∧ (∀ j (h : j < s.length), j < k → okC s[j] = true) ∧ St w0 [] w _ _) (fun k => s.length - k) 0 ⟨Nat.zero_le _, fun j h hj => absurd hj (Nat.not_lt_zero _), hS⟩ ⟨rfl, trivial⟩ ?_
  clear hS
  rintro k g w ⟨hk, hall, hS⟩
  obtain ⟨Hall, rfl⟩ : ∃ h : (∀ j (h : j < s.length), j < k → okC s[j] = true), h = hall := ⟨_, rfl⟩
  by_cases hlt : k < s.length
  ·have hc : s[k]? = some s[k] := List.getElem?_eq_getElem hlt
   have hno := nameB_no s k hlt
   have hnx : okC s[k] = true → ∀ j (h : j < s.length), j < k + 1 → okC s[j] = true := fun ho j h hj => if e : j = k then (by subst e; exact ho) else Hall j h Zo
   clear Hall
   generalize s[k] = c at *
   rcases okC_cases c with ⟨ho, h1, h2⟩ | ⟨ho, h1, h2⟩ | ⟨ho, h1⟩ | ⟨ho, h1, h2, h3⟩
   case' inr.inr.inr => rw [hno ho]
   all_goals
    clear hno
    repeat' (first | (show WL _ _ _ _ _ _ _; first | refine WL.pure rfl rfl rfl rfl ?_ | refine WL.nil ?_ | refine WL.add rfl rfl rfl Zo rfl rfl rfl ?_ | refine WL.idxS rfl rfl rfl rfl Za rfl rfl rfl ?_ | refine WL.skip rfl rfl rfl ?_ | ((fail_if_success (refine WL.wanted rfl ?_)); refine WL.guard rfl rfl rfl (fun h => ?_) (fun h => ?_) <;> (try simp only [Ya,Yb,Yc,Yd,Ye,Yf,Yg,Yh,Yi,Yj,Yk,Yl,Ym,Yn,Yo,Yp] at h) <;> (try exact Zx))) | (show WC _ _ _ _ _ _; first | refine WC.seq ?_ | refine WC.region ?_ | refine WC.block ?_ | refine WC.skip ?_ | refine WC.ret ?_ | refine WC.condF rfl Zd ?_ | refine WC.condT rfl (decide_eq_true Zw) ?_ | refine WC.condT rfl Zs ?_ | refine WC.condF rfl Zs ?_) | refine seqQ_n ?_ | refine blkQ_n ?_ | refine seqQ_r ?_ | refine blkQ_r ?_ | refine rndQ_r ?_)
    all_goals first
     |exact rndQ_n (k + 1) ⟨Zo, hnx ho, hS⟩ Zo ⟨vint Zo, trivial⟩ ⟨rfl, trivial⟩
     |exact fin1r rfl rfl ⟨hS.upd, rfl⟩
  ·have hke : k = s.length := Zo
   subst hke
   rw [nameB_yes s hb fun j h => Hall j h h]
   clear Hall
   repeat' (first | (show WL _ _ _ _ _ _ _; first | refine WL.pure rfl rfl rfl rfl ?_ | refine WL.nil ?_) | (show WC _ _ _ _ _ _; first | refine WC.seq ?_ | refine WC.region ?_ | refine WC.exit ?_ | refine WC.ret ?_ | refine WC.condF rfl (decide_eq_false Zw) ?_) | refine seqQ_n ?_ | refine seqQ_x ?_ | refine blkQ_hit rfl ?_ | refine rndQ_x ?_)
   exact fin1r rfl rfl ⟨hS.upd, rfl⟩
 ·rw [nameB_len s hb]
  repeat' (first | (show WL _ _ _ _ _ _ _; first | refine WL.pure rfl rfl rfl rfl ?_ | refine WL.nil ?_ | refine WL.skip rfl rfl rfl ?_ | ((fail_if_success (refine WL.wanted rfl ?_)); refine WL.guard rfl rfl rfl (fun h => ?_) (fun h => ?_) <;> (try simp only [Ya,Yb,Yc,Yd,Ye,Yf,Yg,Yh,Yi,Yj,Yk,Yl,Ym,Yn,Yo,Yp] at h) <;> (try exact Zx))) | (show WC _ _ _ _ _ _; first | refine WC.seq ?_ | refine WC.region ?_ | refine WC.ret ?_ | refine WC.condT rfl Zr ?_ | refine WC.condT rfl (decide_eq_true Zw) ?_) | refine seqQ_n ?_ | refine seqQ_r ?_)
  all_goals exact fin1r rfl rfl ⟨hS.upd, rfl⟩
theorem pname_c (s : List UInt8) (w0 : World) (hl : s.length ≤ 4611686018427) : Cal Tryz.prog 196 [str s] w0 (fun v w' => Upd [] w0 w' ∧ v = .bool (nameB s)) := by
 refine Cal.mk' Zk Tryz.func196 rfl rfl fun hS => ?_
 by_cases hb : 1 ≤ s.length ∧ s.length ≤ 12
 ·have hne : ¬ s = [] := by rintro rfl; simp at hb
  repeat' (first | (show WL _ _ _ _ _ _ _; first | refine WL.pure rfl rfl rfl rfl ?_ | refine WL.nil ?_ | (refine WL.rangeS hS rfl rfl rfl rfl rfl rfl ?_; intro w b hS) | ((fail_if_success (refine WL.wanted rfl ?_)); refine WL.guard rfl rfl rfl (fun h => ?_) (fun h => ?_) <;> (try simp only [Ya,Yb,Yc,Yd,Ye,Yf,Yg,Yh,Yi,Yj,Yk,Yl,Ym,Yn,Yo,Yp] at h) <;> (try exact Zx))) | (show WC _ _ _ _ _ _; first | refine WC.seq ?_ | refine WC.region ?_ | refine WC.block ?_ | refine WC.skip ?_ | refine WC.condF rfl (decide_eq_false Zw) ?_) | refine seqQ_n ?_)
  refine WC.loop (σ := Nat) [13] (fun k => []) (fun k w => k ≤ s.length ∧ (∀ j (h : j < s.length), j < k → okC s[j] = true) ∧ St w0 [] w [itC _ s k] _) (fun k => s.length - k) 0 ⟨Nat.zero_le _, fun j h hj => absurd hj (Nat.not_lt_zero _), hS⟩ trivial ?_
  clear hS
  rintro k g w ⟨hk, hall, hS⟩
  obtain ⟨Hall, rfl⟩ : ∃ h : (∀ j (h : j < s.length), j < k → okC s[j] = true), h = hall := ⟨_, rfl⟩
  by_cases hlt : k < s.length
  ·have hno := nameB_no s k hlt
   have hnx : okC s[k] = true → ∀ j (h : j < s.length), j < k + 1 → okC s[j] = true := fun ho j h hj => if e : j = k then (by subst e; exact ho) else Hall j h Zo
   clear Hall
   by_cases h8 : s[k].toNat < 128
   ·have hdec := decode_small s k hlt h8
    generalize s[k] = c at *
    rcases okC_cases c with ⟨ho, h1, h2⟩ | ⟨ho, h1, h2⟩ | ⟨ho, h1⟩ | ⟨ho, h1, h2, h3⟩
    case' inr.inr.inr => rw [hno ho]
    all_goals
     clear hno
     repeat' (first | (show WL _ _ _ _ _ _ _; first | refine WL.pure rfl rfl rfl rfl ?_ | refine WL.nil ?_ | (refine WL.nextS hS rfl rfl Rp hlt hdec rfl rfl rfl ?_; intro w hS) | refine WL.skip rfl rfl rfl ?_ | ((fail_if_success (refine WL.wanted rfl ?_)); refine WL.guard rfl rfl rfl (fun h => ?_) (fun h => ?_) <;> (try simp only [Ya,Yb,Yc,Yd,Ye,Yf,Yg,Yh,Yi,Yj,Yk,Yl,Ym,Yn,Yo,Yp] at h) <;> (try exact Zx))) | (show WC _ _ _ _ _ _; first | refine WC.seq ?_ | refine WC.region ?_ | refine WC.block ?_ | refine WC.skip ?_ | refine WC.ret ?_ | refine WC.condT rfl Zr ?_ | refine WC.condF rfl Zr ?_ | refine WC.condT rfl (decide_eq_true Zw) ?_ | refine WC.condF rfl (decide_eq_false Zw) ?_) | refine seqQ_n ?_ | refine blkQ_n ?_ | refine seqQ_r ?_ | refine blkQ_r ?_ | refine rndQ_r ?_)
     all_goals first
      |exact rndQ_n (k + 1) ⟨Zo, hnx ho, hS⟩ Zo trivial ⟨rfl, trivial⟩
      |exact fin1r rfl rfl ⟨hS.upd, rfl⟩
   ·have hdec := decode_big s k hlt h8
    have ho : okC s[k] = false := by unfold okC; exact decide_eq_false Zo
    rw [hno ho]
    rcases hde : Utf8.decode ⟨⟨s⟩⟩ k with ⟨c, width⟩
    rw [hde] at hdec
    obtain ⟨hd1, hd2⟩ := hdec
    dsimp only at hd1 hd2
    clear hno hnx ho
    repeat' (first | (show WL _ _ _ _ _ _ _; first | refine WL.pure rfl rfl rfl rfl ?_ | refine WL.nil ?_ | (refine WL.nextS hS rfl rfl Rp hlt hde rfl rfl rfl ?_; intro w hS) | ((fail_if_success (refine WL.wanted rfl ?_)); refine WL.guard rfl rfl rfl (fun h => ?_) (fun h => ?_) <;> (try simp only [Ya,Yb,Yc,Yd,Ye,Yf,Yg,Yh,Yi,Yj,Yk,Yl,Ym,Yn,Yo,Yp] at h) <;> (try exact Zx))) | (show WC _ _ _ _ _ _; first | refine WC.seq ?_ | refine WC.region ?_ | refine WC.block ?_ | refine WC.skip ?_ | refine WC.ret ?_ | refine WC.condT rfl Zr ?_ | refine WC.condT rfl (decide_eq_true Zw) ?_) | refine seqQ_n ?_ | refine seqQ_r ?_ | refine blkQ_r ?_ | refine rndQ_r ?_)
    all_goals exact fin1r rfl rfl ⟨hS.upd, rfl⟩
  ·have hke : k = s.length := Zo
   subst hke
   rw [nameB_yes s hb fun j h => Hall j h h]
   clear Hall
   repeat' (first | (show WL _ _ _ _ _ _ _; first | refine WL.pure rfl rfl rfl rfl ?_ | refine WL.nil ?_ | refine WL.nextS_end hS rfl rfl (by repeat (first | exact Zh | apply List.Mem.tail)) (Nat.le_refl _) rfl rfl rfl ?_) | (show WC _ _ _ _ _ _; first | refine WC.seq ?_ | refine WC.region ?_ | refine WC.exit ?_ | refine WC.ret ?_ | refine WC.condF rfl Zr ?_) | refine seqQ_n ?_ | refine seqQ_x ?_ | refine blkQ_hit rfl ?_ | refine rndQ_x ?_)
   exact fin1r rfl rfl ⟨hS.upd, rfl⟩
 ·rw [nameB_len s hb]
  have hcase : s = [] ∨ (¬ s = [] ∧ 12 < s.length) := by
   rcases s with _ | ⟨a, s⟩
   ·exact .inl rfl
   ·refine .inr ⟨by simp, ?_⟩
    simp only [List.length_cons] at hb ⊢
    omega
  rcases hcase with rfl | ⟨hne, h12⟩
  all_goals
   repeat' (first | (show WL _ _ _ _ _ _ _; first | refine WL.pure rfl rfl rfl rfl ?_ | refine WL.nil ?_ | refine WL.skip rfl rfl rfl ?_ | ((fail_if_success (refine WL.wanted rfl ?_)); refine WL.guard rfl rfl rfl (fun h => ?_) (fun h => ?_) <;> (try simp only [Ya,Yb,Yc,Yd,Ye,Yf,Yg,Yh,Yi,Yj,Yk,Yl,Ym,Yn,Yo,Yp] at h) <;> (try exact Zx))) | (show WC _ _ _ _ _ _; first | refine WC.seq ?_ | refine WC.region ?_ | refine WC.ret ?_ | refine WC.condT rfl Zr ?_ | refine WC.condT rfl (decide_eq_true Zw) ?_) | refine seqQ_n ?_ | refine seqQ_r ?_)
   all_goals exact fin1r rfl rfl ⟨hS.upd, rfl⟩
theorem strs_at {l : List (List UInt8)} {k : Nat} (h : k < l.length) : (strs l)[k]? = some (str l[k]) := by
 induction l generalizing k with
 |nil => simp at h
 |cons a l ih =>
  cases k with
  |zero => rfl
  |succ k => simpa [strs] using ih (by simpa using h)
theorem splitA_max (s : List UInt8) : ∀ one x, x ∈ splitA one s → x.length ≤ one.length + s.length := by
 induction s with
 |nil => intro one x h; simp [splitA] at h; subst h; simp
 |cons c s ih =>
  intro one x h
  simp only [splitA] at h
  split at h
  ·rcases List.mem_cons.1 h with rfl | h
   ·simp
   ·have := ih [] x h; simp at this ⊢; omega
  ·have := ih _ x h; simp at this ⊢; omega
theorem splitL_max (s : List UInt8) (k : Nat) (h : k < (splitL s).length) : (splitL s)[k].length ≤ s.length := by
 have := splitA_max s [] _ (List.getElem_mem h)
 simpa using this
theorem rcheck_c (p : List UInt8) (deep : Int) (w0 : World) (hl : p.length ≤ 4611686018) : Cal Tryz.prog 124 [str p, .int .i64 deep] w0 (fun v w' => Upd [] w0 w' ∧ v = .int .i64 (checkE p deep)) := by
 refine Cal.mk' Zk Tryz.func124 rfl rfl fun hS => ?_
 have hsl := splitA_len p []
 have hcl : p.count 47 ≤ p.length := List.count_le_length
 change (splitL p).length = _ at hsl
 by_cases hd : deep < ((splitL p).length : Int)
 ·rw [checkE_deep p deep hd]
  repeat' (first | (show WL _ _ _ _ _ _ _; first | refine WL.pure rfl rfl rfl rfl ?_ | refine WL.nil ?_ | (refine WL.callG rfl rfl (rsplit_c p _ Zo) rfl rfl rfl ?_; rintro v w ⟨hu, A, cap, rfl, hn⟩; have hS := hS.new hu hn; clear hu hn)) | (show WC _ _ _ _ _ _; first | refine WC.seq ?_ | refine WC.region ?_ | refine WC.ret ?_ | refine WC.condT rfl (decide_eq_true Zw) ?_) | refine seqQ_n ?_ | refine seqQ_r ?_)
  exact fin1r rfl rfl ⟨hS.upd, rfl⟩
 ·repeat' (first | (show WL _ _ _ _ _ _ _; first | refine WL.pure rfl rfl rfl rfl ?_ | refine WL.nil ?_ | (refine WL.callG rfl rfl (rsplit_c p _ Zo) rfl rfl rfl ?_; rintro v w ⟨hu, A, cap, rfl, hn⟩; have hS := hS.new hu hn; clear hu hn)) | (show WC _ _ _ _ _ _; first | refine WC.seq ?_ | refine WC.region ?_ | refine WC.block ?_ | refine WC.skip ?_ | refine WC.condF rfl (decide_eq_false Zw) ?_) | refine seqQ_n ?_)
  refine WC.loop (σ := Nat) [5] (fun k => [(6, .int .i64 (k : Int))]) (fun k w => k ≤ (splitL p).length ∧ (∀ j (h : j < (splitL p).length), j < k → nameB (splitL p)[j] = true) ∧ St w0 [] w [_] _) (fun k => (splitL p).length - k) 0 ⟨Nat.zero_le _, fun j h hj => absurd hj (Nat.not_lt_zero _), hS⟩ ⟨rfl, trivial⟩ ?_
  clear hS
  rintro k g w ⟨hk, hall, hS⟩
  obtain ⟨Hall, rfl⟩ : ∃ h : (∀ j (h : j < (splitL p).length), j < k → nameB (splitL p)[j] = true), h = hall := ⟨_, rfl⟩
  by_cases hlt : k < (splitL p).length
  ·obtain ⟨ga, oa, rfl⟩ := hS.own_addr Zh Zo
   have hx : (strs (splitL p))[k * 1]? = some (str (splitL p)[k]) := by rw [Nat.mul_one]; exact strs_at hlt
   have hno := checkE_no p deep k hlt
   have hmx := splitL_max p k hlt
   have hnx : nameB (splitL p)[k] = true → ∀ j (h : j < (splitL p).length), j < k + 1 → nameB (splitL p)[j] = true := fun ho j h hj => if e : j = k then (by subst e; exact ho) else Hall j h Zo
   clear Hall
   generalize (splitL p)[k] = c at *
   rcases hn : nameB c
   ·rw [hno hn]
    clear hno hnx
    repeat' (first | (show WL _ _ _ _ _ _ _; first | refine WL.pure rfl rfl rfl rfl ?_ | refine WL.nil ?_ | refine WL.load hS rfl rfl (LdOk.ownAt (by repeat (first | exact Zh | apply List.Mem.tail)) rfl ⟨_, rfl⟩ hx rfl) rfl rfl rfl ?_ | (refine WL.calls hS rfl rfl (rname_c c _ Zo) rfl rfl rfl ?_; rintro v w rfl hS; rw [hn]) | refine WL.index rfl rfl rfl rfl Zw rfl rfl rfl rfl ?_) | (show WC _ _ _ _ _ _; first | refine WC.seq ?_ | refine WC.region ?_ | refine WC.block ?_ | refine WC.skip ?_ | refine WC.ret ?_ | refine WC.condT rfl Zd ?_ | refine WC.condT rfl (decide_eq_true Zw) ?_) | refine seqQ_n ?_ | refine seqQ_r ?_ | refine blkQ_r ?_ | refine rndQ_r ?_)
    exact fin1r rfl rfl ⟨hS.upd, rfl⟩
   ·clear hno
    repeat' (first | (show WL _ _ _ _ _ _ _; first | refine WL.pure rfl rfl rfl rfl ?_ | refine WL.nil ?_ | refine WL.add rfl rfl rfl Zo rfl rfl rfl ?_ | refine WL.load hS rfl rfl (LdOk.ownAt (by repeat (first | exact Zh | apply List.Mem.tail)) rfl ⟨_, rfl⟩ hx rfl) rfl rfl rfl ?_ | (refine WL.calls hS rfl rfl (rname_c c _ Zo) rfl rfl rfl ?_; rintro v w rfl hS; rw [hn]) | refine WL.index rfl rfl rfl rfl Zw rfl rfl rfl rfl ?_) | (show WC _ _ _ _ _ _; first | refine WC.seq ?_ | refine WC.region ?_ | refine WC.block ?_ | refine WC.skip ?_ | refine WC.condF rfl Zd ?_ | refine WC.condT rfl (decide_eq_true Zw) ?_) | refine seqQ_n ?_ | refine blkQ_n ?_)
    exact rndQ_n (k + 1) ⟨Zo, hnx hn, hS⟩ Zo ⟨vint Zo, trivial⟩ ⟨rfl, trivial⟩
  ·rw [checkE_yes p deep hd fun j h => Hall j h Zo]
   clear Hall
   repeat' (first | (show WL _ _ _ _ _ _ _; first | refine WL.pure rfl rfl rfl rfl ?_ | refine WL.nil ?_) | (show WC _ _ _ _ _ _; first | refine WC.seq ?_ | refine WC.region ?_ | refine WC.exit ?_ | refine WC.ret ?_ | refine WC.condF rfl (decide_eq_false Zw) ?_) | refine seqQ_n ?_ | refine seqQ_x ?_ | refine blkQ_hit rfl ?_ | refine rndQ_x ?_)
   exact fin1r rfl rfl ⟨hS.upd, rfl⟩
theorem pcheck_c (p : List UInt8) (deep : Int) (w0 : World) (hl : p.length ≤ 4611686018) : Cal Tryz.prog 166 [str p, .int .i64 deep] w0 (fun v w' => Upd [] w0 w' ∧ v = .int .i64 (checkE p deep)) := by
 refine Cal.mk' Zk Tryz.func166 rfl rfl fun hS => ?_
 have hsl := splitA_len p []
 have hcl : p.count 47 ≤ p.length := List.count_le_length
 change (splitL p).length = _ at hsl
 by_cases hp : p = []
 ·subst hp
  rw [checkE_empty]
  repeat' (first | (show WL _ _ _ _ _ _ _; first | refine WL.pure rfl rfl rfl rfl ?_ | refine WL.nil ?_ | refine WL.skip rfl rfl rfl ?_) | (show WC _ _ _ _ _ _; first | refine WC.seq ?_ | refine WC.region ?_ | refine WC.ret ?_ | refine WC.condT rfl Zr ?_) | refine seqQ_n ?_ | refine seqQ_r ?_)
  exact fin1r rfl rfl ⟨hS.upd, rfl⟩
 ·by_cases hd : deep < ((splitL p).length : Int)
  ·rw [checkE_deep p deep hd]
   repeat' (first | (show WL _ _ _ _ _ _ _; first | refine WL.pure rfl rfl rfl rfl ?_ | refine WL.nil ?_ | (refine WL.callG rfl rfl (split_c p _ Zo) rfl rfl rfl ?_; rintro v w ⟨hu, A, cap, rfl, hn⟩; have hS := hS.new hu hn; clear hu hn) | ((fail_if_success (refine WL.wanted rfl ?_)); refine WL.guard rfl rfl rfl (fun h => ?_) (fun h => ?_) <;> (try simp only [Ya,Yb,Yc,Yd,Ye,Yf,Yg,Yh,Yi,Yj,Yk,Yl,Ym,Yn,Yo,Yp] at h) <;> (try exact Zx))) | (show WC _ _ _ _ _ _; first | refine WC.seq ?_ | refine WC.region ?_ | refine WC.skip ?_ | refine WC.ret ?_ | refine WC.condT rfl (decide_eq_true Zw) ?_ | (refine WC.cond rfl (fun h => ?_) (fun h => ?_) <;> (try simp only [Ya,Yb,Yc,Yd,Ye,Yf,Yg,Yh,Yi,Yj,Yk,Yl,Ym,Yn,Yo,Yp] at h) <;> (try exact Zx))) | refine seqQ_n ?_ | refine seqQ_r ?_)
   all_goals exact fin1r rfl rfl ⟨hS.upd, rfl⟩
  ·repeat' (first | (show WL _ _ _ _ _ _ _; first | refine WL.pure rfl rfl rfl rfl ?_ | refine WL.nil ?_ | (refine WL.callG rfl rfl (split_c p _ Zo) rfl rfl rfl ?_; rintro v w ⟨hu, A, cap, rfl, hn⟩; have hS := hS.new hu hn; clear hu hn) | ((fail_if_success (refine WL.wanted rfl ?_)); refine WL.guard rfl rfl rfl (fun h => ?_) (fun h => ?_) <;> (try simp only [Ya,Yb,Yc,Yd,Ye,Yf,Yg,Yh,Yi,Yj,Yk,Yl,Ym,Yn,Yo,Yp] at h) <;> (try exact Zx))) | (show WC _ _ _ _ _ _; first | refine WC.seq ?_ | refine WC.region ?_ | refine WC.block ?_ | refine WC.skip ?_ | refine WC.condF rfl (decide_eq_false Zw) ?_) | refine seqQ_n ?_)
   refine WC.loop (σ := Nat) [20, 21] (fun k => [(22, .int .i64 (k : Int))]) (fun k w => k ≤ (splitL p).length ∧ (∀ j (h : j < (splitL p).length), j < k → nameB (splitL p)[j] = true) ∧ St w0 [] w [_] _) (fun k => (splitL p).length - k) 0 ⟨Nat.zero_le _, fun j h hj => absurd hj (Nat.not_lt_zero _), hS⟩ ⟨rfl, trivial⟩ ?_
   clear hS
   rintro k g w ⟨hk, hall, hS⟩
   obtain ⟨Hall, rfl⟩ : ∃ h : (∀ j (h : j < (splitL p).length), j < k → nameB (splitL p)[j] = true), h = hall := ⟨_, rfl⟩
   by_cases hlt : k < (splitL p).length
   ·obtain ⟨ga, oa, rfl⟩ := hS.own_addr Zh Zo
    have hx : (strs (splitL p))[k * 1]? = some (str (splitL p)[k]) := by rw [Nat.mul_one]; exact strs_at hlt
    have hno := checkE_no p deep k hlt
    have hmx := splitL_max p k hlt
    have hnx : nameB (splitL p)[k] = true → ∀ j (h : j < (splitL p).length), j < k + 1 → nameB (splitL p)[j] = true := fun ho j h hj => if e : j = k then (by subst e; exact ho) else Hall j h Zo
    clear Hall
    generalize (splitL p)[k] = c at *
    rcases hn : nameB c
    ·rw [hno hn]
     clear hno hnx
     repeat' (first | (show WL _ _ _ _ _ _ _; first | refine WL.pure rfl rfl rfl rfl ?_ | refine WL.nil ?_ | refine WL.load hS rfl rfl (LdOk.ownAt (by repeat (first | exact Zh | apply List.Mem.tail)) rfl ⟨_, rfl⟩ hx rfl) rfl rfl rfl ?_ | (refine WL.calls hS rfl rfl (pname_c c _ Zo) rfl rfl rfl ?_; rintro v w rfl hS; rw [hn]) | refine WL.index rfl rfl rfl rfl Zw rfl rfl rfl rfl ?_) | (show WC _ _ _ _ _ _; first | refine WC.seq ?_ | refine WC.region ?_ | refine WC.block ?_ | refine WC.skip ?_ | refine WC.ret ?_ | refine WC.condT rfl Zd ?_ | refine WC.condT rfl (decide_eq_true Zw) ?_) | refine seqQ_n ?_ | refine seqQ_r ?_ | refine blkQ_r ?_ | refine rndQ_r ?_)
     exact fin1r rfl rfl ⟨hS.upd, rfl⟩
    ·clear hno
     repeat' (first | (show WL _ _ _ _ _ _ _; first | refine WL.pure rfl rfl rfl rfl ?_ | refine WL.nil ?_ | refine WL.add rfl rfl rfl Zo rfl rfl rfl ?_ | refine WL.load hS rfl rfl (LdOk.ownAt (by repeat (first | exact Zh | apply List.Mem.tail)) rfl ⟨_, rfl⟩ hx rfl) rfl rfl rfl ?_ | (refine WL.calls hS rfl rfl (pname_c c _ Zo) rfl rfl rfl ?_; rintro v w rfl hS; rw [hn]) | refine WL.index rfl rfl rfl rfl Zw rfl rfl rfl rfl ?_) | (show WC _ _ _ _ _ _; first | refine WC.seq ?_ | refine WC.region ?_ | refine WC.block ?_ | refine WC.skip ?_ | refine WC.condF rfl Zd ?_ | refine WC.condT rfl (decide_eq_true Zw) ?_) | refine seqQ_n ?_ | refine blkQ_n ?_)
     exact rndQ_n (k + 1) ⟨Zo, hnx hn, hS⟩ Zo ⟨vint Zo, trivial⟩ ⟨rfl, rfl, trivial⟩
   ·rw [checkE_yes p deep hd fun j h => Hall j h Zo]
    clear Hall
    repeat' (first | (show WL _ _ _ _ _ _ _; first | refine WL.pure rfl rfl rfl rfl ?_ | refine WL.nil ?_) | (show WC _ _ _ _ _ _; first | refine WC.seq ?_ | refine WC.region ?_ | refine WC.exit ?_ | refine WC.ret ?_ | refine WC.condF rfl (decide_eq_false Zw) ?_) | refine seqQ_n ?_ | refine seqQ_x ?_ | refine blkQ_hit rfl ?_ | refine rndQ_x ?_)
    exact fin1r rfl rfl ⟨hS.upd, rfl⟩
open Go Go.J Go.RowKit
theorem rlast_c (s : List UInt8) (w0 : World) (hl : s.length ≤ 4611686018427) : Cal Tryz.prog 174 [str s] w0 (fun v w' => Upd [] w0 w' ∧ v = .int .i64 (lastE s)) := by
 refine Cal.mk' Zk Tryz.func174 rfl rfl fun hS => ?_
 repeat' (first | (show WL _ _ _ _ _ _ _; first | refine WL.pure rfl rfl rfl rfl ?_ | refine WL.nil ?_) | (show WC _ _ _ _ _ _; first | refine WC.seq ?_ | refine WC.region ?_ | refine WC.block ?_) | refine seqQ_n ?_)
 refine WC.loop (σ := Nat) [0] (fun k => [(3, .int .i64 (lastL s k)), (4, .int .i64 (k : Int))]) (fun k w => k ≤ s.length ∧ St w0 [] w _ _) (fun k => s.length - k) 0 ⟨Nat.zero_le _, hS⟩ ⟨rfl, rfl, trivial⟩ ?_
 clear hS
 rintro k g w ⟨hk, hS⟩
 by_cases hlt : k < s.length
 ·have hc : s[k]? = some s[k] := List.getElem?_eq_getElem hlt
  have hst := lastL_stop s k
  have hgo := lastL_go s k
  rw [hc] at hst hgo
  generalize s[k] = c at *
  by_cases h47 : c = 47
  ·have hst := hst (by rw [h47])
   have h47' : (c.toNat : Int) = 47 := by rw [h47]; rfl
   repeat' (first | (show WL _ _ _ _ _ _ _; first | refine WL.pure rfl rfl rfl rfl ?_ | refine WL.nil ?_ | refine WL.add rfl rfl rfl Zo rfl rfl rfl ?_ | refine WL.idxS rfl rfl rfl rfl Za rfl rfl rfl ?_) | (show WC _ _ _ _ _ _; first | refine WC.seq ?_ | refine WC.region ?_ | refine WC.block ?_ | refine WC.skip ?_ | refine WC.condT rfl (decide_eq_true Zw) ?_) | refine seqQ_n ?_ | refine blkQ_n ?_)
   exact rndQ_n (k + 1) ⟨Zo, hS⟩ Zo ⟨vint hst.symm, vint Zo, trivial⟩ ⟨rfl, trivial⟩
  ·have h47' : ¬ (c.toNat : Int) = 47 := fun e => h47 (UInt8.toNat_inj.1 (by show c.toNat = 47; omega))
   have hgo := hgo (by simpa using h47)
   repeat' (first | (show WL _ _ _ _ _ _ _; first | refine WL.pure rfl rfl rfl rfl ?_ | refine WL.nil ?_ | refine WL.add rfl rfl rfl Zo rfl rfl rfl ?_ | refine WL.idxS rfl rfl rfl rfl Za rfl rfl rfl ?_) | (show WC _ _ _ _ _ _; first | refine WC.seq ?_ | refine WC.region ?_ | refine WC.block ?_ | refine WC.skip ?_ | refine WC.condT rfl (decide_eq_true Zw) ?_ | refine WC.condF rfl (decide_eq_false Zw) ?_) | refine seqQ_n ?_ | refine blkQ_n ?_)
   exact rndQ_n (k + 1) ⟨Zo, hS⟩ Zo ⟨vint hgo.symm, vint Zo, trivial⟩ ⟨rfl, trivial⟩
 ·have hke : k = s.length := Zo
  subst hke
  repeat' (first | (show WL _ _ _ _ _ _ _; first | refine WL.pure rfl rfl rfl rfl ?_ | refine WL.nil ?_) | (show WC _ _ _ _ _ _; first | refine WC.seq ?_ | refine WC.region ?_ | refine WC.exit ?_ | refine WC.ret ?_ | refine WC.condF rfl (decide_eq_false Zw) ?_) | refine seqQ_n ?_ | refine seqQ_x ?_ | refine blkQ_hit rfl ?_ | refine rndQ_x ?_)
  exact fin1r rfl rfl ⟨hS.upd, rfl⟩
section
variable (p : List UInt8) (w0 : World) (hl : p.length ≤ 4611686018427)
include hl
theorem pparent_c : Cal Tryz.prog 172 [str p] w0 (fun v w' => Upd [] w0 w' ∧ v = str (parentE p)) := by
 have hg := lastE_ge p
 have hm : max (0 : Int) (lastE p) = (((lastE p).toNat : Nat) : Int) := Zo
 unfold parentE
 generalize (lastE p).toNat = m at *
 refine Cal.mk' Zk Tryz.func172 rfl rfl fun hS => ?_
 repeat' (first | (show WL _ _ _ _ _ _ _; first | refine WL.pure rfl rfl rfl rfl ?_ | refine WL.nil ?_ | (refine WL.calls hS rfl rfl (lastIndexByte_c p _ Zo) rfl rfl rfl ?_; rintro v w rfl hS) | (refine WL.maxI rfl rfl rfl rfl rfl rfl ?_; rw [hm]) | refine WL.highS rfl rfl rfl rfl Zo rfl rfl rfl ?_) | (show WC _ _ _ _ _ _; first | refine WC.seq ?_ | refine WC.region ?_ | refine WC.ret ?_) | refine seqQ_n ?_)
 exact fin1r rfl rfl ⟨hS.upd, rfl⟩
theorem rparent_c : Cal Tryz.prog 126 [str p] w0 (fun v w' => Upd [] w0 w' ∧ v = str (parentE p)) := by
 have hg := lastE_ge p
 unfold parentE
 refine Cal.mk' Zk Tryz.func126 rfl rfl fun hS => ?_
 by_cases h0 : lastE p < 0
 ·have e : (lastE p).toNat = 0 := Zo
  rw [e, List.take_zero]
  repeat' (first | (show WL _ _ _ _ _ _ _; first | refine WL.pure rfl rfl rfl rfl ?_ | refine WL.nil ?_ | (refine WL.calls hS rfl rfl (rlast_c p _ Zo) rfl rfl rfl ?_; rintro v w rfl hS)) | (show WC _ _ _ _ _ _; first | refine WC.seq ?_ | refine WC.region ?_ | refine WC.ret ?_ | refine WC.condT rfl (decide_eq_true Zw) ?_) | refine seqQ_n ?_ | refine seqQ_r ?_)
  exact fin1r rfl rfl ⟨hS.upd, rfl⟩
 ·obtain ⟨m, hm⟩ := Int.eq_ofNat_of_zero_le (show 0 ≤ lastE p by omega)
  rw [hm] at h0 hg
  have e : (lastE p).toNat = m := by rw [hm]; rfl
  rw [e]
  repeat' (first | (show WL _ _ _ _ _ _ _; first | refine WL.pure rfl rfl rfl rfl ?_ | refine WL.nil ?_ | (refine WL.calls hS rfl rfl (rlast_c p _ Zo) rfl rfl rfl ?_; rintro v w rfl hS; rw [hm]) | refine WL.highS rfl rfl rfl rfl Zo rfl rfl rfl ?_) | (show WC _ _ _ _ _ _; first | refine WC.seq ?_ | refine WC.region ?_ | refine WC.skip ?_ | refine WC.ret ?_ | refine WC.condF rfl (decide_eq_false Zw) ?_) | refine seqQ_n ?_)
  exact fin1r rfl rfl ⟨hS.upd, rfl⟩
theorem pdeep_c : Cal Tryz.prog 171 [str p] w0 (fun v w' => Upd [] w0 w' ∧ v = .int .i64 (deepE p)) := by
 have hcl : p.count 47 ≤ p.length := List.count_le_length
 unfold deepE
 refine Cal.mk' Zk Tryz.func171 rfl rfl fun hS => ?_
 by_cases hp : p = []
 ·rw [if_pos hp]
  repeat' (first | (show WL _ _ _ _ _ _ _; first | refine WL.pure rfl rfl rfl rfl ?_ | refine WL.nil ?_) | (show WC _ _ _ _ _ _; first | refine WC.seq ?_ | refine WC.region ?_ | refine WC.ret ?_ | refine WC.condT rfl (decide_eq_true Zw) ?_) | refine seqQ_n ?_ | refine seqQ_r ?_)
  exact fin1r rfl rfl ⟨hS.upd, rfl⟩
 ·rw [if_neg hp]
  repeat' (first | (show WL _ _ _ _ _ _ _; first | refine WL.pure rfl rfl rfl rfl ?_ | refine WL.nil ?_ | refine WL.add rfl rfl rfl Zo rfl rfl rfl ?_ | (refine WL.calls hS rfl rfl (count_c p 47 _) rfl rfl rfl ?_; rintro v w rfl hS)) | (show WC _ _ _ _ _ _; first | refine WC.seq ?_ | refine WC.region ?_ | refine WC.skip ?_ | refine WC.ret ?_ | refine WC.condF rfl (decide_eq_false Zw) ?_) | refine seqQ_n ?_)
  exact fin1r rfl rfl ⟨hS.upd, rfl⟩
end
section
variable (a b : List UInt8) (w0 : World) (hla : a.length ≤ 4611686018427) (hlb : b.length ≤ 4611686018427)
include hla hlb
end
end Go.Proofs.YtccfiohagbneaaaGreatDoor

namespace Go.J
open Go
theorem splitA_app (q : List UInt8) : ∀ (p one : List UInt8), splitA one (p ++ 47 :: q) = splitA one p ++ splitA [] q
 |[], one => by simp [splitA]
 |c :: p, one => by
  by_cases h : c = 47
  ·subst h; simp [splitA, splitA_app q p]
  ·simp [splitA, h, splitA_app q p]
theorem checkE_iff (p : List UInt8) (d : Int) : checkE p d = 0 ↔ ((splitL p).length : Int) ≤ d ∧ (splitL p).all nameB = true := by
 unfold checkE
 by_cases h : d < ((splitL p).length : Int)
 ·rw [if_pos h]; constructor
  ·intro h; cases h
  ·intro h2; omega
 ·rw [if_neg h]
  by_cases h2 : (splitL p).all nameB = true
  ·rw [if_pos h2]; exact ⟨fun _ => ⟨Zo, h2⟩, fun _ => rfl⟩
  ·rw [if_neg h2]; constructor
   ·intro h; cases h
   ·intro h3; exact absurd h3.2 h2
theorem checkE_ten (p : List UInt8) (d : Int) (h : checkE p d ≠ 0) : checkE p d = 10 := by
 unfold checkE at *
 split
 ·rfl
 ·rename_i h1
  rw [if_neg h1] at h
  split
  ·rename_i h2; rw [if_pos h2] at h; exact absurd rfl h
  ·rfl
theorem names_ne {p : List UInt8} (h : (splitL p).all nameB = true) : p ≠ [] := by
 rintro rfl
 simp [splitL, splitA, nameB] at h
theorem splitL_app (p q : List UInt8) : splitL (p ++ [47] ++ q) = splitL p ++ splitL q := by
 unfold splitL; rw [List.append_assoc]; exact splitA_app q p []
theorem lastL_no (s : List UInt8) : ∀ (k : Nat), k ≤ s.length → ∀ i : Nat, lastL s k < (i : Int) → i < k → s[i]? ≠ some 47
 |0, _, i, _, hi => absurd hi (Nat.not_lt_zero _)
 |k + 1, hk, i, h, hi => by
  simp only [lastL] at h
  split at h
  ·omega
  ·rename_i hne
   by_cases e : i = k
   ·subst e; exact hne
   ·exact lastL_no s k Zo i h Zo
theorem lastL_at (s : List UInt8) : ∀ (k m : Nat), lastL s k = (m : Int) → s[m]? = some 47
 |0, m, h => by simp only [lastL] at h; omega
 |k + 1, m, h => by
  simp only [lastL] at h
  split at h
  ·rename_i h2; have : k = m := Zo
   subst this; exact h2
  ·exact lastL_at s k m h
theorem count_none (s : List UInt8) (h : ∀ i, i < s.length → s[i]? ≠ some 47) : s.count 47 = 0 := by
 rw [List.count_eq_zero]
 intro hm
 obtain ⟨i, hi, he⟩ := List.mem_iff_getElem.1 hm
 exact h i hi (by rw [List.getElem?_eq_getElem hi, he])
theorem parts (p : List UInt8) (h : (splitL p).all nameB = true) : joinE (parentE p) (baseE p) = p ∧ nameB (baseE p) = true ∧ underB p (parentE p) = true := by
 have hg := lastE_ge p
 by_cases h0 : lastE p < 0
 ·have e1 : lastE p = -1 := Zo
  have e2 : parentE p = [] := by unfold parentE; rw [e1]; rfl
  have e3 : baseE p = p := by unfold baseE; rw [e1]; rfl
  have hn : p.count 47 = 0 := count_none p fun i hi => lastL_no p p.length (Nat.le_refl _) i (by show lastE p < _; omega) hi
  rw [e2, e3]
  refine ⟨by simp [joinE], ?_, by simp [underB]⟩
  unfold splitL at h
  rw [splitA_none p hn] at h
  simpa using h
 ·obtain ⟨m, hm⟩ := Int.eq_ofNat_of_zero_le (show 0 ≤ lastE p by omega)
  have hat := lastL_at p p.length m hm
  have hlt : m < p.length := (List.getElem?_eq_some_iff.1 hat).1
  have hpm : p[m] = 47 := (List.getElem?_eq_some_iff.1 hat).2
  have e2 : parentE p = p.take m := by unfold parentE; rw [hm]; rfl
  have e3 : baseE p = p.drop (m + 1) := by unfold baseE; rw [hm]; rfl
  have hp : p = p.take m ++ [47] ++ p.drop (m + 1) := by
   rw [List.append_assoc]
   show p = p.take m ++ 47 :: p.drop (m + 1)
   rw [← hpm, ← List.drop_eq_getElem_cons hlt]; exact (List.take_append_drop m p).symm
  have hn : (p.drop (m + 1)).count 47 = 0 := count_none _ fun i hi => by
   rw [List.getElem?_drop]
   simp only [List.length_drop] at hi
   exact lastL_no p p.length (Nat.le_refl _) (m + 1 + i) (by show lastE p < _; omega) Zo
  have hs : splitL p = splitL (p.take m) ++ [p.drop (m + 1)] := by
   conv => lhs; rw [hp]
   rw [splitL_app]
   congr 1
   unfold splitL
   rw [splitA_none _ hn]; rfl
  rw [hs, List.all_append, Bool.and_eq_true] at h
  have hne := names_ne h.1
  have hb : nameB (p.drop (m + 1)) = true := by simpa using h.2
  have hbn : p.drop (m + 1) ≠ [] := by intro e; rw [e] at hb; simp [nameB] at hb
  rw [e2, e3]
  refine ⟨?_, hb, ?_⟩
  ·unfold joinE
   rw [if_neg hne, if_neg hbn]; exact hp.symm
  ·unfold underB
   have hl : (p.take m).length = m := by simp; omega
   have : p.take ((p.take m).length + 1) = p.take m ++ [47] := by rw [hl, List.take_succ_eq_append_getElem hlt, hpm]
   rw [decide_eq_true this, Bool.or_true]
theorem joinE_ne {p q : List UInt8} (hp : p ≠ []) (hq : q ≠ []) : joinE p q = p ++ [47] ++ q := by unfold joinE; rw [if_neg hp, if_neg hq]
theorem deep_join {p q : List UInt8} (hp : p ≠ []) (hq : q ≠ []) : deepE (joinE p q) = deepE p + deepE q := by
 rw [joinE_ne hp hq]
 unfold deepE
 rw [if_neg hp, if_neg hq, if_neg (by simp)]
 rw [List.count_append, List.count_append]
 simp
 omega
theorem deep_len {p : List UInt8} (hp : p ≠ []) : deepE p = ((splitL p).length : Int) := by
 unfold deepE splitL
 rw [if_neg hp, splitA_len]; omega
theorem less_app (b r : List UInt8) (c : UInt8) (top : List UInt8) : Op.bytesLess top (top ++ c :: r) = true := by
 induction top with
 |nil => rfl
 |cons a t ih => simp [Op.bytesLess, ih]
end Go.J

namespace Go.Proofs.YtccfiohagbneaaaGreatDoor
open Go Go.J Go.RowKit
structure It where
 dir : Bool
 data : List UInt8
 kept : List UInt8
 loose : Bool
 anew : Bool
 stamp : Int
def It0 : It := ⟨false, [], [], false, false, 0⟩
@[reducible] def encIt (x : It) : Value := .agg ⟨[.bool x.dir, str x.data, str x.kept, .bool x.loose, .bool x.anew, .int .i64 x.stamp]⟩
@[reducible] def encI (n : Int) : Value := .int .i64 n
structure Dk where
 items : List (List UInt8 × It)
 limits : List (List UInt8 × Int)
 steps : Int
 stamps : Int
 armed : Int
 down : Bool
abbrev dkCells (mb lb : Nat) (D : Dk) : List Value := [.map (some mb), .map (some lb), .int .i64 D.steps, .int .i64 D.stamps, .int .i64 D.armed, .bool D.down]
def DkIs (b mb lb : Nat) (D : Dk) (w : World) : Prop := b ≠ mb ∧ b ≠ lb ∧ mb ≠ lb ∧ w.heap[b]? = some (.cells ⟨dkCells mb lb D⟩ 122 (0, 0)) ∧ MapIs mb (mmap encIt D.items) w ∧ MapIs lb (mmap encI D.limits) w
theorem DkIs.local {b mb lb : Nat} {D : Dk} : Local [b, mb, lb] (DkIs b mb lb D) := fun w w' h ⟨h1, h2, h3, hb, hm, hl⟩ =>
 ⟨h1, h2, h3, (h b (by simp)).trans hb, MapIs.local w w' (fun b hb => h b (by simp at hb; simp [hb])) hm, MapIs.local w w' (fun b hb => h b (by simp at hb; simp [hb])) hl⟩
abbrev dkC (b mb lb : Nat) (D : Dk) : Chunk := .obj [b, mb, lb] (DkIs b mb lb D)
theorem St.dkOpen {w0 w : World} {M : List Nat} {H : List Chunk} {Z : List Snap} {b mb lb : Nat} {D : Dk} (hS : St w0 M w (dkC b mb lb D :: H) Z) :
  b ≠ mb ∧ b ≠ lb ∧ mb ≠ lb ∧ St w0 M w (.box b 122 (dkCells mb lb D) :: mapC mb (mmap encIt D.items) :: mapC lb (mmap encI D.limits) :: H) Z := by
 obtain ⟨h1, h2, h3, hb, hm, hl⟩ := (hS.holds _ Zh).1
 refine ⟨h1, h2, h3, hS.opens (D := [.box b 122 (dkCells mb lb D), mapC mb (mmap encIt D.items), mapC lb (mmap encI D.limits)]) ?_ ?_ ?_⟩
 ·simp [Chunk.holds, hb]; exact ⟨⟨hm, MapIs.local⟩, hl, MapIs.local⟩
 ·simp [Chunk.apart, Chunk.fp, h1, h2, h3]
 ·simp [Chunk.fp]
theorem St.dkClose {w0 w : World} {M : List Nat} {H : List Chunk} {Z : List Snap} {b mb lb : Nat} (D : Dk) (h1 : b ≠ mb) (h2 : b ≠ lb) (h3 : mb ≠ lb) (hS : St w0 M w (.box b 122 (dkCells mb lb D) :: mapC mb (mmap encIt D.items) :: mapC lb (mmap encI D.limits) :: H) Z) : St w0 M w (dkC b mb lb D :: H) Z := by
 refine hS.closes (D := [.box b 122 (dkCells mb lb D), mapC mb (mmap encIt D.items), mapC lb (mmap encI D.limits)]) ⟨⟨h1, h2, h3, hS.holds _ Zh, (hS.holds (mapC mb (mmap encIt D.items)) (by simp)).1, (hS.holds (mapC lb (mmap encI D.limits)) (by simp)).1⟩, DkIs.local⟩ ?_
 simp [Chunk.fp]
theorem look_it (m : List (List UInt8 × It)) (k : List UInt8) : lookV (encIt It0) (mmap encIt m) k false = encIt ((mget m k).getD It0) := by
 simp only [lookV, mget_map]; cases mget m k <;> rfl
theorem look_it2 (m : List (List UInt8 × It)) (k : List UInt8) : lookV (encIt It0) (mmap encIt m) k true = .tuple #[encIt ((mget m k).getD It0), .bool (mget m k).isSome] := by
 simp only [lookV, mget_map]; cases mget m k <;> rfl
def Dk.at (D : Dk) (p : List UInt8) : It := (mget D.items p).getD It0
def Dk.has (D : Dk) (p : List UInt8) : Bool := (mget D.items p).isSome
def Dk.may (D : Dk) (p : List UInt8) (names : Int) : Int := if D.down then 14 else if checkE p 6 ≠ 0 then 10 else if deepE p ≤ names then 10 else 0
theorem may_c {b mb lb : Nat} {D : Dk} (p : List UInt8) (names : Int) {w0 : World} (h : DkIs b mb lb D w0) (hl : p.length ≤ 1099511627) : Cal Tryz.prog 122 [.pointer (some ⟨b, 0, none⟩), str p, .int .i64 names] w0
  (fun v w' => Upd [] w0 w' ∧ v = .int .i64 (D.may p names)) := by
 refine Cal.mk' Zk Tryz.func122 rfl rfl fun hS => ?_
 obtain ⟨_, _, _, hb, hm, hlm⟩ := h
 have hb : w0.heap[b]? = some (.cells ⟨[.map (some mb), .map (some lb), .int .i64 D.steps, .int .i64 D.stamps, .int .i64 D.armed, .bool D.down]⟩ 122 (0, 0)) := hb
 unfold Dk.may
 generalize D.down = dn at *
 cases dn with
 |true =>
  repeat' (first | (show WL _ _ _ _ _ _ _; first | refine WL.pure rfl rfl rfl rfl ?_ | refine WL.nil ?_ | (refine WL.load hS rfl rfl (LdOk.old hb (by repeat (first | exact Zh | apply List.Mem.tail)) rfl) rfl rfl rfl ?_)) | (show WC _ _ _ _ _ _; first | refine WC.seq ?_ | refine WC.region ?_ | refine WC.block ?_ | refine WC.ret ?_ | refine WC.condT rfl Zr ?_ | refine WC.condF rfl Zr ?_) | refine seqQ_n ?_ | refine seqQ_r ?_ | refine blkQ_r ?_)
  exact fin1r rfl rfl ⟨hS.upd, rfl⟩
 |false =>
  rw [if_neg Zd]
  by_cases hc : checkE p 6 = 0
  ·rw [if_neg (by simp [hc])]
   by_cases hd : deepE p ≤ names
   case' pos => rw [if_pos hd]
   case' neg => rw [if_neg hd]
   all_goals
    repeat' (first | (show WL _ _ _ _ _ _ _; first | refine WL.pure rfl rfl rfl rfl ?_ | refine WL.nil ?_ | (refine WL.load hS rfl rfl (LdOk.old hb (by repeat (first | exact Zh | apply List.Mem.tail)) rfl) rfl rfl rfl ?_) | (refine WL.calls hS rfl rfl (pcheck_c p 6 _ Zo) rfl rfl rfl ?_; rintro v w rfl hS; rw [hc]) | (refine WL.calls hS rfl rfl (pdeep_c p _ Zo) rfl rfl rfl ?_; rintro v w rfl hS)) | (show WC _ _ _ _ _ _; first | refine WC.seq ?_ | refine WC.region ?_ | refine WC.block ?_ | refine WC.skip ?_ | refine WC.ret ?_ | refine WC.condF rfl Zr ?_ | refine WC.condT rfl (decide_eq_true Zw) ?_ | refine WC.condF rfl (decide_eq_false Zw) ?_) | refine seqQ_n ?_ | refine blkQ_n ?_ | refine seqQ_r ?_ | refine blkQ_r ?_)
    exact fin1r rfl rfl ⟨hS.upd, rfl⟩
  ·rw [if_pos hc]
   have hc := checkE_ten p 6 hc
   repeat' (first | (show WL _ _ _ _ _ _ _; first | refine WL.pure rfl rfl rfl rfl ?_ | refine WL.nil ?_ | (refine WL.load hS rfl rfl (LdOk.old hb (by repeat (first | exact Zh | apply List.Mem.tail)) rfl) rfl rfl rfl ?_) | (refine WL.calls hS rfl rfl (pcheck_c p 6 _ Zo) rfl rfl rfl ?_; rintro v w rfl hS; rw [hc]) | refine WL.skip rfl rfl rfl ?_) | (show WC _ _ _ _ _ _; first | refine WC.seq ?_ | refine WC.region ?_ | refine WC.block ?_ | refine WC.ret ?_ | refine WC.condT rfl Zr ?_ | refine WC.condF rfl Zr ?_) | refine seqQ_n ?_ | refine seqQ_r ?_ | refine blkQ_r ?_)
   exact fin1r rfl rfl ⟨hS.upd, rfl⟩
def Dk.under (D : Dk) (p : List UInt8) : Bool := if deepE p = 1 then true else (D.at (parentE p)).dir
theorem dunder_c {b mb lb : Nat} {D : Dk} (p : List UInt8) {w0 : World} (h : DkIs b mb lb D w0) (hl : p.length ≤ 1099511627) : Cal Tryz.prog 123 [.pointer (some ⟨b, 0, none⟩), str p] w0
  (fun v w' => Upd [] w0 w' ∧ v = .bool (D.under p)) := by
 refine Cal.mk' Zk Tryz.func123 rfl rfl fun hS => ?_
 obtain ⟨_, _, _, hb, hm, hlm⟩ := h
 have hb : w0.heap[b]? = some (.cells ⟨[.map (some mb), .map (some lb), .int .i64 D.steps, .int .i64 D.stamps, .int .i64 D.armed, .bool D.down]⟩ 122 (0, 0)) := hb
 unfold Dk.under
 by_cases hd : deepE p = 1
 case' pos => rw [if_pos hd]
 case' neg => rw [if_neg hd]
 all_goals
  repeat' (first | (show WL _ _ _ _ _ _ _; first | refine WL.pure rfl rfl rfl rfl ?_ | refine WL.nil ?_) | (show WC _ _ _ _ _ _; first | refine WC.seq ?_ | refine WC.region ?_ | refine WC.ret ?_ | (show WC _ _ (Code.region _ (List.toArray [_, _, _, _, _, _, _, _, _, _, _, _, _, _]) true) _ _ _; refine WC.drawS hS [0,2,3,4,5,6,7,8,10,11,12,13] [0,1,2,3,4,5,6,7,8,9,10,11,12,13] Zk Zk ?_; clear hS; intro w hS hM)) | (show WD _ _ _ _ _ _ _ _ _; first | refine WD.pure rfl rfl rfl rfl rfl ?_ | refine WD.nil ?_ | (refine WD.load rfl rfl (LdOk.old hb (by repeat (first | exact Zh | apply List.Mem.tail)) rfl) rfl rfl rfl rfl ?_) | (refine WD.mget rfl rfl rfl rfl (MapOk.old hm (by repeat (first | exact Zh | apply List.Mem.tail))) (look_it _ _) rfl rfl rfl rfl ?_) | (refine WD.calls hS hM rfl rfl (pdeep_c p _ Zo) rfl rfl rfl rfl rfl ?_; clear hS; rintro v w rfl hS) | (refine WD.calls hS hM rfl rfl (pparent_c p _ Zo) rfl rfl rfl rfl rfl ?_; clear hS; rintro v w rfl hS) | refine WD.pass rfl rfl rfl rfl ?_ | refine WD.skip rfl rfl rfl rfl rfl (hM.ss hS) ?_ | ((fail_if_success (refine WD.wanted rfl ?_)); refine WD.guard rfl rfl rfl (fun h => ?_) (fun h => ?_) <;> (try simp only [Ya,Yb,Yc,Yd,Ye,Yf,Yg,Yh,Yi,Yj,Yk,Yl,Ym,Yn,Yo,Yp] at h) <;> (try exact Zx))) | refine seqQ_n ?_)
  exact fin1r rfl rfl ⟨hS.upd, rfl⟩
def Dk.stepE (D : Dk) : Int := if D.armed = 0 then 14 else 0
def Dk.step (D : Dk) : Dk := if D.armed = 0 then { D with armed := -1, down := true } else { D with armed := if 0 < D.armed then IntKind.i64.wrap (D.armed - 1) else D.armed, steps := IntKind.i64.wrap (D.steps + 1) }
theorem step_c {b mb lb : Nat} {D : Dk} {w0 : World} (hc : (dkC b mb lb D).holds w0) (hi : inB (dkC b mb lb D) w0) : Cal Tryz.prog 87 [.pointer (some ⟨b, 0, none⟩)] w0
  (fun v w' => v = .int .i64 D.stepE ∧ Mut w0 w' (dkC b mb lb D) (dkC b mb lb D.step)) := by
 refine Cal.mkM hc hi Zk Tryz.func87 rfl rfl fun hS => ?_
 obtain ⟨h1, h2, h3, hS⟩ := St.dkOpen hS
 replace hS : St w0 (dkC b mb lb D).fp w0 [.box b 122 [.map (some mb), .map (some lb), .int .i64 D.steps, .int .i64 D.stamps, .int .i64 D.armed, .bool D.down], mapC mb (mmap encIt D.items), mapC lb (mmap encI D.limits)] _ := hS
 unfold Dk.stepE
 by_cases h0 : D.armed = 0
 ·rw [if_pos h0]
  have hD : D.step = { D with armed := -1, down := true } := by unfold Dk.step; rw [if_pos h0]
  rw [hD]
  repeat' (first | (show WL _ _ _ _ _ _ _; first | refine WL.pure rfl rfl rfl rfl ?_ | refine WL.nil ?_ | refine WL.load hS rfl rfl (LdOk.box (by repeat (first | exact Zh | apply List.Mem.tail)) rfl) rfl rfl rfl ?_ | (refine WL.store hS rfl rfl rfl Sb rfl rfl rfl ?_; intro w hS)) | (show WC _ _ _ _ _ _; first | refine WC.seq ?_ | refine WC.region ?_ | refine WC.ret ?_ | refine WC.condT rfl (decide_eq_true Zw) ?_) | refine seqQ_n ?_ | refine seqQ_r ?_)
  exact fin1r rfl rfl ⟨rfl, (St.dkClose { D with armed := -1, down := true } h1 h2 h3 hS).mutOf Zh⟩
 ·rw [if_neg h0]
  by_cases hp : 0 < D.armed
  ·have hD : D.step = { D with armed := IntKind.i64.wrap (D.armed - 1), steps := IntKind.i64.wrap (D.steps + 1) } := by unfold Dk.step; rw [if_neg h0, if_pos hp]
   rw [hD]
   repeat' (first | (show WL _ _ _ _ _ _ _; first | refine WL.pure rfl rfl rfl rfl ?_ | refine WL.nil ?_ | refine WL.load hS rfl rfl (LdOk.box (by repeat (first | exact Zh | apply List.Mem.tail)) rfl) rfl rfl rfl ?_ | (refine WL.addW rfl rfl rfl rfl rfl rfl ?_) | (refine WL.subW rfl rfl rfl rfl rfl rfl ?_) | (refine WL.store hS rfl rfl rfl Sb rfl rfl rfl ?_; intro w hS)) | (show WC _ _ _ _ _ _; first | refine WC.seq ?_ | refine WC.region ?_ | refine WC.skip ?_ | refine WC.ret ?_ | refine WC.condT rfl (decide_eq_true Zw) ?_ | refine WC.condF rfl (decide_eq_false Zw) ?_) | refine seqQ_n ?_)
   exact fin1r rfl rfl ⟨rfl, (St.dkClose { D with armed := IntKind.i64.wrap (D.armed - 1), steps := IntKind.i64.wrap (D.steps + 1) } h1 h2 h3 hS).mutOf Zh⟩
  ·have hD : D.step = { D with steps := IntKind.i64.wrap (D.steps + 1) } := by unfold Dk.step; rw [if_neg h0, if_neg hp]
   rw [hD]
   repeat' (first | (show WL _ _ _ _ _ _ _; first | refine WL.pure rfl rfl rfl rfl ?_ | refine WL.nil ?_ | refine WL.load hS rfl rfl (LdOk.box (by repeat (first | exact Zh | apply List.Mem.tail)) rfl) rfl rfl rfl ?_ | (refine WL.addW rfl rfl rfl rfl rfl rfl ?_) | (refine WL.store hS rfl rfl rfl Sb rfl rfl rfl ?_; intro w hS)) | (show WC _ _ _ _ _ _; first | refine WC.seq ?_ | refine WC.region ?_ | refine WC.skip ?_ | refine WC.ret ?_ | refine WC.condF rfl (decide_eq_false Zw) ?_) | refine seqQ_n ?_)
   exact fin1r rfl rfl ⟨rfl, (St.dkClose { D with steps := IntKind.i64.wrap (D.steps + 1) } h1 h2 h3 hS).mutOf Zh⟩
def Dk.set (D : Dk) (p : List UInt8) (x : It) : Dk := { D with stamps := IntKind.i64.wrap (D.stamps + 1), items := mset D.items p { x with stamp := IntKind.i64.wrap (D.stamps + 1) } }
theorem St.dkSet {w0 w : World} {M : List Nat} {H : List Chunk} {Z : List Snap} {b mb lb : Nat} {D : Dk} {p : List UInt8} {x : It} (h1 : b ≠ mb) (h2 : b ≠ lb) (h3 : mb ≠ lb)
  (hS : St w0 M w (.box b 122 [.map (some mb), .map (some lb), .int .i64 D.steps, .int .i64 (IntKind.i64.wrap (D.stamps + 1)), .int .i64 D.armed, .bool D.down] :: mapC mb (mset (mmap encIt D.items) p (encIt { x with stamp := IntKind.i64.wrap (D.stamps + 1) })) :: mapC lb (mmap encI D.limits) :: H) Z) : St w0 M w (dkC b mb lb (D.set p x) :: H) Z := by
 rw [mset_map] at hS
 exact St.dkClose (D.set p x) h1 h2 h3 hS
theorem dset_c {b mb lb : Nat} {D : Dk} (p : List UInt8) (x : It) {w0 : World} (hc : (dkC b mb lb D).holds w0) (hi : inB (dkC b mb lb D) w0) : Cal Tryz.prog 78 [.pointer (some ⟨b, 0, none⟩), str p, encIt x] w0
  (fun v w' => v = .tuple #[] ∧ Mut w0 w' (dkC b mb lb D) (dkC b mb lb (D.set p x))) := by
 refine Cal.mkM hc hi Zk Tryz.func78 rfl rfl fun hS => ?_
 obtain ⟨h1, h2, h3, hS⟩ := St.dkOpen hS
 replace hS : St w0 (dkC b mb lb D).fp w0 [.box b 122 [.map (some mb), .map (some lb), .int .i64 D.steps, .int .i64 D.stamps, .int .i64 D.armed, .bool D.down], mapC mb (mmap encIt D.items), mapC lb (mmap encI D.limits)] _ := hS
 repeat' (first | (show WL _ _ _ _ _ _ _; first | refine WL.pure rfl rfl rfl rfl ?_ | refine WL.nil ?_ | refine WL.load hS rfl rfl (LdOk.box (by repeat (first | exact Zh | apply List.Mem.tail)) rfl) rfl rfl rfl ?_ | (refine WL.addW rfl rfl rfl rfl rfl rfl ?_) | (refine WL.store hS rfl rfl rfl Sb rfl rfl rfl ?_; intro w hS) | (refine WL.box hS rfl rfl rfl rfl rfl ?_; intro w b hS)) | (show WC _ _ _ _ _ _; first | refine WC.seq ?_ | refine WC.region ?_) | refine seqQ_n ?_)
 have hS := St.pull (c := mapC mb (mmap encIt D.items)) hS Pl1
 refine WC.drawC hS [0,1,2,3,4,5] [0,1,2,3,4,5,6] Zk Zk ?_
 clear hS
 intro w hS hM
 repeat' (first | (show WD _ _ _ _ _ _ _ _ _; first | refine WD.pure rfl rfl rfl rfl rfl ?_ | refine WD.nil ?_ | refine WD.load rfl rfl (LdOk.box (by repeat (first | exact Zh | apply List.Mem.tail)) rfl) rfl rfl rfl rfl ?_ | (refine WD.msetC hS (More.refl _ _) (.inl rfl) rfl rfl rfl rfl rfl rfl rfl rfl ?_; clear hS; intro w hS)) | fail)
 have hS := (hS.perm (.swap _ _ _)).drop.perm (.swap _ _ _)
 exact fin0n rfl ⟨rfl, (St.dkSet h1 h2 h3 hS).mutOf Zh⟩
def volE (p : List UInt8) : List UInt8 := if Lib.indexByte p 47 < 0 then p else p.take (Lib.indexByte p 47).toNat
theorem indexByte_le (s : List UInt8) (c : UInt8) : -1 ≤ Lib.indexByte s c ∧ Lib.indexByte s c < s.length := by
 by_cases h : 0 < s.count c
 ·obtain ⟨j, h1, h2, _⟩ := indexByte_spec s c h
  rw [h1]; omega
 ·have h : s.count c = 0 := Zo
  induction s with
  |nil => simp [Lib.indexByte]
  |cons a s ih =>
   rw [List.count_cons] at h
   have ha : (a == c) = false := by
    cases hac : a == c with
    |false => rfl
    |true => rw [hac] at h; simp at h
   have := ih Zo
   unfold Lib.indexByte
   rw [ha]
   simp only [Bool.false_eq_true, if_false, List.length_cons]
   split <;> omega
theorem scut_c (s : List UInt8) (c : UInt8) (w0 : World) (hl : s.length ≤ 1099511627776) : Cal Tryz.prog 213 [str s, str [c]] w0 (fun v w' => Upd [] w0 w' ∧ ∃ after found, v = .tuple #[str (if Lib.indexByte s c < 0 then s else s.take (Lib.indexByte s c).toNat), str after, .bool found]) := by
 refine Cal.mk' Zk Tryz.func213 rfl rfl fun hS => ?_
 have hle := indexByte_le s c
 by_cases hn : Lib.indexByte s c < 0
 ·rw [if_pos hn]
  repeat' (first | (show WL _ _ _ _ _ _ _; first | refine WL.pure rfl rfl rfl rfl ?_ | refine WL.nil ?_ | (refine WL.calls hS rfl rfl (sindex_c s c _) rfl rfl rfl ?_; rintro v w rfl hS)) | (show WC _ _ _ _ _ _; first | refine WC.seq ?_ | refine WC.region ?_ | refine WC.skip ?_ | refine WC.ret ?_ | refine WC.condF rfl (decide_eq_false Zw) ?_) | refine seqQ_n ?_)
  exact fin3r rfl rfl rfl rfl ⟨hS.upd, _, _, rfl⟩
 ·rw [if_neg hn]
  obtain ⟨j, hj⟩ := Int.eq_ofNat_of_zero_le (show 0 ≤ Lib.indexByte s c by omega)
  rw [hj] at hle ⊢
  have hj1 : Int.ofNat j + (([c] : List UInt8).length : Int) = Int.ofNat (j + 1) := rfl
  have hlc : ([c] : List UInt8).length = 1 := rfl
  repeat' (first | (show WL _ _ _ _ _ _ _; first | refine WL.pure rfl rfl rfl rfl ?_ | refine WL.nil ?_ | (refine WL.calls hS rfl rfl (sindex_c s c _) rfl rfl rfl ?_; rintro v w rfl hS; rw [hj])) | (show WC _ _ _ _ _ _; first | refine WC.seq ?_ | refine WC.region ?_ | refine WC.ret ?_ | (show WC _ _ (Code.region _ (List.toArray [_, _, _, _, _, _, _, _, _, _, _, _]) true) _ _ _; refine WC.drawS hS [0, 1, 2, 3, 4, 5, 6, 7, 8, 9, 10, 11] [0, 1, 2, 3, 4, 5, 6, 7, 8, 9, 10, 11] Zk Zk ?_; clear hS; intro w hS hM) | refine WC.condT rfl (decide_eq_true Zw) ?_) | (show WD _ _ _ _ _ _ _ _ _; first | refine WD.pure rfl rfl rfl rfl rfl ?_ | refine WD.nil ?_ | refine WD.add rfl rfl rfl Zo rfl rfl rfl rfl ?_ | (refine WD.highS (j := j) rfl rfl rfl rfl Zo rfl rfl rfl rfl ?_) | (refine WD.lowS (j := j + 1) rfl rfl rfl (congrArg (Value.int .i64) hj1) Zo rfl rfl rfl rfl ?_)) | refine seqQ_n ?_ | refine seqQ_r ?_)
  exact fin3r rfl rfl rfl rfl ⟨hS.upd, _, _, rfl⟩
theorem cut_c (s : List UInt8) (c : UInt8) (w0 : World) (hl : s.length ≤ 1099511627776) : Cal Tryz.prog 182 [str s, str [c]] w0 (fun v w' => Upd [] w0 w' ∧ ∃ after found, v = .tuple #[str (if Lib.indexByte s c < 0 then s else s.take (Lib.indexByte s c).toNat), str after, .bool found]) := by
 refine Cal.mk' Zk Tryz.func182 rfl rfl fun hS => ?_
 repeat' (first | (show WL _ _ _ _ _ _ _; first | refine WL.pure rfl rfl rfl rfl ?_ | refine WL.nil ?_ | (refine WL.calls hS rfl rfl (scut_c s c _ hl) rfl rfl rfl ?_; rintro v w ⟨after, found, rfl⟩ hS)) | (show WC _ _ _ _ _ _; first | refine WC.seq ?_ | refine WC.region ?_ | refine WC.ret ?_) | refine seqQ_n ?_)
 exact fin3r rfl rfl rfl rfl ⟨hS.upd, _, _, rfl⟩
theorem volume_c (p : List UInt8) (w0 : World) (hl : p.length ≤ 1099511627776) : Cal Tryz.prog 140 [str p] w0 (fun v w' => Upd [] w0 w' ∧ v = str (volE p)) := by
 refine Cal.mk' Zk Tryz.func140 rfl rfl fun hS => ?_
 repeat' (first | (show WL _ _ _ _ _ _ _; first | refine WL.pure rfl rfl rfl rfl ?_ | refine WL.nil ?_ | (refine WL.calls hS rfl rfl (cut_c p 47 _ hl) rfl rfl rfl ?_; rintro v w ⟨after, found, rfl⟩ hS)) | (show WC _ _ _ _ _ _; first | refine WC.seq ?_ | refine WC.region ?_ | refine WC.ret ?_) | refine seqQ_n ?_)
 exact fin1r rfl rfl ⟨hS.upd, rfl⟩
open Go Go.J Go.RowKit
def Dk0 : Dk := ⟨[], [], 0, 0, -1, false⟩
theorem dnew_c (w0 : World) : Cal Tryz.prog 34 [] w0 (fun v w' => Upd [] w0 w' ∧ ∃ b mb lb, v = .pointer (some ⟨b, 0, none⟩) ∧ New w0 w' (dkC b mb lb Dk0)) := by
 refine Cal.mk' Zk Tryz.func34 rfl rfl fun hS => ?_
 repeat' (first | (show WL _ _ _ _ _ _ _; first | refine WL.pure rfl rfl rfl rfl ?_ | refine WL.nil ?_ | (refine WL.mmake hS rfl rfl rfl rfl rfl ?_; intro w b hS) | (refine WL.box hS rfl rfl rfl rfl rfl ?_; intro w b hS) | refine WL.build rfl rfl rfl rfl rfl ?_) | (show WC _ _ _ _ _ _; first | refine WC.seq ?_ | refine WC.region ?_ | refine WC.ret ?_) | refine seqQ_n ?_)
 have hd := (List.pairwise_cons.1 hS.disj)
 have hd1 := hd.1 _ Zh
 have hd2 := hd.1 _ (List.Mem.tail _ Zh)
 have hd3 := (List.pairwise_cons.1 hd.2).1 _ Zh
 simp [Chunk.apart, Chunk.fp] at hd1 hd2 hd3
 have hS := hS.perm ((List.Perm.swap _ _ _).cons _)
 exact fin1r rfl rfl ⟨hS.upd, _, _, _, rfl, (St.dkClose Dk0 hd2 hd1 (Ne.symm hd3) hS).newOf Zh⟩
def Dk.kind (D : Dk) (p : List UInt8) : Int := if D.has p then (if (D.at p).dir then 1 else 2) else 0
theorem dkind_c {b mb lb : Nat} {D : Dk} (p : List UInt8) {w0 : World} (h : DkIs b mb lb D w0) : Cal Tryz.prog 66 [.pointer (some ⟨b, 0, none⟩), str p] w0
  (fun v w' => Upd [] w0 w' ∧ v = .int .i64 (D.kind p)) := by
 refine Cal.mk' Zk Tryz.func66 rfl rfl fun hS => ?_
 obtain ⟨_, _, _, hb, hm, hlm⟩ := h
 have hb : w0.heap[b]? = some (.cells ⟨[.map (some mb), .map (some lb), .int .i64 D.steps, .int .i64 D.stamps, .int .i64 D.armed, .bool D.down]⟩ 122 (0, 0)) := hb
 unfold Dk.kind Dk.has Dk.at
 have hlk := look_it2 D.items p
 generalize (mget D.items p).isSome = has at *
 generalize (mget D.items p).getD It0 = it at *
 obtain ⟨dir, data, kept, loose, anew, stamp⟩ := it
 cases has with
 |false =>
  repeat' (first | (show WL _ _ _ _ _ _ _; first | refine WL.pure rfl rfl rfl rfl ?_ | refine WL.nil ?_ | (refine WL.load hS rfl rfl (LdOk.old hb (by repeat (first | exact Zh | apply List.Mem.tail)) rfl) rfl rfl rfl ?_) | (refine WL.mget hS rfl rfl rfl rfl (MapOk.old hm (by repeat (first | exact Zh | apply List.Mem.tail))) hlk rfl rfl rfl ?_) | (refine WL.store hS rfl rfl rfl Sb rfl rfl rfl ?_; intro w hS) | (refine WL.alloc hS rfl rfl rfl rfl rfl rfl ?_; intro w b hS)) | (show WC _ _ _ _ _ _; first | refine WC.seq ?_ | refine WC.region ?_ | refine WC.block ?_ | refine WC.skip ?_ | refine WC.ret ?_ | refine WC.condF rfl Zr ?_ | refine WC.condT rfl Zd ?_) | refine seqQ_n ?_ | refine seqQ_r ?_ | refine blkQ_r ?_)
  exact fin1r rfl rfl ⟨hS.upd, rfl⟩
 |true =>
  cases dir with
  |true =>
   repeat' (first | (show WL _ _ _ _ _ _ _; first | refine WL.pure rfl rfl rfl rfl ?_ | refine WL.nil ?_ | refine WL.load hS rfl rfl (LdOk.box (by repeat (first | exact Zh | apply List.Mem.tail)) rfl) rfl rfl rfl ?_ | (refine WL.load hS rfl rfl (LdOk.old hb (by repeat (first | exact Zh | apply List.Mem.tail)) rfl) rfl rfl rfl ?_) | (refine WL.mget hS rfl rfl rfl rfl (MapOk.old hm (by repeat (first | exact Zh | apply List.Mem.tail))) hlk rfl rfl rfl ?_) | (refine WL.store hS rfl rfl rfl Sb rfl rfl rfl ?_; intro w hS) | (refine WL.alloc hS rfl rfl rfl rfl rfl rfl ?_; intro w b hS)) | (show WC _ _ _ _ _ _; first | refine WC.seq ?_ | refine WC.region ?_ | refine WC.block ?_ | refine WC.skip ?_ | refine WC.ret ?_ | refine WC.condT rfl Zr ?_ | refine WC.condF rfl Zr ?_ | refine WC.condF rfl Zd ?_) | refine seqQ_n ?_ | refine seqQ_r ?_ | refine blkQ_r ?_)
   exact fin1r rfl rfl ⟨hS.upd, rfl⟩
  |false =>
   repeat' (first | (show WL _ _ _ _ _ _ _; first | refine WL.pure rfl rfl rfl rfl ?_ | refine WL.nil ?_ | refine WL.load hS rfl rfl (LdOk.box (by repeat (first | exact Zh | apply List.Mem.tail)) rfl) rfl rfl rfl ?_ | (refine WL.load hS rfl rfl (LdOk.old hb (by repeat (first | exact Zh | apply List.Mem.tail)) rfl) rfl rfl rfl ?_) | (refine WL.mget hS rfl rfl rfl rfl (MapOk.old hm (by repeat (first | exact Zh | apply List.Mem.tail))) hlk rfl rfl rfl ?_) | (refine WL.store hS rfl rfl rfl Sb rfl rfl rfl ?_; intro w hS) | (refine WL.alloc hS rfl rfl rfl rfl rfl rfl ?_; intro w b hS)) | (show WC _ _ _ _ _ _; first | refine WC.seq ?_ | refine WC.region ?_ | refine WC.block ?_ | refine WC.skip ?_ | refine WC.ret ?_ | refine WC.condF rfl Zr ?_ | refine WC.condF rfl Zd ?_) | refine seqQ_n ?_ | refine blkQ_n ?_)
   exact fin1r rfl rfl ⟨hS.upd, rfl⟩
def Dk.file (D : Dk) (p : List UInt8) : Int := if D.may p 1 ≠ 0 then D.may p 1 else if D.has p then (if (D.at p).dir then 12 else 0) else 11
theorem dfile_c {b mb lb : Nat} {D : Dk} (p : List UInt8) {w0 : World} (h : DkIs b mb lb D w0) (hl : p.length ≤ 1099511627) : Cal Tryz.prog 81 [.pointer (some ⟨b, 0, none⟩), str p] w0
  (fun v w' => Upd [] w0 w' ∧ v = .int .i64 (D.file p)) := by
 have hmay := fun (w : World) (h : DkIs b mb lb D w) => may_c p 1 h hl
 refine Cal.mk' Zk Tryz.func81 rfl rfl fun hS => ?_
 have h' := h
 obtain ⟨_, _, _, hb, hm, hlm⟩ := h
 have hb : w0.heap[b]? = some (.cells ⟨[.map (some mb), .map (some lb), .int .i64 D.steps, .int .i64 D.stamps, .int .i64 D.armed, .bool D.down]⟩ 122 (0, 0)) := hb
 unfold Dk.file Dk.has Dk.at
 have hlk := look_it2 D.items p
 by_cases he : D.may p 1 = 0
 ·rw [if_neg (by simp [he])]
  generalize (mget D.items p).isSome = has at *
  generalize (mget D.items p).getD It0 = it at *
  obtain ⟨dir, data, kept, loose, anew, stamp⟩ := it
  have hcase : has = false ∨ (has = true ∧ dir = true) ∨ (has = true ∧ dir = false) := by cases has <;> cases dir <;> simp
  rcases hcase with rfl | ⟨rfl, rfl⟩ | ⟨rfl, rfl⟩
  all_goals
   repeat' (first | (show WL _ _ _ _ _ _ _; first | refine WL.pure rfl rfl rfl rfl ?_ | refine WL.nil ?_ | refine WL.load hS rfl rfl (LdOk.box (by repeat (first | exact Zh | apply List.Mem.tail)) rfl) rfl rfl rfl ?_ | (refine WL.calls hS rfl rfl (hmay _ h') rfl rfl rfl ?_; rintro v w rfl hS; rw [he]) | (refine WL.load hS rfl rfl (LdOk.old hb (by repeat (first | exact Zh | apply List.Mem.tail)) rfl) rfl rfl rfl ?_) | (refine WL.mget hS rfl rfl rfl rfl (MapOk.old hm (by repeat (first | exact Zh | apply List.Mem.tail))) hlk rfl rfl rfl ?_) | (refine WL.store hS rfl rfl rfl Sb rfl rfl rfl ?_; intro w hS) | (refine WL.alloc hS rfl rfl rfl rfl rfl rfl ?_; intro w b hS)) | (show WC _ _ _ _ _ _; first | refine WC.seq ?_ | refine WC.region ?_ | refine WC.block ?_ | refine WC.skip ?_ | refine WC.ret ?_ | refine WC.condT rfl Zr ?_ | refine WC.condF rfl Zr ?_ | refine WC.condT rfl Zd ?_ | refine WC.condF rfl Zd ?_) | refine seqQ_n ?_ | refine blkQ_n ?_ | refine seqQ_r ?_ | refine blkQ_r ?_)
   exact fin1r rfl rfl ⟨hS.upd, rfl⟩
 ·rw [if_pos he]
  repeat' (first | (show WL _ _ _ _ _ _ _; first | refine WL.pure rfl rfl rfl rfl ?_ | refine WL.nil ?_ | (refine WL.calls hS rfl rfl (hmay _ h') rfl rfl rfl ?_; rintro v w rfl hS)) | (show WC _ _ _ _ _ _; first | refine WC.seq ?_ | refine WC.region ?_ | refine WC.ret ?_ | refine WC.condT rfl (decide_eq_true Zw) ?_) | refine seqQ_n ?_ | refine seqQ_r ?_)
  exact fin1r rfl rfl ⟨hS.upd, rfl⟩
theorem LdOk.dk {P : Program} {H : List Chunk} {Z : List Snap} {ty : TypeId} {v : Value} {b mb lb off : Nat} {D : Dk} (hm : dkC b mb lb D ∈ H) (hv : getV P ty [.map (some mb), .map (some lb), .int .i64 D.steps, .int .i64 D.stamps, .int .i64 D.armed, .bool D.down] off = some v) : LdOk P H Z ty ⟨b, off, none⟩ v := by
 refine ⟨fun w0 M w Hn Zn hS => ?_⟩
 have hb := (hS.holds _ (List.mem_append_right _ hm)).1.2.2.2.1
 have := run_loadVar_cells (o := 0) hv (cell_box hb)
 rwa [Nat.zero_add] at this
theorem MapOk.dk {H : List Chunk} {Z : List Snap} {b mb lb : Nat} {D : Dk} (hm : dkC b mb lb D ∈ H) : MapOk H Z mb (mmap encIt D.items) := ⟨fun w0 M w Hn Zn hS => (hS.holds _ (List.mem_append_right _ hm)).1.2.2.2.2.1⟩
theorem St.dkPut {w0 w : World} {M : List Nat} {H : List Chunk} {Z : List Snap} {b mb lb : Nat} {D : Dk} {p : List UInt8} {x : It} (h1 : b ≠ mb) (h2 : b ≠ lb) (h3 : mb ≠ lb)
  (hS : St w0 M w (.box b 122 [.map (some mb), .map (some lb), .int .i64 D.steps, .int .i64 D.stamps, .int .i64 D.armed, .bool D.down] :: mapC mb (mset (mmap encIt D.items) p (encIt x)) :: mapC lb (mmap encI D.limits) :: H) Z) : St w0 M w (dkC b mb lb { D with items := mset D.items p x } :: H) Z := by
 rw [mset_map] at hS
 exact St.dkClose { D with items := mset D.items p x } h1 h2 h3 hS
def Dk.mkdir (D : Dk) (p : List UInt8) : Int × Dk := if D.may p 0 ≠ 0 then (D.may p 0, D) else if D.under p = false then (11, D) else if D.has p = true ∧ (D.at p).dir = false then (12, D) else if D.stepE ≠ 0 then (D.stepE, D.step) else (0, { D.step with items := mset D.step.items p { It0 with dir := true } })
theorem mkdir_c {q mb lb : Nat} {D : Dk} (p : List UInt8) {w0 : World} (hc : (dkC q mb lb D).holds w0) (hi : inB (dkC q mb lb D) w0) (hl : p.length ≤ 1099511627) : Cal Tryz.prog 60 [.pointer (some ⟨q, 0, none⟩), str p] w0
  (fun v w' => v = .int .i64 (D.mkdir p).1 ∧ Mut w0 w' (dkC q mb lb D) (dkC q mb lb (D.mkdir p).2)) := by
 refine Cal.mkM hc hi Zk Tryz.func60 rfl rfl fun hS => ?_
 by_cases he : D.may p 0 = 0
 ·have hlk := look_it2 D.items p
  have hhas : D.has p = (mget D.items p).isSome := rfl
  have hat : D.at p = (mget D.items p).getD It0 := rfl
  rw [← hhas, ← hat] at hlk
  clear hhas hat
  by_cases hu : D.under p = false
  ·have hR : D.mkdir p = (11, D) := by unfold Dk.mkdir; rw [if_neg (by simp [he]), if_pos hu]
   rw [hR]
   repeat' (first | (show WL _ _ _ _ _ _ _; first | refine WL.pure rfl rfl rfl rfl ?_ | refine WL.nil ?_ | (refine WL.calls hS rfl rfl (may_c p 0 (hS.holds (dkC q mb lb D) (by repeat (first | exact Zh | apply List.Mem.tail))).1 hl) rfl rfl rfl ?_; rintro v w rfl hS; rw [he]) | (refine WL.load hS rfl rfl (LdOk.dk (by repeat (first | exact Zh | apply List.Mem.tail)) rfl) rfl rfl rfl ?_) | (refine WL.mget hS rfl rfl rfl rfl (MapOk.dk (by repeat (first | exact Zh | apply List.Mem.tail))) hlk rfl rfl rfl ?_) | (refine WL.calls hS rfl rfl (dunder_c p (D := D) (hS.holds (dkC q mb lb D) (by repeat (first | exact Zh | apply List.Mem.tail))).1 hl) rfl rfl rfl ?_; rintro v w rfl hS; rw [hu]) | (refine WL.store hS rfl rfl rfl Sb rfl rfl rfl ?_; intro w hS) | (refine WL.alloc hS rfl rfl rfl rfl rfl rfl ?_; intro w b hS)) | (show WC _ _ _ _ _ _; first | refine WC.seq ?_ | refine WC.region ?_ | refine WC.block ?_ | refine WC.skip ?_ | refine WC.ret ?_ | refine WC.condT rfl Zd ?_ | refine WC.condF rfl Zd ?_) | refine seqQ_n ?_ | refine seqQ_r ?_ | refine blkQ_r ?_)
   exact fin1r rfl rfl ⟨rfl, hS.mutOf (by repeat (first | exact Zh | apply List.Mem.tail))⟩
  ·have hu' : D.under p = true := by simpa using hu
   by_cases hd : D.has p = true ∧ (D.at p).dir = false
   ·have hR : D.mkdir p = (12, D) := by unfold Dk.mkdir; rw [if_neg (by simp [he]), if_neg hu, if_pos hd]
    rw [hR]
    generalize D.has p = has at *
    generalize D.at p = it at *
    obtain ⟨dir, data, kept, loose, anew, stamp⟩ := it
    obtain ⟨rfl, hd2⟩ := hd
    dsimp only at hd2
    subst hd2
    repeat' (first | (show WL _ _ _ _ _ _ _; first | refine WL.pure rfl rfl rfl rfl ?_ | refine WL.nil ?_ | refine WL.load hS rfl rfl (LdOk.box (by repeat (first | exact Zh | apply List.Mem.tail)) rfl) rfl rfl rfl ?_ | (refine WL.calls hS rfl rfl (may_c p 0 (hS.holds (dkC q mb lb D) (by repeat (first | exact Zh | apply List.Mem.tail))).1 hl) rfl rfl rfl ?_; rintro v w rfl hS; rw [he]) | (refine WL.load hS rfl rfl (LdOk.dk (by repeat (first | exact Zh | apply List.Mem.tail)) rfl) rfl rfl rfl ?_) | (refine WL.mget hS rfl rfl rfl rfl (MapOk.dk (by repeat (first | exact Zh | apply List.Mem.tail))) hlk rfl rfl rfl ?_) | (refine WL.calls hS rfl rfl (dunder_c p (D := D) (hS.holds (dkC q mb lb D) (by repeat (first | exact Zh | apply List.Mem.tail))).1 hl) rfl rfl rfl ?_; rintro v w rfl hS; rw [hu']) | (refine WL.store hS rfl rfl rfl Sb rfl rfl rfl ?_; intro w hS) | (refine WL.alloc hS rfl rfl rfl rfl rfl rfl ?_; intro w b hS)) | (show WC _ _ _ _ _ _; first | refine WC.seq ?_ | refine WC.region ?_ | refine WC.block ?_ | refine WC.skip ?_ | refine WC.ret ?_ | refine WC.condF rfl Zd ?_ | refine WC.condT rfl Zs ?_) | refine seqQ_n ?_ | refine seqQ_r ?_ | refine blkQ_r ?_)
    exact fin1r rfl rfl ⟨rfl, hS.mutOf (by repeat (first | exact Zh | apply List.Mem.tail))⟩
   ·have hcase : (D.has p = false) ∨ (D.has p = true ∧ (D.at p).dir = true) := by
     cases h1 : D.has p
     ·exact .inl rfl
     ·refine .inr ⟨rfl, ?_⟩
      cases h2 : (D.at p).dir
      ·exact absurd ⟨h1, h2⟩ hd
      ·rfl
    by_cases hs : D.stepE = 0
    ·have hR : D.mkdir p = (0, { D.step with items := mset D.step.items p { It0 with dir := true } }) := by unfold Dk.mkdir; rw [if_neg (by simp [he]), if_neg hu, if_neg hd, if_neg (by simp [hs])]
     rw [hR]
     clear hR hd hu
     generalize D.has p = has at *
     generalize D.at p = it at *
     obtain ⟨dir, data, kept, loose, anew, stamp⟩ := it
     rcases hcase with rfl | ⟨rfl, hd2⟩
     case' inr => (dsimp only at hd2; subst hd2)
     all_goals
      repeat' (first | (show WL _ _ _ _ _ _ _; first | refine WL.pure rfl rfl rfl rfl ?_ | refine WL.nil ?_ | refine WL.load hS rfl rfl (LdOk.box (by repeat (first | exact Zh | apply List.Mem.tail)) rfl) rfl rfl rfl ?_ | (refine WL.calls hS rfl rfl (may_c p 0 (hS.holds (dkC q mb lb D) (by repeat (first | exact Zh | apply List.Mem.tail))).1 hl) rfl rfl rfl ?_; rintro v w rfl hS; rw [he]) | (refine WL.load hS rfl rfl (LdOk.dk (by repeat (first | exact Zh | apply List.Mem.tail)) rfl) rfl rfl rfl ?_) | (refine WL.mget hS rfl rfl rfl rfl (MapOk.dk (by repeat (first | exact Zh | apply List.Mem.tail))) hlk rfl rfl rfl ?_) | (refine WL.calls hS rfl rfl (dunder_c p (D := D) (hS.holds (dkC q mb lb D) (by repeat (first | exact Zh | apply List.Mem.tail))).1 hl) rfl rfl rfl ?_; rintro v w rfl hS; rw [hu']) | (refine WL.callG rfl rfl (step_c (D := D) (hS.holds (dkC q mb lb D) (by repeat (first | exact Zh | apply List.Mem.tail))) (hS.inB_of (by repeat (first | exact Zh | apply List.Mem.tail)))) rfl rfl rfl ?_; rintro v w ⟨rfl, hmut⟩; have hS := hS.mut hmut Rp; clear hmut; rw [hs]) | (obtain ⟨h1, h2, h3, hS⟩ := St.dkOpen (St.pull (c := dkC q mb lb D.step) hS Pl1); refine WL.mset hS (.inl rfl) rfl rfl rfl rfl Rp rfl rfl ?_; clear hS; intro w hS) | (refine WL.store hS rfl rfl rfl Sb rfl rfl rfl ?_; intro w hS) | (refine WL.alloc hS rfl rfl rfl rfl rfl rfl ?_; intro w b hS) | refine WL.skip rfl rfl rfl ?_ | refine WL.build rfl rfl rfl rfl rfl ?_) | (show WC _ _ _ _ _ _; first | refine WC.seq ?_ | refine WC.region ?_ | refine WC.block ?_ | refine WC.skip ?_ | refine WC.ret ?_ | refine WC.condF rfl Zr ?_ | refine WC.condF rfl Zd ?_ | refine WC.condF rfl Zs ?_) | refine seqQ_n ?_ | refine blkQ_n ?_)
      exact fin1r rfl rfl ⟨rfl, (St.dkPut h1 h2 h3 hS).mutOf Zh⟩
    ·have hs2 : D.stepE = 14 := by unfold Dk.stepE at hs ⊢; split at hs <;> simp_all
     have hR : D.mkdir p = (14, D.step) := by unfold Dk.mkdir; rw [if_neg (by simp [he]), if_neg hu, if_neg hd, if_pos hs, hs2]
     rw [hR]
     clear hR hd hu hs
     have hs := hs2
     generalize D.has p = has at *
     generalize D.at p = it at *
     obtain ⟨dir, data, kept, loose, anew, stamp⟩ := it
     rcases hcase with rfl | ⟨rfl, hd2⟩
     case' inr => (dsimp only at hd2; subst hd2)
     all_goals
      repeat' (first | (show WL _ _ _ _ _ _ _; first | refine WL.pure rfl rfl rfl rfl ?_ | refine WL.nil ?_ | refine WL.load hS rfl rfl (LdOk.box (by repeat (first | exact Zh | apply List.Mem.tail)) rfl) rfl rfl rfl ?_ | (refine WL.calls hS rfl rfl (may_c p 0 (hS.holds (dkC q mb lb D) (by repeat (first | exact Zh | apply List.Mem.tail))).1 hl) rfl rfl rfl ?_; rintro v w rfl hS; rw [he]) | (refine WL.load hS rfl rfl (LdOk.dk (by repeat (first | exact Zh | apply List.Mem.tail)) rfl) rfl rfl rfl ?_) | (refine WL.mget hS rfl rfl rfl rfl (MapOk.dk (by repeat (first | exact Zh | apply List.Mem.tail))) hlk rfl rfl rfl ?_) | (refine WL.calls hS rfl rfl (dunder_c p (D := D) (hS.holds (dkC q mb lb D) (by repeat (first | exact Zh | apply List.Mem.tail))).1 hl) rfl rfl rfl ?_; rintro v w rfl hS; rw [hu']) | (refine WL.callG rfl rfl (step_c (D := D) (hS.holds (dkC q mb lb D) (by repeat (first | exact Zh | apply List.Mem.tail))) (hS.inB_of (by repeat (first | exact Zh | apply List.Mem.tail)))) rfl rfl rfl ?_; rintro v w ⟨rfl, hmut⟩; have hS := hS.mut hmut Rp; clear hmut; rw [hs]) | (refine WL.store hS rfl rfl rfl Sb rfl rfl rfl ?_; intro w hS) | (refine WL.alloc hS rfl rfl rfl rfl rfl rfl ?_; intro w b hS) | refine WL.skip rfl rfl rfl ?_) | (show WC _ _ _ _ _ _; first | refine WC.seq ?_ | refine WC.region ?_ | refine WC.block ?_ | refine WC.skip ?_ | refine WC.ret ?_ | refine WC.condF rfl Zr ?_ | refine WC.condT rfl Zd ?_ | refine WC.condF rfl Zd ?_ | refine WC.condF rfl Zs ?_) | refine seqQ_n ?_ | refine blkQ_n ?_ | refine seqQ_r ?_)
      exact fin1r rfl rfl ⟨rfl, hS.mutOf (by repeat (first | exact Zh | apply List.Mem.tail))⟩
 ·have hR : D.mkdir p = (D.may p 0, D) := by unfold Dk.mkdir; rw [if_pos he]
  rw [hR]
  repeat' (first | (show WL _ _ _ _ _ _ _; first | refine WL.pure rfl rfl rfl rfl ?_ | refine WL.nil ?_ | (refine WL.calls hS rfl rfl (may_c p 0 (hS.holds (dkC q mb lb D) (by repeat (first | exact Zh | apply List.Mem.tail))).1 hl) rfl rfl rfl ?_; rintro v w rfl hS)) | (show WC _ _ _ _ _ _; first | refine WC.seq ?_ | refine WC.region ?_ | refine WC.ret ?_ | refine WC.condT rfl (decide_eq_true Zw) ?_) | refine seqQ_n ?_ | refine seqQ_r ?_)
  exact fin1r rfl rfl ⟨rfl, hS.mutOf (by repeat (first | exact Zh | apply List.Mem.tail))⟩
open Go Go.J Go.RowKit
theorem look_int (m : List (List UInt8 × Int)) (k : List UInt8) : lookV (encI 0) (mmap encI m) k true = .tuple #[.int .i64 ((mget m k).getD 0), .bool (mget m k).isSome] := by
 simp only [lookV, mget_map]; cases mget m k <;> rfl
theorem room_c {b mb lb : Nat} {D : Dk} (p : List UInt8) (more : Int) {w0 : World} (h : DkIs b mb lb D w0) (hl : p.length ≤ 1099511627) (hno : mget D.limits (volE p) = none) : Cal Tryz.prog 86 [.pointer (some ⟨b, 0, none⟩), str p, .int .i64 more] w0
  (fun v w' => Upd [] w0 w' ∧ v = .bool true) := by
 refine Cal.mk' Zk Tryz.func86 rfl rfl fun hS => ?_
 obtain ⟨_, _, _, hb, hm, hlm⟩ := h
 have hb : w0.heap[b]? = some (.cells ⟨[.map (some mb), .map (some lb), .int .i64 D.steps, .int .i64 D.stamps, .int .i64 D.armed, .bool D.down]⟩ 122 (0, 0)) := hb
 have hlk := look_int D.limits (volE p)
 rw [hno] at hlk
 repeat' (first | (show WL _ _ _ _ _ _ _; first | refine WL.pure rfl rfl rfl rfl ?_ | refine WL.nil ?_ | refine WL.skip rfl rfl rfl ?_) | (show WC _ _ _ _ _ _; first | refine WC.seq ?_ | refine WC.region ?_ | refine WC.ret ?_ | (show WC _ _ (Code.region _ (List.toArray [_, _, _, _, _, _, _, _, _, _, _, _]) true) _ _ _; refine WC.drawS hS [0,1,2,3,4,6,7,8,9,10,11] [0,1,2,3,4,5,6,7,8,9,10,11] Zk Zk ?_; clear hS; intro w hS hM)) | (show WD _ _ _ _ _ _ _ _ _; first | refine WD.pure rfl rfl rfl rfl rfl ?_ | refine WD.nil ?_ | (refine WD.load rfl rfl (LdOk.old hb (by repeat (first | exact Zh | apply List.Mem.tail)) rfl) rfl rfl rfl rfl ?_) | (refine WD.mget rfl rfl rfl rfl (MapOk.old hlm (by repeat (first | exact Zh | apply List.Mem.tail))) hlk rfl rfl rfl rfl ?_) | (refine WD.calls hS hM rfl rfl (volume_c p _ Zo) rfl rfl rfl rfl rfl ?_; clear hS; rintro v w rfl hS)) | refine seqQ_n ?_)
 exact fin1r rfl rfl ⟨hS.upd, rfl⟩
def Dk.append (D : Dk) (p data : List UInt8) : Int × Dk := if D.file p ≠ 0 then (D.file p, D) else if D.stepE ≠ 0 then (D.stepE, D.step) else (0, D.step.set p { D.step.at p with data := (D.step.at p).data ++ data, loose := true })
theorem append_c {q mb lb : Nat} {D : Dk} (p data : List UInt8) {w0 : World} (hc : (dkC q mb lb D).holds w0) (hi : inB (dkC q mb lb D) w0) (hl : p.length ≤ 1099511627) (hno : mget D.limits (volE p) = none) (hdl : (D.step.at p).data.length + data.length ≤ 1099511627776) : Cal Tryz.prog 24 [.pointer (some ⟨q, 0, none⟩), str p, str data] w0
  (fun v w' => v = .int .i64 (D.append p data).1 ∧ Mut w0 w' (dkC q mb lb D) (dkC q mb lb (D.append p data).2)) := by
 refine Cal.mkM hc hi Zk Tryz.func24 rfl rfl fun hS => ?_
 by_cases he : D.file p = 0
 ·by_cases hs : D.stepE = 0
  ·have hR : D.append p data = (0, D.step.set p { D.step.at p with data := (D.step.at p).data ++ data, loose := true }) := by unfold Dk.append; rw [if_neg (by simp [he]), if_neg (by simp [hs])]
   rw [hR]
   have hlk := look_it D.step.items p
   have hat : D.step.at p = (mget D.step.items p).getD It0 := rfl
   rw [← hat] at hlk
   clear hat hR
   generalize D.step.at p = it at *
   obtain ⟨dir, dat, kept, loose, anew, stamp⟩ := it
   dsimp only at hdl ⊢
   repeat' (first | (show WL _ _ _ _ _ _ _; first | refine WL.cat (a := dat) (b := data) rfl rfl rfl Zo rfl rfl rfl ?_ | refine WL.pure rfl rfl rfl rfl ?_ | refine WL.nil ?_ | refine WL.load hS rfl rfl (LdOk.box (by repeat (first | exact Zh | apply List.Mem.tail)) rfl) rfl rfl rfl ?_ | (refine WL.calls hS rfl rfl (dfile_c p (hS.holds (dkC q mb lb D) (by repeat (first | exact Zh | apply List.Mem.tail))).1 hl) rfl rfl rfl ?_; rintro v w rfl hS; rw [he]) | (refine WL.calls hS rfl rfl (room_c p _ (hS.holds (dkC q mb lb D) (by repeat (first | exact Zh | apply List.Mem.tail))).1 hl hno) rfl rfl rfl ?_; rintro v w rfl hS) | (refine WL.callG rfl rfl (step_c (D := D) (hS.holds (dkC q mb lb D) (by repeat (first | exact Zh | apply List.Mem.tail))) (hS.inB_of (by repeat (first | exact Zh | apply List.Mem.tail)))) rfl rfl rfl ?_; rintro v w ⟨rfl, hmut⟩; have hS := hS.mut hmut Rp; clear hmut; rw [hs]) | (refine WL.load hS rfl rfl (LdOk.dk (D := D.step) (by repeat (first | exact Zh | apply List.Mem.tail)) rfl) rfl rfl rfl ?_) | (refine WL.mget hS rfl rfl rfl rfl (MapOk.dk (D := D.step) (by repeat (first | exact Zh | apply List.Mem.tail))) hlk rfl rfl rfl ?_) | (refine WL.callG rfl rfl (dset_c p ⟨dir, dat ++ data, kept, true, anew, stamp⟩ (D := D.step) (hS.holds (dkC q mb lb D.step) (by repeat (first | exact Zh | apply List.Mem.tail))) (hS.inB_of (by repeat (first | exact Zh | apply List.Mem.tail)))) rfl rfl rfl ?_; rintro v w ⟨rfl, hmut⟩; have hS := hS.mut hmut Rp; clear hmut) | (refine WL.store hS rfl rfl rfl Sb rfl rfl rfl ?_; intro w hS) | (refine WL.alloc hS rfl rfl rfl rfl rfl rfl ?_; intro w b hS)) | (show WC _ _ _ _ _ _; first | refine WC.seq ?_ | refine WC.region ?_ | refine WC.skip ?_ | refine WC.ret ?_ | refine WC.condF rfl Zd ?_) | refine seqQ_n ?_)
   exact fin1r rfl rfl ⟨rfl, hS.mutOf (by repeat (first | exact Zh | apply List.Mem.tail))⟩
  ·have hs2 : D.stepE = 14 := by unfold Dk.stepE at hs ⊢; split at hs <;> simp_all
   have hR : D.append p data = (14, D.step) := by unfold Dk.append; rw [if_neg (by simp [he]), if_pos hs, hs2]
   rw [hR]
   clear hR hs
   have hs := hs2
   repeat' (first | (show WL _ _ _ _ _ _ _; first | refine WL.pure rfl rfl rfl rfl ?_ | refine WL.nil ?_ | (refine WL.calls hS rfl rfl (dfile_c p (hS.holds (dkC q mb lb D) (by repeat (first | exact Zh | apply List.Mem.tail))).1 hl) rfl rfl rfl ?_; rintro v w rfl hS; rw [he]) | (refine WL.calls hS rfl rfl (room_c p _ (hS.holds (dkC q mb lb D) (by repeat (first | exact Zh | apply List.Mem.tail))).1 hl hno) rfl rfl rfl ?_; rintro v w rfl hS) | (refine WL.callG rfl rfl (step_c (D := D) (hS.holds (dkC q mb lb D) (by repeat (first | exact Zh | apply List.Mem.tail))) (hS.inB_of (by repeat (first | exact Zh | apply List.Mem.tail)))) rfl rfl rfl ?_; rintro v w ⟨rfl, hmut⟩; have hS := hS.mut hmut Rp; clear hmut; rw [hs])) | (show WC _ _ _ _ _ _; first | refine WC.seq ?_ | refine WC.region ?_ | refine WC.skip ?_ | refine WC.ret ?_ | refine WC.condT rfl Zd ?_ | refine WC.condF rfl Zd ?_) | refine seqQ_n ?_ | refine seqQ_r ?_)
   exact fin1r rfl rfl ⟨rfl, hS.mutOf (by repeat (first | exact Zh | apply List.Mem.tail))⟩
 ·have hR : D.append p data = (D.file p, D) := by unfold Dk.append; rw [if_pos he]
  rw [hR]
  repeat' (first | (show WL _ _ _ _ _ _ _; first | refine WL.pure rfl rfl rfl rfl ?_ | refine WL.nil ?_ | (refine WL.calls hS rfl rfl (dfile_c p (hS.holds (dkC q mb lb D) (by repeat (first | exact Zh | apply List.Mem.tail))).1 hl) rfl rfl rfl ?_; rintro v w rfl hS)) | (show WC _ _ _ _ _ _; first | refine WC.seq ?_ | refine WC.region ?_ | refine WC.ret ?_ | refine WC.condT rfl (decide_eq_true Zw) ?_) | refine seqQ_n ?_ | refine seqQ_r ?_)
  exact fin1r rfl rfl ⟨rfl, hS.mutOf (by repeat (first | exact Zh | apply List.Mem.tail))⟩
open Go Go.J Go.RowKit
def Dk.sync (D : Dk) (p : List UInt8) : Int × Dk := if D.file p ≠ 0 then (D.file p, D) else if D.stepE ≠ 0 then (D.stepE, D.step) else (0, { D.step with items := mset D.step.items p { D.step.at p with kept := (D.step.at p).data, loose := false, anew := false } })
theorem sync_c {q mb lb : Nat} {D : Dk} (p : List UInt8) {w0 : World} (hc : (dkC q mb lb D).holds w0) (hi : inB (dkC q mb lb D) w0) (hl : p.length ≤ 1099511627) : Cal Tryz.prog 72 [.pointer (some ⟨q, 0, none⟩), str p] w0
  (fun v w' => v = .int .i64 (D.sync p).1 ∧ Mut w0 w' (dkC q mb lb D) (dkC q mb lb (D.sync p).2)) := by
 refine Cal.mkM hc hi Zk Tryz.func72 rfl rfl fun hS => ?_
 by_cases he : D.file p = 0
 ·by_cases hs : D.stepE = 0
  ·have hR : D.sync p = (0, { D.step with items := mset D.step.items p { D.step.at p with kept := (D.step.at p).data, loose := false, anew := false } }) := by unfold Dk.sync; rw [if_neg (by simp [he]), if_neg (by simp [hs])]
   rw [hR]
   have hlk := look_it D.step.items p
   have hat : D.step.at p = (mget D.step.items p).getD It0 := rfl
   rw [← hat] at hlk
   clear hat hR
   generalize D.step.at p = it at *
   obtain ⟨dir, dat, kept, loose, anew, stamp⟩ := it
   dsimp only
   repeat' (first | (show WL _ _ _ _ _ _ _; first | refine WL.pure rfl rfl rfl rfl ?_ | refine WL.nil ?_ | refine WL.load hS rfl rfl (LdOk.box (by repeat (first | exact Zh | apply List.Mem.tail)) rfl) rfl rfl rfl ?_ | (refine WL.calls hS rfl rfl (dfile_c p (hS.holds (dkC q mb lb D) (by repeat (first | exact Zh | apply List.Mem.tail))).1 hl) rfl rfl rfl ?_; rintro v w rfl hS; rw [he]) | (refine WL.callG rfl rfl (step_c (D := D) (hS.holds (dkC q mb lb D) (by repeat (first | exact Zh | apply List.Mem.tail))) (hS.inB_of (by repeat (first | exact Zh | apply List.Mem.tail)))) rfl rfl rfl ?_; rintro v w ⟨rfl, hmut⟩; have hS := hS.mut hmut Rp; clear hmut; rw [hs]) | (refine WL.load hS rfl rfl (LdOk.dk (D := D.step) (by repeat (first | exact Zh | apply List.Mem.tail)) rfl) rfl rfl rfl ?_) | (refine WL.mget hS rfl rfl rfl rfl (MapOk.dk (D := D.step) (by repeat (first | exact Zh | apply List.Mem.tail))) hlk rfl rfl rfl ?_) | (refine WL.store hS rfl rfl rfl Sb rfl rfl rfl ?_; intro w hS) | (refine WL.alloc hS rfl rfl rfl rfl rfl rfl ?_; intro w b hS)) | (show WC _ _ _ _ _ _; first | refine WC.seq ?_ | refine WC.region ?_ | refine WC.skip ?_ | refine WC.condF rfl Zd ?_) | refine seqQ_n ?_)
   obtain ⟨h1, h2, h3, hS⟩ := St.dkOpen (St.pull (c := dkC q mb lb D.step) hS Pl1)
   have hS := St.pull (c := mapC mb (mmap encIt D.step.items)) hS Pl1
   refine WC.drawC hS [0,1,2,3,4,5] [0,1,2,3,4,5,6] Zk Zk ?_
   clear hS
   intro w hS hM
   repeat' (first | (show WL _ _ _ _ _ _ _; first | refine WL.pure rfl rfl rfl rfl ?_ | refine WL.nil ?_) | (show WC _ _ _ _ _ _; first | refine WC.seq ?_ | refine WC.region ?_ | refine WC.ret ?_) | (show WD _ _ _ _ _ _ _ _ _; first | refine WD.pure rfl rfl rfl rfl rfl ?_ | refine WD.nil ?_ | refine WD.load rfl rfl (LdOk.box (by repeat (first | exact Zh | apply List.Mem.tail)) rfl) rfl rfl rfl rfl ?_ | (refine WD.msetC hS (More.refl _ _) (.inl rfl) rfl rfl rfl rfl rfl rfl rfl rfl ?_; clear hS; intro w hS)) | refine seqQ_n ?_)
   exact fin1r rfl rfl ⟨rfl, (St.dkPut (x := ⟨dir, dat, dat, false, false, stamp⟩) h1 h2 h3 (hS.perm (.swap _ _ _))).mutOf Zh⟩
  ·have hs2 : D.stepE = 14 := by unfold Dk.stepE at hs ⊢; split at hs <;> simp_all
   have hR : D.sync p = (14, D.step) := by unfold Dk.sync; rw [if_neg (by simp [he]), if_pos hs, hs2]
   rw [hR]
   clear hR hs
   have hs := hs2
   repeat' (first | (show WL _ _ _ _ _ _ _; first | refine WL.pure rfl rfl rfl rfl ?_ | refine WL.nil ?_ | (refine WL.calls hS rfl rfl (dfile_c p (hS.holds (dkC q mb lb D) (by repeat (first | exact Zh | apply List.Mem.tail))).1 hl) rfl rfl rfl ?_; rintro v w rfl hS; rw [he]) | (refine WL.callG rfl rfl (step_c (D := D) (hS.holds (dkC q mb lb D) (by repeat (first | exact Zh | apply List.Mem.tail))) (hS.inB_of (by repeat (first | exact Zh | apply List.Mem.tail)))) rfl rfl rfl ?_; rintro v w ⟨rfl, hmut⟩; have hS := hS.mut hmut Rp; clear hmut; rw [hs])) | (show WC _ _ _ _ _ _; first | refine WC.seq ?_ | refine WC.region ?_ | refine WC.skip ?_ | refine WC.ret ?_ | refine WC.condT rfl Zd ?_ | refine WC.condF rfl Zd ?_) | refine seqQ_n ?_ | refine seqQ_r ?_)
   exact fin1r rfl rfl ⟨rfl, hS.mutOf (by repeat (first | exact Zh | apply List.Mem.tail))⟩
 ·have hR : D.sync p = (D.file p, D) := by unfold Dk.sync; rw [if_pos he]
  rw [hR]
  repeat' (first | (show WL _ _ _ _ _ _ _; first | refine WL.pure rfl rfl rfl rfl ?_ | refine WL.nil ?_ | (refine WL.calls hS rfl rfl (dfile_c p (hS.holds (dkC q mb lb D) (by repeat (first | exact Zh | apply List.Mem.tail))).1 hl) rfl rfl rfl ?_; rintro v w rfl hS)) | (show WC _ _ _ _ _ _; first | refine WC.seq ?_ | refine WC.region ?_ | refine WC.ret ?_ | refine WC.condT rfl (decide_eq_true Zw) ?_) | refine seqQ_n ?_ | refine seqQ_r ?_)
  exact fin1r rfl rfl ⟨rfl, hS.mutOf (by repeat (first | exact Zh | apply List.Mem.tail))⟩
open Go Go.J Go.RowKit
def Dk.write (D : Dk) (p data : List UInt8) : Int × Dk := if D.may p 1 ≠ 0 then (D.may p 1, D) else if D.under p = false then (11, D) else if (D.at p).dir = true then (12, D) else if D.stepE ≠ 0 then (D.stepE, D.step) else (0, D.step.set p { D.at p with data := data, loose := true, anew := true })
theorem write_c {q mb lb : Nat} {D : Dk} (p data : List UInt8) {w0 : World} (hc : (dkC q mb lb D).holds w0) (hi : inB (dkC q mb lb D) w0) (hl : p.length ≤ 1099511627) (hno : mget D.limits (volE p) = none) (hdl : data.length ≤ 1099511627776) (hal : (D.at p).data.length ≤ 1099511627776) : Cal Tryz.prog 99 [.pointer (some ⟨q, 0, none⟩), str p, str data] w0
  (fun v w' => v = .int .i64 (D.write p data).1 ∧ Mut w0 w' (dkC q mb lb D) (dkC q mb lb (D.write p data).2)) := by
 refine Cal.mkM hc hi Zk Tryz.func99 rfl rfl fun hS => ?_
 by_cases he : D.may p 1 = 0
 ·have hlk := look_it D.items p
  have hat : D.at p = (mget D.items p).getD It0 := rfl
  rw [← hat] at hlk
  clear hat
  have hs2 : ¬ D.stepE = 0 → D.stepE = 14 := by intro hs; unfold Dk.stepE at hs ⊢; split at hs <;> simp_all
  by_cases hu : D.under p = false
  ·have hR : D.write p data = (11, D) := by unfold Dk.write; rw [if_neg (by simp [he]), if_pos hu]
   rw [hR]
   clear hR hs2
   repeat' (first | (show WL _ _ _ _ _ _ _; first | refine WL.pure rfl rfl rfl rfl ?_ | refine WL.nil ?_ | (refine WL.calls hS rfl rfl (may_c p 1 (hS.holds (dkC q mb lb D) (by repeat (first | exact Zh | apply List.Mem.tail))).1 hl) rfl rfl rfl ?_; rintro v w rfl hS; rw [he]) | (refine WL.load hS rfl rfl (LdOk.dk (D := D) (by repeat (first | exact Zh | apply List.Mem.tail)) rfl) rfl rfl rfl ?_) | (refine WL.mget hS rfl rfl rfl rfl (MapOk.dk (D := D) (by repeat (first | exact Zh | apply List.Mem.tail))) hlk rfl rfl rfl ?_) | (refine WL.calls hS rfl rfl (dunder_c p (D := D) (hS.holds (dkC q mb lb D) (by repeat (first | exact Zh | apply List.Mem.tail))).1 hl) rfl rfl rfl ?_; rintro v w rfl hS; rw [hu]) | (refine WL.store hS rfl rfl rfl Sb rfl rfl rfl ?_; intro w hS) | (refine WL.alloc hS rfl rfl rfl rfl rfl rfl ?_; intro w b hS)) | (show WC _ _ _ _ _ _; first | refine WC.seq ?_ | refine WC.region ?_ | refine WC.block ?_ | refine WC.skip ?_ | refine WC.ret ?_ | refine WC.condT rfl Zd ?_ | refine WC.condF rfl Zd ?_) | refine seqQ_n ?_ | refine seqQ_r ?_ | refine blkQ_r ?_)
   exact fin1r rfl rfl ⟨rfl, hS.mutOf (by repeat (first | exact Zh | apply List.Mem.tail))⟩
  ·have hu2 : D.under p = true := by simpa using hu
   by_cases hd : (D.at p).dir = true
   ·have hR : D.write p data = (12, D) := by unfold Dk.write; rw [if_neg (by simp [he]), if_neg hu, if_pos hd]
    rw [hR]
    have hu := hu2
    clear hR hs2
    generalize D.at p = it at *
    obtain ⟨dir, dat, kept, loose, anew, stamp⟩ := it
    dsimp only at hd
    subst hd
    repeat' (first | (show WL _ _ _ _ _ _ _; first | refine WL.pure rfl rfl rfl rfl ?_ | refine WL.nil ?_ | refine WL.load hS rfl rfl (LdOk.box (by repeat (first | exact Zh | apply List.Mem.tail)) rfl) rfl rfl rfl ?_ | (refine WL.calls hS rfl rfl (may_c p 1 (hS.holds (dkC q mb lb D) (by repeat (first | exact Zh | apply List.Mem.tail))).1 hl) rfl rfl rfl ?_; rintro v w rfl hS; rw [he]) | (refine WL.load hS rfl rfl (LdOk.dk (D := D) (by repeat (first | exact Zh | apply List.Mem.tail)) rfl) rfl rfl rfl ?_) | (refine WL.mget hS rfl rfl rfl rfl (MapOk.dk (D := D) (by repeat (first | exact Zh | apply List.Mem.tail))) hlk rfl rfl rfl ?_) | (refine WL.calls hS rfl rfl (dunder_c p (D := D) (hS.holds (dkC q mb lb D) (by repeat (first | exact Zh | apply List.Mem.tail))).1 hl) rfl rfl rfl ?_; rintro v w rfl hS; rw [hu]) | (refine WL.store hS rfl rfl rfl Sb rfl rfl rfl ?_; intro w hS) | (refine WL.alloc hS rfl rfl rfl rfl rfl rfl ?_; intro w b hS)) | (show WC _ _ _ _ _ _; first | refine WC.seq ?_ | refine WC.region ?_ | refine WC.block ?_ | refine WC.skip ?_ | refine WC.ret ?_ | refine WC.condT rfl Zr ?_ | refine WC.condF rfl Zd ?_) | refine seqQ_n ?_ | refine seqQ_r ?_ | refine blkQ_r ?_)
    exact fin1r rfl rfl ⟨rfl, hS.mutOf (by repeat (first | exact Zh | apply List.Mem.tail))⟩
   ·have hd2 : (D.at p).dir = false := by simpa using hd
    by_cases hs : D.stepE = 0
    ·have hR : D.write p data = (0, D.step.set p { D.at p with data := data, loose := true, anew := true }) := by unfold Dk.write; rw [if_neg (by simp [he]), if_neg hu, if_neg hd, if_neg (by simp [hs])]
     rw [hR]
     have hu := hu2
     clear hR hs2 hd
     generalize D.at p = it at *
     obtain ⟨dir, dat, kept, loose, anew, stamp⟩ := it
     dsimp only at hd2 hal
     subst hd2
     repeat' (first | (show WL _ _ _ _ _ _ _; first | refine WL.sub (a := (data.length : Int)) (b := (dat.length : Int)) rfl rfl rfl Zo rfl rfl rfl ?_ | refine WL.pure rfl rfl rfl rfl ?_ | refine WL.nil ?_ | refine WL.load hS rfl rfl (LdOk.box (by repeat (first | exact Zh | apply List.Mem.tail)) rfl) rfl rfl rfl ?_ | (refine WL.calls hS rfl rfl (may_c p 1 (hS.holds (dkC q mb lb D) (by repeat (first | exact Zh | apply List.Mem.tail))).1 hl) rfl rfl rfl ?_; rintro v w rfl hS; rw [he]) | (refine WL.load hS rfl rfl (LdOk.dk (D := D) (by repeat (first | exact Zh | apply List.Mem.tail)) rfl) rfl rfl rfl ?_) | (refine WL.mget hS rfl rfl rfl rfl (MapOk.dk (D := D) (by repeat (first | exact Zh | apply List.Mem.tail))) hlk rfl rfl rfl ?_) | (refine WL.calls hS rfl rfl (dunder_c p (D := D) (hS.holds (dkC q mb lb D) (by repeat (first | exact Zh | apply List.Mem.tail))).1 hl) rfl rfl rfl ?_; rintro v w rfl hS; rw [hu]) | (refine WL.calls hS rfl rfl (room_c p _ (hS.holds (dkC q mb lb D) (by repeat (first | exact Zh | apply List.Mem.tail))).1 hl hno) rfl rfl rfl ?_; rintro v w rfl hS) | (refine WL.callG rfl rfl (step_c (D := D) (hS.holds (dkC q mb lb D) (by repeat (first | exact Zh | apply List.Mem.tail))) (hS.inB_of (by repeat (first | exact Zh | apply List.Mem.tail)))) rfl rfl rfl ?_; rintro v w ⟨rfl, hmut⟩; have hS := hS.mut hmut Rp; clear hmut; rw [hs]) | (refine WL.callG rfl rfl (dset_c p ⟨false, data, kept, true, true, stamp⟩ (D := D.step) (hS.holds (dkC q mb lb D.step) (by repeat (first | exact Zh | apply List.Mem.tail))) (hS.inB_of (by repeat (first | exact Zh | apply List.Mem.tail)))) rfl rfl rfl ?_; rintro v w ⟨rfl, hmut⟩; have hS := hS.mut hmut Rp; clear hmut) | (refine WL.store hS rfl rfl rfl Sb rfl rfl rfl ?_; intro w hS) | (refine WL.alloc hS rfl rfl rfl rfl rfl rfl ?_; intro w b hS)) | (show WC _ _ _ _ _ _; first | refine WC.seq ?_ | refine WC.region ?_ | refine WC.block ?_ | refine WC.skip ?_ | refine WC.ret ?_ | refine WC.condF rfl Zr ?_ | refine WC.condF rfl Zd ?_) | refine seqQ_n ?_ | refine blkQ_n ?_)
     exact fin1r rfl rfl ⟨rfl, hS.mutOf (by repeat (first | exact Zh | apply List.Mem.tail))⟩
    ·have hR : D.write p data = (14, D.step) := by unfold Dk.write; rw [if_neg (by simp [he]), if_neg hu, if_neg hd, if_pos hs, hs2 hs]
     rw [hR]
     have hu := hu2
     have hs := hs2 hs
     clear hR hs2 hd
     generalize D.at p = it at *
     obtain ⟨dir, dat, kept, loose, anew, stamp⟩ := it
     dsimp only at hd2 hal
     subst hd2
     repeat' (first | (show WL _ _ _ _ _ _ _; first | refine WL.sub (a := (data.length : Int)) (b := (dat.length : Int)) rfl rfl rfl Zo rfl rfl rfl ?_ | refine WL.pure rfl rfl rfl rfl ?_ | refine WL.nil ?_ | refine WL.load hS rfl rfl (LdOk.box (by repeat (first | exact Zh | apply List.Mem.tail)) rfl) rfl rfl rfl ?_ | (refine WL.calls hS rfl rfl (may_c p 1 (hS.holds (dkC q mb lb D) (by repeat (first | exact Zh | apply List.Mem.tail))).1 hl) rfl rfl rfl ?_; rintro v w rfl hS; rw [he]) | (refine WL.load hS rfl rfl (LdOk.dk (D := D) (by repeat (first | exact Zh | apply List.Mem.tail)) rfl) rfl rfl rfl ?_) | (refine WL.mget hS rfl rfl rfl rfl (MapOk.dk (D := D) (by repeat (first | exact Zh | apply List.Mem.tail))) hlk rfl rfl rfl ?_) | (refine WL.calls hS rfl rfl (dunder_c p (D := D) (hS.holds (dkC q mb lb D) (by repeat (first | exact Zh | apply List.Mem.tail))).1 hl) rfl rfl rfl ?_; rintro v w rfl hS; rw [hu]) | (refine WL.calls hS rfl rfl (room_c p _ (hS.holds (dkC q mb lb D) (by repeat (first | exact Zh | apply List.Mem.tail))).1 hl hno) rfl rfl rfl ?_; rintro v w rfl hS) | (refine WL.callG rfl rfl (step_c (D := D) (hS.holds (dkC q mb lb D) (by repeat (first | exact Zh | apply List.Mem.tail))) (hS.inB_of (by repeat (first | exact Zh | apply List.Mem.tail)))) rfl rfl rfl ?_; rintro v w ⟨rfl, hmut⟩; have hS := hS.mut hmut Rp; clear hmut; rw [hs]) | (refine WL.store hS rfl rfl rfl Sb rfl rfl rfl ?_; intro w hS) | (refine WL.alloc hS rfl rfl rfl rfl rfl rfl ?_; intro w b hS)) | (show WC _ _ _ _ _ _; first | refine WC.seq ?_ | refine WC.region ?_ | refine WC.block ?_ | refine WC.skip ?_ | refine WC.ret ?_ | refine WC.condF rfl Zr ?_ | refine WC.condT rfl Zd ?_ | refine WC.condF rfl Zd ?_) | refine seqQ_n ?_ | refine blkQ_n ?_ | refine seqQ_r ?_)
     exact fin1r rfl rfl ⟨rfl, hS.mutOf (by repeat (first | exact Zh | apply List.Mem.tail))⟩
 ·have hR : D.write p data = (D.may p 1, D) := by unfold Dk.write; rw [if_pos he]
  rw [hR]
  repeat' (first | (show WL _ _ _ _ _ _ _; first | refine WL.pure rfl rfl rfl rfl ?_ | refine WL.nil ?_ | (refine WL.calls hS rfl rfl (may_c p 1 (hS.holds (dkC q mb lb D) (by repeat (first | exact Zh | apply List.Mem.tail))).1 hl) rfl rfl rfl ?_; rintro v w rfl hS)) | (show WC _ _ _ _ _ _; first | refine WC.seq ?_ | refine WC.region ?_ | refine WC.ret ?_ | refine WC.condT rfl (decide_eq_true Zw) ?_) | refine seqQ_n ?_ | refine seqQ_r ?_)
  exact fin1r rfl rfl ⟨rfl, hS.mutOf (by repeat (first | exact Zh | apply List.Mem.tail))⟩
open Go Go.J Go.RowKit
def Dk.read (D : Dk) (p : List UInt8) : List UInt8 × Int := if D.down = true then ([], 14) else if D.has p = false then ([], 11) else if (D.at p).dir = true then ([], 12) else ((D.at p).data, 0)
theorem dread_c {b mb lb : Nat} {D : Dk} (p : List UInt8) {w0 : World} (h : DkIs b mb lb D w0) : Cal Tryz.prog 27 [.pointer (some ⟨b, 0, none⟩), str p] w0
  (fun v w' => Upd [] w0 w' ∧ v = .tuple #[str (D.read p).1, .int .i64 (D.read p).2]) := by
 refine Cal.mk' Zk Tryz.func27 rfl rfl fun hS => ?_
 obtain ⟨_, _, _, hb, hm, hlm⟩ := h
 have hb : w0.heap[b]? = some (.cells ⟨[.map (some mb), .map (some lb), .int .i64 D.steps, .int .i64 D.stamps, .int .i64 D.armed, .bool D.down]⟩ 122 (0, 0)) := hb
 unfold Dk.read Dk.has Dk.at
 have hlk := look_it2 D.items p
 generalize (mget D.items p).isSome = has at *
 generalize (mget D.items p).getD It0 = it at *
 generalize D.down = dn at *
 obtain ⟨dir, data, kept, loose, anew, stamp⟩ := it
 cases dn <;> cases has <;> cases dir
 all_goals
  repeat' (first | (show WL _ _ _ _ _ _ _; first | refine WL.pure rfl rfl rfl rfl ?_ | refine WL.nil ?_ | refine WL.load hS rfl rfl (LdOk.box (by repeat (first | exact Zh | apply List.Mem.tail)) rfl) rfl rfl rfl ?_ | (refine WL.load hS rfl rfl (LdOk.old hb (by repeat (first | exact Zh | apply List.Mem.tail)) rfl) rfl rfl rfl ?_) | (refine WL.mget hS rfl rfl rfl rfl (MapOk.old hm (by repeat (first | exact Zh | apply List.Mem.tail))) hlk rfl rfl rfl ?_) | (refine WL.store hS rfl rfl rfl Sb rfl rfl rfl ?_; intro w hS) | (refine WL.alloc hS rfl rfl rfl rfl rfl rfl ?_; intro w b hS)) | (show WC _ _ _ _ _ _; first | refine WC.seq ?_ | refine WC.region ?_ | refine WC.block ?_ | refine WC.skip ?_ | refine WC.ret ?_ | refine WC.condT rfl Zr ?_ | refine WC.condF rfl Zr ?_ | refine WC.condT rfl Zd ?_ | refine WC.condF rfl Zd ?_) | refine seqQ_n ?_ | refine blkQ_n ?_ | refine seqQ_r ?_ | refine blkQ_r ?_)
  exact fin2r rfl rfl rfl ⟨hS.upd, rfl⟩
end Go.Proofs.YtccfiohagbneaaaGreatDoor

namespace Go.J
open Go Go.RowKit
section
variable {P : Program} {N : Fz} {f : Fr} {w w0 : World} {Q : Post} {ops l : List Oper} {o : Oper} {M : List Nat} {H H' : List Chunk} {Z : List Snap}
theorem WL.val0 (hg : wants ops f o = true) (hd : o.dst = none) {v : Value} {w' : World} (hr : (execOp (ev f) o).run P w = .ok (.value v) w')
  (h : WL P N ops l f w' Q) : WL P N ops (o :: l) f w Q := by
 refine ⟨fun a ha => wpList_step fun K hK => ?_⟩
 rw [if_pos ((wanted_eq ha o).trans hg)]
 simp only [Oper.wp, ha.eval, hr, Oper.upon]
 exact hK _ _ (h.out _ (by rw [hd]; exact ha))
theorem WL.mdel0 {t k t2 : TypeId} {z : Value} {x i : Operand} {b : Nat} {m : KV} {s : List UInt8} (hS : St w0 M w H Z) (ho : o.op = .call ⟨.builtin .delete, ⟨[x, i]⟩, ⟨[t, t2]⟩⟩) (ht : mapOf P t = some (k, z)) (hx : ev f x = .map (some b)) (hi : ev f i = str s)
  (hr : Repl (mapC b m) (mapC b (Go.J.mdel m s)) H H') (hg : wants ops f o = true) (hd : o.dst = none) (h : ∀ w', St w0 M w' H' Z → WL P N ops l f w' Q) : WL P N ops (o :: l) f w Q := by
 obtain ⟨ob, h1, h2⟩ := run_delete (t2 := t2) (ty := o.type) (s := s) ht (hS.holds _ hr.mem).1
 have hrun : (execOp (ev f) o).run P w = .ok (.value (.tuple #[])) { w with heap := w.heap.setIfInBounds b ob } := by
  simp [execOp, ho, resolve, invoke, builtin, hx, hi, Sem.run_bind, h1]
 exact .val0 hg hd hrun (h _ (hS.setMap hr h2))
end
end Go.J

namespace Go.Proofs.YtccfiohagbneaaaGreatDoor
open Go Go.J Go.RowKit
def Dk.del (D : Dk) (p : List UInt8) : Dk := { D with items := mdel D.items p }
def Dk.rename (D : Dk) (p r : List UInt8) : Int × Dk :=
 if D.may p 1 ≠ 0 then (D.may p 1, D) else if D.may r 1 ≠ 0 then (D.may r 1, D) else if D.has p = false ∨ D.under r = false then (11, D)
 else if (D.at p).dir = true ∨ (D.at r).dir = true then (12, D) else if D.stepE ≠ 0 then (D.stepE, D.step) else (0, (D.step.del p).set r (D.at p))
theorem St.dkDel {w0 w : World} {M : List Nat} {H : List Chunk} {Z : List Snap} {b mb lb : Nat} {D : Dk} {p : List UInt8} (h1 : b ≠ mb) (h2 : b ≠ lb) (h3 : mb ≠ lb)
  (hS : St w0 M w (.box b 122 [.map (some mb), .map (some lb), .int .i64 D.steps, .int .i64 D.stamps, .int .i64 D.armed, .bool D.down] :: mapC mb (mdel (mmap encIt D.items) p) :: mapC lb (mmap encI D.limits) :: H) Z) : St w0 M w (dkC b mb lb (D.del p) :: H) Z := by
 rw [mdel_map] at hS
 exact St.dkClose (D.del p) h1 h2 h3 hS
theorem rename_c {q mb lb : Nat} {D : Dk} (p r : List UInt8) {w0 : World} (hc : (dkC q mb lb D).holds w0) (hi : inB (dkC q mb lb D) w0) (hl : p.length ≤ 1099511627) (hl2 : r.length ≤ 1099511627) (hno : mget D.limits (volE r) = none) (hal : (D.at p).data.length ≤ 1099511627776) (hal2 : (D.at r).data.length ≤ 1099511627776) : Cal Tryz.prog 100 [.pointer (some ⟨q, 0, none⟩), str p, str r] w0
  (fun v w' => v = .int .i64 (D.rename p r).1 ∧ Mut w0 w' (dkC q mb lb D) (dkC q mb lb (D.rename p r).2)) := by
 refine Cal.mkM hc hi Zk Tryz.func100 rfl rfl fun hS => ?_
 by_cases he : D.may p 1 = 0
 ·by_cases he2 : D.may r 1 = 0
  ·have hlk := look_it2 D.items p
   have hlk2 := look_it D.items r
   have hhas : D.has p = (mget D.items p).isSome := rfl
   have hat : D.at p = (mget D.items p).getD It0 := rfl
   have hat2 : D.at r = (mget D.items r).getD It0 := rfl
   rw [← hhas, ← hat] at hlk
   rw [← hat2] at hlk2
   clear hhas hat hat2
   by_cases h11 : D.has p = false ∨ D.under r = false
   ·have hR : D.rename p r = (11, D) := by unfold Dk.rename; rw [if_neg (by simp [he]), if_neg (by simp [he2]), if_pos h11]
    rw [hR]
    have hcase : (D.has p = false) ∨ (D.has p = true ∧ D.under r = false) := by
     cases h1 : D.has p
     ·exact .inl rfl
     ·rcases h11 with h2 | h2
      ·rw [h1] at h2; cases h2
      ·exact .inr ⟨rfl, h2⟩
    clear hR h11
    generalize D.has p = has at *
    generalize D.at p = it at *
    generalize D.at r = it2 at *
    obtain ⟨dir, dat, kept, loose, anew, stamp⟩ := it
    obtain ⟨dir2, dat2, kept2, loose2, anew2, stamp2⟩ := it2
    dsimp only at hal hal2
    rcases hcase with rfl | ⟨rfl, hu⟩
    case' inl => have hu : D.under r = D.under r := rfl
    all_goals
     repeat' (first | (show WL _ _ _ _ _ _ _; first | refine WL.sub (a := (dat.length : Int)) (b := (dat2.length : Int)) rfl rfl rfl Zo rfl rfl rfl ?_ | refine WL.pure rfl rfl rfl rfl ?_ | refine WL.nil ?_ | refine WL.load hS rfl rfl (LdOk.box (by repeat (first | exact Zh | apply List.Mem.tail)) rfl) rfl rfl rfl ?_ | (refine WL.calls hS rfl rfl (may_c p 1 (hS.holds (dkC q mb lb D) (by repeat (first | exact Zh | apply List.Mem.tail))).1 hl) rfl rfl rfl ?_; rintro v w rfl hS; rw [he]) | (refine WL.calls hS rfl rfl (may_c r 1 (hS.holds (dkC q mb lb D) (by repeat (first | exact Zh | apply List.Mem.tail))).1 hl2) rfl rfl rfl ?_; rintro v w rfl hS; rw [he2]) | (refine WL.load hS rfl rfl (LdOk.dk (D := D) (by repeat (first | exact Zh | apply List.Mem.tail)) rfl) rfl rfl rfl ?_) | (refine WL.mget hS rfl rfl rfl rfl (MapOk.dk (D := D) (by repeat (first | exact Zh | apply List.Mem.tail))) hlk rfl rfl rfl ?_) | (refine WL.mget hS rfl rfl rfl rfl (MapOk.dk (D := D) (by repeat (first | exact Zh | apply List.Mem.tail))) hlk2 rfl rfl rfl ?_) | (refine WL.calls hS rfl rfl (volume_c p _ Zo) rfl rfl rfl ?_; rintro v w rfl hS) | (refine WL.calls hS rfl rfl (volume_c r _ Zo) rfl rfl rfl ?_; rintro v w rfl hS) | (refine WL.calls hS rfl rfl (dunder_c r (D := D) (hS.holds (dkC q mb lb D) (by repeat (first | exact Zh | apply List.Mem.tail))).1 hl2) rfl rfl rfl ?_; rintro v w rfl hS; rw [hu]) | (refine WL.store hS rfl rfl rfl Sb rfl rfl rfl ?_; intro w hS) | (refine WL.alloc hS rfl rfl rfl rfl rfl rfl ?_; intro w b hS) | refine WL.skip rfl rfl rfl ?_) | (show WC _ _ _ _ _ _; first | refine WC.seq ?_ | refine WC.region ?_ | refine WC.block ?_ | refine WC.skip ?_ | refine WC.ret ?_ | refine WC.condT rfl Zr ?_ | refine WC.condT rfl Zd ?_ | refine WC.condF rfl Zd ?_ | (refine WC.cond rfl (fun h => ?_) (fun h => ?_) <;> (try simp only [Ya,Yb,Yc,Yd,Ye,Yf,Yg,Yh,Yi,Yj,Yk,Yl,Ym,Yn,Yo,Yp] at h) <;> (try exact Zx))) | refine seqQ_n ?_ | refine seqQ_r ?_ | refine blkQ_r ?_)
     all_goals exact fin1r rfl rfl ⟨rfl, hS.mutOf (by repeat (first | exact Zh | apply List.Mem.tail))⟩
   ·have hh : D.has p = true := by
     cases h1 : D.has p
     ·exact absurd (.inl h1) h11
     ·rfl
    have hu : D.under r = true := by
     cases h1 : D.under r
     ·exact absurd (.inr h1) h11
     ·rfl
    by_cases h12 : (D.at p).dir = true ∨ (D.at r).dir = true
    ·have hR : D.rename p r = (12, D) := by unfold Dk.rename; rw [if_neg (by simp [he]), if_neg (by simp [he2]), if_neg h11, if_pos h12]
     rw [hR]
     clear hR h11
     generalize D.has p = has at *
     generalize D.at p = it at *
     generalize D.at r = it2 at *
     obtain ⟨dir, dat, kept, loose, anew, stamp⟩ := it
     obtain ⟨dir2, dat2, kept2, loose2, anew2, stamp2⟩ := it2
     dsimp only at hal hal2 h12
     subst hh
     cases dir <;> cases dir2 <;> (first | (exfalso; simp at h12; done) | skip)
     all_goals
      clear h12
      repeat' (first | (show WL _ _ _ _ _ _ _; first | refine WL.sub (a := (dat.length : Int)) (b := (dat2.length : Int)) rfl rfl rfl Zo rfl rfl rfl ?_ | refine WL.pure rfl rfl rfl rfl ?_ | refine WL.nil ?_ | refine WL.load hS rfl rfl (LdOk.box (by repeat (first | exact Zh | apply List.Mem.tail)) rfl) rfl rfl rfl ?_ | (refine WL.calls hS rfl rfl (may_c p 1 (hS.holds (dkC q mb lb D) (by repeat (first | exact Zh | apply List.Mem.tail))).1 hl) rfl rfl rfl ?_; rintro v w rfl hS; rw [he]) | (refine WL.calls hS rfl rfl (may_c r 1 (hS.holds (dkC q mb lb D) (by repeat (first | exact Zh | apply List.Mem.tail))).1 hl2) rfl rfl rfl ?_; rintro v w rfl hS; rw [he2]) | (refine WL.load hS rfl rfl (LdOk.dk (D := D) (by repeat (first | exact Zh | apply List.Mem.tail)) rfl) rfl rfl rfl ?_) | (refine WL.mget hS rfl rfl rfl rfl (MapOk.dk (D := D) (by repeat (first | exact Zh | apply List.Mem.tail))) hlk rfl rfl rfl ?_) | (refine WL.mget hS rfl rfl rfl rfl (MapOk.dk (D := D) (by repeat (first | exact Zh | apply List.Mem.tail))) hlk2 rfl rfl rfl ?_) | (refine WL.calls hS rfl rfl (volume_c p _ Zo) rfl rfl rfl ?_; rintro v w rfl hS) | (refine WL.calls hS rfl rfl (volume_c r _ Zo) rfl rfl rfl ?_; rintro v w rfl hS) | (refine WL.calls hS rfl rfl (dunder_c r (D := D) (hS.holds (dkC q mb lb D) (by repeat (first | exact Zh | apply List.Mem.tail))).1 hl2) rfl rfl rfl ?_; rintro v w rfl hS; rw [hu]) | (refine WL.store hS rfl rfl rfl Sb rfl rfl rfl ?_; intro w hS) | (refine WL.alloc hS rfl rfl rfl rfl rfl rfl ?_; intro w b hS) | refine WL.skip rfl rfl rfl ?_) | (show WC _ _ _ _ _ _; first | refine WC.seq ?_ | refine WC.region ?_ | refine WC.block ?_ | refine WC.skip ?_ | refine WC.ret ?_ | refine WC.condT rfl Zr ?_ | refine WC.condT rfl Zd ?_ | refine WC.condF rfl Zd ?_ | (refine WC.cond rfl (fun h => ?_) (fun h => ?_) <;> (try simp only [Ya,Yb,Yc,Yd,Ye,Yf,Yg,Yh,Yi,Yj,Yk,Yl,Ym,Yn,Yo,Yp] at h) <;> (try exact Zx))) | refine seqQ_n ?_ | refine seqQ_r ?_ | refine blkQ_r ?_)
      all_goals exact fin1r rfl rfl ⟨rfl, hS.mutOf (by repeat (first | exact Zh | apply List.Mem.tail))⟩
    ·have hd1 : (D.at p).dir = false := by
      cases h1 : (D.at p).dir
      ·rfl
      ·exact absurd (.inl h1) h12
     have hd2 : (D.at r).dir = false := by
      cases h1 : (D.at r).dir
      ·rfl
      ·exact absurd (.inr h1) h12
     by_cases hs : D.stepE = 0
     ·have hR : D.rename p r = (0, (D.step.del p).set r (D.at p)) := by unfold Dk.rename; rw [if_neg (by simp [he]), if_neg (by simp [he2]), if_neg h11, if_neg h12, if_neg (by simp [hs])]
      rw [hR]
      clear hR h11 h12
      generalize D.has p = has at *
      generalize D.at p = it at *
      generalize D.at r = it2 at *
      obtain ⟨dir, dat, kept, loose, anew, stamp⟩ := it
      obtain ⟨dir2, dat2, kept2, loose2, anew2, stamp2⟩ := it2
      dsimp only at hal hal2 hd1 hd2
      subst hh hd1 hd2
      repeat' (first | (show WL _ _ _ _ _ _ _; first | refine WL.sub (a := (dat.length : Int)) (b := (dat2.length : Int)) rfl rfl rfl Zo rfl rfl rfl ?_ | refine WL.pure rfl rfl rfl rfl ?_ | refine WL.nil ?_ | refine WL.load hS rfl rfl (LdOk.box (by repeat (first | exact Zh | apply List.Mem.tail)) rfl) rfl rfl rfl ?_ | (refine WL.calls hS rfl rfl (may_c p 1 (hS.holds (dkC q mb lb D) (by repeat (first | exact Zh | apply List.Mem.tail))).1 hl) rfl rfl rfl ?_; rintro v w rfl hS; rw [he]) | (refine WL.calls hS rfl rfl (may_c r 1 (hS.holds (dkC q mb lb D) (by repeat (first | exact Zh | apply List.Mem.tail))).1 hl2) rfl rfl rfl ?_; rintro v w rfl hS; rw [he2]) | (refine WL.load hS rfl rfl (LdOk.dk (D := D) (by repeat (first | exact Zh | apply List.Mem.tail)) rfl) rfl rfl rfl ?_) | (refine WL.load hS rfl rfl (LdOk.dk (D := D.step) (by repeat (first | exact Zh | apply List.Mem.tail)) rfl) rfl rfl rfl ?_) | (refine WL.mget hS rfl rfl rfl rfl (MapOk.dk (D := D) (by repeat (first | exact Zh | apply List.Mem.tail))) hlk rfl rfl rfl ?_) | (refine WL.mget hS rfl rfl rfl rfl (MapOk.dk (D := D) (by repeat (first | exact Zh | apply List.Mem.tail))) hlk2 rfl rfl rfl ?_) | (refine WL.calls hS rfl rfl (volume_c p _ Zo) rfl rfl rfl ?_; rintro v w rfl hS) | (refine WL.calls hS rfl rfl (volume_c r _ Zo) rfl rfl rfl ?_; rintro v w rfl hS) | (refine WL.calls hS rfl rfl (dunder_c r (D := D) (hS.holds (dkC q mb lb D) (by repeat (first | exact Zh | apply List.Mem.tail))).1 hl2) rfl rfl rfl ?_; rintro v w rfl hS; rw [hu]) | (refine WL.calls hS rfl rfl (room_c r _ (hS.holds (dkC q mb lb D) (by repeat (first | exact Zh | apply List.Mem.tail))).1 hl2 hno) rfl rfl rfl ?_; rintro v w rfl hS) | (refine WL.callG rfl rfl (step_c (D := D) (hS.holds (dkC q mb lb D) (by repeat (first | exact Zh | apply List.Mem.tail))) (hS.inB_of (by repeat (first | exact Zh | apply List.Mem.tail)))) rfl rfl rfl ?_; rintro v w ⟨rfl, hmut⟩; have hS := hS.mut hmut Rp; clear hmut; rw [hs]) | (obtain ⟨h1, h2, h3, hS⟩ := St.dkOpen (St.pull (c := dkC q mb lb D.step) hS Pl1); refine WL.mdel0 hS rfl rfl rfl rfl Rp rfl rfl ?_; clear hS; intro w hS; have hS := St.dkDel h1 h2 h3 hS) | (refine WL.callG rfl rfl (dset_c r ⟨false, dat, kept, loose, anew, stamp⟩ (D := D.step.del p) (hS.holds (dkC q mb lb (D.step.del p)) (by repeat (first | exact Zh | apply List.Mem.tail))) (hS.inB_of (by repeat (first | exact Zh | apply List.Mem.tail)))) rfl rfl rfl ?_; rintro v w ⟨rfl, hmut⟩; have hS := hS.mut hmut Rp; clear hmut) | (refine WL.store hS rfl rfl rfl Sb rfl rfl rfl ?_; intro w hS) | (refine WL.alloc hS rfl rfl rfl rfl rfl rfl ?_; intro w b hS) | refine WL.skip rfl rfl rfl ?_ | ((fail_if_success (refine WL.wanted rfl ?_)); refine WL.guard rfl rfl rfl (fun h => ?_) (fun h => ?_) <;> (try simp only [Ya,Yb,Yc,Yd,Ye,Yf,Yg,Yh,Yi,Yj,Yk,Yl,Ym,Yn,Yo,Yp] at h) <;> (try exact Zx))) | (show WC _ _ _ _ _ _; first | refine WC.seq ?_ | refine WC.region ?_ | refine WC.block ?_ | refine WC.skip ?_ | refine WC.ret ?_ | refine WC.condF rfl Zr ?_ | refine WC.condT rfl Zd ?_ | refine WC.condF rfl Zd ?_ | (refine WC.cond rfl (fun h => ?_) (fun h => ?_) <;> (try simp only [Ya,Yb,Yc,Yd,Ye,Yf,Yg,Yh,Yi,Yj,Yk,Yl,Ym,Yn,Yo,Yp] at h) <;> (try exact Zx))) | refine seqQ_n ?_ | refine blkQ_n ?_)
      all_goals exact fin1r rfl rfl ⟨rfl, hS.mutOf (by repeat (first | exact Zh | apply List.Mem.tail))⟩
     ·have hs2 : D.stepE = 14 := by unfold Dk.stepE at hs ⊢; split at hs <;> simp_all
      have hR : D.rename p r = (14, D.step) := by unfold Dk.rename; rw [if_neg (by simp [he]), if_neg (by simp [he2]), if_neg h11, if_neg h12, if_pos hs, hs2]
      rw [hR]
      clear hR h11 h12 hs
      have hs := hs2
      generalize D.has p = has at *
      generalize D.at p = it at *
      generalize D.at r = it2 at *
      obtain ⟨dir, dat, kept, loose, anew, stamp⟩ := it
      obtain ⟨dir2, dat2, kept2, loose2, anew2, stamp2⟩ := it2
      dsimp only at hal hal2 hd1 hd2
      subst hh hd1 hd2
      repeat' (first | (show WL _ _ _ _ _ _ _; first | refine WL.sub (a := (dat.length : Int)) (b := (dat2.length : Int)) rfl rfl rfl Zo rfl rfl rfl ?_ | refine WL.pure rfl rfl rfl rfl ?_ | refine WL.nil ?_ | refine WL.load hS rfl rfl (LdOk.box (by repeat (first | exact Zh | apply List.Mem.tail)) rfl) rfl rfl rfl ?_ | (refine WL.calls hS rfl rfl (may_c p 1 (hS.holds (dkC q mb lb D) (by repeat (first | exact Zh | apply List.Mem.tail))).1 hl) rfl rfl rfl ?_; rintro v w rfl hS; rw [he]) | (refine WL.calls hS rfl rfl (may_c r 1 (hS.holds (dkC q mb lb D) (by repeat (first | exact Zh | apply List.Mem.tail))).1 hl2) rfl rfl rfl ?_; rintro v w rfl hS; rw [he2]) | (refine WL.load hS rfl rfl (LdOk.dk (D := D) (by repeat (first | exact Zh | apply List.Mem.tail)) rfl) rfl rfl rfl ?_) | (refine WL.mget hS rfl rfl rfl rfl (MapOk.dk (D := D) (by repeat (first | exact Zh | apply List.Mem.tail))) hlk rfl rfl rfl ?_) | (refine WL.mget hS rfl rfl rfl rfl (MapOk.dk (D := D) (by repeat (first | exact Zh | apply List.Mem.tail))) hlk2 rfl rfl rfl ?_) | (refine WL.calls hS rfl rfl (volume_c p _ Zo) rfl rfl rfl ?_; rintro v w rfl hS) | (refine WL.calls hS rfl rfl (volume_c r _ Zo) rfl rfl rfl ?_; rintro v w rfl hS) | (refine WL.calls hS rfl rfl (dunder_c r (D := D) (hS.holds (dkC q mb lb D) (by repeat (first | exact Zh | apply List.Mem.tail))).1 hl2) rfl rfl rfl ?_; rintro v w rfl hS; rw [hu]) | (refine WL.calls hS rfl rfl (room_c r _ (hS.holds (dkC q mb lb D) (by repeat (first | exact Zh | apply List.Mem.tail))).1 hl2 hno) rfl rfl rfl ?_; rintro v w rfl hS) | (refine WL.callG rfl rfl (step_c (D := D) (hS.holds (dkC q mb lb D) (by repeat (first | exact Zh | apply List.Mem.tail))) (hS.inB_of (by repeat (first | exact Zh | apply List.Mem.tail)))) rfl rfl rfl ?_; rintro v w ⟨rfl, hmut⟩; have hS := hS.mut hmut Rp; clear hmut; rw [hs]) | (refine WL.store hS rfl rfl rfl Sb rfl rfl rfl ?_; intro w hS) | (refine WL.alloc hS rfl rfl rfl rfl rfl rfl ?_; intro w b hS) | refine WL.skip rfl rfl rfl ?_ | ((fail_if_success (refine WL.wanted rfl ?_)); refine WL.guard rfl rfl rfl (fun h => ?_) (fun h => ?_) <;> (try simp only [Ya,Yb,Yc,Yd,Ye,Yf,Yg,Yh,Yi,Yj,Yk,Yl,Ym,Yn,Yo,Yp] at h) <;> (try exact Zx))) | (show WC _ _ _ _ _ _; first | refine WC.seq ?_ | refine WC.region ?_ | refine WC.block ?_ | refine WC.skip ?_ | refine WC.ret ?_ | refine WC.condF rfl Zr ?_ | refine WC.condT rfl Zd ?_ | refine WC.condF rfl Zd ?_ | (refine WC.cond rfl (fun h => ?_) (fun h => ?_) <;> (try simp only [Ya,Yb,Yc,Yd,Ye,Yf,Yg,Yh,Yi,Yj,Yk,Yl,Ym,Yn,Yo,Yp] at h) <;> (try exact Zx))) | refine seqQ_n ?_ | refine blkQ_n ?_ | refine seqQ_r ?_)
      all_goals exact fin1r rfl rfl ⟨rfl, hS.mutOf (by repeat (first | exact Zh | apply List.Mem.tail))⟩
  ·have hR : D.rename p r = (D.may r 1, D) := by unfold Dk.rename; rw [if_neg (by simp [he]), if_pos he2]
   rw [hR]
   repeat' (first | (show WL _ _ _ _ _ _ _; first | refine WL.pure rfl rfl rfl rfl ?_ | refine WL.nil ?_ | (refine WL.calls hS rfl rfl (may_c p 1 (hS.holds (dkC q mb lb D) (by repeat (first | exact Zh | apply List.Mem.tail))).1 hl) rfl rfl rfl ?_; rintro v w rfl hS; rw [he]) | (refine WL.calls hS rfl rfl (may_c r 1 (hS.holds (dkC q mb lb D) (by repeat (first | exact Zh | apply List.Mem.tail))).1 hl2) rfl rfl rfl ?_; rintro v w rfl hS)) | (show WC _ _ _ _ _ _; first | refine WC.seq ?_ | refine WC.region ?_ | refine WC.ret ?_ | refine WC.condT rfl Zd ?_ | refine WC.condT rfl (decide_eq_true Zw) ?_) | refine seqQ_n ?_ | refine seqQ_r ?_)
   exact fin1r rfl rfl ⟨rfl, hS.mutOf (by repeat (first | exact Zh | apply List.Mem.tail))⟩
 ·have hR : D.rename p r = (D.may p 1, D) := by unfold Dk.rename; rw [if_pos he]
  rw [hR]
  repeat' (first | (show WL _ _ _ _ _ _ _; first | refine WL.pure rfl rfl rfl rfl ?_ | refine WL.nil ?_ | (refine WL.calls hS rfl rfl (may_c p 1 (hS.holds (dkC q mb lb D) (by repeat (first | exact Zh | apply List.Mem.tail))).1 hl) rfl rfl rfl ?_; rintro v w rfl hS)) | (show WC _ _ _ _ _ _; first | refine WC.seq ?_ | refine WC.region ?_ | refine WC.skip ?_ | refine WC.ret ?_ | refine WC.condT rfl (decide_eq_true Zw) ?_ | refine WC.condF rfl (decide_eq_false Zw) ?_) | refine seqQ_n ?_ | refine seqQ_r ?_)
  exact fin1r rfl rfl ⟨rfl, hS.mutOf (by repeat (first | exact Zh | apply List.Mem.tail))⟩
open Go Go.J Go.RowKit
def sbD (b : Nat) (p A : Option Addr) (n cap : Nat) (s : List UInt8) : List Chunk := [.box b 199 [.pointer p, .slice A n cap], .own (.slice A n cap) 5 1 n (byteC s)]
def sbU (b : Nat) (s : List UInt8) (D : List Chunk) : Prop := ∃ A n cap, D = sbD b (some ⟨b, 0, none⟩) A n cap s ∧ (A = none ∨ cap ≠ 0)
def sbφ (b : Nat) (s : List UInt8) (D : List Chunk) : Prop := (D = sbD b none none 0 0 [] ∧ s = []) ∨ sbU b s D
abbrev sbC (b : Nat) (s : List UInt8) (fp : List Nat) : Chunk := objC (sbφ b s) fp
abbrev sbK (b : Nat) (s : List UInt8) (fp : List Nat) : Chunk := objC (sbU b s) fp
theorem bcheck_c (b : Nat) (s : List UInt8) (fp : List Nat) (w0 : World) (hc : (sbC b s fp).holds w0) (hi : inB (sbC b s fp) w0) : Cal Tryz.prog 183 [.pointer (some ⟨b, 0, none⟩)] w0
  (fun v w' => v = .tuple #[] ∧ ∃ fp', Mut w0 w' (sbC b s fp) (sbK b s fp')) := by
 refine Cal.mkM hc hi Zk Tryz.func183 rfl rfl fun hS => ?_
 have hne : ExtIs Tryz.prog 214 Extern.AbiNoEscape.same := ⟨_, Tryz.func214, Zk, Zk, Zk, Zk⟩
 obtain ⟨D, hφ, hfp, hS⟩ := hS.objOpen
 rcases hφ with ⟨rfl, rfl⟩ | ⟨A, n, cap, rfl, hA⟩
 ·replace hS : St w0 (sbC b [] fp).fp w0 [.box b 199 [.pointer none, .slice none 0 0], .own (.slice none 0 0) 5 1 0 (byteC [])] _ := hS
  repeat' (first | (show WL _ _ _ _ _ _ _; first | refine WL.pure rfl rfl rfl rfl ?_ | refine WL.nil ?_ | refine WL.load hS rfl rfl (LdOk.box (by repeat (first | exact Zh | apply List.Mem.tail)) rfl) rfl rfl rfl ?_ | (refine WL.toU hS rfl rfl Zk rfl (by repeat (first | exact Zh | apply List.Mem.tail)) Zd rfl rfl rfl ?_) | (refine WL.ext rfl rfl hne (run_noEsc _) rfl rfl rfl ?_) | (refine WL.fromU hS rfl Zk rfl rfl (by repeat (first | exact Zh | apply List.Mem.tail)) Zk rfl rfl rfl ?_) | (refine WL.store hS rfl rfl rfl Sb rfl rfl rfl ?_; intro w hS)) | (show WC _ _ _ _ _ _; first | refine WC.seq ?_ | refine WC.region ?_ | refine WC.condT rfl Zr ?_) | refine seqQ_n ?_)
  exact fin0n rfl ⟨rfl, _, (St.objClose (H := []) (φ := sbU b []) (D := sbD b (some ⟨b, 0, none⟩) none 0 0 []) hS ⟨_, _, _, rfl, .inl rfl⟩).mutOf Zh⟩
 ·replace hS : St w0 (sbC b s fp).fp w0 [.box b 199 [.pointer (some ⟨b, 0, none⟩), .slice A n cap], .own (.slice A n cap) 5 1 n (byteC s)] _ := hS
  repeat' (first | (show WL _ _ _ _ _ _ _; first | refine WL.pure rfl rfl rfl rfl ?_ | refine WL.nil ?_ | refine WL.load hS rfl rfl (LdOk.box (by repeat (first | exact Zh | apply List.Mem.tail)) rfl) rfl rfl rfl ?_ | (refine WL.neSame rfl rfl rfl rfl rfl rfl rfl ?_)) | (show WC _ _ _ _ _ _; first | refine WC.seq ?_ | refine WC.region ?_ | refine WC.skip ?_ | refine WC.condF rfl Zr ?_) | refine seqQ_n ?_)
  exact fin0n rfl ⟨rfl, _, (St.objClose (H := []) (φ := sbU b s) (D := sbD b (some ⟨b, 0, none⟩) A n cap s) hS ⟨_, _, _, rfl, hA⟩).mutOf Zh⟩
theorem bwrite_c (q : Nat) (s : List UInt8) (fp : List Nat) (c : UInt8) (w0 : World) (hc : (sbC q s fp).holds w0) (hi : inB (sbC q s fp) w0) (hl : s.length ≤ 1099511627776) : Cal Tryz.prog 201 [.pointer (some ⟨q, 0, none⟩), .int .u8 (c.toNat : Int)] w0
  (fun v w' => v = .nilIface ∧ ∃ fp', Mut w0 w' (sbC q s fp) (sbC q (s ++ [c]) fp')) := by
 refine Cal.mkM hc hi Zk Tryz.func201 rfl rfl fun hS => ?_
 repeat' (first | (show WL _ _ _ _ _ _ _; first | refine WL.pure rfl rfl rfl rfl ?_ | refine WL.nil ?_ | refine WL.load hS rfl rfl (LdOk.box (by repeat (first | exact Zh | apply List.Mem.tail)) rfl) rfl rfl rfl ?_ | (refine WL.callG rfl rfl (bcheck_c q s fp _ (hS.holds _ Zh) (hS.inB_of Zh)) rfl rfl rfl ?_; rintro v w ⟨rfl, fp', hmut⟩; have hS := hS.mut hmut .here; obtain ⟨D, ⟨A, n, cap, rfl, hA⟩, hfp, hS⟩ := hS.objOpen; replace hS : St w0 _ w [.box q 199 [.pointer (some ⟨q, 0, none⟩), .slice A n cap], .own (.slice A n cap) 5 1 n (byteC s)] _ := hS; have hlen := (hS.own_len (List.Mem.tail _ Zh)).1; rw [byteC_len, Nat.mul_one] at hlen) | (refine WL.app hS rfl rfl rfl rfl (.box (by repeat (first | exact Zh | apply List.Mem.tail))) rfl rfl (fun A' cap' => Rp) Zo rfl rfl rfl ?_; intro A2 cap2 w hS) | (refine WL.store hS rfl rfl rfl Sb rfl rfl rfl ?_; intro w hS) | (refine WL.slit hS rfl rfl rfl rfl rfl ?_; intro w b hS)) | (show WC _ _ _ _ _ _; first | refine WC.seq ?_ | refine WC.region ?_ | refine WC.ret ?_) | refine seqQ_n ?_)
 exact fin1r rfl rfl ⟨rfl, _, (St.objClose (H := []) (φ := sbφ q (s ++ [c])) (D := sbD q (some ⟨q, 0, none⟩) A2 (n + 1) cap2 (s ++ [c])) (by rw [sbD, byteC_app]; exact hS.drop) (.inr ⟨_, _, _, rfl, .inr (by have := (hS.own_len (List.Mem.tail _ (List.Mem.tail _ Zh))).2.2; omega)⟩)).mutOf Zh⟩
theorem bstring_c (q : Nat) (s : List UInt8) (fp : List Nat) (w0 : World) (hc : (sbC q s fp).holds w0) (hi : inB (sbC q s fp) w0) (hl : s.length ≤ 1099511627776) : Cal Tryz.prog 146 [.pointer (some ⟨q, 0, none⟩)] w0
  (fun v w' => v = str s ∧ Upd fp w0 w') := by
 refine Cal.mkM hc hi Zk Tryz.func146 rfl rfl fun hS => ?_
 obtain ⟨D, hφ, hfp, hS⟩ := hS.objOpen
 obtain ⟨p, A, n, cap, rfl, hA⟩ : ∃ p A n cap, D = sbD q p A n cap s ∧ (A = none ∨ cap ≠ 0) := by
  rcases hφ with ⟨rfl, rfl⟩ | ⟨A, n, cap, rfl, hA⟩
  ·exact ⟨_, _, _, _, rfl, .inl rfl⟩
  ·exact ⟨_, _, _, _, rfl, hA⟩
 replace hS : St w0 (sbC q s fp).fp w0 [.box q 199 [.pointer p, .slice A n cap], .own (.slice A n cap) 5 1 n (byteC s)] _ := hS
 have hlen := (hS.own_len (List.Mem.tail _ Zh)).1
 rw [byteC_len, Nat.mul_one] at hlen
 subst hlen
 replace hS := hS.perm (.swap _ _ _)
 clear hφ
 repeat' (first | (show WL _ _ _ _ _ _ _; first | refine WL.pure rfl rfl rfl rfl ?_ | refine WL.nil ?_) | (show WC _ _ _ _ _ _; first | refine WC.seq ?_ | refine WC.region ?_) | refine seqQ_n ?_)
 refine WC.drawC hS [0,1,2,3,5,6,7,8,9,11] [0,1,2,3,5,6,7,8,9,4,10,11] Zk Zk ?_
 clear hS
 intro w hS hM
 repeat' (first | (show WC _ _ _ _ _ _; first | refine WC.ret ?_) | (show WD _ _ _ _ _ _ _ _ _; first | refine WD.pure rfl rfl rfl rfl rfl ?_ | refine WD.nil ?_ | refine WD.load rfl rfl (LdOk.box (by repeat (first | exact Zh | apply List.Mem.tail)) rfl) rfl rfl rfl rfl ?_ | (refine WD.sliceData hS hM rfl rfl hA rfl rfl rfl rfl rfl ?_) | (refine WD.unsStr hS (More.refl _ _) rfl rfl rfl rfl Zo rfl rfl rfl rfl rfl ?_; clear hS hM; intro w hS)) | refine seqQ_n ?_)
 exact fin1r rfl rfl ⟨rfl, hS.upd⟩
end Go.Proofs.YtccfiohagbneaaaGreatDoor

namespace Go.J
open Go
def putN (n : Nat) : List UInt8 := if h : n < 128 then [UInt8.ofNat n] else UInt8.ofNat (n % 128 + 128) :: putN (n / 128)
termination_by n
decreasing_by omega
theorem putN_small {n : Nat} (h : n < 128) : putN n = [UInt8.ofNat n] := by rw [putN, dif_pos h]
theorem putN_big {n : Nat} (h : ¬ n < 128) : putN n = UInt8.ofNat (n % 128 + 128) :: putN (n / 128) := by rw [putN, dif_neg h]
theorem putN_ne (n : Nat) : putN n ≠ [] := by
 by_cases h : n < 128
 ·rw [putN_small h]; simp
 ·rw [putN_big h]; simp
theorem putN_len : ∀ (k n : Nat), n < 128 ^ (k + 1) → (putN n).length ≤ k + 1
 |k, n, h => by
  by_cases hn : n < 128
  ·rw [putN_small hn]; simp
  ·rw [putN_big hn]
   cases k with
   |zero => simp at h; omega
   |succ k =>
    have := putN_len k (n / 128) (by
     rw [Nat.div_lt_iff_lt_mul Zo]
     rwa [Nat.pow_succ] at h)
    simp only [List.length_cons]; omega
theorem putN_len10 {n : Nat} (h : n < 18446744073709551616) : (putN n).length ≤ 10 := putN_len 9 n (by
 have : (128 : Nat) ^ (9 + 1) = 1180591620717411303424 := Zd
 omega)
def textE (s : List UInt8) : List UInt8 := putN s.length ++ s
theorem ofNat_toNat {n : Nat} (h : n < 256) : (UInt8.ofNat n).toNat = n := by simp; omega
theorem byte_low {n : Nat} (h : n < 128) : IntKind.u8.wrap (n : Int) = (((UInt8.ofNat n).toNat : Nat) : Int) := by
 rw [IntKind.wrap_u8', ofNat_toNat Zo]; omega
theorem or128 : ∀ a, a < 256 → a ||| 128 = a % 128 + 128 := Zd
theorem byte_high (n : Nat) : bits .or .u8 (IntKind.u8.wrap (n : Int)) 128 = (((UInt8.ofNat (n % 128 + 128)).toNat : Nat) : Int) := by
 have e : IntKind.u8.wrap (n : Int) = ((n % 256 : Nat) : Int) := by rw [IntKind.wrap_u8']; omega
 have := u8_or_nat (n % 256) 128 Zo Zo
 rw [e]
 refine Eq.trans this ?_
 rw [or128 _ Zo, ofNat_toNat Zo]
 omega
theorem shrI_nat (k : IntKind) (n m : Nat) (h : m ≤ k.bits) : shrI k (n : Int) (m : Int) = ((n / 2 ^ m : Nat) : Int) := by
 unfold shrI
 have : min ((m : Int).toNat) k.bits = m := by simp; omega
 rw [this, Int.fdiv_eq_ediv_of_nonneg _ (by exact Int.le_of_lt (Int.pow_pos Zd))]
 rw [Int.natCast_ediv, Int.natCast_pow]; rfl
theorem shr7 (n : Nat) : shrI .u64 (n : Int) 7 = ((n / 128 : Nat) : Int) := shrI_nat .u64 n 7 Zd
def varE : List UInt8 → Nat → Nat → Nat × Nat × Int
 |[], _, _ => (0, 0, 2)
 |c :: t, i, x => if i = 9 ∧ 1 < c.toNat then (0, 0, 3)
  else if 128 ≤ c.toNat then varE t (i + 1) (x + c.toNat % 128 * 128 ^ i)
  else if c.toNat = 0 ∧ 0 < i then (0, 0, 3)
  else (x + c.toNat % 128 * 128 ^ i, i + 1, 0)
theorem pow128 (i : Nat) : 128 ^ i = 2 ^ (7 * i) := by rw [Nat.pow_mul]
theorem pow128_9 : 128 ^ 9 = 9223372036854775808 := Zd
theorem pow128_le {i : Nat} (h : i ≤ 8) : 128 ^ i ≤ 72057594037927936 := by
 have := Nat.pow_le_pow_right (n := 128) Zo h
 have e : 128 ^ 8 = 72057594037927936 := Zd
 omega
theorem u64_var {x i : Nat} {c : UInt8} (hx : x < 128 ^ i) (hi : i ≤ 9) (h9 : i = 9 → c.toNat ≤ 1) :
  bits .or .u64 (x : Int) (shlI .u64 (IntKind.u64.wrap (bits .and .u8 (c.toNat : Int) 127)) (7 * (i : Int))) = ((x + c.toNat % 128 * 128 ^ i : Nat) : Int) := by
 have hc := c.toNat_lt
 have h1 : bits .and .u8 (c.toNat : Int) 127 = ((c.toNat % 128 : Nat) : Int) := by
  have := u8_and_nat c.toNat 127 Zo Zo
  rw [nat_mask7] at this
  exact this
 have hw : ∀ m : Nat, m < 18446744073709551616 → IntKind.u64.wrap (m : Int) = (m : Int) := fun m hm => by
  simp only [IntKind.wrap, IntKind.bits, IntKind.signed, Bool.false_and, Bool.false_eq_true, if_false]; omega
 have hb : c.toNat % 128 * 128 ^ i < 18446744073709551616 := by
  rcases Nat.lt_or_ge i 9 with h | h
  ·have := pow128_le (i := i) Zo
   have h2 : c.toNat % 128 * 128 ^ i ≤ 127 * 128 ^ i := Nat.mul_le_mul_right _ Zo
   omega
  ·obtain rfl : i = 9 := Zo
   have := h9 rfl
   have h2 : c.toNat % 128 * 128 ^ 9 ≤ 1 * 128 ^ 9 := Nat.mul_le_mul_right _ Zo
   rw [pow128_9] at h2 ⊢
   omega
 rw [h1, hw _ Zo]
 have h3 : shlI .u64 ((c.toNat % 128 : Nat) : Int) (7 * (i : Int)) = ((c.toNat % 128 * 128 ^ i : Nat) : Int) := by
  unfold shlI
  have e : min (7 * (i : Int)).toNat (IntKind.u64.bits) = 7 * i := by
   have : IntKind.u64.bits = 64 := rfl
   rw [this]; omega
  rw [e, show (2 : Int) ^ (7 * i) = ((2 ^ (7 * i) : Nat) : Int) by rw [Int.natCast_pow]; rfl, ← pow128, ← Int.natCast_mul]
  exact hw _ hb
 rw [h3]
 have hx64 : x < 18446744073709551616 := by
  rcases Nat.lt_or_ge i 9 with h | h
  ·have := pow128_le (i := i) Zo; omega
  ·obtain rfl : i = 9 := Zo
   rw [pow128_9] at hx; omega
 rw [u64_or_nat _ _ hx64 hb, Nat.or_comm, nat_join (7 * i) _ _ (by rw [pow128]; exact Nat.mul_mod_left _ _) (by rw [← pow128]; exact hx), Nat.add_comm]
theorem varE_put : ∀ (k m : Nat), m ≤ k → ∀ (i x : Nat) (t : List UInt8), (m ≠ 0 ∨ i = 0) → i ≤ 9 → m * 128 ^ i < 18446744073709551616 → varE (putN m ++ t) i x = (x + m * 128 ^ i, i + (putN m).length, 0)
 |k, m, hk, i, x, t, h0, hi, hm => by
  have h9 : i = 9 → m ≤ 1 := by
   rintro rfl
   rw [pow128_9] at hm; omega
  by_cases h : m < 128
  ·rw [putN_small h]
   simp only [List.singleton_append, varE, ofNat_toNat (show m < 256 by omega)]
   rw [if_neg Zo, if_neg Zo, if_neg Zo, Nat.mod_eq_of_lt h]
   rfl
  ·have hm0 : m / 128 < m := Zo
   cases k with
   |zero => omega
   |succ k =>
    rw [putN_big h]
    simp only [List.cons_append, varE, ofNat_toNat (show m % 128 + 128 < 256 by omega)]
    have hi9 : i ≠ 9 := fun e => by have := h9 e; omega
    rw [if_neg Zo, if_pos Zo]
    have e1 : m / 128 * 128 ^ (i + 1) ≤ m * 128 ^ i := by
     rw [Nat.pow_succ, Nat.mul_comm (128 ^ i) 128, ← Nat.mul_assoc]
     exact Nat.mul_le_mul_right _ Zo
    rw [varE_put k (m / 128) Zo (i + 1) _ t (.inl Zo) Zo Zo]
    have e2 : (m % 128 + 128) % 128 = m % 128 := Zo
    have e3 : m % 128 * 128 ^ i + m / 128 * 128 ^ (i + 1) = m * 128 ^ i := by
     rw [Nat.pow_succ, Nat.mul_comm (128 ^ i) 128, ← Nat.mul_assoc, ← Nat.add_mul]
     congr 1; omega
    simp only [List.length_cons, Prod.mk.injEq, and_true]
    refine ⟨by rw [e2, Nat.add_assoc, e3], Zo⟩
theorem varE_ok : ∀ (t : List UInt8) (i x : Nat), x < 128 ^ i → i ≤ 9 → (varE t i x).2.2 = 0 → (varE t i x).1 < 18446744073709551616 ∧ (varE t i x).2.1 ≤ i + t.length
 |[], i, x, hx, hi, h => by simp [varE] at h
 |c :: t, i, x, hx, hi, h => by
  have hp : 0 < 128 ^ i := Nat.pow_pos Zo
  simp only [varE] at h ⊢
  split at h
  ·simp at h
  ·rename_i h9
   rw [if_neg h9]
   split at h
   ·rename_i hc
    rw [if_pos hc]
    have hi8 : i ≤ 8 := by
     rcases Nat.lt_or_ge i 9 with h2 | h2
     ·omega
     ·exact absurd ⟨Zo, Zo⟩ h9
    have hn : x + c.toNat % 128 * 128 ^ i < 128 ^ (i + 1) := by
     rw [Nat.pow_succ]
     have : c.toNat % 128 * 128 ^ i ≤ 127 * 128 ^ i := Nat.mul_le_mul_right _ Zo
     omega
    have := varE_ok t (i + 1) _ hn Zo h
    simp only [List.length_cons]
    omega
   ·rename_i hc
    rw [if_neg hc]
    split at h
    ·simp at h
    ·rename_i hz
     rw [if_neg hz]
     simp only [List.length_cons]
     refine ⟨?_, Zo⟩
     rcases Nat.lt_or_ge i 9 with h2 | h2
     ·have := pow128_le (i := i) Zo
      have : c.toNat % 128 * 128 ^ i ≤ 127 * 128 ^ i := Nat.mul_le_mul_right _ Zo
      omega
     ·obtain rfl : i = 9 := Zo
      have h1 : c.toNat ≤ 1 := by
       rcases Nat.lt_or_ge 1 c.toNat with h3 | h3
       ·exact absurd ⟨rfl, h3⟩ h9
       ·exact h3
      have : c.toNat % 128 * 128 ^ 9 ≤ 1 * 128 ^ 9 := Nat.mul_le_mul_right _ Zo
      rw [pow128_9] at *
      omega
end Go.J

namespace Go.Proofs.YtccfiohagbneaaaGreatDoor
open Go Go.J Go.RowKit
theorem put_c (n : Nat) (w0 : World) (hn : n < 18446744073709551616) : Cal Tryz.prog 177 [.int .u64 (n : Int)] w0 (fun v w' => Upd [] w0 w' ∧ v = str (putN n)) := by
 refine Cal.mk' Zk Tryz.func177 rfl rfl fun hS => ?_
 have hmax := putN_len10 hn
 repeat' (first | (show WL _ _ _ _ _ _ _; first | refine WL.pure rfl rfl rfl rfl ?_ | refine WL.nil ?_ | (refine WL.alloc hS rfl rfl rfl rfl rfl rfl ?_; intro w b hS)) | (show WC _ _ _ _ _ _; first | refine WC.seq ?_ | refine WC.region ?_ | refine WC.block ?_) | refine seqQ_n ?_)
 revert b
 intro q hS
 have hS := (hS.nilRow 5 1).perm (.swap _ _ _)
 have hS := St.objClose (H := []) (φ := sbφ q []) (D := sbD q none none 0 0 []) hS (.inl ⟨rfl, rfl⟩)
 refine WC.loop (σ := Nat × List UInt8 × List Nat) [3] (fun (m, s, fp) => [(0, .int .u64 (m : Int))]) (fun (m, s, fp) w => m ≤ n ∧ s ++ putN m = putN n ∧ St w0 [] w [sbC q s fp] _) (fun (m, _) => m) (n, [], _) ⟨Nat.le_refl _, rfl, hS⟩ ⟨rfl, trivial⟩ ?_
 clear hS
 rintro ⟨m, s, fp⟩ g w ⟨hm, hs, hS⟩
 by_cases h : m < 128
 ·rw [putN_small h] at hs
  have hb := byte_low h
  have hl : s.length < 10 := by rw [← hs] at hmax; simp at hmax; omega
  repeat' (first | (show WL _ _ _ _ _ _ _; first | refine WL.pure rfl rfl rfl rfl ?_ | refine WL.nil ?_ | (refine WL.callG rfl (by rw [← hb]; rfl) (bwrite_c q s fp (UInt8.ofNat m) _ (hS.holds _ Zh) (hS.inB_of Zh) Zo) rfl rfl rfl ?_; rintro v w ⟨rfl, fp', hmut⟩; have hS := hS.mut hmut .here; rw [hs] at hS) | (refine WL.callG rfl rfl (bstring_c q (putN n) fp' _ (hS.holds _ Zh) (hS.inB_of Zh) Zo) rfl rfl rfl ?_; rintro v w ⟨rfl, hu⟩; have hS := hS.lose hu)) | (show WC _ _ _ _ _ _; first | refine WC.seq ?_ | refine WC.region ?_ | refine WC.exit ?_ | refine WC.ret ?_ | refine WC.condF rfl (decide_eq_false Zw) ?_) | refine seqQ_n ?_ | refine seqQ_x ?_ | refine blkQ_hit rfl ?_ | refine rndQ_x ?_)
  exact fin1r rfl rfl ⟨hS.upd, rfl⟩
 ·rw [putN_big h] at hs
  have hb := byte_high m
  have hq := shr7 m
  have hl : s.length < 10 := by rw [← hs] at hmax; simp at hmax; omega
  repeat' (first | (show WL _ _ _ _ _ _ _; first | refine WL.pure rfl rfl rfl rfl ?_ | refine WL.nil ?_ | (refine WL.callG rfl (by rw [← hb]; rfl) (bwrite_c q s fp (UInt8.ofNat (m % 128 + 128)) _ (hS.holds _ Zh) (hS.inB_of Zh) Zo) rfl rfl rfl ?_; rintro v w ⟨rfl, fp', hmut⟩; have hS := hS.mut hmut .here) | (refine WL.shr rfl rfl rfl Zd rfl rfl rfl ?_; rw [hq])) | (show WC _ _ _ _ _ _; first | refine WC.seq ?_ | refine WC.region ?_ | refine WC.block ?_ | refine WC.skip ?_ | refine WC.condT rfl (decide_eq_true Zw) ?_) | refine seqQ_n ?_ | refine blkQ_n ?_)
  exact rndQ_n (m / 128, s ++ [UInt8.ofNat (m % 128 + 128)], fp') ⟨Zo, by rw [← hs]; simp, hS⟩ (by show m / 128 < m; omega) ⟨rfl, trivial⟩ ⟨rfl, trivial⟩
theorem wtext_c (s : List UInt8) (w0 : World) (hl : s.length ≤ 1099511627776) : Cal Tryz.prog 134 [str s] w0 (fun v w' => Upd [] w0 w' ∧ v = str (textE s)) := by
 refine Cal.mk' Zk Tryz.func134 rfl rfl fun hS => ?_
 have hp := putN_len10 (n := s.length) Zo
 have hw : IntKind.u64.wrap (s.length : Int) = (s.length : Int) := by
  simp only [IntKind.wrap, IntKind.bits, IntKind.signed, Bool.false_and, Bool.false_eq_true, if_false]; omega
 repeat' (first | (show WL _ _ _ _ _ _ _; first | refine WL.pure rfl rfl rfl rfl ?_ | refine WL.nil ?_ | (refine WL.calls hS rfl (congrArg (fun z => [Value.int .u64 z]) hw) (put_c s.length _ Zo) rfl rfl rfl ?_; rintro v w rfl hS) | refine WL.cat rfl rfl rfl Zo rfl rfl rfl ?_) | (show WC _ _ _ _ _ _; first | refine WC.seq ?_ | refine WC.region ?_ | refine WC.ret ?_) | refine seqQ_n ?_)
 exact fin1r rfl rfl ⟨hS.upd, rfl⟩
open Go Go.J Go.RowKit
abbrev rdCells (s : List UInt8) (p : Nat) : List Value := [str s, .int .i64 (p : Int)]
def RdAt (r : Nat) (s : List UInt8) (p : Nat) (w : World) : Prop := w.heap[r]? = some (.cells ⟨rdCells s p⟩ 243 (0, 0))
def varV (p : Nat) (r : Nat × Nat × Int) : Value := if r.2.2 = 0 then .tuple #[.int .u64 (r.1 : Int), .int .i64 ((p + r.2.1 : Nat) : Int), .int .i64 0] else .tuple #[.int .u64 0, .int .i64 0, .int .i64 r.2.2]
theorem varV_ok {p n u : Nat} {a b : Int} (ha : a = (n : Int)) (hb : b = ((p + u : Nat) : Int)) : Value.tuple #[.int .u64 a, .int .i64 b, .int .i64 0] = varV p (n, u, 0) := by subst ha hb; simp [varV]
theorem varint_c (r : Nat) (s : List UInt8) (p : Nat) (w0 : World) (h : RdAt r s p w0) (hp : p ≤ s.length) (hl : s.length ≤ 1099511627776) : Cal Tryz.prog 184 [.pointer (some ⟨r, 0, none⟩)] w0
  (fun v w' => Upd [] w0 w' ∧ v = varV p (varE (s.drop p) 0 0)) := by
 refine Cal.mk' Zk Tryz.func184 rfl rfl fun hS => ?_
 have hrd : w0.heap[r]? = some (.cells ⟨[str s, .int .i64 (p : Int)]⟩ 243 (0, 0)) := h
 clear h
 repeat' (first | (show WL _ _ _ _ _ _ _; first | refine WL.pure rfl rfl rfl rfl ?_ | refine WL.nil ?_) | (show WC _ _ _ _ _ _; first | refine WC.seq ?_ | refine WC.region ?_ | refine WC.block ?_) | refine seqQ_n ?_)
 refine WC.loop (σ := Nat × Nat) [0] (fun (i, x) => [(5, .int .u64 (x : Int)), (6, .int .i64 (i : Int))]) (fun (i, x) w => i ≤ 9 ∧ p + i ≤ s.length ∧ x < 128 ^ i ∧ varE (s.drop p) 0 0 = varE (s.drop (p + i)) i x ∧ St w0 [] w [] [⟨w0, Old w0⟩]) (fun (i, _) => 10 - i) (0, 0) ⟨Zo, hp, Zd, rfl, hS⟩ ⟨rfl, rfl, trivial⟩ ?_
 clear hS
 rintro ⟨i, x⟩ g w ⟨hi, hpi, hx, hv, hS⟩
 rw [hv]
 clear hv
 by_cases hlt : p + i < s.length
 ·have hd : s.drop (p + i) = s[p + i] :: s.drop (p + i + 1) := List.drop_eq_getElem_cons hlt
  have hc : s[p + i]? = some s[p + i] := List.getElem?_eq_getElem hlt
  rw [hd]
  generalize s[p + i] = c at *
  have hc256 := c.toNat_lt
  by_cases h9 : i = 9 ∧ 1 < c.toNat
  ·have hres : varE (c :: s.drop (p + i + 1)) i x = (0, 0, 3) := by rw [varE, if_pos h9]
   rw [hres]
   obtain ⟨h9, h91⟩ := h9
   subst h9
   repeat' (first | (show WL _ _ _ _ _ _ _; first | refine WL.pure rfl rfl rfl rfl ?_ | refine WL.nil ?_) | (show WC _ _ _ _ _ _; first | refine WC.seq ?_ | refine WC.region ?_ | refine WC.block ?_ | refine WC.skip ?_ | refine WC.ret ?_ | (show WC _ _ (Code.region _ (List.toArray [_, _, _, _, _, _, _, _, _, _, _, _]) true) _ _ _; refine WC.drawS hS [0, 1, 2, 3, 4, 5, 6, 7, 8, 9, 10, 11] [0, 1, 2, 3, 4, 5, 6, 7, 8, 9, 10, 11] Zk Zk ?_; clear hS; intro w hS hM) | refine WC.condT rfl (decide_eq_true Zw) ?_ | refine WC.condF rfl (decide_eq_false Zw) ?_) | (show WD _ _ _ _ _ _ _ _ _; first | refine WD.pure rfl rfl rfl rfl rfl ?_ | refine WD.nil ?_ | refine WD.add rfl rfl rfl Zo rfl rfl rfl rfl ?_ | (refine WD.load rfl rfl (LdOk.old hrd (by repeat (first | exact Zh | apply List.Mem.tail)) rfl) rfl rfl rfl rfl ?_) | (refine WD.idxS (j := p + 9) (c := c) rfl rfl rfl rfl hc rfl rfl rfl rfl ?_)) | refine seqQ_n ?_ | refine seqQ_r ?_ | refine blkQ_r ?_ | refine rndQ_r ?_)
   exact fin3r rfl rfl rfl rfl ⟨hS.upd, rfl⟩
  ·have h91 : i = 9 → c.toNat ≤ 1 := fun e => by
    rcases Nat.lt_or_ge 1 c.toNat with h3 | h3
    ·exact absurd ⟨e, h3⟩ h9
    ·exact h3
   have huv := u64_var (c := c) hx hi h91
   have hn9 : ¬ ((i : Int) = 9 ∧ (c.toNat : Int) > 1) := fun e => h9 ⟨Zo, Zo⟩
   by_cases h128 : 128 ≤ c.toNat
   ·have hi8 : i ≤ 8 := by
     rcases Nat.lt_or_ge i 9 with h2 | h2
     ·omega
     ·have := h91 Zo; omega
    have hres : varE (c :: s.drop (p + i + 1)) i x = varE (s.drop (p + (i + 1))) (i + 1) (x + c.toNat % 128 * 128 ^ i) := by rw [varE, if_neg h9, if_pos h128]; rfl
    have hxn : x + c.toNat % 128 * 128 ^ i < 128 ^ (i + 1) := by
     rw [Nat.pow_succ]
     have : c.toNat % 128 * 128 ^ i ≤ 127 * 128 ^ i := Nat.mul_le_mul_right _ Zo
     omega
    rw [hres]
    clear hres h9 h91 hn9
    repeat' (first | (show WL _ _ _ _ _ _ _; first | refine WL.pure rfl rfl rfl rfl ?_ | refine WL.nil ?_ | refine WL.add rfl rfl rfl Zo rfl rfl rfl ?_ | (refine WL.mul rfl rfl rfl Zo rfl rfl rfl ?_) | (refine WL.shl rfl rfl rfl Zo rfl rfl rfl ?_) | refine WL.skip rfl rfl rfl ?_ | ((fail_if_success (refine WL.wanted rfl ?_)); refine WL.guard rfl rfl rfl (fun h => ?_) (fun h => ?_) <;> (try simp only [Ya,Yb,Yc,Yd,Ye,Yf,Yg,Yh,Yi,Yj,Yk,Yl,Ym,Yn,Yo,Yp] at h) <;> (try exact Zx))) | (show WC _ _ _ _ _ _; first | refine WC.seq ?_ | refine WC.region ?_ | refine WC.block ?_ | refine WC.skip ?_ | refine WC.exit ?_ | (show WC _ _ (Code.region _ (List.toArray [_, _, _, _, _, _, _, _, _, _, _, _]) true) _ _ _; refine WC.drawS hS [0, 1, 2, 3, 4, 5, 6, 7, 8, 9, 10, 11] [0, 1, 2, 3, 4, 5, 6, 7, 8, 9, 10, 11] Zk Zk ?_; clear hS; intro w hS hM) | refine WC.condF rfl Zr ?_ | refine WC.condT rfl (decide_eq_true Zw) ?_ | refine WC.condF rfl (decide_eq_false Zw) ?_) | (show WD _ _ _ _ _ _ _ _ _; first | refine WD.pure rfl rfl rfl rfl rfl ?_ | refine WD.nil ?_ | refine WD.add rfl rfl rfl Zo rfl rfl rfl rfl ?_ | (refine WD.load rfl rfl (LdOk.old hrd (by repeat (first | exact Zh | apply List.Mem.tail)) rfl) rfl rfl rfl rfl ?_) | (refine WD.idxS (j := p + i) (c := c) rfl rfl rfl rfl hc rfl rfl rfl rfl ?_)) | refine seqQ_n ?_ | refine seqQ_x ?_ | refine blkQ_hit rfl ?_)
    exact rndQ_n (i + 1, x + c.toNat % 128 * 128 ^ i) ⟨Zo, Zo, hxn, rfl, hS⟩ (by show 10 - (i + 1) < 10 - i; omega) ⟨congrArg (Value.int .u64) huv, vint Zo, trivial⟩ ⟨rfl, trivial⟩
   ·by_cases h0 : c.toNat = 0 ∧ 0 < i
    ·have hres : varE (c :: s.drop (p + i + 1)) i x = (0, 0, 3) := by rw [varE, if_neg h9, if_neg h128, if_pos h0]
     rw [hres]
     obtain ⟨h0, h00⟩ := h0
     clear hres h9 h91 hn9
     repeat' (first | (show WL _ _ _ _ _ _ _; first | refine WL.pure rfl rfl rfl rfl ?_ | refine WL.nil ?_ | (refine WL.mul rfl rfl rfl Zo rfl rfl rfl ?_) | (refine WL.shl rfl rfl rfl Zo rfl rfl rfl ?_) | refine WL.skip rfl rfl rfl ?_ | ((fail_if_success (refine WL.wanted rfl ?_)); refine WL.guard rfl rfl rfl (fun h => ?_) (fun h => ?_) <;> (try simp only [Ya,Yb,Yc,Yd,Ye,Yf,Yg,Yh,Yi,Yj,Yk,Yl,Ym,Yn,Yo,Yp] at h) <;> (try exact Zx))) | (show WC _ _ _ _ _ _; first | refine WC.seq ?_ | refine WC.region ?_ | refine WC.block ?_ | refine WC.skip ?_ | refine WC.ret ?_ | (show WC _ _ (Code.region _ (List.toArray [_, _, _, _, _, _, _, _, _, _, _, _]) true) _ _ _; refine WC.drawS hS [0, 1, 2, 3, 4, 5, 6, 7, 8, 9, 10, 11] [0, 1, 2, 3, 4, 5, 6, 7, 8, 9, 10, 11] Zk Zk ?_; clear hS; intro w hS hM) | refine WC.condF rfl Zr ?_ | refine WC.condT rfl (decide_eq_true Zw) ?_ | refine WC.condF rfl (decide_eq_false Zw) ?_) | (show WD _ _ _ _ _ _ _ _ _; first | refine WD.pure rfl rfl rfl rfl rfl ?_ | refine WD.nil ?_ | refine WD.add rfl rfl rfl Zo rfl rfl rfl rfl ?_ | (refine WD.load rfl rfl (LdOk.old hrd (by repeat (first | exact Zh | apply List.Mem.tail)) rfl) rfl rfl rfl rfl ?_) | (refine WD.idxS (j := p + i) (c := c) rfl rfl rfl rfl hc rfl rfl rfl rfl ?_)) | refine seqQ_n ?_ | refine seqQ_r ?_ | refine blkQ_r ?_ | refine rndQ_r ?_)
     all_goals exact fin3r rfl rfl rfl rfl ⟨hS.upd, rfl⟩
    ·have hres : varE (c :: s.drop (p + i + 1)) i x = (x + c.toNat % 128 * 128 ^ i, i + 1, 0) := by rw [varE, if_neg h9, if_neg h128, if_neg h0]
     rw [hres]
     by_cases hz : c.toNat = 0
     ·have hi0 : i = 0 := by
       rcases Nat.eq_zero_or_pos i with h | h
       ·exact h
       ·exact absurd ⟨hz, h⟩ h0
      clear hres h9 h91 hn9 h0
      repeat' (first | (show WL _ _ _ _ _ _ _; first | refine WL.pure rfl rfl rfl rfl ?_ | refine WL.nil ?_ | (refine WL.mul rfl rfl rfl Zo rfl rfl rfl ?_) | (refine WL.shl rfl rfl rfl Zo rfl rfl rfl ?_) | refine WL.skip rfl rfl rfl ?_ | ((fail_if_success (refine WL.wanted rfl ?_)); refine WL.guard rfl rfl rfl (fun h => ?_) (fun h => ?_) <;> (try simp only [Ya,Yb,Yc,Yd,Ye,Yf,Yg,Yh,Yi,Yj,Yk,Yl,Ym,Yn,Yo,Yp] at h) <;> (try exact Zx))) | (show WC _ _ _ _ _ _; first | refine WC.seq ?_ | refine WC.region ?_ | refine WC.block ?_ | refine WC.skip ?_ | refine WC.ret ?_ | (show WC _ _ (Code.region _ (List.toArray [_, _, _, _, _, _, _, _, _, _, _, _]) true) _ _ _; refine WC.drawS hS [0, 1, 2, 3, 4, 5, 6, 7, 8, 9, 10, 11] [0, 1, 2, 3, 4, 5, 6, 7, 8, 9, 10, 11] Zk Zk ?_; clear hS; intro w hS hM) | (show WC _ _ (Code.region _ (List.toArray [_, _, _, _, _, _, _, _, _, _, _]) true) _ _ _; refine WC.drawS hS [0, 1, 2, 3, 4, 5, 6, 7, 8, 9, 10] [0, 1, 2, 3, 4, 5, 6, 7, 8, 9, 10] Zk Zk ?_; clear hS; intro w hS hM) | refine WC.condF rfl Zr ?_ | refine WC.condF rfl (decide_eq_false Zw) ?_) | (show WD _ _ _ _ _ _ _ _ _; first | refine WD.pure rfl rfl rfl rfl rfl ?_ | refine WD.nil ?_ | refine WD.add rfl rfl rfl Zo rfl rfl rfl rfl ?_ | (refine WD.load rfl rfl (LdOk.old hrd (by repeat (first | exact Zh | apply List.Mem.tail)) rfl) rfl rfl rfl rfl ?_) | (refine WD.idxS (j := p + i) (c := c) rfl rfl rfl rfl hc rfl rfl rfl rfl ?_)) | refine seqQ_n ?_ | refine seqQ_r ?_ | refine blkQ_r ?_ | refine rndQ_r ?_)
      all_goals exact fin3r rfl rfl rfl rfl ⟨hS.upd, varV_ok huv Zo⟩
     ·clear hres hn9 h0
      rcases Nat.lt_or_ge i 9 with h99 | h99
      ·clear h9 h91
       repeat' (first | (show WL _ _ _ _ _ _ _; first | refine WL.pure rfl rfl rfl rfl ?_ | refine WL.nil ?_ | (refine WL.mul rfl rfl rfl Zo rfl rfl rfl ?_) | (refine WL.shl rfl rfl rfl Zo rfl rfl rfl ?_) | refine WL.skip rfl rfl rfl ?_ | ((fail_if_success (refine WL.wanted rfl ?_)); refine WL.guard rfl rfl rfl (fun h => ?_) (fun h => ?_) <;> (try simp only [Ya,Yb,Yc,Yd,Ye,Yf,Yg,Yh,Yi,Yj,Yk,Yl,Ym,Yn,Yo,Yp] at h) <;> (try exact Zx))) | (show WC _ _ _ _ _ _; first | refine WC.seq ?_ | refine WC.region ?_ | refine WC.block ?_ | refine WC.skip ?_ | refine WC.ret ?_ | (show WC _ _ (Code.region _ (List.toArray [_, _, _, _, _, _, _, _, _, _, _, _]) true) _ _ _; refine WC.drawS hS [0, 1, 2, 3, 4, 5, 6, 7, 8, 9, 10, 11] [0, 1, 2, 3, 4, 5, 6, 7, 8, 9, 10, 11] Zk Zk ?_; clear hS; intro w hS hM) | (show WC _ _ (Code.region _ (List.toArray [_, _, _, _, _, _, _, _, _, _, _]) true) _ _ _; refine WC.drawS hS [0, 1, 2, 3, 4, 5, 6, 7, 8, 9, 10] [0, 1, 2, 3, 4, 5, 6, 7, 8, 9, 10] Zk Zk ?_; clear hS; intro w hS hM) | refine WC.condF rfl Zr ?_ | refine WC.condF rfl (decide_eq_false Zw) ?_) | (show WD _ _ _ _ _ _ _ _ _; first | refine WD.pure rfl rfl rfl rfl rfl ?_ | refine WD.nil ?_ | refine WD.add rfl rfl rfl Zo rfl rfl rfl rfl ?_ | (refine WD.load rfl rfl (LdOk.old hrd (by repeat (first | exact Zh | apply List.Mem.tail)) rfl) rfl rfl rfl rfl ?_) | (refine WD.idxS (j := p + i) (c := c) rfl rfl rfl rfl hc rfl rfl rfl rfl ?_)) | refine seqQ_n ?_ | refine seqQ_r ?_ | refine blkQ_r ?_ | refine rndQ_r ?_)
       all_goals exact fin3r rfl rfl rfl rfl ⟨hS.upd, varV_ok huv Zo⟩
      ·have h92 := h91 Zo
       clear h9 h91
       repeat' (first | (show WL _ _ _ _ _ _ _; first | refine WL.pure rfl rfl rfl rfl ?_ | refine WL.nil ?_ | (refine WL.mul rfl rfl rfl Zo rfl rfl rfl ?_) | (refine WL.shl rfl rfl rfl Zo rfl rfl rfl ?_) | refine WL.skip rfl rfl rfl ?_ | ((fail_if_success (refine WL.wanted rfl ?_)); refine WL.guard rfl rfl rfl (fun h => ?_) (fun h => ?_) <;> (try simp only [Ya,Yb,Yc,Yd,Ye,Yf,Yg,Yh,Yi,Yj,Yk,Yl,Ym,Yn,Yo,Yp] at h) <;> (try exact Zx))) | (show WC _ _ _ _ _ _; first | refine WC.seq ?_ | refine WC.region ?_ | refine WC.block ?_ | refine WC.skip ?_ | refine WC.ret ?_ | (show WC _ _ (Code.region _ (List.toArray [_, _, _, _, _, _, _, _, _, _, _, _]) true) _ _ _; refine WC.drawS hS [0, 1, 2, 3, 4, 5, 6, 7, 8, 9, 10, 11] [0, 1, 2, 3, 4, 5, 6, 7, 8, 9, 10, 11] Zk Zk ?_; clear hS; intro w hS hM) | (show WC _ _ (Code.region _ (List.toArray [_, _, _, _, _, _, _, _, _, _, _]) true) _ _ _; refine WC.drawS hS [0, 1, 2, 3, 4, 5, 6, 7, 8, 9, 10] [0, 1, 2, 3, 4, 5, 6, 7, 8, 9, 10] Zk Zk ?_; clear hS; intro w hS hM) | refine WC.condF rfl Zr ?_ | refine WC.condF rfl (decide_eq_false Zw) ?_) | (show WD _ _ _ _ _ _ _ _ _; first | refine WD.pure rfl rfl rfl rfl rfl ?_ | refine WD.nil ?_ | refine WD.add rfl rfl rfl Zo rfl rfl rfl rfl ?_ | (refine WD.load rfl rfl (LdOk.old hrd (by repeat (first | exact Zh | apply List.Mem.tail)) rfl) rfl rfl rfl rfl ?_) | (refine WD.idxS (j := p + i) (c := c) rfl rfl rfl rfl hc rfl rfl rfl rfl ?_)) | refine seqQ_n ?_ | refine seqQ_r ?_ | refine blkQ_r ?_ | refine rndQ_r ?_)
       all_goals exact fin3r rfl rfl rfl rfl ⟨hS.upd, varV_ok huv Zo⟩
 ·have hd : s.drop (p + i) = [] := List.drop_of_length_le Zo
  rw [hd]
  have hres : varE [] i x = (0, 0, 2) := rfl
  rw [hres]
  repeat' (first | (show WL _ _ _ _ _ _ _; first | refine WL.pure rfl rfl rfl rfl ?_ | refine WL.nil ?_) | (show WC _ _ _ _ _ _; first | refine WC.seq ?_ | refine WC.region ?_ | refine WC.block ?_ | refine WC.ret ?_ | (show WC _ _ (Code.region _ (List.toArray [_, _, _, _, _, _, _, _, _, _, _, _]) true) _ _ _; refine WC.drawS hS [0, 1, 2, 3, 4, 5, 6, 7, 8, 9, 10, 11] [0, 1, 2, 3, 4, 5, 6, 7, 8, 9, 10, 11] Zk Zk ?_; clear hS; intro w hS hM) | refine WC.condT rfl (decide_eq_true Zw) ?_) | (show WD _ _ _ _ _ _ _ _ _; first | refine WD.pure rfl rfl rfl rfl rfl ?_ | refine WD.nil ?_ | refine WD.add rfl rfl rfl Zo rfl rfl rfl rfl ?_ | (refine WD.load rfl rfl (LdOk.old hrd (by repeat (first | exact Zh | apply List.Mem.tail)) rfl) rfl rfl rfl rfl ?_)) | refine seqQ_n ?_ | refine seqQ_r ?_ | refine blkQ_r ?_ | refine rndQ_r ?_)
  exact fin3r rfl rfl rfl rfl ⟨hS.upd, rfl⟩
def uintE (t : List UInt8) : Nat × Nat × Int := if (varE t 0 0).2.2 = 0 then (if (varE t 0 0).1 < 9223372036854775808 then varE t 0 0 else (0, 0, 3)) else (0, 0, (varE t 0 0).2.2)
def rtextE (t : List UInt8) : List UInt8 × Nat × Int := if (uintE t).2.2 = 0 then (if (uintE t).1 + (uintE t).2.1 ≤ t.length then ((t.drop (uintE t).2.1).take (uintE t).1, (uintE t).1 + (uintE t).2.1, 0) else ([], 0, 2)) else ([], 0, (uintE t).2.2)
abbrev rdC (r : Nat) (s : List UInt8) (p : Nat) : Chunk := .box r 243 (rdCells s p)
theorem left_c (r : Nat) (s : List UInt8) (p : Nat) (w0 : World) (h : RdAt r s p w0) (hp : p ≤ s.length) (hl : s.length ≤ 1099511627776) : Cal Tryz.prog 175 [.pointer (some ⟨r, 0, none⟩)] w0
  (fun v w' => Upd [] w0 w' ∧ v = .int .i64 ((s.length : Int) - p)) := by
 refine Cal.mk' Zk Tryz.func175 rfl rfl fun hS => ?_
 have hrd : w0.heap[r]? = some (.cells ⟨[str s, .int .i64 (p : Int)]⟩ 243 (0, 0)) := h
 clear h
 repeat' (first | (show WL _ _ _ _ _ _ _; first | refine WL.pure rfl rfl rfl rfl ?_ | refine WL.nil ?_) | (show WC _ _ _ _ _ _; first | refine WC.seq ?_ | refine WC.region ?_ | refine WC.skip ?_ | refine WC.ret ?_ | (show WC _ _ (Code.region _ (List.toArray [_, _, _, _, _, _, _, _, _, _, _]) true) _ _ _; refine WC.drawS hS [0, 1, 2, 3, 4, 5, 6, 7, 8, 9, 10] [0, 1, 2, 3, 4, 5, 6, 7, 8, 9, 10] Zk Zk ?_; clear hS; intro w hS hM) | refine WC.condF rfl Zr ?_) | (show WD _ _ _ _ _ _ _ _ _; first | refine WD.pure rfl rfl rfl rfl rfl ?_ | refine WD.nil ?_ | refine WD.sub rfl rfl rfl Zo rfl rfl rfl rfl ?_ | (refine WD.load rfl rfl (LdOk.old hrd (by repeat (first | exact Zh | apply List.Mem.tail)) rfl) rfl rfl rfl rfl ?_)) | refine seqQ_n ?_)
 exact fin1r rfl rfl ⟨hS.upd, rfl⟩
theorem uint_c (r : Nat) (s : List UInt8) (p : Nat) (w0 : World) (h : RdAt r s p w0) (hi : inB (rdC r s p) w0) (hp : p ≤ s.length) (hl : s.length ≤ 1099511627776) : Cal Tryz.prog 148 [.pointer (some ⟨r, 0, none⟩)] w0
  (fun v w' => v = .tuple #[.int .i64 ((uintE (s.drop p)).1 : Int), .int .i64 (uintE (s.drop p)).2.2] ∧ Mut w0 w' (rdC r s p) (rdC r s (p + (uintE (s.drop p)).2.1))) := by
 refine Cal.mkM (k := rdC r s p) h hi Zk Tryz.func148 rfl rfl fun hS => ?_
 have hok := varE_ok (s.drop p) 0 0 Zd Zo
 have hlen : (s.drop p).length = s.length - p := by simp
 rcases hv : varE (s.drop p) 0 0 with ⟨n, u, e⟩
 have hu : uintE (s.drop p) = if e = 0 then (if n < 9223372036854775808 then (n, u, 0) else (0, 0, 3)) else (0, 0, e) := by unfold uintE; rw [hv]; by_cases he : e = 0 <;> simp [he]
 rw [hv] at hok
 rw [hu]
 clear hu
 by_cases he : e = 0
 ·subst he
  obtain ⟨hn, hul⟩ := hok rfl
  dsimp only at hn hul
  clear hok
  rw [if_pos rfl]
  have hvv : varV p (n, u, 0) = .tuple #[.int .u64 (n : Int), .int .i64 ((p + u : Nat) : Int), .int .i64 0] := by simp [varV]
  have hsh : shrI .u64 (n : Int) 63 = ((n / 9223372036854775808 : Nat) : Int) := shrI_nat .u64 n 63 Zd
  by_cases h63 : n < 9223372036854775808
  ·rw [if_pos h63]
   have h0 : n / 9223372036854775808 = 0 := Zo
   rw [h0] at hsh
   repeat' (first | (show WL _ _ _ _ _ _ _; first | refine WL.pure rfl rfl rfl rfl ?_ | refine WL.nil ?_ | (refine WL.callG rfl rfl (varint_c r s p _ (hS.holds _ Zh) hp hl) rfl rfl rfl ?_; rintro v w ⟨hu, rfl⟩; have hS := hS.upd0 hu; rw [hv, hvv]) | (refine WL.shr rfl rfl rfl Zd rfl rfl rfl ?_; rw [hsh]) | refine WL.conv64 rfl rfl rfl Zo rfl rfl rfl ?_ | (refine WL.store hS rfl rfl rfl Sb rfl rfl rfl ?_; intro w hS)) | (show WC _ _ _ _ _ _; first | refine WC.seq ?_ | refine WC.region ?_ | refine WC.skip ?_ | refine WC.ret ?_ | refine WC.condF rfl Zr ?_ | refine WC.condF rfl Zd ?_) | refine seqQ_n ?_)
   all_goals exact fin2r rfl rfl rfl ⟨rfl, hS.mutOf Zh⟩
  ·rw [if_neg h63]
   have h0 : n / 9223372036854775808 = 1 := Zo
   rw [h0] at hsh
   repeat' (first | (show WL _ _ _ _ _ _ _; first | refine WL.pure rfl rfl rfl rfl ?_ | refine WL.nil ?_ | (refine WL.callG rfl rfl (varint_c r s p _ (hS.holds _ Zh) hp hl) rfl rfl rfl ?_; rintro v w ⟨hu, rfl⟩; have hS := hS.upd0 hu; rw [hv, hvv]) | (refine WL.shr rfl rfl rfl Zd rfl rfl rfl ?_; rw [hsh])) | (show WC _ _ _ _ _ _; first | refine WC.seq ?_ | refine WC.region ?_ | refine WC.skip ?_ | refine WC.ret ?_ | refine WC.condF rfl Zr ?_ | refine WC.condT rfl Zd ?_) | refine seqQ_n ?_ | refine seqQ_r ?_)
   all_goals exact fin2r rfl rfl rfl ⟨rfl, hS.mutOf Zh⟩
 ·rw [if_neg he]
  have hvv : varV p (n, u, e) = .tuple #[.int .u64 0, .int .i64 0, .int .i64 e] := by simp [varV, he]
  clear hok
  repeat' (first | (show WL _ _ _ _ _ _ _; first | refine WL.pure rfl rfl rfl rfl ?_ | refine WL.nil ?_ | (refine WL.callG rfl rfl (varint_c r s p _ (hS.holds _ Zh) hp hl) rfl rfl rfl ?_; rintro v w ⟨hu, rfl⟩; have hS := hS.upd0 hu; rw [hv, hvv]) | refine WL.skip rfl rfl rfl ?_ | ((fail_if_success (refine WL.wanted rfl ?_)); refine WL.guard rfl rfl rfl (fun h => ?_) (fun h => ?_) <;> (try simp only [Ya,Yb,Yc,Yd,Ye,Yf,Yg,Yh,Yi,Yj,Yk,Yl,Ym,Yn,Yo,Yp] at h) <;> (try exact Zx))) | (show WC _ _ _ _ _ _; first | refine WC.seq ?_ | refine WC.region ?_ | refine WC.skip ?_ | refine WC.ret ?_ | refine WC.condF rfl Zr ?_ | refine WC.condT rfl (decide_eq_true Zw) ?_) | refine seqQ_n ?_ | refine seqQ_r ?_)
  all_goals exact fin2r rfl rfl rfl ⟨rfl, hS.mutOf Zh⟩
open Go Go.J Go.RowKit
theorem uintE_ok (t : List UInt8) (h : (uintE t).2.2 = 0) : (uintE t).1 < 9223372036854775808 ∧ (uintE t).2.1 ≤ t.length := by
 have hok := varE_ok t 0 0 Zd Zo
 unfold uintE at *
 by_cases h1 : (varE t 0 0).2.2 = 0
 ·rw [if_pos h1] at h ⊢
  by_cases h2 : (varE t 0 0).1 < 9223372036854775808
  ·rw [if_pos h2]
   exact ⟨h2, by have := (hok h1).2; omega⟩
  ·rw [if_neg h2] at h; simp at h
 ·rw [if_neg h1] at h; exact absurd h h1
theorem uint_e {r : Nat} {s : List UInt8} {p n u : Nat} {e : Int} (hu : uintE (s.drop p) = (n, u, e)) {w0 : World} (h : RdAt r s p w0) (hi : inB (rdC r s p) w0) (hp : p ≤ s.length) (hl : s.length ≤ 1099511627776) : Cal Tryz.prog 148 [.pointer (some ⟨r, 0, none⟩)] w0
  (fun v w' => v = .tuple #[.int .i64 (n : Int), .int .i64 e] ∧ Mut w0 w' (rdC r s p) (rdC r s (p + u))) := by
 have := uint_c r s p w0 h hi hp hl
 rw [hu] at this
 exact this
theorem wnew_c (s : List UInt8) (w0 : World) : Cal Tryz.prog 147 [str s] w0 (fun v w' => Upd [] w0 w' ∧ ∃ r, v = .pointer (some ⟨r, 0, none⟩) ∧ New w0 w' (rdC r s 0)) := by
 refine Cal.mk' Zk Tryz.func147 rfl rfl fun hS => ?_
 repeat' (first | (show WL _ _ _ _ _ _ _; first | refine WL.pure rfl rfl rfl rfl ?_ | refine WL.nil ?_ | (refine WL.box hS rfl rfl rfl rfl rfl ?_; intro w b hS) | refine WL.build rfl rfl rfl rfl rfl ?_) | (show WC _ _ _ _ _ _; first | refine WC.seq ?_ | refine WC.region ?_ | refine WC.ret ?_) | refine seqQ_n ?_)
 exact fin1r rfl rfl ⟨hS.upd, _, rfl, hS.newOf Zh⟩
theorem rtext_c (r : Nat) (s : List UInt8) (p : Nat) (w0 : World) (h : RdAt r s p w0) (hi : inB (rdC r s p) w0) (hp : p ≤ s.length) (hl : s.length ≤ 1099511627776) : Cal Tryz.prog 149 [.pointer (some ⟨r, 0, none⟩)] w0
  (fun v w' => v = .tuple #[str (rtextE (s.drop p)).1, .int .i64 (rtextE (s.drop p)).2.2] ∧ Mut w0 w' (rdC r s p) (rdC r s (p + (rtextE (s.drop p)).2.1))) := by
 refine Cal.mkM (k := rdC r s p) h hi Zk Tryz.func149 rfl rfl fun hS => ?_
 have hlen : (s.drop p).length = s.length - p := by simp
 have hok := uintE_ok (s.drop p)
 rcases hu : uintE (s.drop p) with ⟨n, u, e⟩
 rw [hu] at hok
 have hr : rtextE (s.drop p) = if e = 0 then (if n + u ≤ (s.drop p).length then (((s.drop p).drop u).take n, n + u, 0) else ([], 0, 2)) else ([], 0, e) := by unfold rtextE; rw [hu]
 rw [hr, hlen]
 clear hr
 by_cases he : e = 0
 ·subst he
  obtain ⟨hn, hul⟩ := hok rfl
  dsimp only at hn hul
  rw [hlen] at hul
  clear hok
  rw [if_pos rfl]
  by_cases hnu : n + u ≤ s.length - p
  ·rw [if_pos hnu]
   have hcut : (s.take (p + u + n)).drop (p + u) = ((s.drop p).drop u).take n := by rw [List.drop_take, List.drop_drop, show p + u + n - (p + u) = n by omega]
   rw [← hcut]
   have hsub : (((p + u : Nat) : Int) + (n : Int)) - (n : Int) = Int.ofNat (p + u) := by show _ = ((p + u : Nat) : Int); omega
   have hend : ((p + u : Nat) : Int) + (n : Int) = ((p + (n + u) : Nat) : Int) := Zo
   repeat' (first | (show WL _ _ _ _ _ _ _; first | refine WL.pure rfl rfl rfl rfl ?_ | refine WL.nil ?_ | refine WL.load hS rfl rfl (LdOk.box (by repeat (first | exact Zh | apply List.Mem.tail)) rfl) rfl rfl rfl ?_ | refine WL.add rfl rfl rfl Zo rfl rfl rfl ?_ | (refine WL.callG rfl rfl (uint_e hu (hS.holds _ Zh) (hS.inB_of Zh) hp hl) rfl rfl rfl ?_; rintro v w ⟨rfl, hmut⟩; have hS := hS.mut hmut .here; clear hmut) | (refine WL.callG rfl rfl (left_c r s (p + u) _ (hS.holds _ Zh) Zo hl) rfl rfl rfl ?_; rintro v w ⟨hup, rfl⟩; have hS := hS.upd0 hup; clear hup) | (refine WL.store hS rfl rfl rfl Sb rfl rfl rfl ?_; intro w hS)) | (show WC _ _ _ _ _ _; first | refine WC.seq ?_ | refine WC.region ?_ | refine WC.skip ?_ | refine WC.ret ?_ | (show WC _ _ (Code.region _ (List.toArray [_, _, _, _, _, _, _, _, _, _, _, _, _, _, _, _, _]) true) _ _ _; refine WC.drawS hS [0, 1, 2, 3, 4, 5, 6, 7, 8, 9, 10, 11, 12, 13, 14, 15, 16] [0, 1, 2, 3, 4, 5, 6, 7, 8, 9, 10, 11, 12, 13, 14, 15, 16] Zk Zk ?_; clear hS; intro w hS hM) | refine WC.condF rfl Zr ?_ | refine WC.condF rfl Zd ?_ | refine WC.condF rfl (decide_eq_false Zw) ?_) | (show WD _ _ _ _ _ _ _ _ _; first | refine WD.pure rfl rfl rfl rfl rfl ?_ | refine WD.nil ?_ | refine WD.load rfl rfl (LdOk.box (by repeat (first | exact Zh | apply List.Mem.tail)) rfl) rfl rfl rfl rfl ?_ | refine WD.sub rfl rfl rfl Zo rfl rfl rfl rfl ?_ | (refine WD.midS (a := p + u) (b := p + u + n) rfl rfl rfl (congrArg (Value.int .i64) hsub) rfl Zo Zo rfl rfl rfl rfl ?_)) | refine seqQ_n ?_)
   rw [hend] at hS
   exact fin2r rfl rfl rfl ⟨rfl, hS.mutOf Zh⟩
  ·rw [if_neg hnu]
   repeat' (first | (show WL _ _ _ _ _ _ _; first | refine WL.pure rfl rfl rfl rfl ?_ | refine WL.nil ?_ | refine WL.load hS rfl rfl (LdOk.box (by repeat (first | exact Zh | apply List.Mem.tail)) rfl) rfl rfl rfl ?_ | (refine WL.callG rfl rfl (uint_e hu (hS.holds _ Zh) (hS.inB_of Zh) hp hl) rfl rfl rfl ?_; rintro v w ⟨rfl, hmut⟩; have hS := hS.mut hmut .here; clear hmut) | (refine WL.callG rfl rfl (left_c r s (p + u) _ (hS.holds _ Zh) Zo hl) rfl rfl rfl ?_; rintro v w ⟨hup, rfl⟩; have hS := hS.upd0 hup; clear hup) | (refine WL.store hS rfl rfl rfl Sb rfl rfl rfl ?_; intro w hS)) | (show WC _ _ _ _ _ _; first | refine WC.seq ?_ | refine WC.region ?_ | refine WC.skip ?_ | refine WC.ret ?_ | refine WC.condF rfl Zr ?_ | refine WC.condT rfl Zd ?_ | refine WC.condT rfl (decide_eq_true Zw) ?_) | refine seqQ_n ?_ | refine seqQ_r ?_)
   all_goals exact fin2r rfl rfl rfl ⟨rfl, hS.mutOf Zh⟩
 ·rw [if_neg he]
  repeat' (first | (show WL _ _ _ _ _ _ _; first | refine WL.pure rfl rfl rfl rfl ?_ | refine WL.nil ?_ | refine WL.load hS rfl rfl (LdOk.box (by repeat (first | exact Zh | apply List.Mem.tail)) rfl) rfl rfl rfl ?_ | (refine WL.callG rfl rfl (uint_e hu (hS.holds _ Zh) (hS.inB_of Zh) hp hl) rfl rfl rfl ?_; rintro v w ⟨rfl, hmut⟩; have hS := hS.mut hmut .here; clear hmut) | (refine WL.store hS rfl rfl rfl Sb rfl rfl rfl ?_; intro w hS) | refine WL.skip rfl rfl rfl ?_ | ((fail_if_success (refine WL.wanted rfl ?_)); refine WL.guard rfl rfl rfl (fun h => ?_) (fun h => ?_) <;> (try simp only [Ya,Yb,Yc,Yd,Ye,Yf,Yg,Yh,Yi,Yj,Yk,Yl,Ym,Yn,Yo,Yp] at h) <;> (try exact Zx))) | (show WC _ _ _ _ _ _; first | refine WC.seq ?_ | refine WC.region ?_ | refine WC.skip ?_ | refine WC.ret ?_ | refine WC.condF rfl Zr ?_ | refine WC.condT rfl (decide_eq_true Zw) ?_) | refine seqQ_n ?_ | refine seqQ_r ?_)
  all_goals exact fin2r rfl rfl rfl ⟨rfl, hS.mutOf Zh⟩
theorem rtext_e {r : Nat} {s : List UInt8} {p u : Nat} {t : List UInt8} {e : Int} (hu : rtextE (s.drop p) = (t, u, e)) {w0 : World} (h : RdAt r s p w0) (hi : inB (rdC r s p) w0) (hp : p ≤ s.length) (hl : s.length ≤ 1099511627776) : Cal Tryz.prog 149 [.pointer (some ⟨r, 0, none⟩)] w0
  (fun v w' => v = .tuple #[str t, .int .i64 e] ∧ Mut w0 w' (rdC r s p) (rdC r s (p + u))) := by
 have := rtext_c r s p w0 h hi hp hl
 rw [hu] at this
 exact this
end Go.Proofs.YtccfiohagbneaaaGreatDoor

namespace Go.J
open Go
def crcS (c : Nat) : Nat := (c / 2) ^^^ (if c % 2 = 1 then 3988292384 else 0)
def crcN : Nat → Nat → Nat
 |0, c => c
 |j + 1, c => crcN j (crcS c)
def crcB (c : Nat) (x : UInt8) : Nat := crcN 8 (c ^^^ x.toNat)
def crcL (c : Nat) (s : List UInt8) : Nat := s.foldl crcB c
def sumE (s : List UInt8) : Nat := 4294967295 ^^^ crcL 4294967295 s
def le4 (n : Nat) : List UInt8 := [UInt8.ofNat (n % 256), UInt8.ofNat (n / 256 % 256), UInt8.ofNat (n / 65536 % 256), UInt8.ofNat (n / 16777216 % 256)]
def packE (s : List UInt8) : List UInt8 := textE s ++ le4 (sumE s)
theorem crcS_lt {c : Nat} (h : c < 4294967296) : crcS c < 4294967296 := by
 unfold crcS
 refine Nat.xor_lt_two_pow (n := 32) Zo ?_
 split <;> omega
theorem crcN_lt : ∀ (j : Nat) {c : Nat}, c < 4294967296 → crcN j c < 4294967296
 |0, _, h => h
 |j + 1, _, h => crcN_lt j (crcS_lt h)
theorem crcB_lt {c : Nat} (h : c < 4294967296) (x : UInt8) : crcB c x < 4294967296 :=
 crcN_lt 8 (Nat.xor_lt_two_pow (n := 32) h (by have := x.toNat_lt; omega))
theorem crcL_lt : ∀ (s : List UInt8) {c : Nat}, c < 4294967296 → crcL c s < 4294967296
 |[], _, h => h
 |x :: s, _, h => crcL_lt s (crcB_lt h x)
theorem sumE_lt (s : List UInt8) : sumE s < 4294967296 := Nat.xor_lt_two_pow (n := 32) Zo (crcL_lt s Zo)
theorem crcL_snoc (c : Nat) (s : List UInt8) (x : UInt8) : crcL c (s ++ [x]) = crcB (crcL c s) x := by unfold crcL; rw [List.foldl_append]; rfl
theorem u32_step {c : Nat} (h : c < 4294967296) : bits .xor .u32 (shrI .u32 (c : Int) 1) (bits .and .u32 3988292384 (IntKind.u32.wrap (0 - bits .and .u32 (c : Int) 1))) = ((crcS c : Nat) : Int) := by
 have h1 : bits .and .u32 (c : Int) 1 = ((c % 2 : Nat) : Int) := by
  have := u32_and_nat c 1 h Zo
  rw [Nat.and_one_is_mod] at this
  exact this
 have h2 : shrI .u32 (c : Int) 1 = ((c / 2 : Nat) : Int) := shrI_nat .u32 c 1 Zd
 rw [h1, h2, IntKind.wrap_u32']
 unfold crcS
 by_cases hp : c % 2 = 1
 ·rw [hp, if_pos rfl]
  have h3 : (0 - ((1 : Nat) : Int)) % 4294967296 = ((4294967295 : Nat) : Int) := Zd
  have h4 := u32_and_nat 3988292384 4294967295 Zo Zo
  rw [h3, show (3988292384 : Int) = ((3988292384 : Nat) : Int) from rfl, h4]
  have h5 : 3988292384 &&& 4294967295 = 3988292384 := Zd
  rw [h5]
  exact u32_xor_nat _ _ Zo Zo
 ·have hp : c % 2 = 0 := Zo
  rw [hp, if_neg Zo]
  have h3 : (0 - ((0 : Nat) : Int)) % 4294967296 = ((0 : Nat) : Int) := Zd
  have h4 := u32_and_nat 3988292384 0 Zo Zo
  rw [h3, show (3988292384 : Int) = ((3988292384 : Nat) : Int) from rfl, h4, Nat.and_zero]
  exact u32_xor_nat _ _ Zo Zo
theorem u32_mix {c : Nat} (h : c < 4294967296) (x : UInt8) : bits .xor .u32 (c : Int) (IntKind.u32.wrap (x.toNat : Int)) = ((c ^^^ x.toNat : Nat) : Int) := by
 have hx := x.toNat_lt
 have e : IntKind.u32.wrap (x.toNat : Int) = ((x.toNat : Nat) : Int) := by rw [IntKind.wrap_u32']; omega
 rw [e]
 exact u32_xor_nat _ _ h Zo
theorem u32_comp {c : Nat} (h : c < 4294967296) : compI .u32 (c : Int) = ((4294967295 ^^^ c : Nat) : Int) := u32_xor_nat 4294967295 c Zo h
theorem le4_bytes {n : Nat} (h : n < 4294967296) : [Value.int .u8 (IntKind.u8.wrap (n : Int)), .int .u8 (IntKind.u8.wrap (shrI .u32 (n : Int) 8)), .int .u8 (IntKind.u8.wrap (shrI .u32 (n : Int) 16)), .int .u8 (IntKind.u8.wrap (shrI .u32 (n : Int) 24))] = byteC (le4 n) := by
 have h1 : shrI .u32 (n : Int) 8 = ((n / 256 : Nat) : Int) := shrI_nat .u32 n 8 Zd
 have h2 : shrI .u32 (n : Int) 16 = ((n / 65536 : Nat) : Int) := shrI_nat .u32 n 16 Zd
 have h3 : shrI .u32 (n : Int) 24 = ((n / 16777216 : Nat) : Int) := shrI_nat .u32 n 24 Zd
 have hw : ∀ m : Nat, IntKind.u8.wrap (m : Int) = (((UInt8.ofNat (m % 256)).toNat : Nat) : Int) := fun m => by rw [IntKind.wrap_u8', ofNat_toNat Zo]; omega
 rw [h1, h2, h3, hw, hw, hw, hw]
 rfl
end Go.J

namespace Go.Proofs.YtccfiohagbneaaaGreatDoor
open Go Go.J Go.RowKit
theorem sum_c (s : List UInt8) (w0 : World) (hl : s.length ≤ 1099511627776) : Cal Tryz.prog 133 [str s] w0 (fun v w' => Upd [] w0 w' ∧ v = .int .u32 ((sumE s : Nat) : Int)) := by
 refine Cal.mk' Zk Tryz.func133 rfl rfl fun hS => ?_
 repeat' (first | (show WL _ _ _ _ _ _ _; first | refine WL.pure rfl rfl rfl rfl ?_ | refine WL.nil ?_) | (show WC _ _ _ _ _ _; first | refine WC.seq ?_ | refine WC.region ?_ | refine WC.block ?_) | refine seqQ_n ?_)
 refine WC.loop (σ := Nat × Nat) [0, 6] (fun (k, c) => [(3, .int .u32 (c : Int)), (7, .int .i64 (k : Int))]) (fun (k, c) w => k ≤ s.length ∧ c = crcL 4294967295 (s.take k) ∧ St w0 [] w [] _) (fun (k, _) => s.length - k) (0, 4294967295) ⟨Nat.zero_le _, rfl, hS⟩ ⟨rfl, rfl, trivial⟩ ?_
 clear hS
 rintro ⟨k, c⟩ g w ⟨hk, hc, hS⟩
 have hclt : c < 4294967296 := by rw [hc]; exact crcL_lt _ Zo
 by_cases hlt : k < s.length
 ·have hx : s[k]? = some s[k] := List.getElem?_eq_getElem hlt
  have hnx : crcL 4294967295 (s.take (k + 1)) = crcB c s[k] := by rw [List.take_succ_eq_append_getElem hlt, crcL_snoc, ← hc]
  generalize s[k] = x at *
  clear hc
  have hm := u32_mix hclt x
  have hx0 := crcB_lt hclt x
  have hx1 : c ^^^ x.toNat < 4294967296 := Nat.xor_lt_two_pow (n := 32) hclt (by have := x.toNat_lt; omega)
  repeat' (first | (show WL _ _ _ _ _ _ _; first | refine WL.pure rfl rfl rfl rfl ?_ | refine WL.nil ?_ | refine WL.idxS rfl rfl rfl rfl Za rfl rfl rfl ?_) | (show WC _ _ _ _ _ _; first | refine WC.seq ?_ | refine WC.region ?_ | refine WC.block ?_ | refine WC.skip ?_ | refine WC.condT rfl (decide_eq_true Zw) ?_) | refine seqQ_n ?_)
  refine WC.loop (σ := Nat × Nat) [0, 6, 7] (fun (j, e) => [(3, .int .u32 (e : Int)), (16, .int .i64 (j : Int))]) (fun (j, e) w => j ≤ 8 ∧ crcN (8 - j) e = crcB c x ∧ e < 4294967296 ∧ St w0 [] w [] _) (fun (j, _) => 8 - j) (0, c ^^^ x.toNat) ⟨Zo, rfl, hx1, hS⟩ ⟨congrArg (Value.int .u32) hm, rfl, trivial⟩ ?_
  clear hS
  rintro ⟨j, e⟩ g w ⟨hj, he, helt, hS⟩
  by_cases h8 : j < 8
  ·have hst := u32_step helt
   repeat' (first | (show WL _ _ _ _ _ _ _; first | refine WL.pure rfl rfl rfl rfl ?_ | refine WL.nil ?_ | refine WL.add rfl rfl rfl Zo rfl rfl rfl ?_ | (refine WL.shr rfl rfl rfl Zd rfl rfl rfl ?_)) | (show WC _ _ _ _ _ _; first | refine WC.seq ?_ | refine WC.region ?_ | refine WC.block ?_ | refine WC.skip ?_ | refine WC.condT rfl (decide_eq_true Zw) ?_) | refine seqQ_n ?_ | refine blkQ_n ?_)
   exact rndQ_n (j + 1, crcS e) ⟨Zo, by rw [← he, show 8 - j = (8 - (j + 1)) + 1 by omega]; rfl, crcS_lt helt, hS⟩ (by show 8 - (j + 1) < 8 - j; omega) ⟨congrArg (Value.int .u32) hst, vint Zo, trivial⟩ ⟨rfl, rfl, rfl, trivial⟩
  ·obtain rfl : j = 8 := Zo
   have he : e = crcB c x := he
   subst he
   repeat' (first | (show WL _ _ _ _ _ _ _; first | refine WL.pure rfl rfl rfl rfl ?_ | refine WL.nil ?_ | refine WL.add rfl rfl rfl Zo rfl rfl rfl ?_) | (show WC _ _ _ _ _ _; first | refine WC.seq ?_ | refine WC.region ?_ | refine WC.exit ?_ | refine WC.condF rfl Zd ?_) | refine seqQ_n ?_ | refine blkQ_n ?_ | refine seqQ_x ?_ | refine blkQ_hit rfl ?_ | refine rndQ_x ?_)
   exact rndQ_n (k + 1, crcB c x) ⟨Zo, hnx.symm, hS⟩ (by show s.length - (k + 1) < s.length - k; omega) ⟨rfl, vint Zo, trivial⟩ ⟨rfl, rfl, trivial⟩
 ·have hks : s.take k = s := List.take_of_length_le Zo
  rw [hks] at hc
  subst hc
  have hcm := u32_comp hclt
  repeat' (first | (show WL _ _ _ _ _ _ _; first | refine WL.pure rfl rfl rfl rfl ?_ | refine WL.nil ?_ | (refine WL.comp rfl rfl rfl rfl rfl ?_)) | (show WC _ _ _ _ _ _; first | refine WC.seq ?_ | refine WC.region ?_ | refine WC.exit ?_ | refine WC.ret ?_ | refine WC.condF rfl (decide_eq_false Zw) ?_) | refine seqQ_n ?_ | refine seqQ_x ?_ | refine blkQ_hit rfl ?_ | refine rndQ_x ?_)
  exact fin1r rfl rfl ⟨hS.upd, congrArg (Value.int .u32) hcm⟩
theorem pack_c (s : List UInt8) (w0 : World) (hl : s.length ≤ 1099511627776) : Cal Tryz.prog 71 [str s] w0 (fun v w' => Upd [] w0 w' ∧ v = str (packE s)) := by
 refine Cal.mk' Zk Tryz.func71 rfl rfl fun hS => ?_
 have h4 := le4_bytes (sumE_lt s)
 have hp := putN_len10 (n := s.length) Zo
 have htl : (textE s).length = (putN s.length).length + s.length := by unfold textE; simp
 have hl4 : (le4 (sumE s)).length = 4 := rfl
 repeat' (first | (show WL _ _ _ _ _ _ _; first | refine WL.pure rfl rfl rfl rfl ?_ | refine WL.nil ?_ | (refine WL.calls hS rfl rfl (sum_c s _ Zo) rfl rfl rfl ?_; rintro v w rfl hS)) | (show WC _ _ _ _ _ _; first | refine WC.seq ?_ | refine WC.region ?_) | refine seqQ_n ?_)
 refine WC.drawP hS [0,2,3,4,5,6,7,8,9,10,11,12,15,16] [0,2,3,4,5,6,7,8,9,10,11,12] (.two 1 [13,14,15,16] .nil 13 [] (.two 1 [14,15,16] .nil 14 [1,15,16] .nil)) Zk Zk ?_
 clear hS
 intro w hS hM
 repeat' (first | (show WC _ _ _ _ _ _; first | refine WC.ret ?_) | (show WD _ _ _ _ _ _ _ _ _; first | refine WD.pure rfl rfl rfl rfl rfl ?_ | refine WD.nil ?_ | (refine WD.shr rfl rfl rfl Zd rfl rfl rfl rfl ?_) | (refine WD.fork ?_ ?_) | (refine WD.calls hS hM rfl rfl (wtext_c s _ Zo) rfl rfl rfl rfl rfl ?_; clear hS; rintro v w rfl hS) | (refine WD.b2sBox (s := le4 (sumE s)) hS hM rfl rfl Zk rfl (by repeat (first | exact Zh | apply List.Mem.tail)) h4 rfl Zd rfl rfl rfl rfl rfl ?_) | (refine WD.cat rfl rfl rfl Zo rfl rfl rfl rfl ?_) | (refine WD.slit hS hM rfl rfl rfl rfl rfl rfl rfl ?_; intro w b hS hM)) | (refine WDo.calls hS hM rfl rfl (wtext_c s _ Zo) rfl rfl rfl rfl ?_; clear hS; rintro v w rfl hS) | (refine WDo.slit hS hM rfl rfl rfl rfl rfl rfl ?_; clear hS hM; intro w b hS hM) | (refine WDo.b2sBox (s := le4 (sumE s)) hS hM rfl rfl Zk rfl (by repeat (first | exact Zh | apply List.Mem.tail)) h4 rfl Zd rfl rfl rfl rfl ?_) | refine seqQ_n ?_)
 all_goals exact fin1r rfl rfl ⟨hS.upd, rfl⟩
open Go Go.J Go.RowKit
def readE (t : List UInt8) : List UInt8 × Nat × Int :=
 if (rtextE t).2.2 = 0 then (if t.length < (rtextE t).2.1 + 4 then ([], 0, 2) else if packE (rtextE t).1 = t.take ((rtextE t).2.1 + 4) then ((rtextE t).1, (rtextE t).2.1 + 4, 0) else ([], 0, 6)) else ([], 0, (rtextE t).2.2)
def frV (p : Nat) (r : List UInt8 × Nat × Int) : Value := if r.2.2 = 0 then .tuple #[str r.1, .int .i64 ((p + r.2.1 : Nat) : Int), .int .i64 0] else .tuple #[str [], .int .i64 0, .int .i64 r.2.2]
theorem frV_ok {p u : Nat} {x : List UInt8} {b : Int} (hb : b = ((p + u : Nat) : Int)) : Value.tuple #[str x, .int .i64 b, .int .i64 0] = frV p (x, u, 0) := by subst hb; simp [frV]
theorem frV_no {p u : Nat} {x : List UInt8} {e : Int} (he : e ≠ 0) : Value.tuple #[str [], .int .i64 0, .int .i64 e] = frV p (x, u, e) := by simp [frV, he]
theorem rtextE_le (t : List UInt8) (h : (rtextE t).2.2 = 0) : (rtextE t).2.1 ≤ t.length ∧ (rtextE t).1.length ≤ t.length := by
 unfold rtextE at *
 by_cases h1 : (uintE t).2.2 = 0
 ·rw [if_pos h1] at h ⊢
  by_cases h2 : (uintE t).1 + (uintE t).2.1 ≤ t.length
  ·rw [if_pos h2]; exact ⟨h2, by simp; omega⟩
  ·rw [if_neg h2] at h; simp at h
 ·rw [if_neg h1] at h; exact absurd h h1
theorem fread_c (s : List UInt8) (p : Nat) (w0 : World) (hp : p ≤ s.length) (hl : s.length ≤ 1099511627776) : Cal Tryz.prog 127 [str s, .int .i64 (p : Int)] w0
  (fun v w' => Upd [] w0 w' ∧ v = frV p (readE (s.drop p))) := by
 refine Cal.mk' Zk Tryz.func127 rfl rfl fun hS => ?_
 have hlen : (s.drop p).length = s.length - p := by simp
 have hok := rtextE_le (s.drop p)
 rcases hu : rtextE (s.drop p) with ⟨x, u, e⟩
 rw [hu] at hok
 have hu0 : rtextE ((s.drop p).drop 0) = (x, u, e) := hu
 have hr : readE (s.drop p) = if e = 0 then (if s.length - p < u + 4 then ([], 0, 2) else if packE x = (s.drop p).take (u + 4) then (x, u + 4, 0) else ([], 0, 6)) else ([], 0, e) := by unfold readE; rw [hu, hlen]
 rw [hr]
 clear hr hu
 by_cases he : e = 0
 ·subst he
  obtain ⟨hul, hxl⟩ := hok rfl
  dsimp only at hul hxl
  rw [hlen] at hul hxl
  clear hok
  rw [if_pos rfl]
  have hle : (((s.drop p).length : Nat) : Int) - ((0 + u : Nat) : Int) = ((s.length - p - u : Nat) : Int) := by rw [hlen]; omega
  by_cases h4 : s.length - p < u + 4
  ·rw [if_pos h4]
   repeat' (first | (show WL _ _ _ _ _ _ _; first | refine WL.pure rfl rfl rfl rfl ?_ | refine WL.nil ?_ | (refine WL.lowS (j := p) rfl rfl rfl rfl Zo rfl rfl rfl ?_) | (refine WL.callG rfl rfl (wnew_c (s.drop p) _) rfl rfl rfl ?_; rintro v w ⟨hup, r, rfl, hnew⟩; have hS := hS.new hup hnew) | (refine WL.callG rfl rfl (rtext_e hu0 (hS.holds _ Zh) (hS.inB_of Zh) Zo Zo) rfl rfl rfl ?_; rintro v w ⟨rfl, hmut⟩; have hS := hS.mut hmut .here; clear hmut) | (refine WL.callG rfl rfl (left_c r (s.drop p) (0 + u) _ (hS.holds _ Zh) Zo Zo) rfl rfl rfl ?_; rintro v w ⟨hup, rfl⟩; have hS := hS.upd0 hup; clear hup; rw [hle])) | (show WC _ _ _ _ _ _; first | refine WC.seq ?_ | refine WC.region ?_ | refine WC.skip ?_ | refine WC.ret ?_ | refine WC.condF rfl Zd ?_ | refine WC.condT rfl (decide_eq_true Zw) ?_ | refine WC.condF rfl (decide_eq_false Zw) ?_) | refine seqQ_n ?_ | refine seqQ_r ?_)
   exact fin3r rfl rfl rfl rfl ⟨hS.upd, frV_no Zd⟩
  ·rw [if_neg h4]
   have hnext : (s.length : Int) - ((s.length - p - u : Nat) : Int) + 4 = Int.ofNat (p + u + 4) := by show _ = ((p + u + 4 : Nat) : Int); omega
   have hcut : (s.take (p + u + 4)).drop p = (s.drop p).take (u + 4) := by rw [List.drop_take]; congr 1; omega
   by_cases hpk : packE x = (s.drop p).take (u + 4)
   case' pos => rw [if_pos hpk]
   case' neg => rw [if_neg hpk]
   all_goals
    repeat' (first | (show WL _ _ _ _ _ _ _; first | refine WL.pure rfl rfl rfl rfl ?_ | refine WL.nil ?_ | refine WL.add rfl rfl rfl Zo rfl rfl rfl ?_ | refine WL.sub rfl rfl rfl Zo rfl rfl rfl ?_ | (refine WL.lowS (j := p) rfl rfl rfl rfl Zo rfl rfl rfl ?_) | (refine WL.callG rfl rfl (wnew_c (s.drop p) _) rfl rfl rfl ?_; rintro v w ⟨hup, r, rfl, hnew⟩; have hS := hS.new hup hnew) | (refine WL.callG rfl rfl (rtext_e hu0 (hS.holds _ Zh) (hS.inB_of Zh) Zo Zo) rfl rfl rfl ?_; rintro v w ⟨rfl, hmut⟩; have hS := hS.mut hmut .here; clear hmut) | (refine WL.callG rfl rfl (left_c r (s.drop p) (0 + u) _ (hS.holds _ Zh) Zo Zo) rfl rfl rfl ?_; rintro v w ⟨hup, rfl⟩; have hS := hS.upd0 hup; clear hup; rw [hle])) | (show WC _ _ _ _ _ _; first | refine WC.seq ?_ | refine WC.region ?_ | refine WC.skip ?_ | refine WC.ret ?_ | (show WC _ _ (Code.region _ (List.toArray [_, _, _, _, _, _, _]) true) _ _ _; refine WC.drawS hS [0,2,3,4,5,6] [0,2,3,4,5,1,6] Zk Zk ?_; clear hS; intro w hS hM) | refine WC.condF rfl Zd ?_ | refine WC.condT rfl (decide_eq_true Zw) ?_ | refine WC.condF rfl (decide_eq_false Zw) ?_ | refine WC.condF rfl Zs ?_) | (show WD _ _ _ _ _ _ _ _ _; first | refine WD.pure rfl rfl rfl rfl rfl ?_ | refine WD.nil ?_ | (refine WD.midS (a := p) (b := p + u + 4) rfl rfl rfl rfl (congrArg (Value.int .i64) hnext) Zo Zo rfl rfl rfl rfl ?_; rw [hcut]) | (refine WD.calls hS hM rfl rfl (pack_c x _ Zo) rfl rfl rfl rfl rfl ?_; clear hS; rintro v w rfl hS)) | refine seqQ_n ?_ | refine seqQ_r ?_)
    all_goals first
     |exact fin3r rfl rfl rfl rfl ⟨hS.upd, frV_no Zd⟩
     |exact fin3r rfl rfl rfl rfl ⟨hS.upd, frV_ok Zo⟩
 ·rw [if_neg he]
  repeat' (first | (show WL _ _ _ _ _ _ _; first | refine WL.pure rfl rfl rfl rfl ?_ | refine WL.nil ?_ | (refine WL.lowS (j := p) rfl rfl rfl rfl Zo rfl rfl rfl ?_) | (refine WL.callG rfl rfl (wnew_c (s.drop p) _) rfl rfl rfl ?_; rintro v w ⟨hup, r, rfl, hnew⟩; have hS := hS.new hup hnew) | (refine WL.callG rfl rfl (rtext_e hu0 (hS.holds _ Zh) (hS.inB_of Zh) Zo Zo) rfl rfl rfl ?_; rintro v w ⟨rfl, hmut⟩; have hS := hS.mut hmut .here; clear hmut)) | (show WC _ _ _ _ _ _; first | refine WC.seq ?_ | refine WC.region ?_ | refine WC.skip ?_ | refine WC.ret ?_ | refine WC.condT rfl (decide_eq_true Zw) ?_ | refine WC.condF rfl (decide_eq_false Zw) ?_) | refine seqQ_n ?_ | refine seqQ_r ?_)
  exact fin3r rfl rfl rfl rfl ⟨hS.upd, frV_no he⟩
open Go Go.J Go.RowKit
def scanF : Nat → List UInt8 → List (List UInt8) × Nat × Int
 |0, _ => ([], 0, 0)
 |k + 1, t => if t = [] then ([], 0, 0) else if (readE t).2.2 = 0 then ((readE t).1 :: (scanF k (t.drop (readE t).2.1)).1, (readE t).2.1 + (scanF k (t.drop (readE t).2.1)).2.1, (scanF k (t.drop (readE t).2.1)).2.2) else ([], 0, (readE t).2.2)
def scanE (t : List UInt8) : List (List UInt8) × Nat × Int := scanF t.length t
theorem readE_le (t : List UInt8) (h : (readE t).2.2 = 0) : 4 ≤ (readE t).2.1 ∧ (readE t).2.1 ≤ t.length ∧ (readE t).1.length ≤ t.length := by
 have hr := rtextE_le t
 unfold readE at *
 by_cases h1 : (rtextE t).2.2 = 0
 ·rw [if_pos h1] at h ⊢
  by_cases h2 : t.length < (rtextE t).2.1 + 4
  ·rw [if_pos h2] at h; simp at h
  ·rw [if_neg h2] at h ⊢
   split at h
   ·rename_i h3
    rw [if_pos h3]
    have := (hr h1).2
    refine ⟨by show 4 ≤ (rtextE t).2.1 + 4; omega, by show (rtextE t).2.1 + 4 ≤ _; omega, this⟩
   ·simp at h
 ·rw [if_neg h1] at h; exact absurd h h1
def scV (A : Option Addr) (n cap g : Nat) (e : Int) : Value := .tuple #[.slice A n cap, .int .i64 (g : Int), .int .i64 e]
theorem fscan_c (s : List UInt8) (w0 : World) (hl : s.length ≤ 1099511627776) : Cal Tryz.prog 67 [str s] w0
  (fun v w' => Upd [] w0 w' ∧ ∃ A cap, v = scV A (scanE s).1.length cap (scanE s).2.1 (scanE s).2.2 ∧ New w0 w' (.own (.slice A (scanE s).1.length cap) 9 1 (scanE s).1.length (strs (scanE s).1))) := by
 refine Cal.mk' Zk Tryz.func67 rfl rfl fun hS => ?_
 repeat' (first | (show WL _ _ _ _ _ _ _; first | refine WL.pure rfl rfl rfl rfl ?_ | refine WL.nil ?_) | (show WC _ _ _ _ _ _; first | refine WC.seq ?_ | refine WC.region ?_ | refine WC.block ?_) | refine seqQ_n ?_)
 have hS := hS.nilRow 9 1
 refine WC.loop (σ := Nat × List (List UInt8) × Nat × Option Addr × Nat × Nat) [0] (fun (p, done, n, A, cap, k) => [(2, .slice A n cap), (3, .int .i64 (p : Int))])
  (fun (p, done, n, A, cap, k) w => p ≤ s.length ∧ s.length - p ≤ k ∧ n = done.length ∧ n ≤ p ∧ scanE s = (done ++ (scanF k (s.drop p)).1, p + (scanF k (s.drop p)).2.1, (scanF k (s.drop p)).2.2) ∧ St w0 [] w [.own (.slice A n cap) 9 1 n (strs done)] _)
  (fun (p, _) => s.length - p) (0, [], 0, none, 0, s.length) ⟨Nat.zero_le _, Zo, rfl, Nat.zero_le _, by simp [scanE], hS⟩ ⟨rfl, rfl, trivial⟩ ?_
 clear hS
 rintro ⟨p, done, n, A, cap, k⟩ g w ⟨hp, hk, hn, hnp, hsc, hS⟩
 by_cases hlt : p < s.length
 ·have hne : s.drop p ≠ [] := by intro e; have := congrArg List.length e; simp at this; omega
  obtain ⟨k, rfl⟩ : ∃ k', k = k' + 1 := ⟨k - 1, Zo⟩
  have hle := readE_le (s.drop p)
  rcases hr : readE (s.drop p) with ⟨x, u, e⟩
  simp only [scanF, if_neg hne, hr] at hsc
  rw [hr] at hle
  have hlen : (s.drop p).length = s.length - p := by simp
  by_cases he : e = 0
  ·subst he
   rw [if_pos rfl] at hsc
   obtain ⟨h4, hu, hx⟩ := hle rfl
   dsimp only at h4 hu hx
   rw [hlen] at hu hx
   have hdd : (s.drop p).drop u = s.drop (p + u) := by rw [List.drop_drop]
   rw [hdd] at hsc
   have hfv : frV p (x, u, 0) = .tuple #[str x, .int .i64 ((p + u : Nat) : Int), .int .i64 0] := by simp [frV]
   clear hle
   repeat' (first | (show WL _ _ _ _ _ _ _; first | refine WL.pure rfl rfl rfl rfl ?_ | refine WL.nil ?_ | (refine WL.calls hS rfl rfl (fread_c s p _ Zo Zo) rfl rfl rfl ?_; rintro v w rfl hS; rw [hr, hfv]) | (refine WL.app hS rfl rfl rfl rfl (RdOk.box (by repeat (first | exact Zh | apply List.Mem.tail))) rfl rfl (fun A cap => Rp) Zo rfl rfl rfl ?_; intro A cap w hS) | (refine WL.slit hS rfl rfl rfl rfl rfl ?_; intro w b hS)) | (show WC _ _ _ _ _ _; first | refine WC.seq ?_ | refine WC.region ?_ | refine WC.block ?_ | refine WC.skip ?_ | refine WC.condF rfl Zd ?_ | refine WC.condT rfl (decide_eq_true Zw) ?_) | refine seqQ_n ?_ | refine blkQ_n ?_)
   exact rndQ_n (p + u, done ++ [x], n + 1, _, _, k) ⟨Zo, Zo, by simp [hn], Zo, by rw [hsc]; simp [Nat.add_assoc], by rw [← strs_snoc]; exact hS.drop⟩ (by show s.length - (p + u) < s.length - p; omega) ⟨rfl, rfl, trivial⟩ ⟨rfl, trivial⟩
  ·rw [if_neg he] at hsc
   have hfv : frV p (x, u, e) = .tuple #[str [], .int .i64 0, .int .i64 e] := by simp [frV, he]
   simp only [List.append_nil, Nat.add_zero] at hsc
   rw [hsc]
   clear hle
   repeat' (first | (show WL _ _ _ _ _ _ _; first | refine WL.pure rfl rfl rfl rfl ?_ | refine WL.nil ?_ | (refine WL.calls hS rfl rfl (fread_c s p _ Zo Zo) rfl rfl rfl ?_; rintro v w rfl hS; rw [hr, hfv])) | (show WC _ _ _ _ _ _; first | refine WC.seq ?_ | refine WC.region ?_ | refine WC.block ?_ | refine WC.skip ?_ | refine WC.ret ?_ | refine WC.condT rfl (decide_eq_true Zw) ?_) | refine seqQ_n ?_ | refine seqQ_r ?_ | refine blkQ_r ?_ | refine rndQ_r ?_)
   subst hn
   exact fin3r rfl rfl rfl rfl ⟨hS.upd, _, _, rfl, hS.newOf Zh⟩
 ·have hde : s.drop p = [] := List.drop_of_length_le Zo
  have hsf : scanF k [] = ([], 0, 0) := by cases k <;> simp [scanF]
  rw [hde, hsf] at hsc
  simp only [List.append_nil, Nat.add_zero] at hsc
  rw [hsc]
  repeat' (first | (show WL _ _ _ _ _ _ _; first | refine WL.pure rfl rfl rfl rfl ?_ | refine WL.nil ?_) | (show WC _ _ _ _ _ _; first | refine WC.seq ?_ | refine WC.region ?_ | refine WC.exit ?_ | refine WC.ret ?_ | refine WC.condF rfl (decide_eq_false Zw) ?_) | refine seqQ_n ?_ | refine seqQ_x ?_ | refine blkQ_hit rfl ?_ | refine rndQ_x ?_)
  subst hn
  exact fin3r rfl rfl rfl rfl ⟨hS.upd, _, _, rfl, hS.newOf Zh⟩
end Go.Proofs.YtccfiohagbneaaaGreatDoor

namespace Go.J
open Go Go.RowKit
def fps (D : List Chunk) : List Nat := D.flatMap Chunk.fp
theorem mem_fps {D : List Chunk} {b : Nat} : b ∈ fps D ↔ ∃ c ∈ D, b ∈ c.fp := by simp [fps]
structure MutL (w w' : World) (D D' : List Chunk) : Prop where
 upd : Upd (fps D) w w'
 holds : ∀ c ∈ D', c.holds w'
 fp : ∀ c ∈ D', ∀ b ∈ c.fp, b ∈ fps D ∨ (w.heap.size ≤ b ∧ b < w'.heap.size)
 disj : D'.Pairwise Chunk.apart
structure InL (w : World) (D : List Chunk) : Prop where
 holds : ∀ c ∈ D, c.holds w
 inb : ∀ c ∈ D, inB c w
 disj : D.Pairwise Chunk.apart
inductive Pulls : List Chunk → List Chunk → List Chunk → Prop where
 |nil {H : List Chunk} : Pulls [] H H
 |cons {c : Chunk} {D H H1 H2 : List Chunk} : Pull c H H1 → Pulls D H1 H2 → Pulls (c :: D) H H2
theorem Pulls.perm {D H H' : List Chunk} (h : Pulls D H H') : H.Perm (D ++ H') := by
 induction h with
 |nil => exact .refl _
 |cons h _ ih => exact h.perm.trans (.cons _ ih)
section
variable {w0 w w' : World} {M : List Nat} {H H' D D' : List Chunk} {Z : List Snap} {c c' : Chunk}
theorem St.pulls (hS : St w0 M w H Z) (h : Pulls D H H') : St w0 M w (D ++ H') Z := hS.perm h.perm
theorem St.inL (hS : St w0 M w (D ++ H) Z) : InL w D :=
 ⟨fun c hc => hS.holds c (List.mem_append_left _ hc), fun c hc b hb => (hS.inb c (List.mem_append_left _ hc) b hb).1, (List.pairwise_append.1 hS.disj).1⟩
theorem St.mutL (hS : St w0 M w (D ++ H) Z) (hm : MutL w w' D D') : St w0 M w' (D' ++ H) Z := by
 have hin : ∀ b ∈ fps D, b < w.heap.size ∧ (w0.heap.size ≤ b ∨ b ∈ M) := fun b hb => by
  obtain ⟨c, hc, hb⟩ := mem_fps.1 hb
  exact hS.inb c (List.mem_append_left _ hc) b hb
 have hap : ∀ d ∈ H, ∀ b ∈ d.fp, b ∉ fps D := fun d hd b hb hbD => by
  obtain ⟨c, hc, hb2⟩ := mem_fps.1 hbD
  exact (List.pairwise_append.1 hS.disj).2.2 c hc d hd b hb2 hb
 refine ⟨?_, ?_, ?_, ?_, ?_⟩
 ·exact ⟨hm.upd.os.trans hS.upd.os, hm.upd.tape.trans hS.upd.tape, hm.upd.output.trans hS.upd.output, Nat.le_trans hS.upd.size hm.upd.size, fun b hb hn => by
   have hn' : b ∉ fps D := fun h => by
    rcases (hin b h).2 with h1 | h1
    ·omega
    ·exact hn h1
   exact (hm.upd.block b (Nat.lt_of_lt_of_le hb hS.upd.size) hn').trans (hS.upd.block b hb hn)⟩
 ·intro d hd
  rcases List.mem_append.1 hd with h | h
  ·exact hm.holds d h
  ·exact Chunk.keep (hS.holds d (List.mem_append_right _ h)) fun b hb => hm.upd.block b (hS.inb d (List.mem_append_right _ h) b hb).1 (hap d h b hb)
 ·intro d hd b hb
  rcases List.mem_append.1 hd with h | h
  ·rcases hm.fp d h b hb with h1 | h1
   ·exact ⟨Nat.lt_of_lt_of_le (hin b h1).1 hm.upd.size, (hin b h1).2⟩
   ·exact ⟨h1.2, .inl (Nat.le_trans hS.upd.size h1.1)⟩
  ·have := hS.inb d (List.mem_append_right _ h) b hb
   exact ⟨Nat.lt_of_lt_of_le this.1 hm.upd.size, this.2⟩
 ·refine List.pairwise_append.2 ⟨hm.disj, (List.pairwise_append.1 hS.disj).2.1, fun c hc d hd b hb hbd => ?_⟩
  rcases hm.fp c hc b hb with h1 | h1
  ·exact hap d hd b hbd h1
  ·have := (hS.inb d (List.mem_append_right _ hd) b hbd).1; omega
 ·intro z hz b hb
  obtain ⟨h1, h2, h3⟩ := hS.snap z hz b hb
  have hn : b ∉ fps D := fun h => by
   obtain ⟨c, hc, hb2⟩ := mem_fps.1 h
   exact h3 c (List.mem_append_left _ hc) hb2
  refine ⟨Nat.lt_of_lt_of_le h1 hm.upd.size, (hm.upd.block b h1 hn).trans h2, fun d hd hbd => ?_⟩
  rcases List.mem_append.1 hd with h | h
  ·rcases hm.fp d h b hbd with h4 | h4
   ·exact hn h4
   ·omega
  ·exact h3 d (List.mem_append_right _ h) hbd
theorem St.initL (h : InL w D) : St w (fps D) w D [⟨w, fun b => b < w.heap.size ∧ b ∉ fps D⟩] :=
 ⟨.refl _ _, h.holds, fun c hc b hb => ⟨h.inb c hc b hb, .inr (mem_fps.2 ⟨c, hc, hb⟩)⟩, h.disj, fun z hz b hbz => by
  simp at hz; subst hz; exact ⟨hbz.1, rfl, fun d hd hbd => hbz.2 (mem_fps.2 ⟨d, hd, hbd⟩)⟩⟩
theorem St.mutLOf (hS : St w0 (fps D) w (D' ++ H) Z) : MutL w0 w D D' :=
 ⟨hS.upd, fun c hc => hS.holds c (List.mem_append_left _ hc), fun c hc b hb => by
  have h := hS.inb c (List.mem_append_left _ hc) b hb
  rcases h.2 with h2 | h2
  ·exact .inr ⟨h2, h.1⟩
  ·exact .inl h2, (List.pairwise_append.1 hS.disj).1⟩
theorem St.mutLp (hS : St w0 (fps D) w H Z) (hp : Pulls D' H H') : MutL w0 w D D' := (hS.pulls hp).mutLOf
theorem MutL.of1 (h : Mut w w' c c') : MutL w w' [c] [c'] :=
 ⟨by simpa [fps] using h.upd, by simpa using h.holds, by simpa [fps] using h.fp, by simp⟩
theorem InL.of1 (h : c.holds w) (hi : inB c w) : InL w [c] := ⟨by simpa using h, by simpa using hi, by simp⟩
theorem InL.head (h : InL w (c :: D)) : c.holds w := h.holds c (List.mem_cons_self ..)
theorem InL.headB (h : InL w (c :: D)) : inB c w := h.inb c (List.mem_cons_self ..)
theorem InL.sub (h : InL w D) (hp : Pulls D' D H) : InL w D' := by
 have hp := hp.perm
 refine ⟨fun c hc => h.holds c (hp.mem_iff.2 (List.mem_append_left _ hc)), fun c hc => h.inb c (hp.mem_iff.2 (List.mem_append_left _ hc)), ?_⟩
 exact (List.pairwise_append.1 ((hp.pairwise_iff (fun {a b} h => Chunk.apart_symm h)).1 h.disj)).1
theorem MutL.refl (h : InL w D) : MutL w w D D :=
 ⟨.refl _ _, h.holds, fun c hc b hb => .inl (mem_fps.2 ⟨c, hc, hb⟩), h.disj⟩
theorem MutL.drop (h : MutL w w' D (c :: D')) : MutL w w' D D' :=
 ⟨h.upd, fun d hd => h.holds d (List.mem_cons_of_mem _ hd), fun d hd => h.fp d (List.mem_cons_of_mem _ hd), (List.pairwise_cons.1 h.disj).2⟩
theorem St.droplast2 {D H' : List Chunk} (hS : St w0 M w H Z) (hp : Pulls D H H') : St w0 M w D Z := by
 have h := hS.pulls hp
 exact ⟨h.upd, fun c hc => h.holds c (List.mem_append_left _ hc), fun c hc => h.inb c (List.mem_append_left _ hc), (List.pairwise_append.1 h.disj).1, fun z hz b hb => by
  obtain ⟨h1, h2, h3⟩ := h.snap z hz b hb
  exact ⟨h1, h2, fun d hd => h3 d (List.mem_append_left _ hd)⟩⟩
end
theorem Cal.mkL {P : Program} {fid : FuncId} {fn : Func} {c : Code} {args : List Value} {w : World} {R : Value → World → Prop} {D : List Chunk} (hi : InL w D) (hk : callOk P fid = true)
  (hf : P.funcs[fid]? = some fn) (hb : fn.body = some c) (hn : Nat.ble args.length fn.ntmps = true)
  (h : St w (fps D) w D [⟨w, fun b => b < w.heap.size ∧ b ∉ fps D⟩] → WC P fn.ntmps c (fr0 args) w (funQ P fn.results fn (Ret R))) : Cal P fid args w R :=
 ⟨hk, J.calls hf hb hn (h (St.initL hi))⟩
section
variable {P : Program} {N : Fz} {f : Fr} {w w0 : World} {Q : Post} {ops l : List Oper} {o : Oper} {M : List Nat} {H H' D : List Chunk} {Z : List Snap}
def evN (ρ : Operand → Value) : List Operand → Option (List Value)
 |[] => some []
 |x :: xs => match nfv (ρ x) with
  |some v => match evN ρ xs with
   |some r => some (v :: r)
   |none => none
  |none => none
theorem evN_eq {ρ : Operand → Value} : ∀ {l : List Operand} {r : List Value}, evN ρ l = some r → l.map ρ = r
 |[], r, h => by simp only [evN, Option.some.injEq] at h; subst h; rfl
 |x :: xs, r, h => by
  unfold evN at h
  cases h1 : nfv (ρ x) with
  |none => rw [h1] at h; cases h
  |some v =>
   rw [h1] at h
   cases h2 : evN ρ xs with
   |none => rw [h2] at h; cases h
   |some r' =>
    rw [h2] at h
    simp only [Option.some.injEq] at h
    rw [List.map_cons, evN_eq h2, ← h, ← nfv_eq h1]
theorem WL.mkF {fn : Fn} {first cap : List Operand} {fl cl : List Value} (ho : o.op = .makeFunc fn ⟨first⟩ ⟨cap⟩) (h1 : evN (ev f) first = some fl) (h2 : evN (ev f) cap = some cl)
  (hg : wants ops f o = true) {d : Nat} (hd : o.dst = some d) (hn : N.ok d = true) (h : WL P N ops l (up f d (.func fn ⟨fl⟩ ⟨cl⟩)) w Q) : WL P N ops (o :: l) f w Q := by
 refine .pure (v := .func fn ⟨fl⟩ ⟨cl⟩) ?_ hg hd hn h
 unfold pureV
 rw [ho]
 simp only [pureOp, evN_eq h1, evN_eq h2]
 rfl
theorem run_app0 {ρ : Operand → Value} {s x : Operand} {t e : TypeId} {size bytes n cap c : Nat} {A : Option Addr} (ho : o.op = .call ⟨.builtin .append, ⟨[s, x]⟩, ⟨[t, t]⟩⟩) (hi : appOf P t = some (e, size, bytes))
  (hs : ρ s = .slice A n cap) (hx : ρ x = .slice none 0 c) (hc : n ≤ cap) : (execOp ρ o).run P w = .ok (.value (.slice A n cap)) w := by
 obtain ⟨i, z, hu, hinfo, hz, rfl, rfl, hzs, h0, h0b⟩ := appOf_spec hi
 have hr : (Builtin.append_ #[t, t] o.type #[.slice A n cap, .slice none 0 c]).run P w = .ok (.slice A n cap) w := by
  cases A with
  |none => simp [Builtin.append_, run_underlying hu, sizeOf, typeInfo, hinfo, Builtin.lenOf, Builtin.firstCells, hc]
  |some a => simp [Builtin.append_, run_underlying hu, sizeOf, typeInfo, hinfo, Builtin.lenOf, Builtin.firstCells, hc, storeCells]
 unfold execOp
 simp only [ho, resolve, invoke, builtin, Sem.run_bind, Sem.run_pure, Result.andThen_ok, List.map_toArray, List.map_cons, List.map_nil, hs, hx, hr]
def RdSl (H : List Chunk) (Z : List Snap) (B : Option Addr) (m : Nat) (news : List Value) : Prop := (B = none ∧ m = 0 ∧ news = []) ∨ ∃ b off, B = some ⟨b, off, none⟩ ∧ RdOk H Z b off news
theorem RdSl.own {A : Option Addr} {n cap n' : Nat} {e : TypeId} {size : Nat} {xs : List Value} (hS : St w0 M w H Z) (hm : Chunk.own (.slice A n cap) e size n' xs ∈ H) : RdSl H Z A n xs := by
 have h := hS.holds _ hm
 rcases h.2 with ⟨h2, rfl⟩ | ⟨g, off, cap', cur, h2, _⟩
 ·simp only [Value.slice.injEq] at h2
  obtain ⟨rfl, rfl, rfl⟩ := h2
  exact .inl ⟨rfl, rfl, List.eq_nil_of_length_eq_zero (by rw [h.1, Nat.zero_mul])⟩
 ·simp only [Value.slice.injEq] at h2
  obtain ⟨rfl, rfl, rfl⟩ := h2
  exact .inr ⟨g, off, rfl, .own0 hm⟩
theorem WL.appS {s x : Operand} {t e : TypeId} {size bytes n m cap c : Nat} {A B : Option Addr} {xs news : List Value} {H' : Option Addr → Nat → List Chunk} (hS : St w0 M w H Z) (ho : o.op = .call ⟨.builtin .append, ⟨[s, x]⟩, ⟨[t, t]⟩⟩) (hi : appOf P t = some (e, size, bytes))
  (hs : ev f s = .slice A n cap) (hx : ev f x = .slice B m c) (hnews : RdSl H Z B m news) (hl : news.length = m * size) (h1 : one news = true)
  (hr : ∀ A' cap', Repl (.own (.slice A n cap) e size n xs) (.own (.slice A' (n + m) cap') e size (n + m) (xs ++ news)) H (H' A' cap')) (hb : (n + m) * bytes ≤ 140737488355328)
  (hg : wants ops f o = true) {d : Nat} (hd : o.dst = some d) (hn : N.ok d = true)
  (h : ∀ A' cap' w', St w0 M w' (H' A' cap') Z → WL P N ops l (up f d (.slice A' (n + m) cap')) w' Q) : WL P N ops (o :: l) f w Q := by
 rcases hnews with ⟨rfl, rfl, rfl⟩ | ⟨b, off, rfl, hnews⟩
 ·have hc := (hS.own_len (hr none 0).mem).2.2
  have h' := h A cap w (hS.recast (hr A cap) (fun h => by simpa using h) (fun b hb => hb))
  exact .val hg hd hn (run_app0 ho hi hs hx hc) h'
 ·exact .app hS ho hi hs hx hnews hl h1 hr hb hg hd hn h
theorem WL.callL {fid : FuncId} {xs : List Operand} {ts : Array TypeId} {args : List Value} {R : Value → World → Prop} (hS : St w0 M w H Z) (hp : Pulls D H H') (ho : o.op = .call ⟨.value (.func fid), ⟨xs⟩, ts⟩) (ha : xs.map (ev f) = args) (hc : InL w D → Cal P fid args w R)
  (hg : wants ops f o = true) {d : Nat} (hd : o.dst = some d) (hn : N.ok d = true) (h : ∀ v w', R v w' → (∀ D', MutL w w' D D' → St w0 M w' (D' ++ H') Z) → WL P N ops l (up f d v) w' Q) : WL P N ops (o :: l) f w Q :=
 have hS' := hS.pulls hp
 .callG ho ha (hc hS'.inL) hg hd hn fun v w' hR => h v w' hR fun D' hm => hS'.mutL hm
theorem WL.callFL {x : Operand} {xs : List Operand} {ts : Array TypeId} {fid : FuncId} {first cap args : List Value} {R : Value → World → Prop} (hS : St w0 M w H Z) (hp : Pulls D H H') (ho : o.op = .call ⟨.value x, ⟨xs⟩, ts⟩) (hx : ev f x = .func (.func fid) ⟨first⟩ ⟨cap⟩) (ha : first ++ xs.map (ev f) ++ cap = args) (hc : InL w D → Cal P fid args w R)
  (hg : wants ops f o = true) {d : Nat} (hd : o.dst = some d) (hn : N.ok d = true) (h : ∀ v w', R v w' → (∀ D', MutL w w' D D' → St w0 M w' (D' ++ H') Z) → WL P N ops l (up f d v) w' Q) : WL P N ops (o :: l) f w Q :=
 have hS' := hS.pulls hp
 .callF ho hx ha (hc hS'.inL) hg hd hn fun v w' hR => h v w' hR fun D' hm => hS'.mutL hm
end
section
variable {P : Program} {N : Fz} {f : Fr} {w w0 : World} {Q : Post} {ops : List Oper} {M : List Nat} {H0 H H' D : List Chunk} {Z0 Z : List Snap} {q : Qs} {l : List Nat} {i : Nat}
theorem More.app {D' : List Chunk} (h : More H0 Z0 H Z) : More H0 Z0 (D' ++ H) Z := by
 obtain ⟨a, b, h1, h2⟩ := h; exact ⟨D' ++ a, b, by rw [h1, List.append_assoc], h2⟩
theorem WC.drawL {id : Nat} (D : List Chunk) (hS : St w0 M w H Z) (hp : Pulls D H H') (q l : List Nat) (hm : P.follows .mixedOrders = true)
  (hk : (Region.noSelect ops.toArray && ordOk ops.toArray ⟨q, .nil⟩ (Array.replicate ops.toArray.size false) l && Nat.beq l.length ops.length) = true)
  (h : ∀ w', St w0 M w' (D ++ H') Z → More H' Z (D ++ H') Z → WD P N (SS w0 M H' Z) ops ⟨q, .nil⟩ l f w' Q) (hok : okR N ops = true := by rfl) : WC P N (.region id ops.toArray true) f w Q := by
 have hS' := hS.pulls hp
 simp only [Bool.and_eq_true] at hk
 exact WC.draw (SS w0 M H' Z) ⟨q, .nil⟩ l hm hk.1.1 hk.1.2 hk.2 ((More.app (.refl _ _)).ss hS'.drew) (h _ hS'.drew (More.app (.refl _ _))) hok
theorem WD.callL {fid : FuncId} {xs : List Operand} {ts : Array TypeId} {args : List Value} {R : Value → World → Prop} (hS : St w0 M w H Z) (hp : Pulls D H H') (hM : More H0 Z0 H' Z) (ho : (ix ops i).op = .call ⟨.value (.func fid), ⟨xs⟩, ts⟩) (ha : xs.map (ev f) = args)
  (hc : InL w D → Cal P fid args w R) (hq : q.contains i = false) (hi : Nat.blt i ops.length = true) (hg : wants ops f (ix ops i) = true) {d : Nat} (hd : (ix ops i).dst = some d) (hn : N.ok d = true)
  (h : ∀ v w', R v w' → ∃ D', MutL w w' D D' ∧ (St w0 M w' (D' ++ H') Z → More H0 Z0 (D' ++ H') Z → WD P N (SS w0 M H0 Z0) ops q l (up f d v) w' Q)) : WD P N (SS w0 M H0 Z0) ops q (i :: l) f w Q :=
 have hS' := hS.pulls hp
 .enter hq hi hg hd hn (run_callOp ho ha (hc hS'.inL).ok) (hc hS'.inL).calls fun v w' hR => by
  obtain ⟨D', hm, hk⟩ := h v w' hR
  have hS2 := hS'.mutL hm
  exact ⟨(More.app hM).ss hS2, hk hS2 (More.app hM)⟩
theorem WC.drawV {id : Nat} (hS : St w0 M w H Z) (q l : List Nat) (i : Nat) (l2 : List Nat) (hm : P.follows .mixedOrders = true)
  (hk : (Region.noSelect ops.toArray && ordOk ops.toArray ⟨q, .piv i l2⟩ (Array.replicate ops.toArray.size false) l && Nat.beq (l.length + (l2.length + 1)) ops.length) = true)
  (h : ∀ w', St w0 M w' H Z → More H Z H Z → WD P N (SS w0 M H Z) ops ⟨q, .piv i l2⟩ l f w' Q) (hok : okR N ops = true := by rfl) : WC P N (.region id ops.toArray true) f w Q := by
 simp only [Bool.and_eq_true] at hk
 exact WC.draw (SS w0 M H Z) ⟨q, .piv i l2⟩ l hm hk.1.1 hk.1.2 hk.2 ((More.refl H Z).ss hS.drew) (h _ hS.drew (.refl _ _)) hok
theorem SS.any (hS : St w0 M w H Z) : SS w0 M [] [] w := ⟨H, Z, by simpa using hS⟩
theorem More.none : More [] [] H Z := ⟨H, Z, by simp, by simp⟩
theorem WD.pivStore {qs : List Nat} {ty : TypeId} {x y : Operand} {b off : Nat} {vs : List Value} {S : World → Prop} (hS : St w0 M w H Z) (ho : (ix ops i).op = .store ty x y) (hx : ev f x = .pointer (some ⟨b, off, none⟩)) (hy : cellsO (ev f y) = some vs) (hr : StB b off vs H H') (hn : tySize P ty = some vs.length)
  (hi : Nat.blt i ops.length = true) (hg : wants ops f (ix ops i) = true) (hd : (ix ops i).dst = none) (h : ∀ w', St w0 M w' H' Z → More [] [] H' Z → WD P N (SS w0 M [] []) ops ⟨qs, .nil⟩ l f w' Q) : WD P N S ops ⟨qs, .piv i l⟩ [] f w Q := by
 refine .piv (S2 := SS w0 M [] []) ?_
 obtain ⟨t, cs, cs', hrp, hs⟩ := hr.repl
 have hy' := cellsO_eq hy
 have hb := hS.holds _ hrp.mem
 have hrun := run_storeBox (P := P) ho hx hb (by rw [hy']; exact hs) (by rw [hy']; exact hn)
 have hS' := hS.setBox hrp
 exact .unit0 hi hg hd hrun (SS.any hS') (h _ hS' .none)
end
theorem Pu {p : Prop} (h : p := by repeat (first | exact Pulls.nil | (apply Pulls.cons; focus (repeat (first | exact Pull.here | apply Pull.there))))) : p := h
open Go
theorem le4_len (n : Nat) : (le4 n).length = 4 := rfl
end Go.J
namespace Go.Proofs.YtccfiohagbneaaaGreatDoor
open Go Go.J Go.RowKit
theorem uintE_put (n : Nat) (hn : n < 9223372036854775808) (t : List UInt8) : uintE (putN n ++ t) = (n, (putN n).length, 0) := by
 have h := varE_put n n (Nat.le_refl _) 0 0 t (.inr rfl) Zo (by simp; omega)
 simp only [Nat.pow_zero, Nat.mul_one, Nat.zero_add] at h
 unfold uintE
 rw [h]
 simp [hn]
theorem rtextE_text (s t : List UInt8) (h : s.length < 9223372036854775808) : rtextE (putN s.length ++ (s ++ t)) = (s, s.length + (putN s.length).length, 0) := by
 unfold rtextE
 rw [uintE_put _ h]
 simp only [if_true, List.length_append]
 rw [if_pos Zo]
 simp
theorem readE_pack (s t : List UInt8) (h : s.length < 9223372036854775808) : readE (packE s ++ t) = (s, (packE s).length, 0) := by
 have e : packE s ++ t = putN s.length ++ (s ++ (le4 (sumE s) ++ t)) := by simp [packE, textE]
 have hl : (packE s).length = s.length + (putN s.length).length + 4 := by simp [packE, textE, le4_len]; omega
 unfold readE
 rw [e, rtextE_text s _ h, ← e]
 simp only [if_true]
 rw [if_neg (by simp [hl]), if_pos (by rw [← hl]; simp), ← hl]
open Go Go.J Go.RowKit
def frames (l : List (List UInt8)) : List UInt8 := l.flatMap packE
theorem frames_app (a b : List (List UInt8)) : frames (a ++ b) = frames a ++ frames b := List.flatMap_append
theorem frames_one (s : List UInt8) : frames [s] = packE s := by simp [frames]
theorem packE_len (s : List UInt8) : (packE s).length = (putN s.length).length + s.length + 4 := by simp [packE, textE, le4_len]; omega
theorem putN_pos (n : Nat) : 0 < (putN n).length := by
 rcases Nat.eq_zero_or_pos (putN n).length with h | h
 ·exact absurd (List.eq_nil_of_length_eq_zero h) (putN_ne n)
 ·exact h
theorem scanF_fuel : ∀ (k k' : Nat) (t : List UInt8), t.length ≤ k → t.length ≤ k' → scanF k t = scanF k' t
 |0, k', t, h, h' => by
  obtain rfl : t = [] := List.eq_nil_of_length_eq_zero Zo
  cases k' with
  |zero => rfl
  |succ k' => simp [scanF]
 |k + 1, 0, t, h, h' => by
  obtain rfl : t = [] := List.eq_nil_of_length_eq_zero Zo
  simp [scanF]
 |k + 1, k' + 1, t, h, h' => by
  unfold scanF
  by_cases h0 : t = []
  ·rw [if_pos h0, if_pos h0]
  ·rw [if_neg h0, if_neg h0]
   by_cases he : (readE t).2.2 = 0
   ·rw [if_pos he, if_pos he]
    have := readE_le t he
    have hd : (t.drop (readE t).2.1).length ≤ k ∧ (t.drop (readE t).2.1).length ≤ k' := by rw [List.length_drop]; omega
    rw [scanF_fuel k k' _ hd.1 hd.2]
   ·rw [if_neg he, if_neg he]
theorem scanE_nil : scanE [] = ([], 0, 0) := rfl
theorem scanE_bad {t : List UInt8} (h0 : t ≠ []) (he : (readE t).2.2 ≠ 0) : scanE t = ([], 0, (readE t).2.2) := by
 unfold scanE
 cases t with
 |nil => exact absurd rfl h0
 |cons c t => rw [List.length_cons]; unfold scanF; rw [if_neg h0, if_neg he]
theorem scanE_cons (s t : List UInt8) (h : s.length < 9223372036854775808) : scanE (packE s ++ t) = (s :: (scanE t).1, (packE s).length + (scanE t).2.1, (scanE t).2.2) := by
 have hr := readE_pack s t h
 have hl := packE_len s
 have hp := putN_pos s.length
 unfold scanE
 obtain ⟨k, hk⟩ : ∃ k, (packE s ++ t).length = k + 1 := ⟨(packE s ++ t).length - 1, by rw [List.length_append]; omega⟩
 rw [hk]
 have hne : packE s ++ t ≠ [] := fun hh => by rw [hh] at hk; simp at hk
 conv => lhs; unfold scanF
 rw [if_neg hne, hr]
 simp only [if_true]
 have hd : (packE s ++ t).drop (packE s).length = t := by simp
 rw [hd, scanF_fuel k t.length t (by rw [List.length_append] at hk; omega) (Nat.le_refl _)]
theorem scanE_frames : ∀ (l : List (List UInt8)) (t : List UInt8), (∀ s ∈ l, s.length < 9223372036854775808) → scanE (frames l ++ t) = (l ++ (scanE t).1, (frames l).length + (scanE t).2.1, (scanE t).2.2)
 |[], t, _ => by simp [frames]
 |s :: l, t, h => by
  have e : frames (s :: l) ++ t = packE s ++ (frames l ++ t) := by simp [frames]
  have e2 : (frames (s :: l)).length = (packE s).length + (frames l).length := by simp [frames]
  rw [e, scanE_cons s _ (h s (by simp)), scanE_frames l t (fun u hu => h u (by simp [hu])), e2]
  simp [Nat.add_assoc]
theorem scanE_whole (l : List (List UInt8)) (h : ∀ s ∈ l, s.length < 9223372036854775808) : scanE (frames l) = (l, (frames l).length, 0) := by
 have := scanE_frames l [] h
 simpa [scanE_nil] using this
theorem varE_short : ∀ (k m : Nat), m ≤ k → ∀ (i x j : Nat), i ≤ 9 → m * 128 ^ i < 18446744073709551616 → j < (putN m).length → varE ((putN m).take j) i x = (0, 0, 2)
 |k, m, hk, i, x, 0, _, _, _ => by simp [varE]
 |k, m, hk, i, x, j + 1, hi, hm, hj => by
  by_cases hs : m < 128
  ·rw [putN_small hs] at hj; simp at hj
  ·rw [putN_big hs] at hj ⊢
   rw [List.take_succ_cons]
   have hc : (UInt8.ofNat (m % 128 + 128)).toNat = m % 128 + 128 := ofNat_toNat Zo
   have hp : 0 < 128 ^ i := Nat.pow_pos Zo
   have hi9 : i ≠ 9 := by
    rintro rfl
    rw [pow128_9] at hm; omega
   unfold varE
   rw [hc, if_neg Zo, if_pos Zo]
   cases k with
   |zero => omega
   |succ k =>
    refine varE_short k (m / 128) Zo (i + 1) _ j Zo ?_ (by simpa using hj)
    have : m / 128 * 128 ≤ m := Nat.div_mul_le_self ..
    calc m / 128 * 128 ^ (i + 1) = m / 128 * 128 * 128 ^ i := by rw [Nat.pow_succ, Nat.mul_comm (128 ^ i), Nat.mul_assoc]
     _ ≤ m * 128 ^ i := Nat.mul_le_mul_right _ this
     _ < _ := hm
theorem readE_torn (s : List UInt8) (j : Nat) (h : s.length < 9223372036854775808) (hj : j < (packE s).length) : readE ((packE s).take j) = ([], 0, 2) := by
 have hl := packE_len s
 unfold readE
 by_cases h1 : j < (putN s.length).length
 ·have e : (packE s).take j = (putN s.length).take j := by unfold packE textE; rw [List.append_assoc, List.take_append_of_le_length Zo]
  have : uintE ((putN s.length).take j) = (0, 0, 2) := by
   unfold uintE
   rw [varE_short _ s.length (Nat.le_refl _) 0 0 j Zo (by simp; omega) h1]
   rfl
  have hr : rtextE ((packE s).take j) = ([], 0, 2) := by rw [e]; unfold rtextE; rw [this]; rfl
  rw [hr]; rfl
 ·have e : (packE s).take j = putN s.length ++ (s ++ le4 (sumE s)).take (j - (putN s.length).length) := by
   unfold packE textE; rw [List.append_assoc, List.take_append, List.take_of_length_le Zo]
  have hu := uintE_put s.length h ((s ++ le4 (sumE s)).take (j - (putN s.length).length))
  rw [← e] at hu
  have hlen : ((packE s).take j).length = j := by rw [List.length_take]; omega
  by_cases h2 : j < (putN s.length).length + s.length
  ·have hr : rtextE ((packE s).take j) = ([], 0, 2) := by
    unfold rtextE; rw [hu]
    simp only [if_true]
    rw [if_neg (by rw [hlen]; omega)]
   rw [hr]; rfl
  ·have hr : rtextE ((packE s).take j) = (s, s.length + (putN s.length).length, 0) := by
    have e3 : (s ++ le4 (sumE s)).take (j - (putN s.length).length) = s ++ (le4 (sumE s)).take (j - (putN s.length).length - s.length) := by
     rw [List.take_append, List.take_of_length_le (l := s) Zo]
    rw [e, e3]
    exact rtextE_text s _ h
   rw [hr]
   simp only [if_true]
   rw [if_pos (by rw [hlen]; omega)]
theorem scanE_torn (l : List (List UInt8)) (s : List UInt8) (j : Nat) (h : ∀ u ∈ l ++ [s], u.length < 9223372036854775808) (hj : j < (packE s).length) (h0 : 0 < j) :
  scanE (frames l ++ (packE s).take j) = (l, (frames l).length, 2) := by
 have hr := readE_torn s j (h s (by simp)) hj
 have hne : (packE s).take j ≠ [] := fun hh => by
  have := congrArg List.length hh
  rw [List.length_take, List.length_nil] at this; omega
 rw [scanE_frames l _ (fun u hu => h u (by simp [hu])), scanE_bad hne (by rw [hr]; decide), hr]
 simp
open Go Go.J Go.RowKit
def Dk.Sm (D : Dk) (B : Nat) : Prop := D.limits = [] ∧ ∀ x ∈ D.items, x.2.data.length ≤ B
theorem mget_mem {β : Type} {m : List (List UInt8 × β)} {x : List UInt8} {v : β} (h : mget m x = some v) : (x, v) ∈ m := by
 induction m with
 |nil => simp [mget] at h
 |cons p r ih =>
  obtain ⟨k, u⟩ := p
  unfold mget at h
  by_cases e : x = k
  ·rw [if_pos e] at h; simp only [Option.some.injEq] at h; subst e; subst h; exact List.mem_cons_self ..
  ·rw [if_neg e] at h; exact List.mem_cons_of_mem _ (ih h)
theorem mem_mset {β : Type} {m : List (List UInt8 × β)} {x : List UInt8} {v : β} {y : List UInt8 × β} (h : y ∈ mset m x v) : y ∈ m ∨ y.2 = v := by
 induction m with
 |nil => simp [mset] at h; exact .inr (by rw [h])
 |cons p r ih =>
  obtain ⟨k, u⟩ := p
  unfold mset at h
  by_cases e : x = k
  ·rw [if_pos e] at h
   rcases List.mem_cons.1 h with rfl | h
   ·exact .inr rfl
   ·exact .inl (List.mem_cons_of_mem _ h)
  ·rw [if_neg e] at h
   rcases List.mem_cons.1 h with rfl | h
   ·exact .inl (List.mem_cons_self ..)
   ·rcases ih h with h | h
    ·exact .inl (List.mem_cons_of_mem _ h)
    ·exact .inr h
theorem Dk.Sm.at_ {D : Dk} {B : Nat} (h : D.Sm B) (p : List UInt8) : (D.at p).data.length ≤ B := by
 unfold Dk.at
 cases e : mget D.items p with
 |none => exact Nat.zero_le _
 |some x => exact h.2 _ (mget_mem e)
theorem Dk.Sm.no {D : Dk} {B : Nat} (h : D.Sm B) (p : List UInt8) : mget D.limits p = none := by rw [h.1]; rfl
theorem Dk.step_items (D : Dk) : D.step.items = D.items := by unfold Dk.step; split <;> rfl
theorem Dk.step_limits (D : Dk) : D.step.limits = D.limits := by unfold Dk.step; split <;> rfl
theorem Dk.step_at (D : Dk) (p : List UInt8) : D.step.at p = D.at p := by unfold Dk.at; rw [Dk.step_items]
theorem Dk.Sm.step {D : Dk} {B : Nat} (h : D.Sm B) : D.step.Sm B := ⟨by rw [Dk.step_limits]; exact h.1, by rw [Dk.step_items]; exact h.2⟩
theorem Dk.Sm.set {D : Dk} {B : Nat} (h : D.Sm B) {p : List UInt8} {x : It} (hx : x.data.length ≤ B) : (D.set p x).Sm B :=
 ⟨h.1, fun y hy => by
  rcases mem_mset hy with h1 | h1
  ·exact h.2 y h1
  ·rw [h1]; exact hx⟩
theorem Dk.Sm.put {D : Dk} {B : Nat} (h : D.Sm B) {p : List UInt8} {x : It} (hx : x.data.length ≤ B) : Dk.Sm { D with items := mset D.items p x } B :=
 ⟨h.1, fun y hy => by
  rcases mem_mset hy with h1 | h1
  ·exact h.2 y h1
  ·rw [h1]; exact hx⟩
theorem Dk.Sm.del {D : Dk} {B : Nat} (h : D.Sm B) {p : List UInt8} : (D.del p).Sm B := ⟨h.1, fun y hy => h.2 y ((mdel_sub _ _).mem hy)⟩
theorem Dk.Sm.write {D : Dk} {B : Nat} (h : D.Sm B) {p s : List UInt8} (hs : s.length ≤ B) : (D.write p s).2.Sm B := by
 unfold Dk.write
 repeat' split
 all_goals first | exact h | exact h.step | exact h.step.set hs
theorem Dk.Sm.sync {D : Dk} {B : Nat} (h : D.Sm B) {p : List UInt8} : (D.sync p).2.Sm B := by
 unfold Dk.sync
 repeat' split
 all_goals first | exact h | exact h.step | exact h.step.put (h.step.at_ p)
theorem Dk.Sm.rename {D : Dk} {B : Nat} (h : D.Sm B) {p r : List UInt8} : (D.rename p r).2.Sm B := by
 unfold Dk.rename
 repeat' split
 all_goals first | exact h | exact h.step | exact h.step.del.set (h.at_ p)
def Dk.fill (D : Dk) (p s : List UInt8) : Int × Dk :=
 if (D.write (p ++ [95, 116]) s).1 ≠ 0 then D.write (p ++ [95, 116]) s
 else if ((D.write (p ++ [95, 116]) s).2.sync (p ++ [95, 116])).1 ≠ 0 then (D.write (p ++ [95, 116]) s).2.sync (p ++ [95, 116])
 else ((D.write (p ++ [95, 116]) s).2.sync (p ++ [95, 116])).2.rename (p ++ [95, 116]) p
theorem Dk.Sm.fill {D : Dk} {B : Nat} (h : D.Sm B) {p s : List UInt8} (hs : s.length ≤ B) : (D.fill p s).2.Sm B := by
 unfold Dk.fill
 repeat' split
 all_goals first | exact h.write hs | exact (h.write hs).sync | exact (h.write hs).sync.rename
abbrev lgCells (q : Nat) (p : List UInt8) (A : Option Addr) (n cap : Nat) (dmg : Bool) : List Value := [.pointer (some ⟨q, 0, none⟩), str p, .slice A n cap, .bool dmg]
abbrev fillD (L q mb lb x1 x2 x3 : Nat) (D : Dk) (p t s : List UInt8) (A : Option Addr) (n cap : Nat) (dmg : Bool) : List Chunk :=
 [.box x1 29 [.pointer (some ⟨L, 0, none⟩)], .box x2 9 [str t], .box x3 9 [str s], .box L 112 [.pointer (some ⟨q, 0, none⟩), str p, .slice A n cap, .bool dmg], dkC q mb lb D]
section
variable {L q mb lb x1 x2 x3 : Nat} {D D' : Dk} {p t s : List UInt8} {A : Option Addr} {n cap : Nat} {dmg : Bool} {w0 : World} {e : Int}
theorem fill1_c (hi : InL w0 (fillD L q mb lb x1 x2 x3 D p t s A n cap dmg)) (hu : D.write t s = (e, D')) (hl : t.length ≤ 1099511627) (hno : D.Sm 1099511627776) (hdl : s.length ≤ 1099511627776) :
  Cal Tryz.prog 128 [.pointer (some ⟨x1, 0, none⟩), .pointer (some ⟨x2, 0, none⟩), .pointer (some ⟨x3, 0, none⟩)] w0
   (fun v w' => v = .int .i64 e ∧ MutL w0 w' (fillD L q mb lb x1 x2 x3 D p t s A n cap dmg) (fillD L q mb lb x1 x2 x3 D' p t s A n cap dmg)) := by
 refine Cal.mkL hi Zk Tryz.func128 rfl rfl fun hS => ?_
 repeat' (first | (show WL _ _ _ _ _ _ _; first | refine WL.pure rfl rfl rfl rfl ?_ | refine WL.nil ?_) | (show WC _ _ _ _ _ _; first | refine WC.seq ?_ | refine WC.region ?_ | refine WC.ret ?_ | (show WC _ _ (Code.region _ (List.toArray [_, _, _, _, _, _, _, _]) true) _ _ _; refine WC.drawL [dkC q mb lb D] hS Pu [0,1,2,3,4,5,7] [0,1,2,3,4,5,6,7] Zk Zk ?_; clear hS; intro w hS hM)) | (show WD _ _ _ _ _ _ _ _ _; first | refine WD.pure rfl rfl rfl rfl rfl ?_ | refine WD.nil ?_ | refine WD.load rfl rfl (LdOk.box (by repeat (first | exact Zh | apply List.Mem.tail)) rfl) rfl rfl rfl rfl ?_ | (refine WD.callL (D := [dkC q mb lb D]) hS Pu (.refl _ _) rfl rfl (fun hI => write_c t s hI.head hI.headB hl (hno.no _) hdl (hno.at_ _)) rfl rfl rfl rfl rfl ?_; rintro v w ⟨rfl, hm⟩; rw [hu] at hm ⊢; refine ⟨_, .of1 hm, fun hS hM => ?_⟩; clear hm)) | refine seqQ_n ?_)
 exact fin1r rfl rfl ⟨rfl, hS.mutLp Pu⟩
theorem fill2_c (hi : InL w0 (fillD L q mb lb x1 x2 x3 D p t s A n cap dmg)) (hu : D.sync t = (e, D')) (hl : t.length ≤ 1099511627) :
  Cal Tryz.prog 129 [.pointer (some ⟨x1, 0, none⟩), .pointer (some ⟨x2, 0, none⟩)] w0
   (fun v w' => v = .int .i64 e ∧ MutL w0 w' (fillD L q mb lb x1 x2 x3 D p t s A n cap dmg) (fillD L q mb lb x1 x2 x3 D' p t s A n cap dmg)) := by
 refine Cal.mkL hi Zk Tryz.func129 rfl rfl fun hS => ?_
 repeat' (first | (show WL _ _ _ _ _ _ _; first | refine WL.pure rfl rfl rfl rfl ?_ | refine WL.nil ?_) | (show WC _ _ _ _ _ _; first | refine WC.seq ?_ | refine WC.region ?_ | refine WC.ret ?_ | (show WC _ _ (Code.region _ (List.toArray [_, _, _, _, _, _, _]) true) _ _ _; refine WC.drawL [dkC q mb lb D] hS Pu [0,1,2,3,4,6] [0,1,2,3,4,5,6] Zk Zk ?_; clear hS; intro w hS hM)) | (show WD _ _ _ _ _ _ _ _ _; first | refine WD.pure rfl rfl rfl rfl rfl ?_ | refine WD.nil ?_ | refine WD.load rfl rfl (LdOk.box (by repeat (first | exact Zh | apply List.Mem.tail)) rfl) rfl rfl rfl rfl ?_ | (refine WD.callL (D := [dkC q mb lb D]) hS Pu (.refl _ _) rfl rfl (fun hI => sync_c t hI.head hI.headB hl) rfl rfl rfl rfl rfl ?_; rintro v w ⟨rfl, hm⟩; rw [hu] at hm ⊢; refine ⟨_, .of1 hm, fun hS hM => ?_⟩; clear hm)) | refine seqQ_n ?_)
 exact fin1r rfl rfl ⟨rfl, hS.mutLp Pu⟩
theorem fill3_c (hi : InL w0 (fillD L q mb lb x1 x2 x3 D p t s A n cap dmg)) (hu : D.rename t p = (e, D')) (hl : t.length ≤ 1099511627) (hl2 : p.length ≤ 1099511627) (hno : D.Sm 1099511627776) :
  Cal Tryz.prog 130 [.pointer (some ⟨x1, 0, none⟩), .pointer (some ⟨x2, 0, none⟩)] w0
   (fun v w' => v = .int .i64 e ∧ MutL w0 w' (fillD L q mb lb x1 x2 x3 D p t s A n cap dmg) (fillD L q mb lb x1 x2 x3 D' p t s A n cap dmg)) := by
 refine Cal.mkL hi Zk Tryz.func130 rfl rfl fun hS => ?_
 repeat' (first | (show WL _ _ _ _ _ _ _; first | refine WL.pure rfl rfl rfl rfl ?_ | refine WL.nil ?_) | (show WC _ _ _ _ _ _; first | refine WC.seq ?_ | refine WC.region ?_ | refine WC.ret ?_ | (show WC _ _ (Code.region _ (List.toArray [_, _, _, _, _, _, _, _, _, _, _]) true) _ _ _; refine WC.drawL [dkC q mb lb D] hS Pu [0,1,2,3,4,5,6,7,8,10] [0,1,2,3,4,5,6,7,8,9,10] Zk Zk ?_; clear hS; intro w hS hM)) | (show WD _ _ _ _ _ _ _ _ _; first | refine WD.pure rfl rfl rfl rfl rfl ?_ | refine WD.nil ?_ | refine WD.load rfl rfl (LdOk.box (by repeat (first | exact Zh | apply List.Mem.tail)) rfl) rfl rfl rfl rfl ?_ | (refine WD.callL (D := [dkC q mb lb D]) hS Pu (.refl _ _) rfl rfl (fun hI => rename_c t p hI.head hI.headB hl hl2 (hno.no _) (hno.at_ _) (hno.at_ _)) rfl rfl rfl rfl rfl ?_; rintro v w ⟨rfl, hm⟩; rw [hu] at hm ⊢; refine ⟨_, .of1 hm, fun hS hM => ?_⟩; clear hm)) | refine seqQ_n ?_)
 exact fin1r rfl rfl ⟨rfl, hS.mutLp Pu⟩
end
theorem fill_c {L q mb lb : Nat} {D D' : Dk} {p s : List UInt8} {A : Option Addr} {n cap : Nat} {dmg : Bool} {w0 : World} {e : Int}
  (hi : InL w0 [.box L 112 [.pointer (some ⟨q, 0, none⟩), str p, .slice A n cap, .bool dmg], dkC q mb lb D]) (hu : D.fill p s = (e, D')) (hl : p.length ≤ 1099511620) (hno : D.Sm 1099511627776) (hdl : s.length ≤ 1099511627776) :
  Cal Tryz.prog 68 [.pointer (some ⟨L, 0, none⟩), str s] w0
   (fun v w' => v = .int .i64 e ∧ MutL w0 w' [.box L 112 [.pointer (some ⟨q, 0, none⟩), str p, .slice A n cap, .bool dmg], dkC q mb lb D] [.box L 112 [.pointer (some ⟨q, 0, none⟩), str p, .slice A n cap, .bool dmg], dkC q mb lb D']) := by
 refine Cal.mkL hi Zk Tryz.func68 rfl rfl fun hS => ?_
 obtain ⟨t, ht⟩ : ∃ t, t = p ++ [95, 116] := ⟨_, rfl⟩
 have htl : t.length ≤ 1099511627 := by rw [ht]; simp; omega
 rcases h1 : D.write t s with ⟨e1, D1⟩
 rcases h2 : D1.sync t with ⟨e2, D2⟩
 rcases h3 : D2.rename t p with ⟨e3, D3⟩
 have m1 : D1.Sm 1099511627776 := by have := hno.write (p := t) hdl; rwa [h1] at this
 have m2 : D2.Sm 1099511627776 := by have := m1.sync (p := t); rwa [h2] at this
 have hu : (if e1 ≠ 0 then (e1, D1) else if e2 ≠ 0 then (e2, D2) else (e3, D3)) = (e, D') := by
  rw [← hu]; unfold Dk.fill; rw [← ht, h1]; dsimp only; rw [h2]; dsimp only; rw [h3]
 repeat' (first | (show WL _ _ _ _ _ _ _; first | (refine WL.mkF rfl rfl rfl rfl rfl rfl ?_) | refine WL.pure rfl rfl rfl rfl ?_ | refine WL.nil ?_ | refine WL.load hS rfl rfl (LdOk.box (by repeat (first | exact Zh | apply List.Mem.tail)) rfl) rfl rfl rfl ?_ | refine WL.add rfl rfl rfl Zo rfl rfl rfl ?_ | (refine WL.index (j := 1) rfl rfl rfl rfl Zo rfl rfl rfl rfl ?_) | (refine WL.index (j := 2) rfl rfl rfl rfl Zo rfl rfl rfl rfl ?_) | (refine WL.cat rfl rfl rfl (by simp; omega) rfl rfl rfl ?_; rw [← ht]) | (refine WL.callFL (D := fillD L q mb lb _ _ _ D p t s A n cap dmg) hS Pu rfl rfl rfl (fun hI => fill1_c hI h1 htl hno hdl) rfl rfl rfl ?_; rintro v w ⟨rfl, hm⟩ hS; replace hS := hS _ hm; clear hm) | (refine WL.callFL (D := fillD L q mb lb _ _ _ D1 p t s A n cap dmg) hS Pu rfl rfl rfl (fun hI => fill2_c hI h2 htl) rfl rfl rfl ?_; rintro v w ⟨rfl, hm⟩ hS; replace hS := hS _ hm; clear hm) | (refine WL.callFL (D := fillD L q mb lb _ _ _ D2 p t s A n cap dmg) hS Pu rfl rfl rfl (fun hI => fill3_c hI h3 htl Zo m2) rfl rfl rfl ?_; rintro v w ⟨rfl, hm⟩ hS; replace hS := hS _ hm; clear hm) | (refine WL.store hS rfl rfl rfl Sb rfl rfl rfl ?_; intro w hS) | (refine WL.box hS rfl rfl rfl rfl rfl ?_; intro w b hS) | (refine WL.alloc hS rfl rfl rfl rfl rfl rfl ?_; intro w b hS) | refine WL.index (j := 0) rfl rfl rfl rfl Zo rfl rfl rfl rfl ?_ | (refine WL.slit hS rfl rfl rfl rfl rfl ?_; intro w b hS)) | (show WC _ _ _ _ _ _; first | refine WC.seq ?_ | refine WC.region ?_ | refine WC.block ?_ | refine WC.skip ?_ | refine WC.exit ?_ | refine WC.ret ?_ | (refine WC.rounds 3 ?_) | refine WC.condT rfl Zd ?_ | refine WC.condF rfl Zd ?_ | (refine WC.cond rfl (fun h => ?_) (fun h => ?_) <;> (try simp only [Ya,Yb,Yc,Yd,Ye,Yf,Yg,Yh,Yi,Yj,Yk,Yl,Ym,Yn,Yo,Yp] at h) <;> (try exact Zx))) | refine seqQ_n ?_ | refine blkQ_n ?_ | refine seqQ_x ?_ | refine seqQ_r ?_ | refine blkQ_r ?_ | refine blkQ_hit rfl ?_ | refine rdQ_n ?_ | refine rdQ_x ?_ | refine rdQ_r ?_)
 all_goals
  clear h1 h2 h3 m1 m2
  simp [*] at hu
  obtain ⟨hu1, hu2⟩ := hu
  subst hu2
  exact fin1r rfl rfl ⟨vint Zo, hS.mutLp Pu⟩
structure Lg where
 p : List UInt8
 recs : List (List UInt8)
 dmg : Bool
def lgφ (L q : Nat) (G : Lg) (D : List Chunk) : Prop := ∃ A cap, D = [.box L 112 [.pointer (some ⟨q, 0, none⟩), str G.p, .slice A G.recs.length cap, .bool G.dmg], .own (.slice A G.recs.length cap) 9 1 G.recs.length (strs G.recs)]
abbrev lgC (L q : Nat) (G : Lg) (fp : List Nat) : Chunk := objC (lgφ L q G) fp
def Lg.reset (G : Lg) (e : Int) : Lg := if e = 0 then { G with recs := [] } else G
theorem reset_c {L q mb lb : Nat} {D D' : Dk} {G : Lg} {fp : List Nat} {w0 : World} {e : Int} (hi : InL w0 [lgC L q G fp, dkC q mb lb D]) (hu : D.fill G.p [] = (e, D')) (hl : G.p.length ≤ 1099511620) (hno : D.Sm 1099511627776) :
  Cal Tryz.prog 17 [.pointer (some ⟨L, 0, none⟩)] w0
   (fun v w' => v = .int .i64 e ∧ ∃ fp', MutL w0 w' [lgC L q G fp, dkC q mb lb D] [lgC L q (G.reset e) fp', dkC q mb lb D']) := by
 refine Cal.mkL hi Zk Tryz.func17 rfl rfl fun hS => ?_
 obtain ⟨_, ⟨A, cap, rfl⟩, hfp, hS⟩ := St.objOpen hS
 replace hS : St w0 _ w0 [.box L 112 [.pointer (some ⟨q, 0, none⟩), str G.p, .slice A G.recs.length cap, .bool G.dmg], .own (.slice A G.recs.length cap) 9 1 G.recs.length (strs G.recs), dkC q mb lb D] _ := hS
 repeat' (first | (show WL _ _ _ _ _ _ _; first | refine WL.pure rfl rfl rfl rfl ?_ | refine WL.nil ?_ | (refine WL.callL (D := [.box L 112 [.pointer (some ⟨q, 0, none⟩), str G.p, .slice A G.recs.length cap, .bool G.dmg], dkC q mb lb D]) hS Pu rfl rfl (fun hI => fill_c hI hu hl hno (by simp)) rfl rfl rfl ?_; rintro v w ⟨rfl, hm⟩ hS; replace hS := hS _ hm; clear hm) | (refine WL.store hS rfl rfl rfl Sb rfl rfl rfl ?_; intro w hS)) | (show WC _ _ _ _ _ _; first | refine WC.seq ?_ | refine WC.region ?_ | refine WC.skip ?_ | refine WC.ret ?_ | refine WC.condF rfl Zr ?_ | (refine WC.cond rfl (fun h => ?_) (fun h => ?_) <;> (try simp only [Ya,Yb,Yc,Yd,Ye,Yf,Yg,Yh,Yi,Yj,Yk,Yl,Ym,Yn,Yo,Yp] at h) <;> (try exact Zx))) | refine seqQ_n ?_ | refine seqQ_r ?_)
 ·rw [show G.reset e = G from if_neg h]
  have hS := St.objClose (φ := lgφ L q G) (hS.pulls (D := [.box L 112 [.pointer (some ⟨q, 0, none⟩), str G.p, .slice A G.recs.length cap, .bool G.dmg], .own (.slice A G.recs.length cap) 9 1 G.recs.length (strs G.recs)]) Pu) ⟨A, cap, rfl⟩
  exact fin1r rfl rfl ⟨rfl, _, hS.mutLp Pu⟩
 ·subst h
  have hS := hS.nilRow 9 1
  have hS := St.objClose (φ := lgφ L q (G.reset 0)) (hS.pulls (D := [.box L 112 [.pointer (some ⟨q, 0, none⟩), str G.p, .slice none 0 0, .bool G.dmg], .own (.slice none 0 0) 9 1 0 []]) Pu) ⟨none, 0, rfl⟩
  exact fin1r rfl rfl ⟨rfl, _, hS.mutLp Pu⟩
theorem strs_one (l : List (List UInt8)) : one (strs l) = true := by
 unfold one
 rw [List.all_eq_true]
 intro x hx
 obtain ⟨s, _, hx⟩ := List.mem_flatMap.1 hx
 rw [List.mem_singleton.1 hx]; rfl
def Lg.push (G : Lg) (r : List UInt8) : Lg := { G with recs := G.recs ++ [r] }
def walAdd (G : Lg) (D : Dk) (r : List UInt8) : Int × Lg × Dk :=
 if (D.append G.p (packE r)).1 ≠ 0 then ((D.append G.p (packE r)).1, G, (D.append G.p (packE r)).2)
 else if ((D.append G.p (packE r)).2.sync G.p).1 ≠ 0 then (((D.append G.p (packE r)).2.sync G.p).1, G, ((D.append G.p (packE r)).2.sync G.p).2)
 else (0, G.push r, ((D.append G.p (packE r)).2.sync G.p).2)
theorem add_c {L q mb lb : Nat} {D D' : Dk} {G G' : Lg} {fp : List Nat} {w0 : World} {e : Int} (r : List UInt8) (hi : InL w0 [lgC L q G fp, dkC q mb lb D]) (hu : walAdd G D r = (e, G', D')) (hl : G.p.length ≤ 1099511620) (hno : D.limits = [])
  (hr : r.length ≤ 1073741824) (hd : (D.step.at G.p).data.length ≤ 549755813888) (hn : G.recs.length ≤ 4194304) :
  Cal Tryz.prog 15 [.pointer (some ⟨L, 0, none⟩), str r] w0
   (fun v w' => v = .int .i64 e ∧ ∃ fp', MutL w0 w' [lgC L q G fp, dkC q mb lb D] [lgC L q G' fp', dkC q mb lb D']) := by
 refine Cal.mkL hi Zk Tryz.func15 rfl rfl fun hS => ?_
 obtain ⟨_, ⟨A, cap, rfl⟩, hfp, hS⟩ := St.objOpen hS
 replace hS : St w0 _ w0 [.box L 112 [.pointer (some ⟨q, 0, none⟩), str G.p, .slice A G.recs.length cap, .bool G.dmg], .own (.slice A G.recs.length cap) 9 1 G.recs.length (strs G.recs), dkC q mb lb D] _ := hS
 have hpl := packE_len r
 have hpn := putN_len10 (n := r.length) Zo
 rcases h1 : D.append G.p (packE r) with ⟨e1, D1⟩
 rcases h2 : D1.sync G.p with ⟨e2, D2⟩
 have hu : (if e1 ≠ 0 then (e1, G, D1) else if e2 ≠ 0 then (e2, G, D2) else (0, G.push r, D2)) = (e, G', D') := by
  rw [← hu]; unfold walAdd; rw [h1]; dsimp only; rw [h2]
 repeat' (first | (show WL _ _ _ _ _ _ _; first | refine WL.pure rfl rfl rfl rfl ?_ | refine WL.nil ?_ | refine WL.load hS rfl rfl (LdOk.box (by repeat (first | exact Zh | apply List.Mem.tail)) rfl) rfl rfl rfl ?_ | (refine WL.app hS rfl rfl rfl rfl (RdOk.box (by repeat (first | exact Zh | apply List.Mem.tail))) rfl rfl (fun A' cap' => Rp) Zo rfl rfl rfl ?_; intro A' cap' w hS) | (refine WL.store hS rfl rfl rfl Sb rfl rfl rfl ?_; intro w hS) | (refine WL.slit hS rfl rfl rfl rfl rfl ?_; intro w b hS)) | (show WC _ _ _ _ _ _; first | refine WC.seq ?_ | refine WC.region ?_ | refine WC.skip ?_ | refine WC.ret ?_ | (show WC _ _ (Code.region _ (List.toArray [_, _, _, _, _, _, _, _, _, _, _, _]) true) _ _ _; refine WC.drawL [dkC q mb lb D] hS Pu [0,1,2,3,4,5,6,7,8,11] [0,1,2,3,4,5,6,7,8,9,10,11] Zk Zk ?_; clear hS; intro w hS hM) | (show WC _ _ (Code.region _ (List.toArray [_, _, _, _, _, _, _, _, _, _]) true) _ _ _; refine WC.drawL [dkC q mb lb D1] hS Pu [0,1,2,3,4,5,6,7,9] [0,1,2,3,4,5,6,7,8,9] Zk Zk ?_; clear hS; intro w hS hM) | refine WC.condF rfl Zr ?_ | (refine WC.cond rfl (fun h => ?_) (fun h => ?_) <;> (try simp only [Ya,Yb,Yc,Yd,Ye,Yf,Yg,Yh,Yi,Yj,Yk,Yl,Ym,Yn,Yo,Yp] at h) <;> (try exact Zx))) | (show WD _ _ _ _ _ _ _ _ _; first | refine WD.pure rfl rfl rfl rfl rfl ?_ | refine WD.nil ?_ | refine WD.load rfl rfl (LdOk.box (by repeat (first | exact Zh | apply List.Mem.tail)) rfl) rfl rfl rfl rfl ?_ | (refine WD.calls hS hM rfl rfl (pack_c r _ Zo) rfl rfl rfl rfl rfl ?_; clear hS; rintro v w rfl hS) | (refine WD.callL (D := [dkC q mb lb D]) hS Pu (.refl _ _) rfl rfl (fun hI => append_c G.p (packE r) hI.head hI.headB Zo (by rw [hno]; rfl) Zo) rfl rfl rfl rfl rfl ?_; rintro v w ⟨rfl, hm⟩; rw [h1] at hm ⊢; refine ⟨_, .of1 hm, fun hS hM => ?_⟩; clear hm) | (refine WD.callL (D := [dkC q mb lb D1]) hS Pu (.refl _ _) rfl rfl (fun hI => sync_c G.p hI.head hI.headB Zo) rfl rfl rfl rfl rfl ?_; rintro v w ⟨rfl, hm⟩; rw [h2] at hm ⊢; refine ⟨_, .of1 hm, fun hS hM => ?_⟩; clear hm)) | refine seqQ_n ?_ | refine seqQ_r ?_)
 ·rw [if_pos h] at hu
  cases hu
  have hS := St.objClose (φ := lgφ L q G) (hS.pulls (D := [.box L 112 [.pointer (some ⟨q, 0, none⟩), str G.p, .slice A G.recs.length cap, .bool G.dmg], .own (.slice A G.recs.length cap) 9 1 G.recs.length (strs G.recs)]) Pu) ⟨A, cap, rfl⟩
  exact fin1r rfl rfl ⟨rfl, _, hS.mutLp Pu⟩
 ·rw [if_neg (fun hh => hh (by assumption)), if_pos h] at hu
  cases hu
  have hS := St.objClose (φ := lgφ L q G) (hS.pulls (D := [.box L 112 [.pointer (some ⟨q, 0, none⟩), str G.p, .slice A G.recs.length cap, .bool G.dmg], .own (.slice A G.recs.length cap) 9 1 G.recs.length (strs G.recs)]) Pu) ⟨A, cap, rfl⟩
  exact fin1r rfl rfl ⟨rfl, _, hS.mutLp Pu⟩
 ·rw [if_neg (fun hh => hh (by assumption)), if_neg (fun hh => hh (by assumption))] at hu
  cases hu
  have hS := St.objClose (φ := lgφ L q (G.push r)) (hS.pulls (D := [.box L 112 [.pointer (some ⟨q, 0, none⟩), str G.p, .slice A' (G.recs.length + 1) cap', .bool G.dmg], .own (.slice A' (G.recs.length + 1) cap') 9 1 (G.recs.length + 1) (strs G.recs ++ [str r])]) Pu) ⟨A', cap', by simp [Lg.push, strs_snoc]⟩
  exact fin1r rfl rfl ⟨rfl, _, hS.mutLp Pu⟩
theorem records_c {L q : Nat} {G : Lg} {fp : List Nat} {w0 : World} (hi : InL w0 [lgC L q G fp]) (hn : G.recs.length ≤ 4194304) :
  Cal Tryz.prog 29 [.pointer (some ⟨L, 0, none⟩)] w0 (fun v w' => ∃ A cap, v = .slice A G.recs.length cap ∧ MutL w0 w' [lgC L q G fp] [lgC L q G fp, .own (.slice A G.recs.length cap) 9 1 G.recs.length (strs G.recs)]) := by
 refine Cal.mkL hi Zk Tryz.func29 rfl rfl fun hS => ?_
 obtain ⟨_, ⟨A, cap, rfl⟩, hfp, hS⟩ := St.objOpen hS
 replace hS : St w0 _ w0 [.box L 112 [.pointer (some ⟨q, 0, none⟩), str G.p, .slice A G.recs.length cap, .bool G.dmg], .own (.slice A G.recs.length cap) 9 1 G.recs.length (strs G.recs)] _ := hS
 repeat' (first | (show WL _ _ _ _ _ _ _; first | refine WL.pure rfl rfl rfl rfl ?_ | refine WL.nil ?_ | refine WL.load hS rfl rfl (LdOk.box (by repeat (first | exact Zh | apply List.Mem.tail)) rfl) rfl rfl rfl ?_ | (have hS := hS.boxRow (n := 0) (size := 1) Rp rfl Zd; refine WL.appS (news := strs G.recs) hS rfl rfl rfl rfl (RdSl.own hS (by repeat (first | exact Zh | apply List.Mem.tail))) (by rw [strs_len, Nat.mul_one]) (strs_one _) (fun A' cap' => Rp) Zo rfl rfl rfl ?_; intro A' cap' w hS) | (refine WL.slit hS rfl rfl rfl rfl rfl ?_; intro w b hS)) | (show WC _ _ _ _ _ _; first | refine WC.seq ?_ | refine WC.region ?_ | refine WC.skip ?_ | refine WC.ret ?_ | refine WC.condF rfl Zr ?_) | refine seqQ_n ?_)
 simp only [repZ, List.nil_append, Nat.zero_add] at hS
 have hS := St.objClose (φ := lgφ L q G) (hS.pulls (D := [.box L 112 [.pointer (some ⟨q, 0, none⟩), str G.p, .slice A G.recs.length cap, .bool G.dmg], .own (.slice A G.recs.length cap) 9 1 G.recs.length (strs G.recs)]) Pu) ⟨A, cap, rfl⟩
 rw [← hfp] at hS
 exact fin1r rfl rfl ⟨_, _, by rw [Nat.zero_add], hS.mutLp Pu⟩
open Go Go.J Go.RowKit
def walOpen (D : Dk) (p : List UInt8) : Int × Option Lg × Dk :=
 if D.kind p = 0 then (if (D.fill p []).1 ≠ 0 then ((D.fill p []).1, none, (D.fill p []).2) else (0, some ⟨p, [], false⟩, (D.fill p []).2))
 else if (D.read p).2 ≠ 0 then ((D.read p).2, none, D)
 else if (scanE (D.read p).1).2.2 ≠ 0 then
  (if (D.fill p ((D.read p).1.take (scanE (D.read p).1).2.1)).1 ≠ 0 then ((D.fill p ((D.read p).1.take (scanE (D.read p).1).2.1)).1, none, (D.fill p ((D.read p).1.take (scanE (D.read p).1).2.1)).2)
   else (0, some ⟨p, (scanE (D.read p).1).1, decide ((scanE (D.read p).1).2.2 = 6 ∨ (scanE (D.read p).1).2.2 = 3)⟩, (D.fill p ((D.read p).1.take (scanE (D.read p).1).2.1)).2))
 else (0, some ⟨p, (scanE (D.read p).1).1, decide ((scanE (D.read p).1).2.2 = 6 ∨ (scanE (D.read p).1).2.2 = 3)⟩, D)
def openR (q mb lb : Nat) (D : Dk) (w0 : World) (r : Int × Option Lg × Dk) (v : Value) (w' : World) : Prop :=
 match r with
 |(e, none, D') => v = .tuple #[.pointer none, .int .i64 e] ∧ MutL w0 w' [dkC q mb lb D] [dkC q mb lb D']
 |(e, some G, D') => ∃ L fp, v = .tuple #[.pointer (some ⟨L, 0, none⟩), .int .i64 e] ∧ MutL w0 w' [dkC q mb lb D] [lgC L q G fp, dkC q mb lb D']
theorem scanF_le : ∀ (k : Nat) (t : List UInt8), (scanF k t).2.1 ≤ t.length
 |0, t => by simp [scanF]
 |k + 1, t => by
  unfold scanF
  by_cases h0 : t = []
  ·rw [if_pos h0]; exact Nat.zero_le _
  ·rw [if_neg h0]
   by_cases he : (readE t).2.2 = 0
   ·rw [if_pos he]
    have := scanF_le k (t.drop (readE t).2.1)
    rw [List.length_drop] at this
    have := readE_le t he
    show (readE t).2.1 + _ ≤ _
    omega
   ·rw [if_neg he]; exact Nat.zero_le _
theorem scanE_le (t : List UInt8) : (scanE t).2.1 ≤ t.length := scanF_le _ _
theorem open_c {q mb lb : Nat} {D : Dk} (p : List UInt8) {w0 : World} (hi : InL w0 [dkC q mb lb D]) (hl : p.length ≤ 1099511620) (hno : D.Sm 1099511627776) :
  Cal Tryz.prog 13 [.pointer (some ⟨q, 0, none⟩), str p] w0 (openR q mb lb D w0 (walOpen D p)) := by
 refine Cal.mkL hi Zk Tryz.func13 rfl rfl fun hS => ?_
 by_cases hk : D.kind p = 0
 ·rcases hf : D.fill p [] with ⟨e, D'⟩
  have hu : walOpen D p = if e ≠ 0 then (e, none, D') else (0, some ⟨p, [], false⟩, D') := by unfold walOpen; rw [if_pos hk, hf]
  rw [hu]
  repeat' (first | (show WL _ _ _ _ _ _ _; first | refine WL.pure rfl rfl rfl rfl ?_ | refine WL.nil ?_ | (refine WL.calls hS rfl rfl (dkind_c p (hS.holds (dkC q mb lb D) (by repeat (first | exact Zh | apply List.Mem.tail))).1) rfl rfl rfl ?_; rintro v w rfl hS; rw [hk]) | (have hS := St.objClose (φ := lgφ _ q ⟨p, [], false⟩) ((hS.nilRow 9 1).pulls (D := [.box _ 112 [.pointer (some ⟨q, 0, none⟩), str p, .slice none 0 0, .bool false], .own (.slice none 0 0) 9 1 0 []]) Pu) ⟨none, 0, rfl⟩; refine WL.callL (D := [lgC _ q ⟨p, [], false⟩ _, dkC q mb lb D]) hS Pu rfl rfl (fun hI => reset_c hI hf hl hno) rfl rfl rfl ?_; rintro v w ⟨rfl, fp', hm⟩ hS; replace hS := hS _ hm; clear hm) | (refine WL.box hS rfl rfl rfl rfl rfl ?_; intro w b hS) | refine WL.build rfl rfl rfl rfl rfl ?_) | (show WC _ _ _ _ _ _; first | refine WC.seq ?_ | refine WC.region ?_ | refine WC.skip ?_ | refine WC.ret ?_ | refine WC.condF rfl Zr ?_ | refine WC.condT rfl Zd ?_ | (refine WC.cond rfl (fun h => ?_) (fun h => ?_) <;> (try simp only [Ya,Yb,Yc,Yd,Ye,Yf,Yg,Yh,Yi,Yj,Yk,Yl,Ym,Yn,Yo,Yp] at h) <;> (try exact Zx))) | refine seqQ_n ?_ | refine seqQ_r ?_)
  ·rw [if_pos h]
   exact fin2r rfl rfl rfl ⟨rfl, hS.mutLp Pu⟩
  ·subst h
   rw [if_neg Zd]
   exact fin2r rfl rfl rfl ⟨_, _, rfl, hS.mutLp Pu⟩
 ·rcases hr : D.read p with ⟨s, er⟩
  have hsl : s.length ≤ 1099511627776 := by
   have h2 := hno.at_ p
   have : s = (D.read p).1 := by rw [hr]
   rw [this]
   unfold Dk.read
   repeat' split
   all_goals first | exact Nat.zero_le _ | exact h2
  rcases hsc : scanE s with ⟨rs, g, e⟩
  have hg : g ≤ s.length := by have := scanE_le s; rwa [hsc] at this
  rcases hf : D.fill p (s.take g) with ⟨ef, D'⟩
  have hu : walOpen D p = if er ≠ 0 then (er, none, D) else if e ≠ 0 then (if ef ≠ 0 then (ef, none, D') else (0, some ⟨p, rs, decide (e = 6 ∨ e = 3)⟩, D')) else (0, some ⟨p, rs, decide (e = 6 ∨ e = 3)⟩, D) := by
   unfold walOpen; rw [if_neg hk, hr]; dsimp only; rw [hsc]; dsimp only; rw [hf]
  rw [hu]
  clear hu
  by_cases h0 : er = 0
  ·subst h0
   rw [if_neg Zd]
   have hcases : (e = 6 ∧ decide (e = 6 ∨ e = 3) = true) ∨ (e = 3 ∧ decide (e = 6 ∨ e = 3) = true) ∨ (e = 0 ∧ decide (e = 6 ∨ e = 3) = false) ∨ (e ≠ 6 ∧ e ≠ 3 ∧ e ≠ 0 ∧ decide (e = 6 ∨ e = 3) = false) := by
    by_cases h6 : e = 6
    ·exact .inl ⟨h6, by simp [h6]⟩
    ·by_cases h3 : e = 3
     ·exact .inr (.inl ⟨h3, by simp [h3]⟩)
     ·by_cases hz : e = 0
      ·exact .inr (.inr (.inl ⟨hz, by simp [hz]⟩))
      ·exact .inr (.inr (.inr ⟨h6, h3, hz, by simp [h6, h3]⟩))
   have hfs := fun (w : World) => fscan_c s w hsl
   rw [hsc] at hfs
   dsimp only at hfs
   rcases hcases with ⟨rfl, hd⟩ | ⟨rfl, hd⟩ | ⟨rfl, hd⟩ | ⟨h6, h3, hz, hd⟩
   all_goals rw [hd]; clear hd
   all_goals
    repeat' (first | (show WL _ _ _ _ _ _ _; first | refine WL.pure rfl rfl rfl rfl ?_ | refine WL.nil ?_ | (refine WL.calls hS rfl rfl (dkind_c p (hS.holds (dkC q mb lb D) (by repeat (first | exact Zh | apply List.Mem.tail))).1) rfl rfl rfl ?_; rintro v w rfl hS) | (refine WL.calls hS rfl rfl (dread_c p (hS.holds (dkC q mb lb D) (by repeat (first | exact Zh | apply List.Mem.tail))).1) rfl rfl rfl ?_; rintro v w rfl hS; rw [hr]) | (refine WL.callG rfl rfl (hfs _) rfl rfl rfl ?_; rintro v w ⟨hupd, A, cap, rfl, hnew⟩; replace hS := hS.new hupd hnew; clear hnew hupd) | (refine WL.callL (D := [.box _ 112 [.pointer (some ⟨q, 0, none⟩), str p, .slice A rs.length cap, .bool _], dkC q mb lb D]) hS Pu rfl rfl (fun hI => fill_c hI hf hl hno (by rw [List.length_take]; omega)) rfl rfl rfl ?_; rintro v w ⟨rfl, hm⟩ hS; replace hS := hS _ hm; clear hm) | refine WL.highS rfl rfl rfl rfl Zo rfl rfl rfl ?_ | (refine WL.store hS rfl rfl rfl Sb rfl rfl rfl ?_; intro w hS) | (refine WL.box hS rfl rfl rfl rfl rfl ?_; intro w b hS) | refine WL.skip rfl rfl rfl ?_ | refine WL.build rfl rfl rfl rfl rfl ?_ | ((fail_if_success (refine WL.wanted rfl ?_)); refine WL.guard rfl rfl rfl (fun h => ?_) (fun h => ?_) <;> (try simp only [Ya,Yb,Yc,Yd,Ye,Yf,Yg,Yh,Yi,Yj,Yk,Yl,Ym,Yn,Yo,Yp] at h) <;> (try exact Zx))) | (show WC _ _ _ _ _ _; first | refine WC.seq ?_ | refine WC.region ?_ | refine WC.skip ?_ | refine WC.ret ?_ | refine WC.condF rfl Zr ?_ | refine WC.condT rfl Zd ?_ | refine WC.condF rfl Zd ?_ | refine WC.condT rfl (decide_eq_true Zw) ?_ | refine WC.condF rfl (decide_eq_false Zw) ?_ | (refine WC.cond rfl (fun h => ?_) (fun h => ?_) <;> (try simp only [Ya,Yb,Yc,Yd,Ye,Yf,Yg,Yh,Yi,Yj,Yk,Yl,Ym,Yn,Yo,Yp] at h) <;> (try exact Zx))) | refine seqQ_n ?_ | refine seqQ_r ?_)
   all_goals first
    |rw [if_pos (by first | decide | assumption), if_pos h]
     exact fin2r rfl rfl rfl ⟨rfl, hS.mutLp Pu⟩
    |(first | rw [if_pos (by first | decide | assumption), if_neg (fun hh => hh h)] | rw [if_neg Zd])
     try rw [decide_eq_false h3] at hS
     have hS := St.objClose (φ := lgφ _ q ⟨p, rs, _⟩) (hS.pulls (D := [.box _ 112 [.pointer (some ⟨q, 0, none⟩), str p, .slice A rs.length cap, .bool _], .own (.slice A rs.length cap) 9 1 rs.length (strs rs)]) Pu) ⟨A, cap, rfl⟩
     exact fin2r rfl rfl rfl ⟨_, _, rfl, hS.mutLp Pu⟩
  ·rw [if_pos h0]
   repeat' (first | (show WL _ _ _ _ _ _ _; first | refine WL.pure rfl rfl rfl rfl ?_ | refine WL.nil ?_ | (refine WL.calls hS rfl rfl (dkind_c p (hS.holds (dkC q mb lb D) (by repeat (first | exact Zh | apply List.Mem.tail))).1) rfl rfl rfl ?_; rintro v w rfl hS) | (refine WL.calls hS rfl rfl (dread_c p (hS.holds (dkC q mb lb D) (by repeat (first | exact Zh | apply List.Mem.tail))).1) rfl rfl rfl ?_; rintro v w rfl hS; rw [hr]) | (refine WL.box hS rfl rfl rfl rfl rfl ?_; intro w b hS) | refine WL.build rfl rfl rfl rfl rfl ?_) | (show WC _ _ _ _ _ _; first | refine WC.seq ?_ | refine WC.region ?_ | refine WC.skip ?_ | refine WC.ret ?_ | refine WC.condF rfl Zr ?_ | refine WC.condT rfl (decide_eq_true Zw) ?_ | refine WC.condF rfl (decide_eq_false Zw) ?_) | refine seqQ_n ?_ | refine seqQ_r ?_)
   exact fin2r rfl rfl rfl ⟨rfl, hS.mutLp Pu⟩
end Go.Proofs.YtccfiohagbneaaaGreatDoor

namespace Go.J
open Go Go.RowKit
def BsIs (b : Nat) (e : TypeId) (s : List UInt8) (w : World) : Prop := ∃ cs lo, w.heap[b]? = some (.cells ⟨byteC s ++ cs⟩ e (lo, lo + 1)) ∧ (byteC s ++ cs).length ≤ lo
theorem BsIs.local {b : Nat} {e : TypeId} {s : List UInt8} : Local [b] (BsIs b e s) := fun w w' h ⟨cs, lo, h1, h2⟩ => ⟨cs, lo, (h b (by simp)).trans h1, h2⟩
abbrev bsC (b : Nat) (e : TypeId) (s : List UInt8) : Chunk := .obj [b] (BsIs b e s)
theorem byteC_get {s : List UInt8} {j : Nat} {c : UInt8} (h : s[j]? = some c) : (byteC s)[j]? = some (.int .u8 (c.toNat : Int)) := by simp [byteC, h]
theorem BsIs.cell {b : Nat} {e : TypeId} {s : List UInt8} {w : World} (h : BsIs b e s w) : ∀ j u, (byteC s)[j]? = some u → w.cell? ⟨b, 0 + j, none⟩ = some u := by
 obtain ⟨cs, lo, h1, h2⟩ := h
 intro j u hj
 rw [Nat.zero_add, cell_of_row w b j _ e _ h1]
 have hlt := (List.getElem?_eq_some_iff.1 hj).1
 simp only [List.getElem?_toArray]
 rw [List.getElem?_append_left hlt]
 exact hj
section
variable {P : Program} {N : Fz} {f : Fr} {w w0 : World} {Q : Post} {ops l : List Oper} {o : Oper} {M : List Nat} {H H' : List Chunk} {Z : List Snap} {ρ : Operand → Value}
theorem LdOk.bs {b j : Nat} {e ty : TypeId} {s : List UInt8} {c : UInt8} (hm : bsC b e s ∈ H) (hj : s[j]? = some c) (h0 : tyAgg P ty = some false) (h1 : ∃ n, tySize P ty = some n) : LdOk P H Z ty ⟨b, 0 + j * 1, none⟩ (.int .u8 (c.toNat : Int)) :=
 ⟨fun w0 M w Hn Zn hS => run_loadVar_cells (getV_at h0 h1 (byteC_get (by rwa [Nat.mul_one])) rfl) (BsIs.cell (hS.holds _ (List.mem_append_right _ hm)).1)⟩
end
section
variable {P : Program} {N : Fz} {f : Fr} {w w0 : World} {Q : Post} {ops : List Oper} {M : List Nat} {H0 H H' : List Chunk} {Z0 Z : List Snap} {q : Qs} {l : List Nat} {i : Nat}
theorem WD.rem {S : World → Prop} {ty ty' : TypeId} {x y : Operand} {a b : Int} (ho : (ix ops i).op = .binOp .rem ty x y ty') (hx : ev f x = .int .i64 a) (hy : ev f y = .int .i64 b) (ha : 0 ≤ a) (hb : 0 < b)
  (hq : q.contains i = true) (hg : wants ops f (ix ops i) = true) {d : Nat} (hd : (ix ops i).dst = some d) (hn : N.ok d = true) (h : WD P N S ops q l (up f d (.int .i64 (a % b))) w Q) : WD P N S ops q (i :: l) f w Q :=
 .take hq hd hn (.inl ⟨hg, fun _ _ => run_rem ho hx hy ha hb⟩) h
end
open Go Go.RowKit
section
variable {P : Program} {N : Fz} {f : Fr} {w w0 : World} {Q : Post} {ops l : List Oper} {o : Oper} {M : List Nat} {H H' : List Chunk} {Z : List Snap} {ρ : Operand → Value}
abbrev ZL (w0 : World) (D : List Chunk) : List Snap := [⟨w0, fun b => b < w0.heap.size ∧ b ∉ fps D⟩]
theorem strCells_mk (s : List UInt8) : Lib.strCells ⟨⟨s⟩⟩ = byteC s := rfl
theorem run_appStr_off (t u ty e : TypeId) (i : TypeInfo) (ht : P.underlying t = some (.slice e)) (hu : P.underlying u = some .string) (hi : P.info? e = some i) (hs1 : i.size = 1)
  (g off sLen sCap : Nat) (cur : List Value) (hg : w.heap[g]? = some (.cells ⟨cur⟩ e (0, 0))) (s : List UInt8) (hroom : sLen + s.length ≤ sCap) (hfit : off + sLen + s.length ≤ cur.length) :
  (Builtin.append_ #[t, u] ty #[.slice (some ⟨g, off, none⟩) sLen sCap, str s]).run P w =
   .ok (.slice (some ⟨g, off, none⟩) (sLen + s.length) sCap) (w.setRow g ⟨cur.take (off + sLen) ++ byteC s ++ cur.drop (off + sLen + s.length)⟩) := by
 have hf := Lib.run_firstCells_string (P := P) w 1 ⟨⟨s⟩⟩
 have hst := run_storeCells_at P g (off + sLen) e (byteC s) 0 ⟨cur⟩ w hg (by simpa [byteC_len] using hfit) (Lib.strCells_oneCell ⟨⟨s⟩⟩)
 rw [strCells_mk, size_mk] at hf
 simp only [Nat.add_zero, byteC_len] at hst
 simp [Builtin.append_, run_underlying ht, run_underlying hu, sizeOf, typeInfo, hi, hs1, Builtin.lenOf, size_mk, hroom, hf, Addr.add_mid, hst]
theorem run_appStr {s x : Operand} {t u e : TypeId} {n cap : Nat} {A : Option Addr} {xs : List Value} {r : List UInt8} (ho : o.op = .call ⟨.builtin .append, ⟨[s, x]⟩, ⟨[t, u]⟩⟩) (hi : appOf P t = some (e, 1, 1)) (hu : isStr P u = true)
  (hs : ρ s = .slice A n cap) (hx : ρ x = str r) (hown : RowAt w e 1 (.slice A n cap) n xs) (hb : n + r.length ≤ 140737488355328) :
  ∃ A' cap' w', (execOp ρ o).run P w = .ok (.value (.slice A' (n + r.length) cap')) w' ∧ RowAt w' e 1 (.slice A' (n + r.length) cap') (n + r.length) (xs ++ byteC r) ∧ Upd (Value.slice A n cap).ownBlock.toList w w' ∧ (∀ g, (Value.slice A' (n + r.length) cap').ownBlock = some g → (Value.slice A n cap).ownBlock = some g ∨ (w.heap.size ≤ g ∧ g < w'.heap.size)) ∧ ((A = none ∨ cap ≠ 0) → (A' = none ∨ cap' ≠ 0)) := by
 obtain ⟨i, z, ht, hinfo, hz, h1s, h1b, hzs, _, _⟩ := appOf_spec hi
 have hu := isStr_eq hu
 have hmx : n + r.length ≤ maxLen := by unfold maxLen; omega
 have hxl : xs.length = n := by simpa using hown.1
 have hlen : (xs ++ byteC r).length = (n + r.length) * 1 := by rw [List.length_append, hxl, byteC_len, Nat.mul_one]
 have run : ∀ v' w', (Builtin.append_ #[t, u] o.type #[.slice A n cap, str r]).run P w = .ok v' w' → (execOp ρ o).run P w = .ok (.value v') w' := fun v' w' hr => by
  unfold execOp
  simp only [ho, resolve, invoke, builtin, Sem.run_bind, Sem.run_pure, Result.andThen_ok, List.map_toArray, List.map_cons, List.map_nil, hs, hx, hr]
 have grown : ∀ old, old < n + r.length → RowAt (w.drew.alloc (.cells (xs.toArray ++ (byteC r).toArray ++ Builtin.zeroCells z.cells (grownCap w (n + r.length) old e - (n + r.length))) e)) e 1
    (.slice (some ⟨w.heap.size, 0, none⟩) (n + r.length) (grownCap w (n + r.length) old e)) (n + r.length) (xs ++ byteC r) := by
  intro old ho
  have hge := grownCap_ge w (n + r.length) old e
  have hcm : grownCap w (n + r.length) old e ≤ maxLen := grownCap_le_maxLen w (n + r.length) old e hmx
  refine ⟨hlen, .inr ⟨w.heap.size, 0, _, (xs.toArray ++ (byteC r).toArray ++ Builtin.zeroCells z.cells (grownCap w (n + r.length) old e - (n + r.length))).toList, rfl, heap_alloc_new w.drew _, hge, hcm, ?_, ?_⟩⟩
  ·simp only [Array.length_toList, Array.size_append, List.size_toArray, size_zeroCells, hzs, hxl, byteC_len, Nat.zero_add, Nat.mul_one]
   omega
  ·simp only [Array.toList_append, List.append_assoc, List.drop_zero]
   rw [← List.append_assoc, ← hlen]
   exact List.take_left
 have hup : ∀ (fp : List Nat) (ob : Obj), Upd fp w (w.drew.alloc ob) := fun fp ob => (Upd.drew fp w).trans (.alloc _ _ _)
 have hnew : ∀ ob : Obj, ∀ g, (Value.slice (some ⟨w.heap.size, 0, none⟩) (n + r.length) 0).ownBlock = some g → w.heap.size ≤ g ∧ g < (w.drew.alloc ob).heap.size := fun ob g hg => by
  simp only [Value.ownBlock, Option.some.injEq] at hg
  subst hg
  simp
 rcases hown.2 with ⟨h2, rfl⟩ | ⟨g, og, cap0, cur, h2, hgg, hnc, hcm, hcs, htake⟩
 ·simp only [Value.slice.injEq] at h2
  obtain ⟨rfl, _, rfl⟩ := h2
  have hx0 : xs = [] := List.eq_nil_of_length_eq_zero hxl
  subst hx0
  by_cases hm : r = []
  ·subst hm
   refine ⟨none, 0, w, run _ _ ?_, ⟨by simp [byteC], .inl ⟨rfl, rfl⟩⟩, .refl _ _, fun g hg => by simp [Value.ownBlock] at hg, fun _ => .inl rfl⟩
   have hf := Lib.run_firstCells_string (P := P) w 1 ⟨⟨[]⟩⟩
   rw [strCells_mk, size_mk] at hf
   simp only [List.length_nil] at hf
   simp [Builtin.append_, run_underlying ht, run_underlying hu, sizeOf, typeInfo, hinfo, h1s, Builtin.lenOf, size_mk, hf]
  ·have hr0 : 0 < r.length := List.length_pos_iff.2 hm
   have hr := run_append_nil_string (P := P) w t u o.type e i z ht hu hinfo hz ⟨⟨r⟩⟩ (by rw [size_mk]; omega) (by rw [size_mk]; omega) (by rw [h1b, size_mk]; omega)
   have hgr := grown 0 Zo
   rw [size_mk] at hr
   simp only [Nat.zero_add, List.nil_append, Array.empty_append] at hgr ⊢
   have e1 : ((⟨⟨r⟩⟩ : ByteArray).data.map fun b => Value.int .u8 b.toNat) = (byteC r).toArray := by
    apply Array.ext'
    simp [byteC]
   rw [e1] at hr
   have hge := grownCap_ge w r.length 0 e
   exact ⟨_, _, _, run _ _ hr, hgr, hup _ _, fun g hg => .inr (hnew _ g hg), fun _ => .inr Zo⟩
 ·simp only [Value.slice.injEq] at h2
  obtain ⟨rfl, _, rfl⟩ := h2
  by_cases hroom : n + r.length ≤ cap
  ·have hfit : og + n + r.length ≤ cur.length := Zo
   have hr := run_appStr_off (P := P) t u o.type e i ht hu hinfo h1s g og n cap cur hgg r hroom hfit
   refine ⟨_, _, _, run _ _ hr, ⟨hlen, .inr ⟨g, og, cap, _, rfl, heap_setRow hgg, hroom, hcm, ?_, ?_⟩⟩, (Upd.setRow _ _ _).mono (by simp [Value.ownBlock]), fun g' hg' => .inl hg', fun h => .inr (by rcases h with h | h; cases h; exact h)⟩
   ·simp only [List.length_append, List.length_take, List.length_drop, byteC_len]; omega
   ·have h3 := drop_take_app cur (byteC r) og n (by rw [byteC_len]; exact hfit)
    rw [byteC_len] at h3
    rw [Nat.mul_one, h3]
    rw [Nat.mul_one] at htake
    rw [htake]
  ·have holds : ∀ j u, xs[j]? = some u → w.cell? ((⟨g, og, none⟩ : Addr).add j) = some u := fun j u hj => by rw [Addr.add_mid]; exact hown.cells j u hj
   have hr := Lib.run_append_grow_string (P := P) w t u o.type e i z ht hu hinfo hz ⟨g, og, none⟩ n cap xs (by rw [h1s]; simpa using hxl) holds ⟨⟨r⟩⟩ (by rw [size_mk]; omega) (by rw [size_mk]; omega) (by rw [h1b, size_mk]; exact growslice_fits Zo Zo)
   rw [size_mk, strCells_mk] at hr
   have hge := grownCap_ge w (n + r.length) cap e
   exact ⟨_, _, _, run _ _ hr, grown cap Zo, hup _ _, fun g hg => .inr (hnew _ g hg), fun _ => .inr Zo⟩
theorem flat_at {α : Type} {enc : α → List Value} {sz : Nat} (hsz : ∀ x, (enc x).length = sz) : ∀ (l : List α) {k : Nat} (h : k < l.length), ((l.flatMap enc).drop (k * sz)).take sz = enc l[k]
 |[], _, h => by simp at h
 |o :: l, 0, h => by
  simp only [List.flatMap_cons, Nat.zero_mul, List.drop_zero, List.getElem_cons_zero]
  rw [List.take_append_of_le_length (by rw [hsz]; exact Nat.le_refl _), List.take_of_length_le (by rw [hsz]; exact Nat.le_refl _)]
 |o :: l, k + 1, h => by
  simp only [List.flatMap_cons, List.getElem_cons_succ]
  rw [List.drop_append, hsz, List.drop_of_length_le (by rw [hsz, Nat.add_mul]; omega), List.nil_append, show (k + 1) * sz - sz = k * sz by rw [Nat.add_mul]; omega]
  exact flat_at hsz l (by simpa using h)
theorem getV_part {ty : TypeId} {cs es : List Value} {off n : Nat} (h0 : tyAgg P ty = some true) (hn : tySize P ty = some n) (hle : off + n ≤ cs.length) (he : (cs.drop off).take n = es) : getV P ty cs off = some (.agg ⟨es⟩) := by
 unfold getV getV0
 rw [h0, hn]
 simp only
 rw [Nat.ble_eq_true_of_le hle]
 simp only [he, nfo, nfv]
theorem LdOk.ownElem {α : Type} {enc : α → List Value} {sz g off n cap n' k : Nat} {e ty : TypeId} {l : List α} (hsz : ∀ x, (enc x).length = sz) (hm : Chunk.own (.slice (some ⟨g, off, none⟩) n cap) e sz n' (l.flatMap enc) ∈ H) (hk : k < l.length) (h0 : tyAgg P ty = some true) (hn : tySize P ty = some sz) :
  LdOk P H Z ty ⟨g, off + k * sz, none⟩ (.agg ⟨enc l[k]⟩) :=
 LdOk.own hm (getV_part h0 hn (by
  rw [flat_len hsz]
  have := Nat.mul_le_mul_right sz (Nat.succ_le_of_lt hk)
  rw [Nat.succ_mul] at this
  exact this) (flat_at hsz l hk))
theorem LdOk.ownElemE {α : Type} {enc : α → List Value} {sz g off n cap n' k : Nat} {e ty : TypeId} {l : List α} {o : α} (hsz : ∀ x, (enc x).length = sz) (hm : Chunk.own (.slice (some ⟨g, off, none⟩) n cap) e sz n' (l.flatMap enc) ∈ H) (hk : l[k]? = some o) (h0 : tyAgg P ty = some true) (hn : tySize P ty = some sz) :
  LdOk P H Z ty ⟨g, off + k * sz, none⟩ (.agg ⟨enc o⟩) := by
 obtain ⟨h1, rfl⟩ := List.getElem?_eq_some_iff.1 hk
 exact LdOk.ownElem hsz hm h1 h0 hn
theorem WL.appStr {s x : Operand} {t u e : TypeId} {n cap : Nat} {A : Option Addr} {xs : List Value} {r : List UInt8} {H' : Option Addr → Nat → List Chunk} (hS : St w0 M w H Z) (ho : o.op = .call ⟨.builtin .append, ⟨[s, x]⟩, ⟨[t, u]⟩⟩) (hi : appOf P t = some (e, 1, 1)) (hu : isStr P u = true)
  (hs : ev f s = .slice A n cap) (hx : ev f x = str r)
  (hr : ∀ A' cap', Repl (.own (.slice A n cap) e 1 n xs) (.own (.slice A' (n + r.length) cap') e 1 (n + r.length) (xs ++ byteC r)) H (H' A' cap')) (hb : n + r.length ≤ 140737488355328)
  (hg : wants ops f o = true) {d : Nat} (hd : o.dst = some d) (hn : N.ok d = true)
  (h : ∀ A' cap' w', ((A = none ∨ cap ≠ 0) → (A' = none ∨ cap' ≠ 0)) → St w0 M w' (H' A' cap') Z → WL P N ops l (up f d (.slice A' (n + r.length) cap')) w' Q) : WL P N ops (o :: l) f w Q := by
 obtain ⟨A', cap', w', hrun, hown', hgr, hat, h1⟩ := run_appStr (P := P) (w := w) ho hi hu hs hx (hS.holds _ (hr none 0).mem) hb
 exact .val hg hd hn hrun (h A' cap' w' h1 (hS.app (hr A' cap') hown' hgr hat))
end
section
variable {P : Program} {N : Fz} {f : Fr} {w w0 : World} {Q : Post} {ops : List Oper} {M : List Nat} {H0 H H' : List Chunk} {Z0 Z : List Snap} {q : Qs} {l : List Nat} {i : Nat}
theorem WD.mdelC0 {t k t2 : TypeId} {z : Value} {x y : Operand} {b : Nat} {m : KV} {s : List UInt8} (hS : St w0 M w (mapC b m :: H) Z) (hM : More H0 Z0 H Z) (ho : (ix ops i).op = .call ⟨.builtin .delete, ⟨[x, y]⟩, ⟨[t, t2]⟩⟩) (ht : mapOf P t = some (k, z)) (hx : ev f x = .map (some b)) (hy : ev f y = str s)
  (hq : q.contains i = false) (hi : Nat.blt i ops.length = true) (hg : wants ops f (ix ops i) = true) (hd : (ix ops i).dst = none) (h : ∀ w', St w0 M w' (mapC b (mdel m s) :: H) Z → WD P N (SS w0 M H0 Z0) ops q l f w' Q) : WD P N (SS w0 M H0 Z0) ops q (i :: l) f w Q := by
 obtain ⟨ob, h1, h2⟩ := run_delete (t2 := t2) (ty := (ix ops i).type) (s := s) ht (hS.holds _ Zh).1
 have hrun : (execOp (ev f) (ix ops i)).run P w = .ok (.value (.tuple #[])) { w with heap := w.heap.setIfInBounds b ob } := by
  simp [execOp, ho, resolve, invoke, builtin, hx, hy, Sem.run_bind, h1]
 have hS' := hS.setMap .here h2
 refine .eff hq fun a ha K hK => ?_
 unfold Go.wpOp
 rw [ix_some (by simp only [List.size_toArray]; exact Nat.le_of_ble_eq_true hi)]
 simp only
 rw [if_pos ((wanted_eq ha _).trans hg)]
 refine .inl ?_
 simp only [Oper.wp, ha.eval, hrun, Oper.upon]
 exact hK _ _ _ (by rw [hd]; exact ha) (hM.ss hS'.drop) (h _ hS')
theorem WC.drawLV {id : Nat} (D : List Chunk) (hS : St w0 M w H Z) (hp : Pulls D H H') (q l : List Nat) (i : Nat) (l2 : List Nat) (hm : P.follows .mixedOrders = true)
  (hk : (Region.noSelect ops.toArray && ordOk ops.toArray ⟨q, .piv i l2⟩ (Array.replicate ops.toArray.size false) l && Nat.beq (l.length + (l2.length + 1)) ops.length) = true)
  (h : ∀ w', St w0 M w' (D ++ H') Z → More H' Z (D ++ H') Z → WD P N (SS w0 M H' Z) ops ⟨q, .piv i l2⟩ l f w' Q) (hok : okR N ops = true := by rfl) : WC P N (.region id ops.toArray true) f w Q := by
 have hS' := hS.pulls hp
 simp only [Bool.and_eq_true] at hk
 exact WC.draw (SS w0 M H' Z) ⟨q, .piv i l2⟩ l hm hk.1.1 hk.1.2 hk.2 ((More.app (.refl _ _)).ss hS'.drew) (h _ hS'.drew (More.app (.refl _ _))) hok
theorem WD.app {s x : Operand} {t e : TypeId} {size bytes n m cap c b off : Nat} {A : Option Addr} {xs news : List Value} (hS : St w0 M w H Z) (hp : Pull (.own (.slice A n cap) e size n xs) H H') (hM : More H0 Z0 H' Z) (ho : (ix ops i).op = .call ⟨.builtin .append, ⟨[s, x]⟩, ⟨[t, t]⟩⟩) (hi0 : appOf P t = some (e, size, bytes))
  (hs : ev f s = .slice A n cap) (hx : ev f x = .slice (some ⟨b, off, none⟩) m c) (hnews : RdOk H Z b off news) (hl : news.length = m * size) (h1 : one news = true) (hb : (n + m) * bytes ≤ 140737488355328)
  (hq : q.contains i = false) (hi : Nat.blt i ops.length = true) (hg : wants ops f (ix ops i) = true) {d : Nat} (hd : (ix ops i).dst = some d) (hn : N.ok d = true)
  (h : ∀ A' cap' w', St w0 M w' (.own (.slice A' (n + m) cap') e size (n + m) (xs ++ news) :: H') Z → More H0 Z0 (.own (.slice A' (n + m) cap') e size (n + m) (xs ++ news) :: H') Z → WD P N (SS w0 M H0 Z0) ops q l (up f d (.slice A' (n + m) cap')) w' Q) : WD P N (SS w0 M H0 Z0) ops q (i :: l) f w Q := by
 have hS' := hS.pull hp
 obtain ⟨A', cap', w', hrun, hown', hgr, hat⟩ := run_appOp (P := P) (w := w) ho hi0 hs hx (hS'.holds _ Zh) (hnews.out w0 M w [] [] hS) hl h1 hb
 have hS2 := hS'.app (.here) hown' hgr hat
 exact .val hq hi hg hd hn hrun ((hM.chunk _).ss hS2) (h A' cap' w' hS2 (hM.chunk _))
end
end Go.J
