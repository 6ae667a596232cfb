/- What is proved: what Split, Count, Index (at a separator of one letter), LastIndexByte and HasPrefix answer. Conditions: texts of bounded length. -/
import Derived.Test.YtcegmpijknpgeaaDoorRows
import Derived.Test.YtcegmpijknpgeaaDoorPathPlain
set_option linter.unusedSimpArgs false
set_option linter.unusedVariables false
namespace Go.Proofs.YtcegmpijknpgeaaDoor
open Go Go.J Go.RowKit

theorem ext_index : ExtIs Tryd.prog 61 Extern.BytealgIndexByte.indexByte := ⟨_, Tryd.func61, by kernel_rfl, by kernel_rfl, by kernel_rfl, by kernel_rfl⟩
theorem ext_count : ExtIs Tryd.prog 53 Extern.BytealgCount.count := ⟨_, Tryd.func53, by kernel_rfl, by kernel_rfl, by kernel_rfl, by kernel_rfl⟩

set_option maxHeartbeats 4000000 in
set_option maxRecDepth 100000 in
theorem sindexByte_c (s : List UInt8) (c : UInt8) (w0 : World) : Cal Tryd.prog 47 [str s, .int .u8 (c.toNat : Int)] w0 (fun v w' => Upd [] w0 w' ∧ v = .int .i64 (Lib.indexByte s c)) := by
  refine Cal.mk' (by kernel_rfl) Tryd.func47 rfl rfl fun hS => ?_
  repeat' (first
    | (show WL _ _ _ _ _ _ _; first
      | refine WL.pure rfl rfl rfl rfl ?_
      | refine WL.nil ?_
      | refine WL.ext rfl rfl ext_index (run_indexByte s c) rfl rfl rfl ?_)
    | (show WC _ _ _ _ _ _; first
      | refine WC.seq ?_
      | refine WC.region ?_
      | refine WC.ret ?_)
    | refine seqQ_n ?_)
  exact fin1r rfl rfl ⟨hS.upd, rfl⟩
set_option maxHeartbeats 4000000 in
set_option maxRecDepth 100000 in
theorem sindex_c (s : List UInt8) (c : UInt8) (w0 : World) : Cal Tryd.prog 37 [str s, str [c]] w0 (fun v w' => Upd [] w0 w' ∧ v = .int .i64 (Lib.indexByte s c)) := by
  refine Cal.mk' (by kernel_rfl) Tryd.func37 rfl rfl fun hS => ?_
  have hc : ([c] : List UInt8)[0]? = some c := rfl
  by_cases hs : [c] = s
  · subst hs
    repeat' (first
      | (show WL _ _ _ _ _ _ _; first
        | refine WL.pure rfl rfl rfl rfl ?_
        | refine WL.nil ?_)
      | (show WC _ _ _ _ _ _; first
        | refine WC.seq ?_
        | refine WC.region ?_
        | refine WC.block ?_
        | refine WC.ret ?_
        | refine WC.condT rfl (by first | (simp; done) | (simp; omega)) ?_)
      | refine seqQ_n ?_
      | refine seqQ_r ?_
      | refine blkQ_r ?_)
    exact fin1r rfl rfl ⟨hS.upd, by simp [Lib.indexByte]⟩
  · repeat' (first
      | (show WL _ _ _ _ _ _ _; first
        | refine WL.pure rfl rfl rfl rfl ?_
        | refine WL.nil ?_
        | (refine WL.calls hS rfl rfl (sindexByte_c s c _) rfl rfl rfl ?_; rintro v w rfl hS)
        | refine WL.idxS rfl rfl rfl rfl (by with_reducible assumption) rfl rfl rfl ?_)
      | (show WC _ _ _ _ _ _; first
        | refine WC.seq ?_
        | refine WC.region ?_
        | refine WC.block ?_
        | refine WC.ret ?_
        | refine WC.condF rfl (decide_eq_false (by first | with_reducible assumption | omega)) ?_
        | refine WC.condT rfl (by first | (simp; done) | (simp; omega)) ?_)
      | refine seqQ_n ?_
      | refine seqQ_r ?_
      | refine blkQ_r ?_)
    exact fin1r rfl rfl ⟨hS.upd, rfl⟩
set_option maxHeartbeats 4000000 in
set_option maxRecDepth 100000 in
theorem index_c (s : List UInt8) (c : UInt8) (w0 : World) : Cal Tryd.prog 40 [str s, str [c]] w0 (fun v w' => Upd [] w0 w' ∧ v = .int .i64 (Lib.indexByte s c)) := by
  refine Cal.mk' (by kernel_rfl) Tryd.func40 rfl rfl fun hS => ?_
  repeat' (first
    | (show WL _ _ _ _ _ _ _; first
      | refine WL.pure rfl rfl rfl rfl ?_
      | refine WL.nil ?_
      | (refine WL.calls hS rfl rfl (sindex_c s c _) rfl rfl rfl ?_; rintro v w rfl hS))
    | (show WC _ _ _ _ _ _; first
      | refine WC.seq ?_
      | refine WC.region ?_
      | refine WC.ret ?_)
    | refine seqQ_n ?_)
  exact fin1r rfl rfl ⟨hS.upd, rfl⟩
set_option maxHeartbeats 4000000 in
set_option maxRecDepth 100000 in
theorem count_c (s : List UInt8) (c : UInt8) (w0 : World) : Cal Tryd.prog 39 [str s, str [c]] w0 (fun v w' => Upd [] w0 w' ∧ v = .int .i64 ((s.count c : Nat) : Int)) := by
  refine Cal.mk' (by kernel_rfl) Tryd.func39 rfl rfl fun hS => ?_
  have hc : ([c] : List UInt8)[0]? = some c := rfl
  repeat' (first
    | (show WL _ _ _ _ _ _ _; first
      | refine WL.pure rfl rfl rfl rfl ?_
      | refine WL.nil ?_
      | refine WL.ext rfl rfl ext_count (run_countByte s c) rfl rfl rfl ?_
      | refine WL.idxS rfl rfl rfl rfl (by with_reducible assumption) rfl rfl rfl ?_)
    | (show WC _ _ _ _ _ _; first
      | refine WC.seq ?_
      | refine WC.region ?_
      | refine WC.skip ?_
      | refine WC.ret ?_
      | refine WC.condT rfl (by first | (simp; done) | (simp; omega)) ?_
      | refine WC.condF rfl (by first | (simp; done) | (simp; omega)) ?_)
    | refine seqQ_n ?_
    | refine seqQ_r ?_)
  exact fin1r rfl rfl ⟨hS.upd, rfl⟩
theorem lastL_stop (s : List UInt8) (k : Nat) (h : s[k]? = some 47) : lastL s (k + 1) = k := by simp [lastL, h]
theorem lastL_go (s : List UInt8) (k : Nat) (h : s[k]? ≠ some 47) : lastL s (k + 1) = lastL s k := by simp [lastL, h]
def strs (l : List (List UInt8)) : List Value := l.flatMap fun s => [str s]
theorem strs_len (l : List (List UInt8)) : (strs l).length = l.length := by unfold strs; rw [flat_len (sz := 1) (fun _ => rfl), Nat.mul_one]
theorem strs_snoc (l : List (List UInt8)) (x : List UInt8) : strs l ++ [str x] = strs (l ++ [x]) := by simp [strs]
theorem strs_put (l : List (List UInt8)) (x : List UInt8) (zs : List Value) (k m : Nat) (hk : l.length = k) :
    (strs l ++ repZ [str []] (m + 1)).take (k * 1) ++ [str x] ++ (strs l ++ repZ [str []] (m + 1)).drop (k * 1 + 1) = strs (l ++ [x]) ++ repZ [str []] m := by
  have h1 : (strs l).length = k := by rw [strs_len, hk]
  rw [Nat.mul_one, List.take_append_of_le_length (by omega), List.take_of_length_le (by omega), List.drop_append, List.drop_of_length_le (by omega), List.nil_append, h1, show k + 1 - k = 1 by omega]
  rw [← strs_snoc]
  rfl
set_option maxHeartbeats 8000000 in
set_option maxRecDepth 100000 in
theorem split_c (s : List UInt8) (w0 : World) (hl : s.length ≤ 4611686018427) : Cal Tryd.prog 32 [str s, str [47]] w0
    (fun v w' => Upd [] w0 w' ∧ ∃ A cap, v = .slice A (splitL s).length cap ∧ New w0 w' (.own (.slice A (splitL s).length cap) 9 1 (splitL s).length (strs (splitL s)))) := by
  have h0 : ∀ w0, Cal Tryd.prog 31 [str s, str [47], .int .i64 0, .int .i64 (-1)] w0
      (fun v w' => Upd [] w0 w' ∧ ∃ A cap, v = .slice A (splitL s).length cap ∧ New w0 w' (.own (.slice A (splitL s).length cap) 9 1 (splitL s).length (strs (splitL s)))) := by
    intro w0
    refine Cal.mk' (by kernel_rfl) Tryd.func31 rfl rfl fun hS => ?_
    have hcl : s.count 47 ≤ s.length := List.count_le_length
    have hsep : ([47] : List UInt8).length = 1 := rfl
    have hmin : min ((s.count 47 : Int) + 1) ((s.length : Int) + 1) = ((s.count 47 + 1 : Nat) : Int) := by omega
    repeat' (first
      | (show WL _ _ _ _ _ _ _; first
        | refine WL.pure rfl rfl rfl rfl ?_
        | refine WL.nil ?_
        | refine WL.add rfl rfl rfl (by omega) rfl rfl rfl ?_
        | refine WL.sub rfl rfl rfl (by omega) rfl rfl rfl ?_
        | (refine WL.calls hS rfl rfl (count_c s 47 _) rfl rfl rfl ?_; rintro v w rfl hS)
        | (refine WL.minI rfl rfl rfl rfl rfl rfl ?_; rw [hmin])
        | (refine WL.mkS (n := s.count 47 + 1) hS rfl rfl ⟨_, rfl, rfl⟩ rfl rfl (by omega) rfl rfl rfl ?_; intro w b hS))
      | (show WC _ _ _ _ _ _; first
        | refine WC.seq ?_
        | refine WC.region ?_
        | refine WC.block ?_
        | refine WC.skip ?_
        | refine WC.condT rfl (by decide) ?_
        | refine WC.condF rfl (by decide) ?_)
      | refine seqQ_n ?_)
    refine WC.loop (σ := List (List UInt8) × List UInt8 × List Value) [1, 2, 3, 9] (fun (done, r, xs) => [(0, str r), (10, .int .i64 (done.length : Int))])
      (fun (done, r, xs) w => done.length + r.count 47 = s.count 47 ∧ splitL s = done ++ splitL r ∧ r.length ≤ s.length ∧ xs = strs done ++ repZ [str []] (r.count 47 + 1) ∧ St w0 [] w [.own _ 9 1 _ xs] _)
      (fun (done, r, xs) => r.count 47) ([], s, _) ⟨by simp, rfl, Nat.le_refl _, rfl, hS⟩ ⟨rfl, rfl, trivial⟩ ?_
    clear hS
    rintro ⟨done, r, xs⟩ g w ⟨hk, hsp, hrl, hx, hS⟩
    have hxl := (hS.own_len (List.Mem.head _)).1
    by_cases hlt : 0 < r.count 47
    · obtain ⟨j, hj1, hj2, hj3, hj4⟩ := indexByte_spec r 47 hlt
      have hcf := count_first r j hj3 hj4
      have hsf := splitA_first r [] j hj3 hj4
      obtain ⟨m, hm⟩ : ∃ m, r.count 47 = m + 1 := ⟨r.count 47 - 1, by omega⟩
      rw [hm] at hx
      have hp := strs_put done (r.take j) [] done.length (m + 1) rfl
      repeat' (first
        | (show WL _ _ _ _ _ _ _; first
          | refine WL.pure rfl rfl rfl rfl ?_
          | refine WL.nil ?_
          | refine WL.add rfl rfl rfl (by omega) rfl rfl rfl ?_
          | (refine WL.calls hS rfl rfl (index_c r 47 _) rfl rfl rfl ?_; rintro v w rfl hS; rw [hj1])
          | refine WL.highS (j := j) rfl rfl rfl (congrArg (Value.int .i64) (Int.add_zero _)) (by omega) rfl rfl rfl ?_
          | refine WL.lowS (j := j + 1) rfl rfl rfl (show Value.int .i64 ((j : Int) + (([47] : List UInt8).length : Int)) = .int .i64 (Int.ofNat (j + 1)) from rfl) (by omega) rfl rfl rfl ?_
          | (refine WL.storeOwn hS rfl rfl rfl (by repeat (first | exact Repl.here | apply Repl.there)) (by show done.length * 1 + 1 ≤ _; omega) rfl rfl rfl rfl ?_; intro w hS)
          | refine WL.index rfl rfl rfl rfl (by first | with_reducible assumption | omega) rfl rfl rfl rfl ?_)
        | (show WC _ _ _ _ _ _; first
          | refine WC.seq ?_
          | refine WC.region ?_
          | refine WC.block ?_
          | refine WC.skip ?_
          | refine WC.condT rfl (decide_eq_true (by first | with_reducible assumption | omega)) ?_
          | refine WC.condF rfl (decide_eq_false (by first | with_reducible assumption | omega)) ?_)
        | refine seqQ_n ?_
        | refine blkQ_n ?_)
      rw [hx] at hS
      have hS : St _ _ _ [.own _ _ _ _ _] _ := hS
      exact rndQ_n (done ++ [r.take j], r.drop (j + 1), _) ⟨by simp; omega, by rw [hsp]; unfold splitL; rw [hsf]; simp, by simp; omega, by rw [show (r.drop (j + 1)).count 47 + 1 = m + 1 by omega]; exact hp, hS⟩ (by show (r.drop (j + 1)).count 47 < r.count 47; omega) ⟨rfl, vint (by simp), trivial⟩ ⟨rfl, rfl, rfl, rfl, trivial⟩
    · have h47 : r.count 47 = 0 := by omega
      have hsn := splitA_none r h47 []
      rw [h47] at hx
      have hp := strs_put done r [] done.length 0 rfl
      have hle : (splitL s).length = done.length + 1 := by rw [hsp]; unfold splitL; rw [hsn]; simp
      have hfull : splitL s = done ++ [r] := by rw [hsp]; unfold splitL; rw [hsn]; simp
      rw [hle, hfull]
      repeat' (first
        | (show WL _ _ _ _ _ _ _; first
          | refine WL.pure rfl rfl rfl rfl ?_
          | refine WL.nil ?_
          | refine WL.add rfl rfl rfl (by omega) rfl rfl rfl ?_
          | (refine WL.storeOwn hS rfl rfl rfl (by repeat (first | exact Repl.here | apply Repl.there)) (by show done.length * 1 + 1 ≤ _; omega) rfl rfl rfl rfl ?_; intro w hS)
          | (refine WL.sliceHigh (j := done.length + 1) hS rfl rfl rfl rfl (by repeat (first | exact Repl.here | apply Repl.there)) (by omega) (by omega) rfl rfl rfl ?_; intro hS)
          | refine WL.index rfl rfl rfl rfl (by first | with_reducible assumption | omega) rfl rfl rfl rfl ?_)
        | (show WC _ _ _ _ _ _; first
          | refine WC.seq ?_
          | refine WC.region ?_
          | refine WC.exit ?_
          | refine WC.ret ?_
          | refine WC.condF rfl (decide_eq_false (by first | with_reducible assumption | omega)) ?_)
        | refine seqQ_n ?_
        | refine seqQ_x ?_
        | refine blkQ_hit rfl ?_
        | refine rndQ_x ?_)
      have he : ((strs (done ++ [r]) ++ repZ [str []] 0).take ((done.length + 1) * 1)) = strs (done ++ [r]) := by
        simp only [repZ, List.append_nil, Nat.mul_one]
        exact List.take_of_length_le (by rw [strs_len]; simp)
      rw [hx] at hS
      have hS2 : St w0 [] w [.own (.slice (some ⟨b, 0, none⟩) (done.length + 1) (s.count 47 + 1)) 9 1 (done.length + 1) (strs (done ++ [r]))] [⟨w0, Old w0⟩] := by rw [← he, ← hp]; exact hS
      exact fin1r rfl rfl ⟨hS2.upd, _, _, rfl, hS2.newOf (List.Mem.head _)⟩
  refine Cal.mk' (by kernel_rfl) Tryd.func32 rfl rfl fun hS => ?_
  repeat' (first
    | (show WL _ _ _ _ _ _ _; first
      | refine WL.pure rfl rfl rfl rfl ?_
      | refine WL.nil ?_
      | (refine WL.callG rfl rfl (h0 _) rfl rfl rfl ?_; rintro v w ⟨hu, A, cap, rfl, hn⟩; have hS := hS.new hu hn; clear hu hn))
    | (show WC _ _ _ _ _ _; first
      | refine WC.seq ?_
      | refine WC.region ?_
      | refine WC.ret ?_)
    | refine seqQ_n ?_)
  exact fin1r rfl rfl ⟨hS.upd, A, cap, rfl, hS.newOf (List.Mem.head _)⟩
end Go.Proofs.YtcegmpijknpgeaaDoor
