/- What is proved: contracts and plain facts that the law leans on (texts put together). Conditions: as each names them. -/
import Derived.Test.YtccfiohagbneaaaGreatDoorM5
import Derived.Lib.LaidTab
import Derived.Stop.LaidErr
set_option linter.unusedSimpArgs false
set_option linter.unusedVariables false
/- What is proved: that Apart of reference 2 answers true of rows of texts that are the call's own. Conditions: rows of bounded length. -/
set_option linter.unusedSimpArgs false
set_option linter.unusedVariables false
namespace Go.Proofs.YtccfiohagbneaaaGreatDoor
open Go Go.J Go.RowKit

/-- a store into a row, in a region that draws its order -/
theorem WD.storeOwn {P : Program} {N : Fz} {f : Fr} {w w0 : World} {Q : Post} {ops : List Oper} {M : List Nat} {H0 H H' : List Chunk} {Z0 Z : List Snap} {q : Qs} {l : List Nat} {i : Nat} {ty : TypeId} {x y : Operand} {g off0 off n cap n' : Nat} {e : TypeId} {size : Nat} {xs vs : List Value} (hS : St w0 M w H Z) (ho : (ix ops i).op = .store ty x y) (hx : ev f x = .pointer (some ⟨g, off0 + off, none⟩)) (hy : cellsO (ev f y) = some vs)
    (hr : Repl (.own (.slice (some ⟨g, off0, none⟩) n cap) e size n' xs) (.own (.slice (some ⟨g, off0, none⟩) n cap) e size n' (xs.take off ++ vs ++ xs.drop (off + vs.length))) H H') (hfit : off + vs.length ≤ xs.length) (h1 : one vs = true) (hn : tySize P ty = some vs.length)
    (hM : More H0 Z0 H' Z) (hq : q.contains i = false) (hi : Nat.blt i ops.length = true) (hg : wants ops f (ix ops i) = true) (hd : (ix ops i).dst = none)
    (h : ∀ w', St w0 M w' H' Z → More H0 Z0 H' Z → WD P N (SS w0 M H0 Z0) ops q l f w' Q) : WD P N (SS w0 M H0 Z0) ops q (i :: l) f w Q := by
  obtain ⟨cs', hrun, hown'⟩ := run_storeOwn (P := P) ho hx (cellsO_eq hy) (hS.holds _ hr.mem) hfit h1 hn
  have hS' := hS.step hr ((Upd.setRow _ _ _).mono (by simp [Chunk.fp, Value.ownBlock])) hown' fun b hb => .inl hb
  exact .unit0 hq hi hg hd hrun (hM.ss hS') (h _ hS' hM)
def mks : List UInt8 := [97, 98, 99, 100, 101, 102, 103, 104, 105, 106, 107, 108, 109, 110, 111, 112, 113, 114, 115, 116, 117, 118, 119, 120, 121, 122]
def encT (s : List UInt8) : List Value := [str s]
def mT (j : Nat) : List UInt8 := [119, 97, 115] ++ (mks.take (j % 26 + 1)).drop (j % 26)
def nT (j : Nat) : List UInt8 := [110, 101, 119] ++ (mks.take (j % 26 + 1)).drop (j % 26)
theorem mks_one {j : Nat} : ((mks.take (j % 26 + 1)).drop (j % 26)).length = 1 := by
  rw [List.length_drop, List.length_take, show mks.length = 26 from rfl]
  omega
theorem rwMapS : ∀ rs : List Rw, rs.flatMap encRw = rs.map Rw.val
  | [] => rfl
  | a :: l => by rw [List.flatMap_cons, List.map_cons, rwMapS l]; rfl
theorem rwAtS {rs : List Rw} {i : Nat} (h : i < rs.length) : (rs.flatMap encRw)[i * 1]? = some rs[i].val := by
  rw [Nat.mul_one, rwMapS, List.getElem?_map, List.getElem?_eq_getElem h]
  rfl
set_option maxHeartbeats 32000000 in
set_option maxRecDepth 100000 in
theorem rapartS_c (rs : List Rw) (cs : List Chunk) {OA : Option Addr} {oc : Nat} {w0 : World} (hi : InL w0 (.own (.slice OA rs.length oc) 56 1 rs.length (rs.flatMap encRw) :: cs)) (hm : MarkIs encT 9 1 mT rs cs 0) (hl : rs.length ≤ 1000) (hz : ∀ r ∈ rs, r.n ≤ 1048576) :
    Cal Tryz.prog 33 [.slice OA rs.length oc] w0 (fun v w' => v = .bool true ∧ MutL w0 w' (.own (.slice OA rs.length oc) 56 1 rs.length (rs.flatMap encRw) :: cs) []) := by
  refine Cal.mkL hi (by kernel_rfl) Tryz.func33 rfl rfl fun hS => ?_
  have hfp : ∀ {w : World}, St w0 (fps (.own (.slice OA rs.length oc) 56 1 rs.length (rs.flatMap encRw) :: cs)) w [] (ZL w0 (.own (.slice OA rs.length oc) 56 1 rs.length (rs.flatMap encRw) :: cs)) → MutL w0 w (.own (.slice OA rs.length oc) 56 1 rs.length (rs.flatMap encRw) :: cs) [] := fun hS => hS.mutLp .nil
  replace hS : St w0 (fps (.own (.slice OA rs.length oc) 56 1 rs.length (rs.flatMap encRw) :: cs)) w0 (.own (.slice OA rs.length oc) 56 1 rs.length (rs.flatMap encRw) :: cs) (ZL w0 (.own (.slice OA rs.length oc) 56 1 rs.length (rs.flatMap encRw) :: cs)) := hS
  generalize ZL w0 (.own (.slice OA rs.length oc) 56 1 rs.length (rs.flatMap encRw) :: cs) = Z0 at *
  generalize fps (.own (.slice OA rs.length oc) 56 1 rs.length (rs.flatMap encRw) :: cs) = M0 at *
  clear hi
  repeat' (first
    | (show WL _ _ _ _ _ _ _; first
      | refine WL.pure rfl rfl rfl rfl ?_
      | refine WL.nil ?_)
    | (show WC _ _ _ _ _ _; first
      | refine WC.seq ?_
      | refine WC.region ?_
      | refine WC.block ?_)
    | refine seqQ_n ?_)
  refine WC.loop (σ := Nat × List Chunk) [0, 3] (fun (i, _) => [(4, .int .i64 (i : Int))]) (fun (i, cs) w => (i ≤ rs.length ∧ MarkIs encT 9 1 mT rs cs i) ∧ St w0 M0 w (.own (.slice OA rs.length oc) 56 1 rs.length (rs.flatMap encRw) :: cs) Z0) (fun (i, _) => rs.length - i) (0, cs) ⟨⟨Nat.zero_le _, hm⟩, hS⟩ ⟨rfl, trivial⟩ ?_
  clear hS hm
  rintro ⟨i, cs⟩ g w ⟨⟨hi, hmk⟩, hS⟩
  show WC _ _ _ (lf _ [(4, .int .i64 (i : Int))] _ _) _ _
  by_cases hlt : i < rs.length
  · obtain ⟨og, oo, rfl⟩ := hS.own_addr (A := OA) (n := rs.length) (List.Mem.head _) (by omega)
    obtain ⟨l0, hl0, hci, _⟩ := hmk.at_ i hlt
    have hnx := hmk.next hlt
    have hov := rwAtS hlt
    replace hS := hS.perm ((pfront hci).cons _)
    have hbk := pback (show i < cs.length by rw [hmk.len]; exact hlt) (ownRw encT 9 1 rs[i] (List.replicate rs[i].n (mT i)))
    have hrz := hz _ (List.getElem_mem hlt)
    generalize cs.set i (ownRw encT 9 1 rs[i] (List.replicate rs[i].n (mT i))) = cs2 at *
    generalize cs.eraseIdx i = R at *
    generalize rs[i] = r at *
    obtain ⟨A, n, cap⟩ := r
    dsimp only [Rw.val, ownRw] at *
    clear hmk hci
    repeat' (first
      | (show WL _ _ _ _ _ _ _; first
        | refine WL.pure rfl rfl rfl rfl ?_
        | refine WL.nil ?_)
      | (show WC _ _ _ _ _ _; first
        | refine WC.seq ?_
        | refine WC.region ?_
        | refine WC.block ?_
        | refine WC.skip ?_
        | refine WC.condT rfl (decide_eq_true (by first | with_reducible assumption | omega)) ?_)
      | refine seqQ_n ?_)
    refine WC.loop (σ := Nat × List (List UInt8)) [0, 3, 4] (fun (k, _) => [(5, .int .i64 (k : Int))]) (fun (k, l) w => (k ≤ n ∧ l.length = n ∧ l.take k = List.replicate k (mT i)) ∧ St w0 M0 w (.own (.slice (some ⟨og, oo, none⟩) rs.length oc) 56 1 rs.length (rs.flatMap encRw) :: .own (.slice A n cap) 9 1 n (l.flatMap encT) :: R) Z0) (fun (k, _) => n - k) (0, l0) ⟨⟨Nat.zero_le _, hl0, rfl⟩, hS⟩ ⟨rfl, trivial⟩ ?_
    clear hS hl0
    rintro ⟨k, l⟩ g2 w ⟨⟨hk, hll, hlk⟩, hS⟩
    show WC _ _ _ (lf _ [(5, .int .i64 (k : Int))] _ _) _ _
    by_cases hkl : k < n
    · obtain ⟨ag, ao, rfl⟩ := hS.own_addr (A := A) (n := n) (List.Mem.tail _ (List.Mem.head _)) (by omega)
      have hfs := flat_set (enc := encT) (sz := 1) (fun _ => rfl) (mT i) (l := l) (k := k) (by omega)
      have hfl := flat_len (enc := encT) (sz := 1) (fun _ => rfl) l
      have hnk : (l.set k (mT i)).take (k + 1) = List.replicate (k + 1) (mT i) := by
        rw [List.take_succ_eq_append_getElem (by rw [List.length_set]; omega), List.getElem_set_self, List.take_set_of_le (Nat.le_refl _), hlk, ← List.replicate_succ']
      have hnl : (l.set k (mT i)).length = n := by rw [List.length_set]; exact hll
      have hel : (encT (mT i)).length = 1 := rfl
      have q26 : (i : Int) % 26 = ((i % 26 : Nat) : Int) := rfl
      have hmk1 := mks_one (j := i)
      obtain ⟨HN, rfl⟩ : ∃ h : (l.set k (mT i)).take (k + 1) = List.replicate (k + 1) (mT i), h = hnk := ⟨_, rfl⟩
      clear hlk
      repeat' (first
        | (show WL _ _ _ _ _ _ _; first
          | refine WL.pure rfl rfl rfl rfl ?_
          | refine WL.nil ?_
          | refine WL.add rfl rfl rfl (by omega) rfl rfl rfl ?_
          | (refine WL.load hS rfl rfl (LdOk.ownAt (by repeat (first | exact List.Mem.head _ | apply List.Mem.tail)) rfl ⟨_, rfl⟩ hov rfl) rfl rfl rfl ?_)
          | refine WL.index rfl rfl rfl rfl (by first | with_reducible assumption | omega) rfl rfl rfl rfl ?_)
        | (show WC _ _ _ _ _ _; first
          | refine WC.seq ?_
          | refine WC.region ?_
          | refine WC.block ?_
          | refine WC.skip ?_
          | (show WC _ _ (Code.region _ (List.toArray [_, _, _, _, _, _, _, _, _, _, _, _, _, _, _]) true) _ _ _; refine WC.drawL [.own (.slice (some ⟨ag, ao, none⟩) n cap) 9 1 n (l.flatMap encT)] hS (by repeat (first | exact Pulls.nil | (apply Pulls.cons; focus (repeat (first | exact Pull.here | apply Pull.there))))) [0,1,2,3,4,5,6,7,8,9,10,11,12,13] [0,1,2,3,4,5,6,7,8,9,10,11,12,13,14] (by kernel_rfl) (by kernel_rfl) ?_; clear hS; intro w hS hM)
          | refine WC.condT rfl (decide_eq_true (by first | with_reducible assumption | omega)) ?_)
        | (show WD _ _ _ _ _ _ _ _ _; first
          | refine WD.pure rfl rfl rfl rfl rfl ?_
          | refine WD.nil ?_
          | refine WD.add rfl rfl rfl (by omega) rfl rfl rfl rfl ?_
          | (refine WD.load rfl rfl (LdOk.ownAt (by repeat (first | exact List.Mem.head _ | apply List.Mem.tail)) rfl ⟨_, rfl⟩ hov rfl) rfl rfl rfl rfl ?_)
          | (refine WD.rem (a := (i : Int)) rfl rfl rfl (by omega) (by omega) rfl rfl rfl rfl ?_; rw [q26])
          | (refine WD.midS (s := mks) (a := i % 26) (b := i % 26 + 1) rfl rfl rfl rfl (by first | rfl | exact vint (show _ = ((i % 26 + 1 : Nat) : Int) by omega)) (by omega) (by show _ ≤ 26; omega) rfl rfl rfl rfl ?_)
          | (refine WD.cat rfl rfl rfl (by show 3 + _ ≤ _; omega) rfl rfl rfl rfl ?_)
          | (refine WD.storeOwn (off := k * 1) (vs := encT (mT i)) hS rfl rfl rfl (by repeat (first | exact Repl.here | apply Repl.there)) (by rw [hfl, hel]; omega) rfl rfl (by first | exact .refl _ _ | exact .chunk (.refl _ _) _) rfl rfl rfl rfl ?_; clear hS hM; intro w hS hM; rw [hfs] at hS)
          | refine WD.index rfl rfl rfl rfl (by first | with_reducible assumption | omega) rfl rfl rfl rfl rfl ?_)
        | refine seqQ_n ?_
        | refine blkQ_n ?_)
      exact rndQ_n (k + 1, _) ⟨⟨by omega, hnl, HN⟩, hS.perm (.swap _ _ _)⟩ (by show n - (k + 1) < n - k; omega) ⟨vint (by omega), trivial⟩ ⟨rfl, rfl, rfl, trivial⟩
    · have hkn : k = n := by omega
      subst hkn
      rw [← hll, List.take_length] at hlk
      rw [hll] at hlk
      subst hlk
      replace hS := hS.perm (hbk.cons _)
      repeat' (first
        | (show WL _ _ _ _ _ _ _; first
          | refine WL.pure rfl rfl rfl rfl ?_
          | refine WL.nil ?_
          | refine WL.add rfl rfl rfl (by omega) rfl rfl rfl ?_
          | (refine WL.load hS rfl rfl (LdOk.ownAt (by repeat (first | exact List.Mem.head _ | apply List.Mem.tail)) rfl ⟨_, rfl⟩ hov rfl) rfl rfl rfl ?_)
          | refine WL.index rfl rfl rfl rfl (by first | with_reducible assumption | omega) rfl rfl rfl rfl ?_)
        | (show WC _ _ _ _ _ _; first
          | refine WC.seq ?_
          | refine WC.region ?_
          | refine WC.exit ?_
          | refine WC.condF rfl (decide_eq_false (by first | with_reducible assumption | omega)) ?_)
        | refine seqQ_n ?_
        | refine blkQ_n ?_
        | refine seqQ_x ?_
        | refine blkQ_hit rfl ?_
        | refine rndQ_x ?_)
      exact rndQ_n (i + 1, cs2) ⟨⟨by omega, hnx⟩, hS⟩ (by show rs.length - (i + 1) < rs.length - i; omega) ⟨vint (by omega), trivial⟩ ⟨rfl, rfl, trivial⟩
  · have hie : i = rs.length := by omega
    have hg := hmk.grow (nw := nT) hie
    subst hie
    clear hmk hlt hi
    replace hS := hS.nilRow 56 1
    repeat' (first
      | (show WL _ _ _ _ _ _ _; first
        | refine WL.pure rfl rfl rfl rfl ?_
        | refine WL.nil ?_)
      | (show WC _ _ _ _ _ _; first
        | refine WC.seq ?_
        | refine WC.region ?_
        | refine WC.block ?_
        | refine WC.exit ?_
        | refine WC.condF rfl (decide_eq_false (by first | with_reducible assumption | omega)) ?_)
      | refine seqQ_n ?_
      | refine seqQ_x ?_
      | refine blkQ_hit rfl ?_
      | refine rndQ_x ?_)
    refine WC.loop (σ := Nat × List Rw × Option Addr × Nat × List Chunk) [0, 3] (fun (i, ls, LA, lc, _) => [(6, .slice LA i lc), (7, .int .i64 (i : Int))]) (fun (i, ls, LA, lc, cs) w => (i ≤ rs.length ∧ GrowIs encT 9 1 mT nT rs ls cs i) ∧ St w0 M0 w (.own (.slice LA i lc) 56 1 i (ls.flatMap encRw) :: .own (.slice OA rs.length oc) 56 1 rs.length (rs.flatMap encRw) :: cs) Z0) (fun (i, _) => rs.length - i) (0, [], none, 0, cs) ⟨⟨Nat.zero_le _, hg⟩, hS⟩ ⟨rfl, rfl, trivial⟩ ?_
    clear hS hg
    rintro ⟨i, ls, LA, lc, cs⟩ g2 w ⟨⟨hi, hgr⟩, hS⟩
    show WC _ _ _ (lf _ [(6, .slice LA i lc), (7, .int .i64 (i : Int))] _ _) _ _
    by_cases hlt : i < rs.length
    · obtain ⟨og, oo, rfl⟩ := hS.own_addr (A := OA) (n := rs.length) (List.Mem.tail _ (List.Mem.head _)) (by omega)
      have hci := hgr.at_ i hlt (Nat.le_refl _)
      have hnx := fun {A2 : Option Addr} {cap2 : Nat} {fp : List Nat} => hgr.next hlt (A := A2) (cap := cap2) (fp := fp)
      have hov := rwAtS hlt
      replace hS := hS.perm (((pfront hci).cons _).cons _)
      have hbk := fun {c : Chunk} => pback (cs := cs) (i := i) (show i < cs.length by rw [hgr.len]; exact hlt) c
      have hrz := hz _ (List.getElem_mem hlt)
      have hll := hgr.llen
      generalize cs.eraseIdx i = R at *
      generalize rs[i] = r at *
      obtain ⟨A, n, cap⟩ := r
      dsimp only [Rw.val, ownRw] at *
      clear hgr hci
      repeat' (first
        | (show WL _ _ _ _ _ _ _; first
          | refine WL.pure rfl rfl rfl rfl ?_
          | refine WL.nil ?_
          | (refine WL.load hS rfl rfl (LdOk.ownAt (by repeat (first | exact List.Mem.head _ | apply List.Mem.tail)) rfl ⟨_, rfl⟩ hov rfl) rfl rfl rfl ?_)
          | refine WL.index rfl rfl rfl rfl (by first | with_reducible assumption | omega) rfl rfl rfl rfl ?_)
        | (show WC _ _ _ _ _ _; first
          | refine WC.seq ?_
          | refine WC.region ?_
          | refine WC.block ?_
          | refine WC.skip ?_
          | refine WC.condT rfl (decide_eq_true (by first | with_reducible assumption | omega)) ?_)
        | refine seqQ_n ?_)
      replace hS := ((hS.pull (.there (.there .here))).objClose (D := [_]) (φ := GrowP encT 9 1 mT nT i ⟨A, n, cap⟩ 0 A cap) (.inl ⟨rfl, rfl, by unfold grw; rw [List.replicate_zero, List.append_nil]; rfl⟩))
      refine WC.loop (σ := Nat × Option Addr × Nat) [0, 3, 6, 7] (fun (k, A2, cap2) => [(8, .slice A2 (n + k) cap2), (9, .int .i64 (k : Int))]) (fun (k, A2, cap2) w => k ≤ 20 ∧ ∃ fp, St w0 M0 w (objC (GrowP encT 9 1 mT nT i ⟨A, n, cap⟩ k A2 cap2) fp :: .own (.slice LA i lc) 56 1 i (ls.flatMap encRw) :: .own (.slice (some ⟨og, oo, none⟩) rs.length oc) 56 1 rs.length (rs.flatMap encRw) :: R) Z0) (fun (k, _) => 20 - k) (0, A, cap) ⟨Nat.zero_le _, _, hS⟩ ⟨rfl, rfl, trivial⟩ ?_
      clear hS
      rintro ⟨k, A2, cap2⟩ g3 w ⟨hk, fp, hS⟩
      show WC _ _ _ (lf _ [(8, .slice A2 (n + k) cap2), (9, .int .i64 (k : Int))] _ _) _ _
      by_cases hk20 : k < 20
      · obtain ⟨D, hD, -, hS⟩ := hS.objOpen
        have q26 : (i : Int) % 26 = ((i % 26 : Nat) : Int) := rfl
        have hmk1 := mks_one (j := i)
        have hgf := grw_flat (enc := encT) (mk := mT) (nw := nT) i n k
        clear hnx hbk hov
        rcases hD with ⟨rfl, rfl, rfl⟩ | ⟨p, rfl⟩
        · dsimp only [List.cons_append, List.nil_append] at hS
          repeat' (first
            | (show WL _ _ _ _ _ _ _; first
              | refine WL.pure rfl rfl rfl rfl ?_
              | refine WL.nil ?_
              | refine WL.add rfl rfl rfl (by omega) rfl rfl rfl ?_
              | (refine WL.rem (a := (i : Int)) rfl rfl rfl (by omega) (by omega) rfl rfl rfl ?_; rw [q26])
              | (refine WL.midS (s := mks) (i := i % 26) (j := i % 26 + 1) rfl rfl rfl rfl (by first | rfl | exact vint (show _ = ((i % 26 + 1 : Nat) : Int) by omega)) (by omega) (by show _ ≤ 26; omega) rfl rfl rfl ?_)
              | (refine WL.cat rfl rfl rfl (by show 3 + _ ≤ _; omega) rfl rfl rfl ?_)
              | (refine WL.slit (t := 56) hS rfl rfl rfl rfl rfl ?_; intro w ob hS)
              | (refine WL.appK hS rfl rfl rfl rfl (RdOk.box (by repeat (first | exact List.Mem.head _ | apply List.Mem.tail))) rfl rfl (by decide) (by repeat (first | exact Repl.here | apply Repl.there)) (by omega) rfl rfl rfl (fun w hS => ?_) (fun A3 cap3 w hS => ?_)))
            | (show WC _ _ _ _ _ _; first
              | refine WC.seq ?_
              | refine WC.region ?_
              | refine WC.block ?_
              | refine WC.skip ?_
              | refine WC.condT rfl (decide_eq_true (by first | with_reducible assumption | omega)) ?_)
            | refine seqQ_n ?_
            | refine blkQ_n ?_)
          · have hS := (hS.drop).objClose (D := [_]) (φ := GrowP encT 9 1 mT nT i ⟨A2, n, cap2⟩ (k + 1) A2 cap2) (.inl ⟨rfl, rfl, by rw [grw_flat]; rfl⟩)
            exact rndQ_n (k + 1, A2, cap2) ⟨by omega, _, hS⟩ (by show 20 - (k + 1) < 20 - k; omega) ⟨rfl, vint (by omega), trivial⟩ ⟨rfl, rfl, rfl, rfl, trivial⟩
          · have hS := ((hS.pull (.there .here)).drop).objClose (D := [_, _]) (φ := GrowP encT 9 1 mT nT i ⟨A2, n, cap2⟩ (k + 1) A3 cap3) (.inr ⟨k, by rw [grw_flat]; rfl⟩)
            exact rndQ_n (k + 1, A3, cap3) ⟨by omega, _, hS⟩ (by show 20 - (k + 1) < 20 - k; omega) ⟨rfl, vint (by omega), trivial⟩ ⟨rfl, rfl, rfl, rfl, trivial⟩
        · dsimp only [List.cons_append, List.nil_append] at hS
          repeat' (first
            | (show WL _ _ _ _ _ _ _; first
              | refine WL.pure rfl rfl rfl rfl ?_
              | refine WL.nil ?_
              | refine WL.add rfl rfl rfl (by omega) rfl rfl rfl ?_
              | (refine WL.rem (a := (i : Int)) rfl rfl rfl (by omega) (by omega) rfl rfl rfl ?_; rw [q26])
              | (refine WL.midS (s := mks) (i := i % 26) (j := i % 26 + 1) rfl rfl rfl rfl (by first | rfl | exact vint (show _ = ((i % 26 + 1 : Nat) : Int) by omega)) (by omega) (by show _ ≤ 26; omega) rfl rfl rfl ?_)
              | (refine WL.cat rfl rfl rfl (by show 3 + _ ≤ _; omega) rfl rfl rfl ?_)
              | (refine WL.slit (t := 56) hS rfl rfl rfl rfl rfl ?_; intro w ob hS)
              | (refine WL.app hS rfl rfl rfl rfl (RdOk.box (by repeat (first | exact List.Mem.head _ | apply List.Mem.tail))) rfl rfl (fun A cap => by repeat (first | exact Repl.here | apply Repl.there)) (by omega) rfl rfl rfl ?_; intro A3 cap3 w hS))
            | (show WC _ _ _ _ _ _; first
              | refine WC.seq ?_
              | refine WC.region ?_
              | refine WC.block ?_
              | refine WC.skip ?_
              | refine WC.condT rfl (decide_eq_true (by first | with_reducible assumption | omega)) ?_)
            | refine seqQ_n ?_
            | refine blkQ_n ?_)
          have hS := (hS.drop).objClose (D := [_, _]) (φ := GrowP encT 9 1 mT nT i ⟨A, n, cap⟩ (k + 1) A3 cap3) (.inr ⟨p, by rw [grw_flat]; rfl⟩)
          exact rndQ_n (k + 1, A3, cap3) ⟨by omega, _, hS⟩ (by show 20 - (k + 1) < 20 - k; omega) ⟨rfl, vint (by omega), trivial⟩ ⟨rfl, rfl, rfl, rfl, trivial⟩
      · obtain rfl : k = 20 := by omega
        have hx := @hnx A2 cap2 fp
        clear hnx hov
        repeat' (first
          | (show WL _ _ _ _ _ _ _; first
            | refine WL.pure rfl rfl rfl rfl ?_
            | refine WL.nil ?_
            | refine WL.add rfl rfl rfl (by omega) rfl rfl rfl ?_
            | (refine WL.slit (t := 62) hS rfl rfl rfl rfl rfl ?_; intro w ob hS)
            | (refine WL.app hS rfl rfl rfl rfl (RdOk.box (by repeat (first | exact List.Mem.head _ | apply List.Mem.tail))) rfl rfl (fun A cap => by repeat (first | exact Repl.here | apply Repl.there)) (by omega) rfl rfl rfl ?_; intro A3 cap3 w hS))
          | (show WC _ _ _ _ _ _; first
            | refine WC.seq ?_
            | refine WC.region ?_
            | refine WC.exit ?_
            | refine WC.condF rfl (by decide) ?_)
          | refine seqQ_n ?_
          | refine blkQ_n ?_
          | refine seqQ_x ?_
          | refine blkQ_hit rfl ?_
          | refine rndQ_x ?_)
        have hS := (((hS.drop.pull (.there (.there .here))).pull (.there (.there .here))).perm ((hbk.cons _).cons _))
        have hle : ls.flatMap encRw ++ [Value.slice A2 (n + 20) cap2] = (ls ++ [(⟨A2, n + 20, cap2⟩ : Rw)]).flatMap encRw := by rw [List.flatMap_append]; rfl
        refine rndQ_n (i + 1, ls ++ [⟨A2, n + 20, cap2⟩], A3, cap3, _) ⟨⟨by omega, hx⟩, ?_⟩ (by show rs.length - (i + 1) < rs.length - i; omega) ⟨rfl, vint (by omega), trivial⟩ ⟨rfl, rfl, trivial⟩
        rw [← hle]
        exact hS
    · have hie : i = rs.length := by omega
      have hrd := hgr.reads (hsz := fun _ => rfl) hie (by decide) hS fun c hc => List.Mem.tail _ (List.Mem.tail _ hc)
      have hro := ownAll (enc := encRw) (hsz := fun _ => rfl) (sz := 1) (by decide) (hS.holds _ (List.Mem.tail _ (List.Mem.head _))) fun b hb => (hS.inb _ (List.Mem.tail _ (List.Mem.head _)) b hb).1
      have hrl := ownAll (enc := encRw) (hsz := fun _ => rfl) (sz := 1) (by decide) (hS.holds _ (List.Mem.head _)) fun b hb => (hS.inb _ (List.Mem.head _) b hb).1
      have hll := hgr.llen
      replace hS := hS.freeze
      subst hie
      clear hgr hlt hi
      generalize w = w3 at *
      repeat' (first
        | (show WL _ _ _ _ _ _ _; first
          | refine WL.pure rfl rfl rfl rfl ?_
          | refine WL.nil ?_)
        | (show WC _ _ _ _ _ _; first
          | refine WC.seq ?_
          | refine WC.region ?_
          | refine WC.block ?_
          | refine WC.exit ?_
          | refine WC.condF rfl (decide_eq_false (by first | with_reducible assumption | omega)) ?_)
        | refine seqQ_n ?_
        | refine seqQ_x ?_
        | refine blkQ_hit rfl ?_
        | refine rndQ_x ?_)
      refine WC.loop (σ := Nat) [0, 3, 6] (fun i => [(10, .int .i64 (i : Int))]) (fun i w => i ≤ rs.length ∧ St w0 M0 w [] (⟨w3, fun b => b < w3.heap.size⟩ :: Z0)) (fun i => rs.length - i) 0 ⟨Nat.zero_le _, hS⟩ ⟨rfl, trivial⟩ ?_
      clear hS
      rintro i g4 w ⟨hi, hS⟩
      show WC _ _ _ (lf _ [(10, .int .i64 (i : Int))] _ _) _ _
      by_cases hlt : i < rs.length
      · obtain ⟨l, hli, hln, hA1, hA2⟩ := hrd i hlt
        obtain ⟨xb, xo, xs, rfl, hxF, hxr, hxe⟩ := hro.at_ hlt
        have hxe : xs = encRw rs[i] := hxe
        subst hxe
        obtain ⟨hl2, hle⟩ := List.getElem?_eq_some_iff.1 hli
        obtain ⟨yb, yo, ys, rfl, hyF, hyr, hye⟩ := hrl.at_ hl2
        have hye : ys = encRw ls[i] := hye
        rw [hle] at hye
        subst hye
        have hrz := hz _ (List.getElem_mem hlt)
        generalize rs[i] = r at *
        obtain ⟨A, n, cap⟩ := r
        obtain ⟨A2, n2, cap2⟩ := l
        dsimp only at hln hA1 hA2 hrz
        subst hln
        have hxr : w3.rangeAt xb (xo + i * 1) [.slice A n cap] := hxr
        have hyr : w3.rangeAt yb (yo + i * 1) [.slice A2 (n + 20) cap2] := hyr
        clear hrd hro hrl hli hle hz
        repeat' (first
          | (show WL _ _ _ _ _ _ _; first
            | refine WL.pure rfl rfl rfl rfl ?_
            | refine WL.nil ?_)
          | (show WC _ _ _ _ _ _; first
            | refine WC.seq ?_
            | refine WC.region ?_
            | refine WC.block ?_
            | refine WC.skip ?_
            | refine WC.condT rfl (decide_eq_true (by first | with_reducible assumption | omega)) ?_)
          | refine seqQ_n ?_)
        refine WC.loop (σ := Nat) [0, 3, 6, 10] (fun k => [(11, .int .i64 (k : Int))]) (fun k w => k ≤ n + 20 ∧ St w0 M0 w [] (⟨w3, fun b => b < w3.heap.size⟩ :: Z0)) (fun k => n + 20 - k) 0 ⟨Nat.zero_le _, hS⟩ ⟨rfl, trivial⟩ ?_
        clear hS
        rintro k g5 w ⟨hk, hS⟩
        show WC _ _ _ (lf _ [(11, .int .i64 (k : Int))] _ _) _ _
        by_cases hkl : k < n + 20
        · obtain ⟨eb, eo, es, rfl, heF, her, hee⟩ := hA2.at_ (k := k) (by simp [grw]; omega)
          have q26 : (i : Int) % 26 = ((i % 26 : Nat) : Int) := rfl
          have hmk1 := mks_one (j := i)
          have hgk := grw_at (mk := mT) (nw := nT) (j := i) hkl
          rw [List.getElem?_eq_getElem (by simp [grw]; omega)] at hgk
          have hgk := Option.some.inj hgk
          have hee : es = encT _ := hee
          rw [hgk] at hee
          by_cases hkn : k < n
          · rw [if_pos hkn] at hee
            subst hee
            have her : w3.rangeAt eb (eo + k * 1) (encT (mT i)) := her
            obtain ⟨fb, fo, es2, rfl, hfF, hfr, hfe⟩ := hA1.at_ (k := k) (by simpa using hkn)
            have hfe : es2 = encT _ := hfe
            rw [List.getElem_replicate] at hfe
            subst hfe
            have hfr : w3.rangeAt fb (fo + k * 1) (encT (mT i)) := hfr
            repeat' (first
              | (show WL _ _ _ _ _ _ _; first
                | refine WL.pure rfl rfl rfl rfl ?_
                | refine WL.nil ?_
                | refine WL.add rfl rfl rfl (by omega) rfl rfl rfl ?_
                | (refine WL.rem (a := (i : Int)) rfl rfl rfl (by omega) (by omega) rfl rfl rfl ?_; rw [q26])
                | (refine WL.midS (s := mks) (i := i % 26) (j := i % 26 + 1) rfl rfl rfl rfl (by first | rfl | exact vint (show _ = ((i % 26 + 1 : Nat) : Int) by omega)) (by omega) (by show _ ≤ 26; omega) rfl rfl rfl ?_)
                | (refine WL.cat rfl rfl rfl (by show 3 + _ ≤ _; omega) rfl rfl rfl ?_)
                | (first | (refine WL.load hS rfl rfl (LdOk.snap0 hyF hyr (by repeat (first | exact List.Mem.head _ | apply List.Mem.tail)) rfl) rfl rfl rfl ?_) | (refine WL.load hS rfl rfl (LdOk.snap0 hxF hxr (by repeat (first | exact List.Mem.head _ | apply List.Mem.tail)) rfl) rfl rfl rfl ?_) | (refine WL.load hS rfl rfl (LdOk.snap0 heF her (by repeat (first | exact List.Mem.head _ | apply List.Mem.tail)) rfl) rfl rfl rfl ?_) | (refine WL.load hS rfl rfl (LdOk.snap0 hfF hfr (by repeat (first | exact List.Mem.head _ | apply List.Mem.tail)) rfl) rfl rfl rfl ?_))
                | refine WL.index rfl rfl rfl rfl (by first | with_reducible assumption | omega) rfl rfl rfl rfl ?_
                | ((fail_if_success (refine WL.wanted rfl ?_)); refine WL.guard rfl rfl rfl (fun h => ?_) (fun h => ?_) <;> (try simp only [Classical.not_not, Bool.not_eq_true', Bool.not_eq_false', Bool.not_eq_eq_eq_not, Bool.not_true, Bool.not_false, beq_iff_eq, beq_eq_false_iff_ne, ne_eq, decide_eq_decide, decide_eq_true_eq, decide_eq_false_iff_not, Bool.and_eq_true, Bool.or_eq_true, Bool.and_eq_false_iff, Bool.or_eq_false_iff] at h) <;> (try (exfalso; first | omega | contradiction))))
              | (show WC _ _ _ _ _ _; first
                | refine WC.seq ?_
                | refine WC.region ?_
                | refine WC.block ?_
                | refine WC.skip ?_
                | refine WC.condT rfl (decide_eq_true (by first | with_reducible assumption | omega)) ?_
                | refine WC.condF rfl (decide_eq_false (by first | with_reducible assumption | omega)) ?_
                | (refine WC.cond rfl (fun h => ?_) (fun h => ?_) <;> (try simp only [Classical.not_not, Bool.not_eq_true', Bool.not_eq_false', Bool.not_eq_eq_eq_not, Bool.not_true, Bool.not_false, beq_iff_eq, beq_eq_false_iff_ne, ne_eq, decide_eq_decide, decide_eq_true_eq, decide_eq_false_iff_not, Bool.and_eq_true, Bool.or_eq_true, Bool.and_eq_false_iff, Bool.or_eq_false_iff] at h) <;> (try (exfalso; first | omega | contradiction))))
              | refine seqQ_n ?_
              | refine blkQ_n ?_)
            exact rndQ_n (k + 1) ⟨by omega, hS⟩ (by show n + 20 - (k + 1) < n + 20 - k; omega) ⟨vint (by omega), trivial⟩ ⟨rfl, rfl, rfl, rfl, trivial⟩
          · rw [if_neg hkn] at hee
            subst hee
            have her : w3.rangeAt eb (eo + k * 1) (encT (nT i)) := her
            clear hA1
            repeat' (first
              | (show WL _ _ _ _ _ _ _; first
                | refine WL.pure rfl rfl rfl rfl ?_
                | refine WL.nil ?_
                | refine WL.add rfl rfl rfl (by omega) rfl rfl rfl ?_
                | (refine WL.rem (a := (i : Int)) rfl rfl rfl (by omega) (by omega) rfl rfl rfl ?_; rw [q26])
                | (refine WL.midS (s := mks) (i := i % 26) (j := i % 26 + 1) rfl rfl rfl rfl (by first | rfl | exact vint (show _ = ((i % 26 + 1 : Nat) : Int) by omega)) (by omega) (by show _ ≤ 26; omega) rfl rfl rfl ?_)
                | (refine WL.cat rfl rfl rfl (by show 3 + _ ≤ _; omega) rfl rfl rfl ?_)
                | (first | (refine WL.load hS rfl rfl (LdOk.snap0 hyF hyr (by repeat (first | exact List.Mem.head _ | apply List.Mem.tail)) rfl) rfl rfl rfl ?_) | (refine WL.load hS rfl rfl (LdOk.snap0 hxF hxr (by repeat (first | exact List.Mem.head _ | apply List.Mem.tail)) rfl) rfl rfl rfl ?_) | (refine WL.load hS rfl rfl (LdOk.snap0 heF her (by repeat (first | exact List.Mem.head _ | apply List.Mem.tail)) rfl) rfl rfl rfl ?_) | (refine WL.load hS rfl rfl (LdOk.snap0 hfF hfr (by repeat (first | exact List.Mem.head _ | apply List.Mem.tail)) rfl) rfl rfl rfl ?_))
                | refine WL.index rfl rfl rfl rfl (by first | with_reducible assumption | omega) rfl rfl rfl rfl ?_
                | refine WL.skip rfl rfl rfl ?_
                | ((fail_if_success (refine WL.wanted rfl ?_)); refine WL.guard rfl rfl rfl (fun h => ?_) (fun h => ?_) <;> (try simp only [Classical.not_not, Bool.not_eq_true', Bool.not_eq_false', Bool.not_eq_eq_eq_not, Bool.not_true, Bool.not_false, beq_iff_eq, beq_eq_false_iff_ne, ne_eq, decide_eq_decide, decide_eq_true_eq, decide_eq_false_iff_not, Bool.and_eq_true, Bool.or_eq_true, Bool.and_eq_false_iff, Bool.or_eq_false_iff] at h) <;> (try (exfalso; first | omega | contradiction))))
              | (show WC _ _ _ _ _ _; first
                | refine WC.seq ?_
                | refine WC.region ?_
                | refine WC.block ?_
                | refine WC.skip ?_
                | refine WC.condF rfl (by with_reducible rfl) ?_
                | refine WC.condT rfl (decide_eq_true (by first | with_reducible assumption | omega)) ?_)
              | refine seqQ_n ?_
              | refine blkQ_n ?_)
            exact rndQ_n (k + 1) ⟨by omega, hS⟩ (by show n + 20 - (k + 1) < n + 20 - k; omega) ⟨vint (by omega), trivial⟩ ⟨rfl, rfl, rfl, rfl, trivial⟩
        · repeat' (first
            | (show WL _ _ _ _ _ _ _; first
              | refine WL.pure rfl rfl rfl rfl ?_
              | refine WL.nil ?_
              | refine WL.add rfl rfl rfl (by omega) rfl rfl rfl ?_
              | (first | (refine WL.load hS rfl rfl (LdOk.snap0 hyF hyr (by repeat (first | exact List.Mem.head _ | apply List.Mem.tail)) rfl) rfl rfl rfl ?_) | (refine WL.load hS rfl rfl (LdOk.snap0 hxF hxr (by repeat (first | exact List.Mem.head _ | apply List.Mem.tail)) rfl) rfl rfl rfl ?_) | (refine WL.load hS rfl rfl (LdOk.snap0 heF her (by repeat (first | exact List.Mem.head _ | apply List.Mem.tail)) rfl) rfl rfl rfl ?_) | (refine WL.load hS rfl rfl (LdOk.snap0 hfF hfr (by repeat (first | exact List.Mem.head _ | apply List.Mem.tail)) rfl) rfl rfl rfl ?_))
              | refine WL.index rfl rfl rfl rfl (by first | with_reducible assumption | omega) rfl rfl rfl rfl ?_)
            | (show WC _ _ _ _ _ _; first
              | refine WC.seq ?_
              | refine WC.region ?_
              | refine WC.exit ?_
              | refine WC.condF rfl (decide_eq_false (by first | with_reducible assumption | omega)) ?_)
            | refine seqQ_n ?_
            | refine blkQ_n ?_
            | refine seqQ_x ?_
            | refine blkQ_hit rfl ?_
            | refine rndQ_x ?_)
          exact rndQ_n (i + 1) ⟨by omega, hS⟩ (by show rs.length - (i + 1) < rs.length - i; omega) ⟨vint (by omega), trivial⟩ ⟨rfl, rfl, rfl, trivial⟩
      · repeat' (first
          | (show WL _ _ _ _ _ _ _; first
            | refine WL.pure rfl rfl rfl rfl ?_
            | refine WL.nil ?_)
          | (show WC _ _ _ _ _ _; first
            | refine WC.seq ?_
            | refine WC.region ?_
            | refine WC.exit ?_
            | refine WC.ret ?_
            | refine WC.condF rfl (decide_eq_false (by first | with_reducible assumption | omega)) ?_)
          | refine seqQ_n ?_
          | refine seqQ_x ?_
          | refine blkQ_hit rfl ?_
          | refine rndQ_x ?_)
        exact fin1r rfl rfl ⟨rfl, hfp (hS.less fun z hz => List.mem_cons_of_mem _ hz)⟩
end Go.Proofs.YtccfiohagbneaaaGreatDoor

/- What is proved: what the law WalPlays asks of the program's disk besides; how many records a journal may have. Conditions: none. -/
set_option linter.unusedSimpArgs false
set_option linter.unusedVariables false
namespace Go.Proofs.YtccfiohagbneaaaGreatDoor
open Go Go.J Go.RowKit
set_option maxHeartbeats 4000000 in
set_option maxRecDepth 100000 in
theorem ddown_c {b mb lb : Nat} {D : Dk} {w0 : World} (h : DkIs b mb lb D w0) : Cal Tryz.prog 26 [.pointer (some ⟨b, 0, none⟩)] w0 (fun v w' => Upd [] w0 w' ∧ v = .bool D.down) := by
  refine Cal.mk' (by kernel_rfl) Tryz.func26 rfl rfl fun hS => ?_
  obtain ⟨_, _, _, hb, hm, hlm⟩ := h
  have hb : w0.heap[b]? = some (.cells ⟨[.map (some mb), .map (some lb), .int .i64 D.steps, .int .i64 D.stamps, .int .i64 D.armed, .bool D.down]⟩ 122 (0, 0)) := hb
  repeat' (first
    | (show WL _ _ _ _ _ _ _; first
      | refine WL.pure rfl rfl rfl rfl ?_
      | refine WL.nil ?_
      | (refine WL.load hS rfl rfl (LdOk.old hb (by repeat (first | exact List.Mem.head _ | apply List.Mem.tail)) rfl) rfl rfl rfl ?_))
    | (show WC _ _ _ _ _ _; first
      | refine WC.seq ?_
      | refine WC.region ?_
      | refine WC.ret ?_)
    | refine seqQ_n ?_)
  exact fin1r rfl rfl ⟨hS.upd, rfl⟩
set_option maxHeartbeats 4000000 in
set_option maxRecDepth 100000 in
theorem dstp_c {b mb lb : Nat} {D : Dk} {w0 : World} (h : DkIs b mb lb D w0) : Cal Tryz.prog 32 [.pointer (some ⟨b, 0, none⟩)] w0 (fun v w' => Upd [] w0 w' ∧ v = .int .i64 D.steps) := by
  refine Cal.mk' (by kernel_rfl) Tryz.func32 rfl rfl fun hS => ?_
  obtain ⟨_, _, _, hb, hm, hlm⟩ := h
  have hb : w0.heap[b]? = some (.cells ⟨[.map (some mb), .map (some lb), .int .i64 D.steps, .int .i64 D.stamps, .int .i64 D.armed, .bool D.down]⟩ 122 (0, 0)) := hb
  repeat' (first
    | (show WL _ _ _ _ _ _ _; first
      | refine WL.pure rfl rfl rfl rfl ?_
      | refine WL.nil ?_
      | (refine WL.load hS rfl rfl (LdOk.old hb (by repeat (first | exact List.Mem.head _ | apply List.Mem.tail)) rfl) rfl rfl rfl ?_))
    | (show WC _ _ _ _ _ _; first
      | refine WC.seq ?_
      | refine WC.region ?_
      | refine WC.skip ?_
      | refine WC.ret ?_
      | refine WC.condF rfl (by with_reducible rfl) ?_)
    | refine seqQ_n ?_)
  exact fin1r rfl rfl ⟨hS.upd, rfl⟩
theorem scanF_count : ∀ (k : Nat) (t : List UInt8), 4 * (scanF k t).1.length ≤ t.length
  | 0, t => by simp [scanF]
  | k + 1, t => by
    unfold scanF
    by_cases h0 : t = []
    · rw [if_pos h0]; exact Nat.zero_le _
    · rw [if_neg h0]
      by_cases he : (readE t).2.2 = 0
      · rw [if_pos he]
        have h1 := scanF_count k (t.drop (readE t).2.1)
        have h2 := readE_le t he
        rw [List.length_drop] at h1
        show 4 * ((scanF k (t.drop (readE t).2.1)).1.length + 1) ≤ _
        omega
      · rw [if_neg he]; exact Nat.zero_le _
/-- what is known of a journal's variable in the law -/
structure GPl (B : Nat) (G : Lg) : Prop where
  p : G.p = lP
  n : 4 * G.recs.length ≤ B
theorem GPl.mono {B B' : Nat} {G : Lg} (h : GPl B G) (hB : B ≤ B') : GPl B' G := ⟨h.p, Nat.le_trans h.n hB⟩
theorem GPl.reset {B : Nat} {G : Lg} (h : GPl B G) (e : Int) : GPl B (G.reset e) := by
  unfold Lg.reset
  split
  · exact ⟨h.p, Nat.zero_le _⟩
  · exact h
theorem GPl.add {B B' : Nat} {G : Lg} {D : Dk} {r : List UInt8} (h : GPl B G) (hB : B + 4 ≤ B') : GPl B' (walAdd G D r).2.1 := by
  unfold walAdd
  repeat' split
  all_goals first
    | exact h.mono (by omega)
    | exact ⟨h.p, by have := h.n; show 4 * (G.recs ++ [r]).length ≤ B'; rw [List.length_append]; show 4 * (_ + 1) ≤ _; omega⟩
theorem DPl.opened {B : Nat} {D : Dk} (h : DPl B D) : ∀ G, (walOpen D lP).2.1 = some G → GPl B G := by
  have hr := h.read lP
  have hc := scanF_count (D.read lP).1.length (D.read lP).1
  have hc : 4 * (scanE (D.read lP).1).1.length ≤ (D.read lP).1.length := hc
  unfold walOpen
  repeat' split
  all_goals
    intro G hG
    first
      | (cases hG; done)
      | (obtain rfl := Option.some.inj hG; exact ⟨rfl, Nat.zero_le _⟩)
      | (obtain rfl := Option.some.inj hG; exact ⟨rfl, Nat.le_trans hc hr⟩)
theorem walOpen_eW (D : Dk) (p : List UInt8) : ((walOpen D p).2.1 = none → (walOpen D p).1 ≠ 0) ∧ ∀ G, (walOpen D p).2.1 = some G → (walOpen D p).1 = 0 := by
  unfold walOpen
  repeat' split
  all_goals
    constructor
    · intro h
      first
        | assumption
        | cases h
    · intro G h
      first
        | rfl
        | cases h
structure Stp06 where
  kind : Int
  text : List UInt8
  n : Int
def encStp06 (s : Stp06) : List Value := [.int .i64 s.kind, str s.text, .int .i64 s.n]
def cStp06 : Cod Stp06 := .flat encStp06 3 fun _ => rfl
/-- how great what the journal holds may be behind so many steps -/
def szP (l : List Stp06) (i : Nat) : Nat := ((l.take i).map fun s => s.text.length + 14).sum
theorem szP_succ {l : List Stp06} {i : Nat} (h : i < l.length) : szP l (i + 1) = szP l i + (l[i].text.length + 14) := by
  unfold szP
  rw [List.take_succ_eq_append_getElem h, List.map_append, List.sum_append]
  simp
theorem szP_le (l : List Stp06) (i : Nat) : szP l i ≤ (l.map fun s => s.text.length).sum + 14 * i := by
  induction i generalizing l with
  | zero => simp [szP]
  | succ i ih =>
    cases l with
    | nil => simp [szP]
    | cons x l =>
      have := ih l
      unfold szP at this ⊢
      simp only [List.take_succ_cons, List.map_cons, List.sum_cons]
      omega
end Go.Proofs.YtccfiohagbneaaaGreatDoor

/- What is proved: the law WalPlays: a journal over any script is the document's. Conditions: a script of bounded bulk. -/
set_option linter.unusedSimpArgs false
set_option linter.unusedVariables false
namespace Go.Proofs.YtccfiohagbneaaaGreatDoor
open Go Go.J Go.RowKit
theorem markS2 {e : TypeId} (r1 r2 : Rw) (l1 l2 : List (List UInt8)) (h1 : l1.length = r1.n) (h2 : l2.length = r2.n) : MarkIs encT e 1 mT [r1, r2] [ownRw encT e 1 r1 l1, ownRw encT e 1 r2 l2] 0 := by
  refine ⟨rfl, fun j hj => ?_⟩
  match j, hj with
  | 0, _ => exact ⟨l1, h1, rfl, fun h => absurd h (Nat.not_lt_zero _)⟩
  | 1, _ => exact ⟨l2, h2, rfl, fun h => absurd h (Nat.not_lt_zero _)⟩
set_option maxHeartbeats 64000000 in
set_option maxRecDepth 100000 in
theorem walPlays_c (l : List Stp06) {A : Option Addr} {cap : Nat} {w0 : World} (hA : SlAt cStp06 (Old w0) w0 A l) (hl : (l.map fun s => s.text.length).sum + l.length ≤ 1048576) (hn : ∀ s ∈ l, -9223372036854775808 ≤ s.n ∧ s.n ≤ 9223372036854775807) :
    Cal Tryz.prog 3 [.slice A l.length cap] w0 (fun v w' => Upd [] w0 w' ∧ v = .bool true) := by
  refine Cal.mk' (by kernel_rfl) Tryz.func3 rfl rfl fun hS => ?_
  have hm0 : DPl 0 Dv0 := by
    refine ⟨rfl, by decide, fun x hx => ?_, fun x hx => ?_⟩
    · rw [List.mem_singleton.1 hx]; exact .inl rfl
    · rw [List.mem_singleton.1 hx]; exact FitI.zero 0
  repeat' (first
    | (show WL _ _ _ _ _ _ _; first
      | refine WL.pure rfl rfl rfl rfl ?_
      | refine WL.nil ?_
      | (refine WL.callL (D := []) hS (by repeat (first | exact Pulls.nil | (apply Pulls.cons; focus (repeat (first | exact Pull.here | apply Pull.there))))) rfl rfl (fun hI => made_c _) rfl rfl rfl ?_; rintro v w ⟨q, mb, lb, rfl, hm⟩ hS; replace hS := hS _ hm; clear hm)
      | (refine WL.callG rfl rfl (rfnew_c _) rfl rfl rfl ?_; rintro v w ⟨hu, dk, f0, rfl, hn⟩; replace hS := hS.new hu hn; clear hu hn)
      | (refine WL.calls hS rfl rfl (wawake_c _) rfl rfl rfl ?_; rintro v w rfl hS)
      | (refine WL.callL (D := [rfC dk Dk0 f0]) hS (by repeat (first | exact Pulls.nil | (apply Pulls.cons; focus (repeat (first | exact Pull.here | apply Pull.there))))) rfl rfl (fun hI => rfmkdir_c [118] hI (by decide) (by decide)) rfl rfl rfl ?_; rintro v w ⟨rfl, f1, hm⟩ hS; replace hS := hS _ hm; clear hm; rw [mkdir_v] at hS ⊢; dsimp only at hS ⊢)
      | (refine WL.callL (D := [dkC q mb lb Dv0]) hS (by repeat (first | exact Pulls.nil | (apply Pulls.cons; focus (repeat (first | exact Pull.here | apply Pull.there))))) rfl rfl (fun hI => open_c lP hI (by decide) Sm_v) rfl rfl rfl ?_; rintro v w hR hS; rw [open_new] at hR; obtain ⟨L, fp, rfl, hm⟩ := hR; replace hS := hS _ hm; clear hm)
      | (refine WL.callL (D := [rfC dk Dv0 f1]) hS (by repeat (first | exact Pulls.nil | (apply Pulls.cons; focus (repeat (first | exact Pull.here | apply Pull.there))))) rfl rfl (fun hI => rlopen_c lP hI (by decide) Sm_v (by decide)) rfl rfl rfl ?_; rintro v w hR hS; rw [open_new] at hR; obtain ⟨Lm, fm, fq, rfl, hm⟩ := hR; replace hS := hS _ hm; clear hm))
    | (show WC _ _ _ _ _ _; first
      | refine WC.seq ?_
      | refine WC.region ?_
      | refine WC.block ?_
      | refine WC.skip ?_
      | refine WC.condF rfl (by with_reducible rfl) ?_
      | refine WC.condF rfl (by decide) ?_)
    | refine seqQ_n ?_)
  have hd0 : DPl (szP l 0) (Dl ⟨false, [], [], false, false, 2⟩ 4 2 (-1) false) := by
    have := hm0.open_
    rw [open_new] at this
    exact this
  have hg0 : GPl (szP l 0) ⟨lP, [], false⟩ := hm0.opened _ (by rw [open_new])
  have hsz : ∀ i, i ≤ 120 → szP l i ≤ 1060000 := fun i hi => by have := szP_le l i; omega
  refine WC.loop (σ := Nat × Dk × Lg × Nat × Nat × List Nat × List Nat × List Nat) [0, 3, 4] (fun (i, D, G, L, Lm, _) => [(5, .pointer (some ⟨L, 0, none⟩)), (7, .pointer (some ⟨Lm, 0, none⟩)), (9, .int .i64 (i : Int))])
    (fun (i, D, G, L, Lm, fp, fm, fq) w => (i ≤ l.length ∧ i ≤ 120 ∧ DPl (szP l i) D ∧ GPl (szP l i) G) ∧ St w0 [] w [lgC L q G fp, dkC q mb lb D, rlC Lm dk G fm, rfC dk D fq] [⟨w0, Old w0⟩]) (fun (i, _) => l.length - i)
    (0, _, _, L, Lm, fp, fm, fq) ⟨⟨Nat.zero_le _, Nat.zero_le _, hd0, hg0⟩, hS.droplast2 (by repeat (first | exact Pulls.nil | (apply Pulls.cons; focus (repeat (first | exact Pull.here | apply Pull.there)))))⟩ ⟨rfl, rfl, rfl, trivial⟩ ?_
  clear hS hd0 hg0 hm0
  rintro ⟨i, D, G, L, Lm, fp, fm, fq⟩ g w ⟨⟨hi, hi2, hD, hG⟩, hS⟩
  show WC _ _ _ (lf _ [(5, .pointer (some ⟨L, 0, none⟩)), (7, .pointer (some ⟨Lm, 0, none⟩)), (9, .int .i64 (i : Int))] _ _) _ _
  by_cases hlt : i < l.length
  rotate_left
  · have hie : i = l.length := by omega
    subst hie
    repeat' (first
      | (show WL _ _ _ _ _ _ _; first
        | refine WL.pure rfl rfl rfl rfl ?_
        | refine WL.nil ?_
        | refine WL.skip rfl rfl rfl ?_
        | ((fail_if_success (refine WL.wanted rfl ?_)); refine WL.guard rfl rfl rfl (fun h => ?_) (fun h => ?_) <;> (try simp only [Classical.not_not, Bool.not_eq_true', Bool.not_eq_false', Bool.not_eq_eq_eq_not, Bool.not_true, Bool.not_false, beq_iff_eq, beq_eq_false_iff_ne, ne_eq, decide_eq_decide, decide_eq_true_eq, decide_eq_false_iff_not, Bool.and_eq_true, Bool.or_eq_true, Bool.and_eq_false_iff, Bool.or_eq_false_iff] at h) <;> (try (exfalso; first | omega | contradiction))))
      | (show WC _ _ _ _ _ _; first
        | refine WC.seq ?_
        | refine WC.region ?_
        | refine WC.exit ?_
        | refine WC.ret ?_
        | refine WC.condF rfl (by with_reducible rfl) ?_)
      | refine seqQ_n ?_
      | refine seqQ_x ?_
      | refine blkQ_hit rfl ?_
      | refine rndQ_x ?_)
    exact fin1r rfl rfl ⟨hS.upd, rfl⟩
  by_cases hlt2 : i < 120
  rotate_left
  · have hie : i = 120 := by omega
    subst hie
    repeat' (first
      | (show WL _ _ _ _ _ _ _; first
        | refine WL.pure rfl rfl rfl rfl ?_
        | refine WL.nil ?_
        | ((fail_if_success (refine WL.wanted rfl ?_)); refine WL.guard rfl rfl rfl (fun h => ?_) (fun h => ?_) <;> (try simp only [Classical.not_not, Bool.not_eq_true', Bool.not_eq_false', Bool.not_eq_eq_eq_not, Bool.not_true, Bool.not_false, beq_iff_eq, beq_eq_false_iff_ne, ne_eq, decide_eq_decide, decide_eq_true_eq, decide_eq_false_iff_not, Bool.and_eq_true, Bool.or_eq_true, Bool.and_eq_false_iff, Bool.or_eq_false_iff] at h) <;> (try (exfalso; first | omega | contradiction))))
      | (show WC _ _ _ _ _ _; first
        | refine WC.seq ?_
        | refine WC.region ?_
        | refine WC.exit ?_
        | refine WC.ret ?_
        | refine WC.condF rfl (by decide) ?_)
      | refine seqQ_n ?_
      | refine seqQ_x ?_
      | refine blkQ_hit rfl ?_
      | refine rndQ_x ?_)
    exact fin1r rfl rfl ⟨hS.upd, rfl⟩
  obtain ⟨rb, ro, es, rfl, hF, hr, hes⟩ := hA.at_ hlt
  have hes : es = encStp06 l[i] := hes
  subst hes
  have hr : w0.rangeAt rb (ro + i * 3) (encStp06 l[i]) := hr
  have hB := szP_succ hlt
  have hB1 := hsz (i + 1) (by omega)
  have hN := hn _ (List.getElem_mem hlt)
  generalize l[i] = s at *
  obtain ⟨kind, text, n⟩ := s
  unfold encStp06 at hr
  dsimp only at hr hB hN
  generalize hB1e : szP l (i + 1) = B1 at *
  generalize szP l i = B0 at *
  repeat' (first
    | (show WL _ _ _ _ _ _ _; first
      | refine WL.pure rfl rfl rfl rfl ?_
      | refine WL.nil ?_
      | refine WL.load hS rfl rfl (LdOk.box (by repeat (first | exact List.Mem.head _ | apply List.Mem.tail)) rfl) rfl rfl rfl ?_
      | (refine WL.load hS rfl rfl (LdOk.snap0 hF hr (by repeat (first | exact List.Mem.head _ | apply List.Mem.tail)) rfl) rfl rfl rfl ?_)
      | (refine WL.store hS rfl rfl rfl (by repeat (first | exact StB.here rfl | apply StB.there)) rfl rfl rfl ?_; intro w hS)
      | (refine WL.alloc hS rfl rfl rfl rfl rfl rfl ?_; intro w b hS)
      | refine WL.index rfl rfl rfl rfl (by first | with_reducible assumption | omega) rfl rfl rfl rfl ?_
      | refine WL.skip rfl rfl rfl ?_
      | ((fail_if_success (refine WL.wanted rfl ?_)); refine WL.guard rfl rfl rfl (fun h => ?_) (fun h => ?_) <;> (try simp only [Classical.not_not, Bool.not_eq_true', Bool.not_eq_false', Bool.not_eq_eq_eq_not, Bool.not_true, Bool.not_false, beq_iff_eq, beq_eq_false_iff_ne, ne_eq, decide_eq_decide, decide_eq_true_eq, decide_eq_false_iff_not, Bool.and_eq_true, Bool.or_eq_true, Bool.and_eq_false_iff, Bool.or_eq_false_iff] at h) <;> (try (exfalso; first | omega | contradiction))))
    | (show WC _ _ _ _ _ _; first
      | (show WC _ _ (Code.seq (Code.region 12 _ _) _) _ _ _; refine WC.cutS (σ := Bool) [0, 3, 4, 5, 7, 9, 10] (fun a => [(11, .bool a)]) (fun _ w => St w0 [] w [lgC L q G fp, dkC q mb lb D, rlC Lm dk G fm, rfC dk D fq, .box b 37 [.int .i64 kind, str text, .int .i64 n]] [⟨w0, Old w0⟩]) ?_ ?_)
      | refine WC.seq ?_
      | refine WC.region ?_
      | refine WC.block ?_
      | refine WC.skip ?_
      | refine WC.condT rfl (decide_eq_true (by first | with_reducible assumption | omega)) ?_)
    | refine seqQ_n ?_)
  all_goals first
    | exact endQ_n true (hS.droplast2 (by repeat (first | exact Pulls.nil | (apply Pulls.cons; focus (repeat (first | exact Pull.here | apply Pull.there)))))) ⟨rfl, trivial⟩ ⟨rfl, rfl, rfl, rfl, rfl, rfl, rfl, trivial⟩
    | exact endQ_n false (hS.droplast2 (by repeat (first | exact Pulls.nil | (apply Pulls.cons; focus (repeat (first | exact Pull.here | apply Pull.there)))))) ⟨rfl, trivial⟩ ⟨rfl, rfl, rfl, rfl, rfl, rfl, rfl, trivial⟩
    | exact endQ_n (decide (kind = 5)) (hS.droplast2 (by repeat (first | exact Pulls.nil | (apply Pulls.cons; focus (repeat (first | exact Pull.here | apply Pull.there)))))) ⟨rfl, trivial⟩ ⟨rfl, rfl, rfl, rfl, rfl, rfl, rfl, trivial⟩
    | skip
  repeat (clear hS)
  clear hr hes hF
  rintro again g2 w hS
  obtain ⟨sb, hsb⟩ : ∃ sb, sb = b := ⟨_, rfl⟩
  subst hsb
  show WC _ _ _ (lf _ [(11, .bool again)] _ _) _ _
  have hpl : G.p.length ≤ 1099511620 := by rw [hG.p]; decide
  have hit := hD.len
  have hkp : D.Kp 1099511627776 := (hD.mono (show B0 ≤ 1099511627776 by omega)).Kp
  have hsm : D.Sm 1099511627776 := (hD.mono (show B0 ≤ 1099511627776 by omega)).Sm
  have hkk : ∀ x ∈ D.items, x.1.length ≤ 1099511627 := fun x hx => by rcases hD.only x hx with e | e | e <;> rw [e] <;> decide
  have hat := hD.at_ lP
  have hat2 := hD.step.at_ lP
  have hatp := hD.at_ G.p
  have hatp2 := hD.step.at_ G.p
  have hgn := hG.n
  have hDm := hD.mono (show B0 ≤ B1 by omega)
  have hGm := hG.mono (show B0 ≤ B1 by omega)
  rcases hua : walAdd G D text with ⟨e1, G1, D1⟩
  rcases huf : D.fill G.p [] with ⟨e2, D2⟩
  have hadd := DPl.add (G := G) (r := text) (B' := B1) hD hG.p (by have := packE_len text; have := putN_len10 (n := text.length) (by omega); omega)
  have haddG := GPl.add (D := D) (r := text) (B' := B1) hG (by omega)
  rw [hua] at hadd haddG
  have hfill : DPl B1 D2 := by
    have := hDm.fill (s := []) (Nat.le_refl _) (Nat.zero_le _)
    rw [← hG.p, huf] at this
    exact this
  have hrs := hDm.restart n
  have hrt := hDm.rot (bit := n) (p := lP) (.inr (.inl rfl))
  have hap := hD.append (s := text) (B' := B1) (p := lP) (.inr (.inl rfl)) (by omega)
  repeat' (first
    | (show WL _ _ _ _ _ _ _; first
      | refine WL.pure rfl rfl rfl rfl ?_
      | refine WL.nil ?_
      | refine WL.load hS rfl rfl (LdOk.box (by repeat (first | exact List.Mem.head _ | apply List.Mem.tail)) rfl) rfl rfl rfl ?_
      | (refine WL.callL (D := [lgC L q G fp, dkC q mb lb D]) hS (by repeat (first | exact Pulls.nil | (apply Pulls.cons; focus (repeat (first | exact Pull.here | apply Pull.there))))) rfl rfl (fun hI => reset_c hI huf hpl hsm) rfl rfl rfl ?_; rintro v w ⟨rfl, f1, hm⟩ hS; replace hS := hS _ hm; clear hm)
      | (refine WL.callL (D := [rlC Lm dk G fm, rfC dk D fq]) hS (by repeat (first | exact Pulls.nil | (apply Pulls.cons; focus (repeat (first | exact Pull.here | apply Pull.there))))) rfl rfl (fun hI => rlreset_c hI hpl (by omega) hsm) rfl rfl rfl ?_; rintro v w ⟨rfl, f2, f3, hm⟩ hS; replace hS := hS _ hm; clear hm; rw [huf] at hS ⊢; dsimp only at hS ⊢)
      | (refine WL.callL (D := [dkC q mb lb D]) hS (by repeat (first | exact Pulls.nil | (apply Pulls.cons; focus (repeat (first | exact Pull.here | apply Pull.there))))) rfl rfl (fun hI => arm_c n hI.head hI.headB) rfl rfl rfl ?_; rintro v w ⟨rfl, hm⟩ hS; replace hS := hS _ (.of1 hm); clear hm; obtain ⟨_, ⟨A5, c5, l5, hR5, rfl⟩, hfp5, hS⟩ := St.objOpen (φ := rfφ dk D) (fp := fq) (hS.pull (by repeat (first | exact Pull.here | apply Pull.there))); dsimp only [List.cons_append, List.nil_append] at hS)
      | (refine WL.callL (D := [dkC q mb lb D]) hS (by repeat (first | exact Pulls.nil | (apply Pulls.cons; focus (repeat (first | exact Pull.here | apply Pull.there))))) rfl rfl (fun hI => restart_c n hI.head hI.headB hkp (by omega) hkk) rfl rfl rfl ?_; rintro v w ⟨rfl, hm⟩ hS; replace hS := hS _ (.of1 hm); clear hm)
      | (refine WL.callL (D := [rfC dk D fq]) hS (by repeat (first | exact Pulls.nil | (apply Pulls.cons; focus (repeat (first | exact Pull.here | apply Pull.there))))) rfl rfl (fun hI => rfrestart_c n hI hkp (by omega)) rfl rfl rfl ?_; rintro v w ⟨rfl, f2, hm⟩ hS; replace hS := hS _ hm; clear hm)
      | (refine WL.callL (D := [dkC q mb lb D]) hS (by repeat (first | exact Pulls.nil | (apply Pulls.cons; focus (repeat (first | exact Pull.here | apply Pull.there))))) rfl rfl (fun hI => rot_c lP n hI.head hI.headB (by decide) (by have := hat.1; omega) (by have := hat.2.1; omega)) rfl rfl rfl ?_; rintro v w ⟨rfl, hm⟩ hS; replace hS := hS _ (.of1 hm); clear hm)
      | (refine WL.callL (D := [rfC dk D fq]) hS (by repeat (first | exact Pulls.nil | (apply Pulls.cons; focus (repeat (first | exact Pull.here | apply Pull.there))))) rfl rfl (fun hI => rfrot_c lP n hI (by decide) (by omega) (by have := hat.1; omega) (by have := hat.2.1; omega)) rfl rfl rfl ?_; rintro v w ⟨rfl, f2, hm⟩ hS; replace hS := hS _ hm; clear hm)
      | (refine WL.callL (D := [dkC q mb lb D]) hS (by repeat (first | exact Pulls.nil | (apply Pulls.cons; focus (repeat (first | exact Pull.here | apply Pull.there))))) rfl rfl (fun hI => append_c lP text hI.head hI.headB (by decide) (by rw [hD.lim]; rfl) (by have := hat2.1; omega)) rfl rfl rfl ?_; rintro v w ⟨rfl, hm⟩ hS; replace hS := hS _ (.of1 hm); clear hm)
      | (refine WL.callL (D := [rfC dk D fq]) hS (by repeat (first | exact Pulls.nil | (apply Pulls.cons; focus (repeat (first | exact Pull.here | apply Pull.there))))) rfl rfl (fun hI => rfappend_c lP text hI (by decide) (by omega) (by have := hat.1; omega)) rfl rfl rfl ?_; rintro v w ⟨rfl, f2, hm⟩ hS; replace hS := hS _ hm; clear hm)
      | (refine WL.store hS rfl rfl rfl (by repeat (first | exact StB.here rfl | apply StB.there)) rfl rfl rfl ?_; intro w hS))
    | (show WC _ _ _ _ _ _; first
      | (show WC _ _ (Code.seq (Code.seq (Code.region 13 _ _) (Code.block 2 _)) _) _ _ _; refine WC.cutS (σ := Dk × Lg × List Nat × List Nat × List Nat) [0, 3, 4, 5, 7, 9, 10, 11] (fun _ => []) (fun (D, G, fp, fm, fq) w => (DPl B1 D ∧ GPl B1 G) ∧ St w0 [] w [lgC L q G fp, dkC q mb lb D, rlC Lm dk G fm, rfC dk D fq, .box sb 37 [.int .i64 kind, str text, .int .i64 n]] [⟨w0, Old w0⟩]) ?_ ?_)
      | refine WC.seq ?_
      | refine WC.region ?_
      | refine WC.block ?_
      | refine WC.skip ?_
      | (show WC _ _ (Code.region _ (List.toArray [_, _, _, _, _, _, _, _, _]) true) _ _ _; refine WC.drawL [lgC L q G fp, dkC q mb lb D, rlC Lm dk G fm, rfC dk D fq] hS (by repeat (first | exact Pulls.nil | (apply Pulls.cons; focus (repeat (first | exact Pull.here | apply Pull.there))))) [0,1,2,4,5,6,8] [0,1,2,4,5,6,3,7,8] (by kernel_rfl) (by kernel_rfl) ?_; clear hS; intro w hS hM)
      | refine WC.condF rfl (decide_eq_false (by first | with_reducible assumption | omega)) ?_
      | (refine WC.cond rfl (fun h => ?_) (fun h => ?_) <;> (try simp only [Classical.not_not, Bool.not_eq_true', Bool.not_eq_false', Bool.not_eq_eq_eq_not, Bool.not_true, Bool.not_false, beq_iff_eq, beq_eq_false_iff_ne, ne_eq, decide_eq_decide, decide_eq_true_eq, decide_eq_false_iff_not, Bool.and_eq_true, Bool.or_eq_true, Bool.and_eq_false_iff, Bool.or_eq_false_iff] at h) <;> (try (exfalso; first | omega | contradiction))))
    | (show WD _ _ _ _ _ _ _ _ _; first
      | refine WD.pure rfl rfl rfl rfl rfl ?_
      | refine WD.nil ?_
      | refine WD.load rfl rfl (LdOk.box (by repeat (first | exact List.Mem.head _ | apply List.Mem.tail)) rfl) rfl rfl rfl rfl ?_
      | (refine WD.callL (D := [lgC L q G fp, dkC q mb lb D]) hS (by repeat (first | exact Pulls.nil | (apply Pulls.cons; focus (repeat (first | exact Pull.here | apply Pull.there))))) (by first | exact .refl _ _ | exact .chunk (.refl _ _) _ | exact .chunk (.chunk (.refl _ _) _) _) rfl rfl (fun hI => add_c text hI hua hpl hD.lim (by omega) (by have := hatp2.1; omega) (by omega)) rfl rfl rfl rfl rfl ?_; rintro v w ⟨rfl, f1, hm⟩; refine ⟨_, hm, fun hS hM => ?_⟩; clear hm)
      | (refine WD.callL (D := [rlC Lm dk G fm, rfC dk D fq]) hS (by repeat (first | exact Pulls.nil | (apply Pulls.cons; focus (repeat (first | exact Pull.here | apply Pull.there))))) (by first | exact .refl _ _ | exact .chunk (.refl _ _) _ | exact .chunk (.chunk (.refl _ _) _) _) rfl rfl (fun hI => rladd_c text hI hua hpl (by omega) (by omega) (by have := hatp.1; omega) (by omega)) rfl rfl rfl rfl rfl ?_; rintro v w ⟨rfl, f2, f3, hm⟩; refine ⟨_, hm, fun hS hM => ?_⟩; clear hm))
    | refine seqQ_n ?_
    | refine blkQ_n ?_)
  all_goals first
    | exact endQ_n (D1, G1, _, _, _) ⟨⟨hadd, haddG⟩, hS.droplast2 (by repeat (first | exact Pulls.nil | (apply Pulls.cons; focus (repeat (first | exact Pull.here | apply Pull.there)))))⟩ trivial ⟨rfl, rfl, rfl, rfl, rfl, rfl, rfl, rfl, trivial⟩
    | exact endQ_n (D2, G.reset e2, _, _, _) ⟨⟨hfill, hGm.reset _⟩, hS.droplast2 (by repeat (first | exact Pulls.nil | (apply Pulls.cons; focus (repeat (first | exact Pull.here | apply Pull.there)))))⟩ trivial ⟨rfl, rfl, rfl, rfl, rfl, rfl, rfl, rfl, trivial⟩
    | exact endQ_n (D.restart n, G, fp, fm, _) ⟨⟨hrs, hGm⟩, hS.droplast2 (by repeat (first | exact Pulls.nil | (apply Pulls.cons; focus (repeat (first | exact Pull.here | apply Pull.there)))))⟩ trivial ⟨rfl, rfl, rfl, rfl, rfl, rfl, rfl, rfl, trivial⟩
    | exact endQ_n ((D.rot lP n).2, G, fp, fm, _) ⟨⟨hrt, hGm⟩, hS.droplast2 (by repeat (first | exact Pulls.nil | (apply Pulls.cons; focus (repeat (first | exact Pull.here | apply Pull.there)))))⟩ trivial ⟨rfl, rfl, rfl, rfl, rfl, rfl, rfl, rfl, trivial⟩
    | exact endQ_n ((D.append lP text).2, G, fp, fm, _) ⟨⟨hap, hGm⟩, hS.droplast2 (by repeat (first | exact Pulls.nil | (apply Pulls.cons; focus (repeat (first | exact Pull.here | apply Pull.there)))))⟩ trivial ⟨rfl, rfl, rfl, rfl, rfl, rfl, rfl, rfl, trivial⟩
    | exact endQ_n (D, G, fp, fm, fq) ⟨⟨hDm, hGm⟩, hS.droplast2 (by repeat (first | exact Pulls.nil | (apply Pulls.cons; focus (repeat (first | exact Pull.here | apply Pull.there)))))⟩ trivial ⟨rfl, rfl, rfl, rfl, rfl, rfl, rfl, rfl, trivial⟩
    | (have e : D.arm n = { D with armed := -1 } := by
        unfold Dk.arm
        rw [show max (-1) n = -1 by omega]
       rw [e] at hS
       have hS := St.objClose (φ := rfφ dk { D with armed := -1 }) (hS.pulls (D := rfL dk A5 c5 l5 { D with armed := -1 }) (by repeat (first | exact Pulls.nil | (apply Pulls.cons; focus (repeat (first | exact Pull.here | apply Pull.there)))))) ⟨A5, c5, l5, hR5, rfl⟩
       exact endQ_n ({ D with armed := -1 }, G, fp, fm, _) ⟨⟨hDm.like rfl rfl, hGm⟩, hS.droplast2 (by repeat (first | exact Pulls.nil | (apply Pulls.cons; focus (repeat (first | exact Pull.here | apply Pull.there)))))⟩ trivial ⟨rfl, rfl, rfl, rfl, rfl, rfl, rfl, rfl, trivial⟩)
    | (have e : D.arm n = { D with armed := n } := by
        unfold Dk.arm
        rw [show max (-1) n = n by omega]
       rw [e] at hS
       have hS := St.objClose (φ := rfφ dk { D with armed := n }) (hS.pulls (D := rfL dk A5 c5 l5 { D with armed := n }) (by repeat (first | exact Pulls.nil | (apply Pulls.cons; focus (repeat (first | exact Pull.here | apply Pull.there)))))) ⟨A5, c5, l5, hR5, rfl⟩
       exact endQ_n ({ D with armed := n }, G, fp, fm, _) ⟨⟨hDm.like rfl rfl, hGm⟩, hS.droplast2 (by repeat (first | exact Pulls.nil | (apply Pulls.cons; focus (repeat (first | exact Pull.here | apply Pull.there)))))⟩ trivial ⟨rfl, rfl, rfl, rfl, rfl, rfl, rfl, rfl, trivial⟩)
    | skip
  repeat (clear hS)
  clear hadd haddG hfill hrs hrt hap hua huf hDm hGm hat hat2 hatp hatp2 hit hkp hsm hkk hgn hpl hD hG
  rintro ⟨D, G, fp, fm, fq⟩ g3 w ⟨⟨hD, hG⟩, hS⟩
  show WC _ _ _ (lf _ [] _ _) _ _
  have hit := hD.len
  have hkp : D.Kp 1099511627776 := (hD.mono (show B1 ≤ 1099511627776 by omega)).Kp
  have hkk : ∀ x ∈ D.items, x.1.length ≤ 1099511627 := fun x hx => by rcases hD.only x hx with e | e | e <;> rw [e] <;> decide
  obtain ⟨Dr, hDr⟩ : ∃ Dr, Dr = if again = true ∨ D.down = true then (if D.down = true then D.restart n else D) else D := ⟨_, rfl⟩
  have hDD : DPl B1 Dr := by
    rw [hDr]
    split
    · split
      · exact hD.restart n
      · exact hD
    · exact hD
  have hop := hDD.opened
  have hop2 := hDD.open_
  have hsm : Dr.Sm 1099511627776 := (hDD.mono (show B1 ≤ 1099511627776 by omega)).Sm
  have hitr := hDD.len
  have hoc := fun (w : World) (hi : InL w [dkC q mb lb Dr]) => open_c lP hi (by decide) hsm
  have hrc := fun (fq : List Nat) (w : World) (hi : InL w [rfC dk Dr fq]) => rlopen_c (fq := fq) lP hi (by decide) hsm (by omega)
  have hwe := walOpen_eW Dr lP
  rcases hwo : walOpen Dr lP with ⟨eo, Go, Do⟩
  rw [hwo] at hop hop2 hoc hrc hwe
  dsimp only at hop hop2 hwe
  have hcase : (again = false ∧ D.down = false ∧ Dr = D) ∨ (D.down = true ∧ Dr = D.restart n) ∨ (again = true ∧ D.down = false ∧ Dr = D) := by
    rw [hDr]
    cases again <;> cases D.down <;> simp
  clear hDr hwo
  refine WC.cutS (σ := Dk × Lg × Nat × Nat × List Nat × List Nat × List Nat) [0, 3, 4, 9] (fun (D, G, L, Lm, _) => [(5, .pointer (some ⟨L, 0, none⟩)), (7, .pointer (some ⟨Lm, 0, none⟩))]) (fun (D, G, L, Lm, fp, fm, fq) w => (DPl B1 D ∧ GPl B1 G) ∧ St w0 [] w [lgC L q G fp, dkC q mb lb D, rlC Lm dk G fm, rfC dk D fq] [⟨w0, Old w0⟩]) ?_ ?_
  · rcases hcase with ⟨rfl, hdn, rfl⟩ | hcase
    · repeat' (first
        | (show WL _ _ _ _ _ _ _; first
          | refine WL.pure rfl rfl rfl rfl ?_
          | refine WL.nil ?_
          | (refine WL.calls hS rfl rfl (ddown_c (hS.holds (dkC q mb lb Dr) (by repeat (first | exact List.Mem.head _ | apply List.Mem.tail))).1) rfl rfl rfl ?_; rintro v w rfl hS; rw [hdn]))
        | (show WC _ _ _ _ _ _; first
          | refine WC.seq ?_
          | refine WC.region ?_
          | refine WC.skip ?_
          | refine WC.condF rfl (by with_reducible rfl) ?_)
        | refine seqQ_n ?_)
      exact endQ_n (Dr, G, L, Lm, fp, fm, fq) ⟨⟨hDD, hG⟩, hS.droplast2 (by repeat (first | exact Pulls.nil | (apply Pulls.cons; focus (repeat (first | exact Pull.here | apply Pull.there)))))⟩ ⟨rfl, rfl, trivial⟩ ⟨rfl, rfl, rfl, rfl, trivial⟩
    rcases Go with _ | G2
    · have hoc : ∀ w, InL w [dkC q mb lb Dr] → Cal Tryz.prog 13 [.pointer (some ⟨q, 0, none⟩), str lP] w (fun v w' => v = .tuple #[.pointer none, .int .i64 eo] ∧ MutL w w' [dkC q mb lb Dr] [dkC q mb lb Do]) := hoc
      have hrc : ∀ fq w, InL w [rfC dk Dr fq] → Cal Tryz.prog 14 [.pointer (some ⟨dk, 0, none⟩), str lP] w (fun v w' => v = .tuple #[.pointer none, .int .i64 eo] ∧ ∃ fq', MutL w w' [rfC dk Dr fq] [rfC dk Do fq']) := hrc
      rcases hcase with ⟨hdn, rfl⟩ | ⟨rfl, hdn, rfl⟩
      all_goals
        repeat' (first
          | (show WL _ _ _ _ _ _ _; first
            | refine WL.pure rfl rfl rfl rfl ?_
            | refine WL.nil ?_
            | refine WL.load hS rfl rfl (LdOk.box (by repeat (first | exact List.Mem.head _ | apply List.Mem.tail)) rfl) rfl rfl rfl ?_
            | (refine WL.calls hS rfl rfl (ddown_c (hS.holds (dkC q mb lb _) (by repeat (first | exact List.Mem.head _ | apply List.Mem.tail))).1) rfl rfl rfl ?_; rintro v w rfl hS; rw [hdn])
            | (refine WL.callL (D := [dkC q mb lb D]) hS (by repeat (first | exact Pulls.nil | (apply Pulls.cons; focus (repeat (first | exact Pull.here | apply Pull.there))))) rfl rfl (fun hI => restart_c n hI.head hI.headB hkp (by omega) hkk) rfl rfl rfl ?_; rintro v w ⟨rfl, hm⟩ hS; replace hS := hS _ (.of1 hm); clear hm)
            | (refine WL.callL (D := [rfC dk D fq]) hS (by repeat (first | exact Pulls.nil | (apply Pulls.cons; focus (repeat (first | exact Pull.here | apply Pull.there))))) rfl rfl (fun hI => rfrestart_c n hI hkp (by omega)) rfl rfl rfl ?_; rintro v w ⟨rfl, f2, hm⟩ hS; replace hS := hS _ hm; clear hm)
            | (refine WL.callL (D := [dkC q mb lb _]) hS (by repeat (first | exact Pulls.nil | (apply Pulls.cons; focus (repeat (first | exact Pull.here | apply Pull.there))))) rfl rfl (fun hI => hoc _ hI) rfl rfl rfl ?_; rintro v w ⟨rfl, hm⟩ hS; replace hS := hS _ hm; clear hm)
            | (refine WL.callL (D := [rfC dk _ _]) hS (by repeat (first | exact Pulls.nil | (apply Pulls.cons; focus (repeat (first | exact Pull.here | apply Pull.there))))) rfl rfl (fun hI => hrc _ _ hI) rfl rfl rfl ?_; rintro v w ⟨rfl, f4, hm⟩ hS; replace hS := hS _ hm; clear hm)
            | refine WL.skip rfl rfl rfl ?_
            | ((fail_if_success (refine WL.wanted rfl ?_)); refine WL.guard rfl rfl rfl (fun h => ?_) (fun h => ?_) <;> (try simp only [Classical.not_not, Bool.not_eq_true', Bool.not_eq_false', Bool.not_eq_eq_eq_not, Bool.not_true, Bool.not_false, beq_iff_eq, beq_eq_false_iff_ne, ne_eq, decide_eq_decide, decide_eq_true_eq, decide_eq_false_iff_not, Bool.and_eq_true, Bool.or_eq_true, Bool.and_eq_false_iff, Bool.or_eq_false_iff] at h) <;> (try (exfalso; first | omega | contradiction))))
          | (show WC _ _ _ _ _ _; first
            | refine WC.seq ?_
            | refine WC.region ?_
            | refine WC.skip ?_
            | refine WC.ret ?_
            | refine WC.condT rfl (by with_reducible rfl) ?_
            | refine WC.condF rfl (by with_reducible rfl) ?_
            | refine WC.condF rfl (by decide) ?_)
          | refine seqQ_n ?_
          | refine seqQ_r ?_
          | refine blkQ_r ?_
          | refine rndQ_r ?_
          | refine endQ_r ?_)
        all_goals exact fin1r rfl rfl ⟨hS.upd, rfl⟩
    · have hoc : ∀ w, InL w [dkC q mb lb Dr] → Cal Tryz.prog 13 [.pointer (some ⟨q, 0, none⟩), str lP] w (fun v w' => ∃ L fp, v = .tuple #[.pointer (some ⟨L, 0, none⟩), .int .i64 eo] ∧ MutL w w' [dkC q mb lb Dr] [lgC L q G2 fp, dkC q mb lb Do]) := hoc
      have hrc : ∀ fq w, InL w [rfC dk Dr fq] → Cal Tryz.prog 14 [.pointer (some ⟨dk, 0, none⟩), str lP] w (fun v w' => ∃ L fp fq', v = .tuple #[.pointer (some ⟨L, 0, none⟩), .int .i64 eo] ∧ MutL w w' [rfC dk Dr fq] [rlC L dk G2 fp, rfC dk Do fq']) := hrc
      rcases hcase with ⟨hdn, rfl⟩ | ⟨rfl, hdn, rfl⟩
      all_goals
        repeat' (first
          | (show WL _ _ _ _ _ _ _; first
            | refine WL.pure rfl rfl rfl rfl ?_
            | refine WL.nil ?_
            | refine WL.load hS rfl rfl (LdOk.box (by repeat (first | exact List.Mem.head _ | apply List.Mem.tail)) rfl) rfl rfl rfl ?_
            | (refine WL.calls hS rfl rfl (ddown_c (hS.holds (dkC q mb lb _) (by repeat (first | exact List.Mem.head _ | apply List.Mem.tail))).1) rfl rfl rfl ?_; rintro v w rfl hS; rw [hdn])
            | (refine WL.callL (D := [dkC q mb lb D]) hS (by repeat (first | exact Pulls.nil | (apply Pulls.cons; focus (repeat (first | exact Pull.here | apply Pull.there))))) rfl rfl (fun hI => restart_c n hI.head hI.headB hkp (by omega) hkk) rfl rfl rfl ?_; rintro v w ⟨rfl, hm⟩ hS; replace hS := hS _ (.of1 hm); clear hm)
            | (refine WL.callL (D := [rfC dk D fq]) hS (by repeat (first | exact Pulls.nil | (apply Pulls.cons; focus (repeat (first | exact Pull.here | apply Pull.there))))) rfl rfl (fun hI => rfrestart_c n hI hkp (by omega)) rfl rfl rfl ?_; rintro v w ⟨rfl, f2, hm⟩ hS; replace hS := hS _ hm; clear hm)
            | (refine WL.callL (D := [dkC q mb lb _]) hS (by repeat (first | exact Pulls.nil | (apply Pulls.cons; focus (repeat (first | exact Pull.here | apply Pull.there))))) rfl rfl (fun hI => hoc _ hI) rfl rfl rfl ?_; rintro v w ⟨L2, f3, rfl, hm⟩ hS; replace hS := hS _ hm; clear hm)
            | (refine WL.callL (D := [rfC dk _ _]) hS (by repeat (first | exact Pulls.nil | (apply Pulls.cons; focus (repeat (first | exact Pull.here | apply Pull.there))))) rfl rfl (fun hI => hrc _ _ hI) rfl rfl rfl ?_; rintro v w ⟨L4, f4, f5, rfl, hm⟩ hS; replace hS := hS _ hm; clear hm)
            | refine WL.skip rfl rfl rfl ?_
            | ((fail_if_success (refine WL.wanted rfl ?_)); refine WL.guard rfl rfl rfl (fun h => ?_) (fun h => ?_) <;> (try simp only [Classical.not_not, Bool.not_eq_true', Bool.not_eq_false', Bool.not_eq_eq_eq_not, Bool.not_true, Bool.not_false, beq_iff_eq, beq_eq_false_iff_ne, ne_eq, decide_eq_decide, decide_eq_true_eq, decide_eq_false_iff_not, Bool.and_eq_true, Bool.or_eq_true, Bool.and_eq_false_iff, Bool.or_eq_false_iff] at h) <;> (try (exfalso; first | omega | contradiction))))
          | (show WC _ _ _ _ _ _; first
            | refine WC.seq ?_
            | refine WC.region ?_
            | refine WC.skip ?_
            | refine WC.condT rfl (by with_reducible rfl) ?_
            | refine WC.condF rfl (by with_reducible rfl) ?_
            | refine WC.condF rfl (by decide) ?_)
          | refine seqQ_n ?_)
        all_goals exact endQ_n (Do, G2, L2, L4, f3, f4, f5) ⟨⟨hop2, hop G2 rfl⟩, hS.droplast2 (by repeat (first | exact Pulls.nil | (apply Pulls.cons; focus (repeat (first | exact Pull.here | apply Pull.there)))))⟩ ⟨rfl, rfl, trivial⟩ ⟨rfl, rfl, rfl, rfl, trivial⟩
  clear hcase hoc hrc hwe hop hop2 hsm hitr hDD hkk hkp hit hS hD hG
  rintro ⟨D, G, L, Lm, fp, fm, fq⟩ g5 w ⟨⟨hD, hG⟩, hS⟩
  show WC _ _ _ (lf _ [(5, .pointer (some ⟨L, 0, none⟩)), (7, .pointer (some ⟨Lm, 0, none⟩))] _ _) _ _
  have hit := hD.len
  have hgn := hG.n
  have hre := fun (w : World) (hI : InL w [lgC L q G fp]) => records_c hI (by omega)
  have hre1 := hre
  repeat' (first
    | (show WL _ _ _ _ _ _ _; first
      | refine WL.pure rfl rfl rfl rfl ?_
      | refine WL.nil ?_
      | (refine WL.calls hS rfl rfl (dread_c lP (hS.holds (dkC q mb lb D) (by repeat (first | exact List.Mem.head _ | apply List.Mem.tail))).1) rfl rfl rfl ?_; rintro v w rfl hS)
      | (refine WL.calls hS rfl rfl (rfreadI_c lP (St.rfIs hS (by repeat (first | exact Pulls.nil | (apply Pulls.cons; focus (repeat (first | exact Pull.here | apply Pull.there)))))) (by omega)) rfl rfl rfl ?_; rintro v w rfl hS)
      | (refine WL.callL (D := [lgC L q G fp]) hS (by repeat (first | exact Pulls.nil | (apply Pulls.cons; focus (repeat (first | exact Pull.here | apply Pull.there))))) rfl rfl (fun hI => hre1 _ hI) rfl rfl rfl ?_; clear hre1; rintro v w ⟨A1, c1, rfl, hm⟩ hS; replace hS := hS _ hm; clear hm)
      | (refine WL.callL (D := [lgC L q G fp]) hS (by repeat (first | exact Pulls.nil | (apply Pulls.cons; focus (repeat (first | exact Pull.here | apply Pull.there))))) rfl rfl (fun hI => hre _ hI) rfl rfl rfl ?_; clear hre; rintro v w ⟨A2, c2, rfl, hm⟩ hS; replace hS := hS _ hm; clear hm))
    | (show WC _ _ _ _ _ _; first
      | refine WC.seq ?_
      | refine WC.region ?_)
    | refine seqQ_n ?_)
  obtain ⟨_, ⟨A6, c6, rfl⟩, hfp6, hS⟩ := St.objOpen (φ := rlφ Lm dk G) (fp := fm) (hS.pull (by repeat (first | exact Pull.here | apply Pull.there)))
  dsimp only [List.cons_append, List.nil_append] at hS
  obtain ⟨_, ⟨A5, c5, l5, hR5, rfl⟩, hfp5, hS⟩ := St.objOpen (φ := rfφ dk D) (fp := fq) (hS.pull (by repeat (first | exact Pull.here | apply Pull.there)))
  dsimp only [List.cons_append, List.nil_append] at hS
  have hS := hS.droplast2 (D := [.own (.slice A1 G.recs.length c1) 9 1 G.recs.length (strs G.recs), .own (.slice A2 G.recs.length c2) 9 1 G.recs.length (strs G.recs), lgC L q G fp, dkC q mb lb D, .box Lm 60 [.pointer (some ⟨dk, 0, none⟩), str G.p, .slice A6 G.recs.length c6, .bool G.dmg], .own (.slice A6 G.recs.length c6) 9 1 G.recs.length (strs G.recs), .box dk 45 [.slice A5 l5.length c5, .slice none 0 0, .int .i64 D.steps, .int .i64 D.stamps, .int .i64 D.armed, .bool D.down], .own (.slice A5 l5.length c5) 110 7 l5.length (ris l5)]) (by repeat (first | exact Pulls.nil | (apply Pulls.cons; focus (repeat (first | exact Pull.here | apply Pull.there)))))
  have hnn : G.recs.length ≤ 1048576 := by omega
  have hap : ∀ {ob : Nat} {w0 : World} (hI : InL w0 [.own (.slice (some ⟨ob, 0, none⟩) 2 2) 56 1 2 [.slice A1 G.recs.length c1, .slice A2 G.recs.length c2], .own (.slice A1 G.recs.length c1) 9 1 G.recs.length (strs G.recs), .own (.slice A2 G.recs.length c2) 9 1 G.recs.length (strs G.recs)]),
      Cal Tryz.prog 33 [.slice (some ⟨ob, 0, none⟩) 2 2] w0 (fun v w' => v = .bool true ∧ MutL w0 w' [.own (.slice (some ⟨ob, 0, none⟩) 2 2) 56 1 2 [.slice A1 G.recs.length c1, .slice A2 G.recs.length c2], .own (.slice A1 G.recs.length c1) 9 1 G.recs.length (strs G.recs), .own (.slice A2 G.recs.length c2) 9 1 G.recs.length (strs G.recs)] []) := fun {ob w0} hI =>
    rapartS_c [⟨A1, G.recs.length, c1⟩, ⟨A2, G.recs.length, c2⟩] [ownRw encT 9 1 ⟨A1, G.recs.length, c1⟩ G.recs, ownRw encT 9 1 ⟨A2, G.recs.length, c2⟩ G.recs] hI (markS2 _ _ _ _ rfl rfl) (show (2 : Nat) ≤ 1000 by decide) (fun r hr => by simp only [List.mem_cons, List.not_mem_nil, or_false] at hr; rcases hr with rfl | rfl <;> exact hnn)
  have hsm := fun {A B : Option Addr} {ca cb : Nat} (w : World) (h1 : SlAt cStr (Old w) w A G.recs) (h2 : SlAt cStr (Old w) w B G.recs) => same_c G.recs G.recs (ca := ca) (cb := cb) h1 h2 (by omega)
  rw [decide_eq_true rfl] at hsm
  repeat' (first
    | (show WL _ _ _ _ _ _ _; first
      | refine WL.pure rfl rfl rfl rfl ?_
      | refine WL.nil ?_
      | refine WL.add rfl rfl rfl (by omega) rfl rfl rfl ?_)
    | (show WC _ _ _ _ _ _; first
      | refine WC.region ?_
      | refine WC.skip ?_
      | (show WC _ _ (Code.region _ (List.toArray [_, _, _, _, _, _, _, _, _, _, _, _, _, _, _, _, _, _, _, _, _, _, _, _, _, _, _, _, _, _, _, _, _, _, _, _, _, _, _, _, _, _, _]) true) _ _ _; refine WC.drawL [.own (.slice A1 G.recs.length c1) 9 1 G.recs.length (strs G.recs), .own (.slice A2 G.recs.length c2) 9 1 G.recs.length (strs G.recs), lgC L q G fp] hS (by repeat (first | exact Pulls.nil | (apply Pulls.cons; focus (repeat (first | exact Pull.here | apply Pull.there))))) [0,1,2,3,4,5,6,7,8,10,11,12,13,14,16,17,18,19,21,22,23,24,25,26,27,28,30,31,32,33,34,35,36,37,38,41,42] [0,1,2,3,4,5,6,7,8,9,10,11,12,13,14,15,16,17,18,19,21,22,23,24,20,25,26,27,28,30,31,32,33,29,34,35,36,37,38,39,40,41,42] (by kernel_rfl) (by kernel_rfl) ?_; clear hS; intro w hS hM)
      | refine WC.condF rfl (by decide) ?_)
    | (show WD _ _ _ _ _ _ _ _ _; first
      | refine WD.pure rfl rfl rfl rfl rfl ?_
      | refine WD.nil ?_
      | refine WD.load rfl rfl (LdOk.box (by repeat (first | exact List.Mem.head _ | apply List.Mem.tail)) rfl) rfl rfl rfl rfl ?_
      | (refine WD.calls hS hM rfl rfl (hsm _ (St.ownSl (enc := fun s => [str s]) (hsz := fun _ => rfl) (l := G.recs) (by decide) hS (by repeat (first | exact List.Mem.head _ | apply List.Mem.tail))) (St.ownSl (enc := fun s => [str s]) (hsz := fun _ => rfl) (l := G.recs) (by decide) hS (by repeat (first | exact List.Mem.head _ | apply List.Mem.tail)))) rfl rfl rfl rfl rfl ?_; clear hS; rintro v w rfl hS)
      | (refine WD.callL (D := [lgC L q G fp]) hS (by repeat (first | exact Pulls.nil | (apply Pulls.cons; focus (repeat (first | exact Pull.here | apply Pull.there))))) (by first | exact .refl _ _ | exact .chunk (.refl _ _) _ | exact .chunk (.chunk (.refl _ _) _) _) rfl rfl (fun hI => damaged_c hI) rfl rfl rfl rfl rfl ?_; rintro v w ⟨rfl, hm⟩; refine ⟨_, hm, fun hS hM => ?_⟩; clear hm)
      | (refine WD.calls hS hM rfl rfl (dstp_c (hS.holds (dkC q mb lb D) (by repeat (first | exact List.Mem.head _ | apply List.Mem.tail))).1) rfl rfl rfl rfl rfl ?_; clear hS; rintro v w rfl hS)
      | (refine WD.slit (t := 62) hS hM rfl rfl rfl rfl rfl rfl rfl ?_; clear hS hM; intro w ob hS hM; replace hS := hS.boxRow (n := 2) (size := 1) .here rfl (by decide))
      | (refine WD.callL (D := [.own (.slice (some ⟨ob, 0, none⟩) 2 2) 56 1 2 [.slice A1 G.recs.length c1, .slice A2 G.recs.length c2], .own (.slice A1 G.recs.length c1) 9 1 G.recs.length (strs G.recs), .own (.slice A2 G.recs.length c2) 9 1 G.recs.length (strs G.recs)]) hS (by repeat (first | exact Pulls.nil | (apply Pulls.cons; focus (repeat (first | exact Pull.here | apply Pull.there))))) (by first | exact .refl _ _ | exact .chunk (.refl _ _) _ | exact .chunk (.chunk (.refl _ _) _) _) rfl rfl (fun hI => hap hI) rfl rfl rfl rfl rfl ?_; rintro v w ⟨rfl, hm⟩; refine ⟨_, hm, fun hS hM => ?_⟩; clear hm)
      | ((fail_if_success (refine WD.wanted rfl ?_)); refine WD.guard rfl rfl rfl (fun h => ?_) (fun h => ?_) <;> (try simp only [Classical.not_not, Bool.not_eq_true', Bool.not_eq_false', Bool.not_eq_eq_eq_not, Bool.not_true, Bool.not_false, beq_iff_eq, beq_eq_false_iff_ne, ne_eq, decide_eq_decide, decide_eq_true_eq, decide_eq_false_iff_not, Bool.and_eq_true, Bool.or_eq_true, Bool.and_eq_false_iff, Bool.or_eq_false_iff] at h) <;> (try (exfalso; first | omega | contradiction))))
    | refine seqQ_n ?_
    | refine blkQ_n ?_)
  have hS := St.objClose (φ := rlφ Lm dk G) (hS.pulls (D := [.box Lm 60 [.pointer (some ⟨dk, 0, none⟩), str G.p, .slice A6 G.recs.length c6, .bool G.dmg], .own (.slice A6 G.recs.length c6) 9 1 G.recs.length (strs G.recs)]) (by repeat (first | exact Pulls.nil | (apply Pulls.cons; focus (repeat (first | exact Pull.here | apply Pull.there)))))) ⟨A6, c6, rfl⟩
  have hS := St.objClose (φ := rfφ dk D) (hS.pulls (D := rfL dk A5 c5 l5 D) (by repeat (first | exact Pulls.nil | (apply Pulls.cons; focus (repeat (first | exact Pull.here | apply Pull.there)))))) ⟨A5, c5, l5, hR5, rfl⟩
  subst hB1e
  exact rndQ_n (i + 1, D, G, L, Lm, fp, _, _) ⟨⟨by omega, by omega, hD, hG⟩, hS.droplast2 (by repeat (first | exact Pulls.nil | (apply Pulls.cons; focus (repeat (first | exact Pull.here | apply Pull.there)))))⟩ (by show l.length - (i + 1) < l.length - i; omega) ⟨rfl, rfl, vint (by omega), trivial⟩ ⟨rfl, rfl, rfl, trivial⟩
end Go.Proofs.YtccfiohagbneaaaGreatDoor

/- What is proved: the key of WalPlays: the law answers true. Conditions: the statement's own bound on the bulk. -/
set_option linter.unusedSimpArgs false
set_option linter.unusedVariables false
namespace Go.Proofs.YtccfiohagbneaaaGreatDoor
open Go Go.J Go.RowKit

def QStp06 (s : Stp06) (b : Nat) : Prop := (-9223372036854775808 ≤ s.n ∧ s.n ≤ 9223372036854775807) ∧ s.text.length + 1 ≤ b
theorem list3S {α : Type} {l : List α} (h : l.length = 3) : ∃ a b c, l = [a, b, c] := by match l, h with | [a, b, c], _ => exact ⟨a, b, c, rfl⟩
set_option maxRecDepth 100000 in
theorem open_stp06 : Opens Tryz.prog 37 cStp06 QStp06 := by
  intro H enc W fuel cs x h
  obtain ⟨xs, n, _, rfl, hlen, hxl, hf⟩ := DataW.trod_struct Tryz.underlying37 h
  obtain ⟨x0, x1, x2, rfl⟩ := list3S hxl
  obtain ⟨c0, c1, c2, rfl⟩ := list3S (hlen.trans (by kernel_rfl))
  obtain ⟨s0, e0, q0⟩ := Opens.int Tryz.underlying3 enc W n [c0] x0 (hf 0 _ rfl)
  obtain ⟨s1, e1, q1⟩ := Opens.str Tryz.underlying9 enc W n [c1] x1 (hf 1 _ rfl)
  obtain ⟨s2, e2, q2⟩ := Opens.int Tryz.underlying3 enc W n [c2] x2 (hf 2 _ rfl)
  have e0 : [c0] = [.int .i64 s0] := e0
  have e1 : [c1] = [str s1] := e1
  have e2 : [c2] = [.int .i64 s2] := e2
  simp only [List.cons.injEq, and_true] at e0 e1 e2
  subst e0 e1 e2
  refine ⟨⟨s0, s1, s2⟩, rfl, ⟨q2.1, q2.2.1⟩, ?_⟩
  simp [Rows.uptoBulk, Rows.uptoBulkAll] at *
  omega
instance : Inhabited Stp06 := ⟨⟨0, [], 0⟩⟩
theorem arg_stps06 : Arg Tryz.prog 22 (ASl cStp06) (QL QStp06) := Arg.slice Tryz.underlying22 (Opens.slice Tryz.underlying22 (by kernel_rfl) (by decide) open_stp06)
theorem ql_mem {α : Type} {Q : α → Nat → Prop} {ys : List α} {b : Nat} (h : QL Q ys b) : ∀ y ∈ ys, ∃ n, Q y n := by
  obtain ⟨bs, hl, hq, hs⟩ := h
  intro y hy
  obtain ⟨i, hi, rfl⟩ := List.getElem_of_mem hy
  exact ⟨_, hq i hi (by omega)⟩
theorem walPlays.key_walPlays (W : World) (hL : laidMet Tryz.prog Rows.walPlaysUptoRow.laid W) (v0 : Value) (y0 : List Stp06) (b0 : Nat) (h0 : ASl cStp06 W v0 y0) (q0 : QL QStp06 y0 b0) (hb : b0 ≤ 1048576) :
    Cal Tryz.prog 3 [v0] W (fun v W' => Upd [] W W' ∧ v = .bool true) := by
  obtain ⟨A0, c0, rfl, _, h0⟩ := h0
  have h2 := QL_sum (f := fun s : Stp06 => s.text.length + 1) (fun a b h => h.2) q0
  have h3 : ∀ l : List Stp06, (l.map fun s : Stp06 => s.text.length + 1).sum = (l.map fun s : Stp06 => s.text.length).sum + l.length := by
    intro l
    induction l with
    | nil => rfl
    | cons a l ih => simp only [List.map_cons, List.sum_cons, List.length_cons, ih]; omega
  rw [h3] at h2
  exact walPlays_c y0 h0 (by omega) fun s hs => by obtain ⟨n, h⟩ := ql_mem q0 s hs; exact h.1
end Go.Proofs.YtccfiohagbneaaaGreatDoor
