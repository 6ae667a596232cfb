/- What is proved: contracts and plain facts that the law leans on (texts put together). Conditions: as each names them. -/
import Derived.Test.YtlddmenpafcaiaaGreatDoorM4
import Derived.Lib.LaidTab
import Derived.Stop.LaidErr
/- What is proved: how the laws' arguments read. Conditions: none. -/
set_option linter.unusedSimpArgs false
set_option linter.unusedVariables false
namespace Go.Proofs.YtlddmenpafcaiaaGreatDoor
open Go Go.J Go.RowKit

theorem arg_strs : Arg Tryz.prog 22 (ASl cStr) (QL QStr) := Arg.slice Tryz.underlying22 (Opens.slice Tryz.underlying22 (by kernel_rfl) (by decide) (Opens.str Tryz.underlying9))
theorem ql_strsB {xs : List (List UInt8)} {b : Nat} (h : QL QStr xs b) : (xs.map List.length).sum + xs.length + 1 ≤ b := by
  have h1 := QL_sum (f := fun s : List UInt8 => s.length + 1) (fun a b (h : a.length + 1 ≤ b) => h) h
  have h2 : ∀ l : List (List UInt8), (l.map fun s : List UInt8 => s.length + 1).sum = (l.map List.length).sum + l.length := by
    intro l
    induction l with
    | nil => rfl
    | cons a l ih => simp only [List.map_cons, List.sum_cons, List.length_cons, ih]; omega
  rw [h2] at h1
  exact h1
theorem mem_le_sumB : ∀ (l : List (List UInt8)) (s : List UInt8), s ∈ l → s.length ≤ (l.map List.length).sum
  | x :: l, s, h => by
    simp only [List.map_cons, List.sum_cons]
    rcases List.mem_cons.1 h with rfl | h
    · omega
    · have := mem_le_sumB l s h; omega
end Go.Proofs.YtlddmenpafcaiaaGreatDoor

/- What is proved: the law BlobHolds answers true. Conditions: the statement's own bound on the bulk; the library's table of powers laid. -/
set_option linter.unusedSimpArgs false
set_option linter.unusedVariables false
namespace Go.Proofs.YtlddmenpafcaiaaGreatDoor
open Go Go.J Go.RowKit
open Go.Lib (decDigits)

set_option maxHeartbeats 32000000 in
set_option maxRecDepth 100000 in
theorem blobHolds_c (texts : List (List UInt8)) {A : Option Addr} {cap : Nat} {w0 : World} (h0 : SlAt cStr (Old w0) w0 A texts) (hz : (texts.map List.length).sum + texts.length ≤ 1048576) (ht : powT w0) :
    Cal Tryz.prog 4 [.slice A texts.length cap] w0 (fun v w' => Upd [] w0 w' ∧ v = .bool true) := by
  refine Cal.mk' (by kernel_rfl) Tryz.func4 rfl rfl fun hS => ?_
  have hp := PowI.of ht
  by_cases h150 : texts.length ≤ 150
  · repeat' (first
      | (show WL _ _ _ _ _ _ _; first
        | refine WL.pure rfl rfl rfl rfl ?_
        | refine WL.nil ?_
        | (refine WL.callL (D := []) hS .nil rfl rfl (fun hI => blmade_c _) rfl rfl rfl ?_; rintro v w ⟨B, Tp, q, fb, fp, rfl, hmu⟩ hS; replace hS := hS _ hmu; clear hmu)
        | (refine WL.calls hS rfl rfl (blawake_c _ (hp.at hS)) rfl rfl rfl ?_; rintro v w rfl hS))
      | (show WC _ _ _ _ _ _; first
        | refine WC.seq ?_
        | refine WC.region ?_
        | refine WC.block ?_
        | refine WC.skip ?_
        | refine WC.condF rfl (decide_eq_false (by first | with_reducible assumption | omega)) ?_)
      | refine seqQ_n ?_)
    replace hS := (hS.nilRow 9 1).pulls (D := [.own (.slice none 0 0) 9 1 0 [], bchC B (some ⟨Tp, 0, none⟩) [] fb, tabC Tp q ⟨sysP, [], ⟨sysL, [], false⟩⟩ fp]) (by repeat (first | exact Pulls.nil | (apply Pulls.cons; focus (repeat (first | exact Pull.here | apply Pull.there)))))
    replace hS := hS.droplast2 (D := [.own (.slice none 0 0) 9 1 0 [], bchC B (some ⟨Tp, 0, none⟩) [] fb, tabC Tp q ⟨sysP, [], ⟨sysL, [], false⟩⟩ fp]) (by repeat (first | exact Pulls.nil | (apply Pulls.cons; focus (repeat (first | exact Pull.here | apply Pull.there)))))
    refine WC.loop (σ := Nat × List One × Bch × List Nat × List (List UInt8) × Option Addr × Nat) [0, 3] (fun (k, _, _, _, ks, AK, capK) => [(4, .slice AK ks.length capK), (5, .int .i64 (k : Int))])
      (fun (k, l, m, fb, ks, AK, capK) w => (k ≤ texts.length ∧ PutsIs (texts.take k) ks l ∧ BlobIs [] m l k ∧ m.length ≤ k + 0) ∧ St w0 [] w [.own (.slice AK ks.length capK) 9 1 ks.length (strs ks), bchC B (some ⟨Tp, 0, none⟩) m fb, tabC Tp q ⟨sysP, [], ⟨sysL, [], false⟩⟩ fp] [⟨w0, Old w0⟩])
      (fun (k, _) => texts.length - k) (0, [], [], fb, [], none, 0) ⟨⟨Nat.zero_le _, PutsIs.nil, BlobIs.nil, Nat.le_refl _⟩, hS⟩ ⟨rfl, rfl, trivial⟩ ?_
    clear hS
    rintro ⟨k, l, m, fb, ks, AK, capK⟩ g w ⟨⟨hk, hpi, hb, hml⟩, hS⟩
    show WC _ _ _ (lf _ [(4, .slice AK ks.length capK), (5, .int .i64 (k : Int))] _ _) _ _
    have hkl : ks.length = k := by rw [hpi.len, List.length_take]; omega
    by_cases hlt : k < texts.length
    · obtain ⟨rb, ro, es, rfl, hF, hrr, hes⟩ := h0.at_ hlt
      have hes : es = [str texts[k]] := hes
      subst hes
      have hrr : w0.rangeAt rb (ro + k * 1) [str texts[k]] := hrr
      have hxl := mem_le_sumB texts texts[k] (List.getElem_mem hlt)
      have hpi2 := hpi.put hb.knd hb.dnd texts[k]
      rw [← List.take_succ_eq_append_getElem hlt] at hpi2
      have hcap := (hS.own_len (List.Mem.head _)).2.2
      have hnl := fun v => note_len m ⟨(putB l texts[k]).2, v, false⟩
      generalize texts[k] = x at *
      clear hpi
      repeat' (first
        | (show WL _ _ _ _ _ _ _; first
          | refine WL.pure rfl rfl rfl rfl ?_
          | refine WL.nil ?_
          | refine WL.add rfl rfl rfl (by omega) rfl rfl rfl ?_
          | (refine WL.load hS rfl rfl (LdOk.snap0 hF hrr (by repeat (first | exact List.Mem.head _ | apply List.Mem.tail)) rfl) rfl rfl rfl ?_)
          | (refine WL.callL (D := [bchC B (some ⟨Tp, 0, none⟩) m fb, tabC Tp q ⟨sysP, [], ⟨sysL, [], false⟩⟩ fp]) hS (by repeat (first | exact Pulls.nil | (apply Pulls.cons; focus (repeat (first | exact Pull.here | apply Pull.there))))) rfl rfl (fun hI => blput_c (l := l) (K := k) x hI (hp.pull hS (by repeat (first | exact Pulls.nil | (apply Pulls.cons; focus (repeat (first | exact Pull.here | apply Pull.there)))))) hb (by omega) (by omega) (Nat.zero_le _) (by omega)) rfl rfl rfl ?_; rintro v w ⟨rfl, r1, fb1, hr1, hr2, hb1, hmu⟩ hS; replace hS := hS _ hmu; clear hmu)
          | (refine WL.app hS rfl rfl rfl rfl (RdOk.box (by repeat (first | exact List.Mem.head _ | apply List.Mem.tail))) rfl rfl (fun A cap => by repeat (first | exact Repl.here | apply Repl.there)) (by omega) rfl rfl rfl ?_; intro A3 cap3 w hS)
          | refine WL.index rfl rfl rfl rfl (by first | with_reducible assumption | omega) rfl rfl rfl rfl ?_
          | (refine WL.slit hS rfl rfl rfl rfl rfl ?_; intro w b hS))
        | (show WC _ _ _ _ _ _; first
          | refine WC.seq ?_
          | refine WC.region ?_
          | refine WC.block ?_
          | refine WC.skip ?_
          | refine WC.condT rfl (decide_eq_true (by first | with_reducible assumption | omega)) ?_)
        | refine seqQ_n ?_
        | refine blkQ_n ?_)
      have hnl2 := hnl (valB r1 x)
      replace hS := hS.droplast2 (D := [.own (.slice A3 (ks.length + 1) cap3) 9 1 (ks.length + 1) (strs ks ++ [str (putB l x).2]), bchC B (some ⟨Tp, 0, none⟩) (noteE m ⟨(putB l x).2, valB r1 x, false⟩) fb1, tabC Tp q ⟨sysP, [], ⟨sysL, [], false⟩⟩ fp]) (by repeat (first | exact Pulls.nil | (apply Pulls.cons; focus (repeat (first | exact Pull.here | apply Pull.there)))))
      exact rndQ_n (k + 1, (putB l x).1, noteE m ⟨(putB l x).2, valB r1 x, false⟩, fb1, ks ++ [(putB l x).2], A3, cap3) ⟨⟨by omega, hpi2, hb1, by omega⟩, by
        rw [List.length_append, ← strs_snoc]
        exact hS⟩ (by show texts.length - (k + 1) < texts.length - k; omega) ⟨by rw [List.length_append]; rfl, vint (by omega), trivial⟩ ⟨rfl, rfl, trivial⟩
    · have hke : k = texts.length := by omega
      subst hke
      rw [List.take_length] at hpi
      clear hk hlt
      repeat' (first
        | (show WL _ _ _ _ _ _ _; first
          | refine WL.pure rfl rfl rfl rfl ?_
          | refine WL.nil ?_)
        | (show WC _ _ _ _ _ _; first
          | refine WC.seq ?_
          | refine WC.region ?_
          | refine WC.block ?_
          | refine WC.exit ?_
          | refine WC.condF rfl (decide_eq_false (by first | with_reducible assumption | omega)) ?_)
        | refine seqQ_n ?_
        | refine seqQ_x ?_
        | refine blkQ_hit rfl ?_
        | refine rndQ_x ?_)
      refine WC.loop (σ := Nat) [0, 3, 4] (fun i => [(6, .int .i64 (i : Int))]) (fun i w => i ≤ texts.length ∧ St w0 [] w [.own (.slice AK ks.length capK) 9 1 ks.length (strs ks), bchC B (some ⟨Tp, 0, none⟩) m fb, tabC Tp q ⟨sysP, [], ⟨sysL, [], false⟩⟩ fp] [⟨w0, Old w0⟩])
        (fun i => texts.length - i) 0 ⟨Nat.zero_le _, hS⟩ ⟨rfl, trivial⟩ ?_
      clear hS
      rintro i g2 w ⟨hi, hS⟩
      show WC _ _ _ (lf _ [(6, .int .i64 (i : Int))] _ _) _ _
      by_cases hlt : i < texts.length
      · have hik : i < ks.length := by omega
        obtain ⟨x, hx, hxd, hxk⟩ := hpi.keys i hlt
        have hxk : ks[i] = x.key := by rw [List.getElem?_eq_getElem hik] at hxk; exact Option.some.inj hxk
        have hfx : findB l ks[i] = some x := by rw [hxk]; exact find_of hb.knd hx
        have hgv : blgetV l ks[i] = .tuple #[str texts[i], .int .i64 0] := by unfold blgetV; rw [hfx]; dsimp only; rw [hxd]
        have hrf : refsB l ks[i] = texts.count texts[i] := by unfold refsB; rw [hfx]; dsimp only; rw [(hpi.back x hx).2, hxd]
        have hsame : ∀ j (hj : j < texts.length) (hj2 : j < ks.length), ks[j] = ks[i] ↔ texts[j] = texts[i] := fun j hj hj2 => by
          obtain ⟨y, hy, hyd, hyk⟩ := hpi.keys j hj
          have hyk : ks[j] = y.key := by rw [List.getElem?_eq_getElem hj2] at hyk; exact Option.some.inj hyk
          rw [hyk, hxk, ← hyd, ← hxd]
          exact ⟨fun e => by rw [nd_key hb.knd hy hx e], fun e => by rw [nd_data hb.dnd hy hx e]⟩
        obtain ⟨rb, ro, es, rfl, hF, hrr, hes⟩ := h0.at_ hlt
        have hes : es = [str texts[i]] := hes
        subst hes
        have hrr : w0.rangeAt rb (ro + i * 1) [str texts[i]] := hrr
        have hki : (strs ks)[i * 1]? = some (str ks[i]) := by rw [Nat.mul_one, strs_at hik]
        obtain ⟨kg, ko, rfl⟩ := hS.own_addr (A := AK) (n := ks.length) (by repeat (first | exact List.Mem.head _ | apply List.Mem.tail)) (by omega)
        have hcle := List.count_le_length (a := texts[i]) (l := texts)
        generalize hti : texts[i] = ti at *
        generalize hkie : ks[i] = ki at *
        clear hxk hfx hx hxd
        repeat' (first
          | (show WL _ _ _ _ _ _ _; first
            | refine WL.pure rfl rfl rfl rfl ?_
            | refine WL.nil ?_
            | (refine WL.load hS rfl rfl (LdOk.ownAt (by repeat (first | exact List.Mem.head _ | apply List.Mem.tail)) rfl ⟨_, rfl⟩ hki rfl) rfl rfl rfl ?_)
            | (refine WL.callL (D := [bchC B (some ⟨Tp, 0, none⟩) m fb, tabC Tp q ⟨sysP, [], ⟨sysL, [], false⟩⟩ fp]) hS (by repeat (first | exact Pulls.nil | (apply Pulls.cons; focus (repeat (first | exact Pull.here | apply Pull.there))))) rfl rfl (fun hI => blget_c (l := l) (K := texts.length) ki hI hb (by omega)) rfl rfl rfl ?_; rintro v w ⟨rfl, hmu⟩ hS; rw [hgv]; replace hS := hS _ hmu; clear hmu)
            | refine WL.index rfl rfl rfl rfl (by first | with_reducible assumption | omega) rfl rfl rfl rfl ?_)
          | (show WC _ _ _ _ _ _; first
            | refine WC.seq ?_
            | refine WC.region ?_
            | refine WC.block ?_
            | refine WC.skip ?_
            | refine WC.condT rfl (decide_eq_true (by first | with_reducible assumption | omega)) ?_)
          | refine seqQ_n ?_)
        refine WC.loop (σ := Nat × Nat) [0, 3, 4, 6, 7, 8] (fun (k, n) => [(9, .int .i64 (n : Int)), (10, .int .i64 (k : Int))]) (fun (k, n) w => (k ≤ texts.length ∧ n = (texts.take k).count ti) ∧ St w0 [] w [.own (.slice (some ⟨kg, ko, none⟩) ks.length capK) 9 1 ks.length (strs ks), bchC B (some ⟨Tp, 0, none⟩) m fb, tabC Tp q ⟨sysP, [], ⟨sysL, [], false⟩⟩ fp] [⟨w0, Old w0⟩])
          (fun (k, _) => texts.length - k) (0, 0) ⟨⟨Nat.zero_le _, rfl⟩, hS.droplast2 (by repeat (first | exact Pulls.nil | (apply Pulls.cons; focus (repeat (first | exact Pull.here | apply Pull.there)))))⟩ ⟨rfl, rfl, trivial⟩ ?_
        clear hS
        rintro ⟨k, n⟩ g3 w ⟨⟨hk, hn⟩, hS⟩
        show WC _ _ _ (lf _ [(9, .int .i64 (n : Int)), (10, .int .i64 (k : Int))] _ _) _ _
        by_cases hlk : k < texts.length
        · have hkk : k < ks.length := by omega
          obtain ⟨rb2, ro2, es, hA2, hF2, hrr2, hes⟩ := h0.at_ hlk
          cases hA2
          have hes : es = [str texts[k]] := hes
          subst hes
          have hrr2 : w0.rangeAt rb (ro + k * 1) [str texts[k]] := hrr2
          have hkx : (strs ks)[k * 1]? = some (str ks[k]) := by rw [Nat.mul_one, strs_at hkk]
          have hsk := hsame k hlk hkk
          have htk : (texts.take (k + 1)).count ti = n + if texts[k] = ti then 1 else 0 := by
            rw [List.take_succ_eq_append_getElem hlk, List.count_append, ← hn, List.count_singleton]
            by_cases e : texts[k] = ti <;> simp [e]
          have hnk : n ≤ k := by rw [hn]; exact Nat.le_trans List.count_le_length (by rw [List.length_take]; omega)
          generalize texts[k] = tk at *
          generalize ks[k] = kk at *
          by_cases he : tk = ti
          · have hke := hsk.2 he
            subst he hke
            rw [if_pos rfl] at htk
            clear hsame hsk
            repeat' (first
              | (show WL _ _ _ _ _ _ _; first
                | refine WL.pure rfl rfl rfl rfl ?_
                | refine WL.nil ?_
                | refine WL.add rfl rfl rfl (by omega) rfl rfl rfl ?_)
              | (show WC _ _ _ _ _ _; first
                | refine WC.seq ?_
                | refine WC.region ?_
                | refine WC.block ?_
                | refine WC.skip ?_
                | (show WC _ _ (Code.region _ (List.toArray [_, _, _, _, _, _, _, _, _, _, _, _, _, _, _, _, _, _, _]) true) _ _ _; refine WC.drawS hS [0, 1, 2, 3, 4, 5, 6, 7, 8, 9, 10, 11, 12, 13, 14, 15, 16, 17, 18] [0, 1, 2, 3, 4, 5, 6, 7, 8, 9, 10, 11, 12, 13, 14, 15, 16, 17, 18] (by kernel_rfl) (by kernel_rfl) ?_; clear hS; intro w hS hM)
                | (show WC _ _ (Code.region _ (List.toArray [_, _, _, _, _, _, _, _, _]) true) _ _ _; refine WC.drawS hS [0, 1, 2, 3, 4, 5, 6, 7, 8] [0, 1, 2, 3, 4, 5, 6, 7, 8] (by kernel_rfl) (by kernel_rfl) ?_; clear hS; intro w hS hM)
                | refine WC.condT rfl (decide_eq_true (by first | with_reducible assumption | omega)) ?_
                | refine WC.condT rfl (by first | (simp; done) | (simp; omega)) ?_
                | refine WC.condF rfl (by first | (simp; done) | (simp; omega)) ?_)
              | (show WD _ _ _ _ _ _ _ _ _; first
                | refine WD.pure rfl rfl rfl rfl rfl ?_
                | refine WD.nil ?_
                | (refine WD.load rfl rfl (LdOk.ownAt (by repeat (first | exact List.Mem.head _ | apply List.Mem.tail)) rfl ⟨_, rfl⟩ hkx rfl) rfl rfl rfl rfl ?_)
                | (refine WD.load rfl rfl (LdOk.ownAt (by repeat (first | exact List.Mem.head _ | apply List.Mem.tail)) rfl ⟨_, rfl⟩ hki rfl) rfl rfl rfl rfl ?_)
                | (refine WD.load rfl rfl (LdOk.snap0 hF hrr2 (by repeat (first | exact List.Mem.head _ | apply List.Mem.tail)) rfl) rfl rfl rfl rfl ?_)
                | (refine WD.load rfl rfl (LdOk.snap0 hF hrr (by repeat (first | exact List.Mem.head _ | apply List.Mem.tail)) rfl) rfl rfl rfl rfl ?_)
                | refine WD.index rfl rfl rfl rfl (by first | with_reducible assumption | omega) rfl rfl rfl rfl rfl ?_)
              | refine seqQ_n ?_
              | refine blkQ_n ?_)
            exact rndQ_n (k + 1, n + 1) ⟨⟨by omega, htk.symm⟩, hS⟩ (by show texts.length - (k + 1) < texts.length - k; omega) ⟨vint (by omega), vint (by omega), trivial⟩ ⟨rfl, rfl, rfl, rfl, rfl, rfl, trivial⟩
          · have hke : ¬ kk = ki := fun e => he (hsk.1 e)
            rw [if_neg he] at htk
            clear hsame hsk
            repeat' (first
              | (show WL _ _ _ _ _ _ _; first
                | refine WL.pure rfl rfl rfl rfl ?_
                | refine WL.nil ?_
                | refine WL.add rfl rfl rfl (by omega) rfl rfl rfl ?_)
              | (show WC _ _ _ _ _ _; first
                | refine WC.condF rfl (by first | (simp [hke, he]; done) | fail) ?_
                | refine WC.seq ?_
                | refine WC.region ?_
                | refine WC.block ?_
                | refine WC.skip ?_
                | (show WC _ _ (Code.region _ (List.toArray [_, _, _, _, _, _, _, _, _, _, _, _, _, _, _, _, _, _, _]) true) _ _ _; refine WC.drawS hS [0, 1, 2, 3, 4, 5, 6, 7, 8, 9, 10, 11, 12, 13, 14, 15, 16, 17, 18] [0, 1, 2, 3, 4, 5, 6, 7, 8, 9, 10, 11, 12, 13, 14, 15, 16, 17, 18] (by kernel_rfl) (by kernel_rfl) ?_; clear hS; intro w hS hM)
                | (show WC _ _ (Code.region _ (List.toArray [_, _, _, _, _, _, _, _, _]) true) _ _ _; refine WC.drawS hS [0, 1, 2, 3, 4, 5, 6, 7, 8] [0, 1, 2, 3, 4, 5, 6, 7, 8] (by kernel_rfl) (by kernel_rfl) ?_; clear hS; intro w hS hM)
                | refine WC.condT rfl (decide_eq_true (by first | with_reducible assumption | omega)) ?_)
              | (show WD _ _ _ _ _ _ _ _ _; first
                | refine WD.pure rfl rfl rfl rfl rfl ?_
                | refine WD.nil ?_
                | (refine WD.load rfl rfl (LdOk.ownAt (by repeat (first | exact List.Mem.head _ | apply List.Mem.tail)) rfl ⟨_, rfl⟩ hkx rfl) rfl rfl rfl rfl ?_)
                | (refine WD.load rfl rfl (LdOk.ownAt (by repeat (first | exact List.Mem.head _ | apply List.Mem.tail)) rfl ⟨_, rfl⟩ hki rfl) rfl rfl rfl rfl ?_)
                | (refine WD.load rfl rfl (LdOk.snap0 hF hrr2 (by repeat (first | exact List.Mem.head _ | apply List.Mem.tail)) rfl) rfl rfl rfl rfl ?_)
                | (refine WD.load rfl rfl (LdOk.snap0 hF hrr (by repeat (first | exact List.Mem.head _ | apply List.Mem.tail)) rfl) rfl rfl rfl rfl ?_)
                | refine WD.index rfl rfl rfl rfl (by first | with_reducible assumption | omega) rfl rfl rfl rfl rfl ?_)
              | refine seqQ_n ?_
              | refine blkQ_n ?_)
            exact rndQ_n (k + 1, n) ⟨⟨by omega, htk.symm⟩, hS⟩ (by show texts.length - (k + 1) < texts.length - k; omega) ⟨rfl, vint (by omega), trivial⟩ ⟨rfl, rfl, rfl, rfl, rfl, rfl, trivial⟩
        · have hke : k = texts.length := by omega
          subst hke
          rw [List.take_length] at hn
          rw [← hn] at hrf
          clear hsame hk hlk
          repeat' (first
            | (show WL _ _ _ _ _ _ _; first
              | refine WL.pure rfl rfl rfl rfl ?_
              | refine WL.nil ?_
              | refine WL.add rfl rfl rfl (by omega) rfl rfl rfl ?_
              | (refine WL.load hS rfl rfl (LdOk.ownAt (by repeat (first | exact List.Mem.head _ | apply List.Mem.tail)) rfl ⟨_, rfl⟩ hki rfl) rfl rfl rfl ?_)
              | (refine WL.load hS rfl rfl (LdOk.snap0 hF hrr (by repeat (first | exact List.Mem.head _ | apply List.Mem.tail)) rfl) rfl rfl rfl ?_)
              | (refine WL.callL (D := [bchC B (some ⟨Tp, 0, none⟩) m fb, tabC Tp q ⟨sysP, [], ⟨sysL, [], false⟩⟩ fp]) hS (by repeat (first | exact Pulls.nil | (apply Pulls.cons; focus (repeat (first | exact Pull.here | apply Pull.there))))) rfl rfl (fun hI => blrefs_c (l := l) (K := texts.length) ki hI hb (by omega)) rfl rfl rfl ?_; rintro v w ⟨rfl, hmu⟩ hS; rw [hrf]; replace hS := hS _ hmu; clear hmu)
              | refine WL.index rfl rfl rfl rfl (by first | with_reducible assumption | omega) rfl rfl rfl rfl ?_
              | ((fail_if_success (refine WL.wanted rfl ?_)); refine WL.guard rfl rfl rfl (fun h => ?_) (fun h => ?_) <;> (try simp only [Classical.not_not, Bool.not_eq_true', Bool.not_eq_false', Bool.not_eq_eq_eq_not, Bool.not_true, Bool.not_false, beq_iff_eq, beq_eq_false_iff_ne, ne_eq, decide_eq_decide, decide_eq_true_eq, decide_eq_false_iff_not, Bool.and_eq_true, Bool.or_eq_true, Bool.and_eq_false_iff, Bool.or_eq_false_iff] at h) <;> (try (exfalso; first | omega | contradiction))))
            | (show WC _ _ _ _ _ _; first
              | refine WC.seq ?_
              | refine WC.region ?_
              | refine WC.skip ?_
              | refine WC.exit ?_
              | refine WC.condF rfl (decide_eq_false (by first | with_reducible assumption | omega)) ?_)
            | refine seqQ_n ?_
            | refine blkQ_n ?_
            | refine seqQ_x ?_
            | refine blkQ_hit rfl ?_
            | refine rndQ_x ?_)
          exact rndQ_n (i + 1) ⟨by omega, hS.droplast2 (by repeat (first | exact Pulls.nil | (apply Pulls.cons; focus (repeat (first | exact Pull.here | apply Pull.there)))))⟩ (by show texts.length - (i + 1) < texts.length - i; omega) ⟨vint (by omega), trivial⟩ ⟨rfl, rfl, rfl, trivial⟩
      · have hie : i = texts.length := by omega
        subst hie
        repeat' (first
          | (show WL _ _ _ _ _ _ _; first
            | refine WL.pure rfl rfl rfl rfl ?_
            | refine WL.nil ?_)
          | (show WC _ _ _ _ _ _; first
            | refine WC.seq ?_
            | refine WC.region ?_
            | refine WC.block ?_
            | refine WC.exit ?_
            | refine WC.condF rfl (decide_eq_false (by first | with_reducible assumption | omega)) ?_)
          | refine seqQ_n ?_
          | refine seqQ_x ?_
          | refine blkQ_hit rfl ?_
          | refine rndQ_x ?_)
        refine WC.loop (σ := Nat × List One × Bch × List Nat) [3, 4] (fun (i, _) => [(11, .int .i64 (i : Int))])
          (fun (i, l, m, fb) w => (i ≤ texts.length ∧ PutsIs (texts.drop i) (ks.drop i) l ∧ BlobIs [] m l texts.length ∧ m.length ≤ texts.length + i) ∧ St w0 [] w [.own (.slice AK ks.length capK) 9 1 ks.length (strs ks), bchC B (some ⟨Tp, 0, none⟩) m fb, tabC Tp q ⟨sysP, [], ⟨sysL, [], false⟩⟩ fp] [⟨w0, Old w0⟩])
          (fun (i, _) => texts.length - i) (0, l, m, fb) ⟨⟨Nat.zero_le _, hpi, hb, by omega⟩, hS⟩ ⟨rfl, trivial⟩ ?_
        clear hS hpi hb hml
        rintro ⟨i, l, m, fb⟩ g3 w ⟨⟨hi, hpi, hb, hml⟩, hS⟩
        show WC _ _ _ (lf _ [(11, .int .i64 (i : Int))] _ _) _ _
        by_cases hlt : i < texts.length
        · have hik : i < ks.length := by omega
          rw [List.drop_eq_getElem_cons hlt, List.drop_eq_getElem_cons hik] at hpi
          obtain ⟨⟨x, hfx⟩, hpi2⟩ := hpi.rel hb.knd hb.dnd
          have hrv : relEB l ks[i] = 0 := by unfold relEB; rw [hfx]
          have hb2 := hb.relM ks[i]
          have hml2 : (relM m l ks[i]).length ≤ m.length + 1 := by unfold relM; rw [hfx]; exact note_len _ _
          have hki : (strs ks)[i * 1]? = some (str ks[i]) := by rw [Nat.mul_one, strs_at hik]
          obtain ⟨kg, ko, rfl⟩ := hS.own_addr (A := AK) (n := ks.length) (by repeat (first | exact List.Mem.head _ | apply List.Mem.tail)) (by omega)
          generalize ks[i] = ki at *
          clear hpi hfx
          repeat' (first
            | (show WL _ _ _ _ _ _ _; first
              | refine WL.pure rfl rfl rfl rfl ?_
              | refine WL.nil ?_
              | refine WL.add rfl rfl rfl (by omega) rfl rfl rfl ?_
              | (refine WL.load hS rfl rfl (LdOk.ownAt (by repeat (first | exact List.Mem.head _ | apply List.Mem.tail)) rfl ⟨_, rfl⟩ hki rfl) rfl rfl rfl ?_)
              | (refine WL.callL (D := [bchC B (some ⟨Tp, 0, none⟩) m fb, tabC Tp q ⟨sysP, [], ⟨sysL, [], false⟩⟩ fp]) hS (by repeat (first | exact Pulls.nil | (apply Pulls.cons; focus (repeat (first | exact Pull.here | apply Pull.there))))) rfl rfl (fun hI => blrel_c (l := l) (K := texts.length) ki hI hb (by omega) (by omega)) rfl rfl rfl ?_; rintro v w ⟨rfl, fb2, hmu⟩ hS; rw [hrv]; replace hS := hS _ hmu; clear hmu)
              | refine WL.index rfl rfl rfl rfl (by first | with_reducible assumption | omega) rfl rfl rfl rfl ?_)
            | (show WC _ _ _ _ _ _; first
              | refine WC.seq ?_
              | refine WC.region ?_
              | refine WC.block ?_
              | refine WC.skip ?_
              | refine WC.condF rfl (by decide) ?_
              | refine WC.condT rfl (decide_eq_true (by first | with_reducible assumption | omega)) ?_)
            | refine seqQ_n ?_
            | refine blkQ_n ?_)
          exact rndQ_n (i + 1, relB l ki, relM m l ki, fb2) ⟨⟨by omega, hpi2, hb2, by omega⟩, hS.droplast2 (D := [.own (.slice (some ⟨kg, ko, none⟩) ks.length capK) 9 1 ks.length (strs ks), bchC B (some ⟨Tp, 0, none⟩) (relM m l ki) fb2, tabC Tp q ⟨sysP, [], ⟨sysL, [], false⟩⟩ fp]) (by repeat (first | exact Pulls.nil | (apply Pulls.cons; focus (repeat (first | exact Pull.here | apply Pull.there)))))⟩ (by show texts.length - (i + 1) < texts.length - i; omega) ⟨vint (by omega), trivial⟩ ⟨rfl, rfl, trivial⟩
        · have hie : i = texts.length := by omega
          subst hie
          rw [List.drop_length, ← hkl, List.drop_length] at hpi
          obtain rfl := hpi.empty
          have hal : (bkeysP [] m [98, 47]).length = 0 := hb.all_len
          clear hpi
          repeat' (first
            | (show WL _ _ _ _ _ _ _; first
              | refine WL.pure rfl rfl rfl rfl ?_
              | refine WL.nil ?_
              | (refine WL.callL (D := [bchC B (some ⟨Tp, 0, none⟩) m fb, tabC Tp q ⟨sysP, [], ⟨sysL, [], false⟩⟩ fp]) hS (by repeat (first | exact Pulls.nil | (apply Pulls.cons; focus (repeat (first | exact Pull.here | apply Pull.there))))) rfl rfl (fun hI => bkeys_c [98, 47] hI (Nat.zero_le _) (by omega)) rfl rfl rfl ?_; rintro v w ⟨KA, kc, rfl, hmu⟩ hS; dsimp only at hmu ⊢; rw [hal] at hmu ⊢; replace hS := hS _ hmu; clear hmu))
            | (show WC _ _ _ _ _ _; first
              | refine WC.seq ?_
              | refine WC.region ?_
              | refine WC.exit ?_
              | refine WC.ret ?_
              | refine WC.condF rfl (decide_eq_false (by first | with_reducible assumption | omega)) ?_)
            | refine seqQ_n ?_
            | refine seqQ_x ?_
            | refine blkQ_hit rfl ?_
            | refine rndQ_x ?_)
          exact fin1r rfl rfl ⟨hS.upd, vbool (by decide)⟩
  · repeat' (first
      | (show WL _ _ _ _ _ _ _; first
        | refine WL.pure rfl rfl rfl rfl ?_
        | refine WL.nil ?_
        | (refine WL.callL (D := []) hS .nil rfl rfl (fun hI => blmade_c _) rfl rfl rfl ?_; rintro v w ⟨B, Tp, q, fb, fp, rfl, hmu⟩ hS; replace hS := hS _ hmu; clear hmu)
        | (refine WL.calls hS rfl rfl (blawake_c _ (hp.at hS)) rfl rfl rfl ?_; rintro v w rfl hS))
      | (show WC _ _ _ _ _ _; first
        | refine WC.seq ?_
        | refine WC.region ?_
        | refine WC.ret ?_
        | refine WC.condT rfl (decide_eq_true (by first | with_reducible assumption | omega)) ?_)
      | refine seqQ_n ?_
      | refine seqQ_r ?_)
    exact fin1r rfl rfl ⟨hS.upd, vbool (by simp)⟩
end Go.Proofs.YtlddmenpafcaiaaGreatDoor

/- What is proved: the key of BlobHolds: with the table laid, the law answers true. Conditions: the statement's own bound on the bulk. -/
set_option linter.unusedSimpArgs false
set_option linter.unusedVariables false
namespace Go.Proofs.YtlddmenpafcaiaaGreatDoor
open Go Go.J Go.RowKit

set_option maxRecDepth 100000 in
theorem pow_blobHolds (W : World) (h : laidMet Tryz.prog Rows.blobHoldsUptoRow.laid W) : powT W := by
  obtain ⟨a, b, r, he⟩ : ∃ a b r, Rows.blobHoldsUptoRow.laid = a :: b :: ("internal/strconv.uint64pow10", Lib.tabData .u64 Lib.pow10Tab) :: r := ⟨_, _, _, rfl⟩
  rw [he] at h
  have h1 := laidMet.tail (laidMet.tail h)
  exact Lib.tabIs_of_head (g := 2) (t := 195) (e := 140) (n := 20) (by kernel_rfl) (by kernel_rfl) (by kernel_rfl) (by kernel_rfl) (by kernel_rfl) (by kernel_rfl) h1
theorem blobHolds.key_blobHolds (W : World) (hL : laidMet Tryz.prog Rows.blobHoldsUptoRow.laid W) (v0 : Value) (y0 : List (List UInt8)) (b0 : Nat) (h0 : ASl cStr W v0 y0) (q0 : QL QStr y0 b0) (hb : b0 ≤ 1048576) :
    Cal Tryz.prog 4 [v0] W (fun v W' => Upd [] W W' ∧ v = .bool true) := by
  obtain ⟨A0, c0, rfl, _, h0⟩ := h0
  have := ql_strsB q0
  exact blobHolds_c y0 h0 (by omega) (pow_blobHolds W hL)
end Go.Proofs.YtlddmenpafcaiaaGreatDoor

/- What is proved: when two lists of texts are told to be alike. Conditions: none. -/
set_option linter.unusedSimpArgs false
set_option linter.unusedVariables false
namespace Go.Proofs.YtlddmenpafcaiaaGreatDoor
open Go Go.J Go.RowKit

theorem list_ext_get {α : Type} {xs ys : List α} (hl : xs.length = ys.length) (h : ∀ j (h1 : j < xs.length) (h2 : j < ys.length), xs[j] = ys[j]) : xs = ys := List.ext_getElem hl h
set_option maxHeartbeats 4000000 in
set_option maxRecDepth 100000 in
theorem same_c (xs ys : List (List UInt8)) {A B : Option Addr} {ca cb : Nat} {w0 : World} (hA : SlAt cStr (Old w0) w0 A xs) (hB : SlAt cStr (Old w0) w0 B ys) (hlx : xs.length ≤ 4611686018427387904) :
    Cal Tryz.prog 19 [.slice A xs.length ca, .slice B ys.length cb] w0 (fun v w' => Upd [] w0 w' ∧ v = .bool (decide (xs = ys))) := by
  refine Cal.mk' (by kernel_rfl) Tryz.func19 rfl rfl fun hS => ?_
  by_cases hl : xs.length = ys.length
  · repeat' (first
      | (show WL _ _ _ _ _ _ _; first
        | refine WL.pure rfl rfl rfl rfl ?_
        | refine WL.nil ?_)
      | (show WC _ _ _ _ _ _; first
        | refine WC.seq ?_
        | refine WC.region ?_
        | refine WC.block ?_
        | refine WC.skip ?_
        | refine WC.condF rfl (decide_eq_false (by first | with_reducible assumption | omega)) ?_)
      | refine seqQ_n ?_)
    refine WC.loop (σ := Nat) [0, 1] (fun k => [(5, .int .i64 (k : Int))]) (fun k w => k ≤ xs.length ∧ (∀ j (h1 : j < xs.length) (h2 : j < ys.length), j < k → xs[j] = ys[j]) ∧ St w0 [] w [] [⟨w0, Old w0⟩]) (fun k => xs.length - k) 0 ⟨Nat.zero_le _, fun j h1 h2 hj => absurd hj (Nat.not_lt_zero _), hS⟩ ⟨rfl, trivial⟩ ?_
    clear hS
    rintro k g w ⟨hk, hall, hS⟩
    obtain ⟨Hall, rfl⟩ : ∃ h : (∀ j (h1 : j < xs.length) (h2 : j < ys.length), j < k → xs[j] = ys[j]), h = hall := ⟨_, rfl⟩
    by_cases hlt : k < xs.length
    · have hlt2 : k < ys.length := by omega
      obtain ⟨b1, o1, e1, rfl, f1, r1, rfl⟩ := hA.at_ hlt
      obtain ⟨b2, o2, e2, rfl, f2, r2, rfl⟩ := hB.at_ hlt2
      change w0.rangeAt b1 (o1 + k * 1) [str xs[k]] at r1
      change w0.rangeAt b2 (o2 + k * 1) [str ys[k]] at r2
      by_cases he : xs[k] = ys[k]
      · have hnx : ∀ j (h1 : j < xs.length) (h2 : j < ys.length), j < k + 1 → xs[j] = ys[j] := fun j h1 h2 hj => if e : j = k then (by subst e; exact he) else Hall j h1 h2 (by omega)
        clear Hall
        generalize xs[k] = x at *
        generalize ys[k] = y at *
        subst he
        repeat' (first
          | (show WL _ _ _ _ _ _ _; first
            | refine WL.pure rfl rfl rfl rfl ?_
            | refine WL.nil ?_
            | refine WL.add rfl rfl rfl (by omega) rfl rfl rfl ?_)
          | (show WC _ _ _ _ _ _; first
            | refine WC.seq ?_
            | refine WC.region ?_
            | refine WC.block ?_
            | refine WC.skip ?_
            | (show WC _ _ (Code.region _ (List.toArray [_, _, _, _, _, _, _, _, _]) true) _ _ _; refine WC.drawS hS [0, 1, 2, 3, 4, 5, 6, 7, 8] [0, 1, 2, 3, 4, 5, 6, 7, 8] (by kernel_rfl) (by kernel_rfl) ?_; clear hS; intro w hS hM)
            | refine WC.condT rfl (decide_eq_true (by first | with_reducible assumption | omega)) ?_
            | refine WC.condF rfl (by first | (simp; done) | (simp; omega)) ?_)
          | (show WD _ _ _ _ _ _ _ _ _; first
            | refine WD.pure rfl rfl rfl rfl rfl ?_
            | refine WD.nil ?_
            | (refine WD.load rfl rfl (LdOk.snap0 f1 r1 (by repeat (first | exact List.Mem.head _ | apply List.Mem.tail)) rfl) rfl rfl rfl rfl ?_)
            | (refine WD.load rfl rfl (LdOk.snap0 f2 r2 (by repeat (first | exact List.Mem.head _ | apply List.Mem.tail)) rfl) rfl rfl rfl rfl ?_)
            | refine WD.index rfl rfl rfl rfl (by first | with_reducible assumption | omega) rfl rfl rfl rfl rfl ?_)
          | refine seqQ_n ?_
          | refine blkQ_n ?_)
        exact rndQ_n (k + 1) ⟨by omega, hnx, hS⟩ (by omega) ⟨vint (by omega), trivial⟩ ⟨rfl, rfl, trivial⟩
      · have hne : ¬ xs = ys := fun h => he (by subst h; rfl)
        clear Hall
        generalize xs[k] = x at *
        generalize ys[k] = y at *
        repeat' (first
          | (show WL _ _ _ _ _ _ _; first
            | refine WL.pure rfl rfl rfl rfl ?_
            | refine WL.nil ?_)
          | (show WC _ _ _ _ _ _; first
            | refine WC.seq ?_
            | refine WC.region ?_
            | refine WC.block ?_
            | refine WC.skip ?_
            | refine WC.ret ?_
            | (show WC _ _ (Code.region _ (List.toArray [_, _, _, _, _, _, _, _, _]) true) _ _ _; refine WC.drawS hS [0, 1, 2, 3, 4, 5, 6, 7, 8] [0, 1, 2, 3, 4, 5, 6, 7, 8] (by kernel_rfl) (by kernel_rfl) ?_; clear hS; intro w hS hM)
            | refine WC.condT rfl (decide_eq_true (by first | with_reducible assumption | omega)) ?_)
          | (show WD _ _ _ _ _ _ _ _ _; first
            | refine WD.pure rfl rfl rfl rfl rfl ?_
            | refine WD.nil ?_
            | (refine WD.load rfl rfl (LdOk.snap0 f1 r1 (by repeat (first | exact List.Mem.head _ | apply List.Mem.tail)) rfl) rfl rfl rfl rfl ?_)
            | (refine WD.load rfl rfl (LdOk.snap0 f2 r2 (by repeat (first | exact List.Mem.head _ | apply List.Mem.tail)) rfl) rfl rfl rfl rfl ?_)
            | refine WD.index rfl rfl rfl rfl (by first | with_reducible assumption | omega) rfl rfl rfl rfl rfl ?_)
          | refine seqQ_n ?_
          | refine seqQ_r ?_
          | refine blkQ_r ?_
          | refine rndQ_r ?_)
        exact fin1r rfl rfl ⟨hS.upd, vbool (by simp [hne])⟩
    · have heq : xs = ys := list_ext_get hl fun j h1 h2 => Hall j h1 h2 (by omega)
      clear Hall
      repeat' (first
        | (show WL _ _ _ _ _ _ _; first
          | refine WL.pure rfl rfl rfl rfl ?_
          | refine WL.nil ?_)
        | (show WC _ _ _ _ _ _; first
          | refine WC.seq ?_
          | refine WC.region ?_
          | refine WC.exit ?_
          | refine WC.ret ?_
          | refine WC.condF rfl (decide_eq_false (by first | with_reducible assumption | omega)) ?_)
        | refine seqQ_n ?_
        | refine seqQ_x ?_
        | refine blkQ_hit rfl ?_
        | refine rndQ_x ?_)
      exact fin1r rfl rfl ⟨hS.upd, vbool (by simp [heq])⟩
  · have hne : ¬ xs = ys := fun h => hl (by rw [h])
    repeat' (first
      | (show WL _ _ _ _ _ _ _; first
        | refine WL.pure rfl rfl rfl rfl ?_
        | refine WL.nil ?_)
      | (show WC _ _ _ _ _ _; first
        | refine WC.seq ?_
        | refine WC.region ?_
        | refine WC.ret ?_
        | refine WC.condT rfl (decide_eq_true (by first | with_reducible assumption | omega)) ?_)
      | refine seqQ_n ?_
      | refine seqQ_r ?_)
    exact fin1r rfl rfl ⟨hS.upd, vbool (by simp [hne])⟩
theorem same_n (xs ys : List (List UInt8)) {A B : Option Addr} {ca cb n m : Nat} {w0 : World} (hn : n = xs.length) (hm : m = ys.length) (hA : SlAt cStr (Old w0) w0 A xs) (hB : SlAt cStr (Old w0) w0 B ys) (hlx : xs.length ≤ 4611686018427387904) :
    Cal Tryz.prog 19 [.slice A n ca, .slice B m cb] w0 (fun v w' => Upd [] w0 w' ∧ v = .bool (decide (xs = ys))) := by
  subst hn; subst hm; exact same_c xs ys hA hB hlx
end Go.Proofs.YtlddmenpafcaiaaGreatDoor

/- What is proved: the law BlobSweeps answers true. Conditions: the statement's own bound on the bulk; the library's table of powers laid. -/
set_option linter.unusedSimpArgs false
set_option linter.unusedVariables false
namespace Go.Proofs.YtlddmenpafcaiaaGreatDoor
open Go Go.J Go.RowKit
open Go.Lib (decDigits)

section
variable {w0 w : World} {M : List Nat} {D H : List Chunk} {Z : List Snap}
/-- a row of the call's own, as a callee reads it that changes other chunks -/
theorem St.ownSlX {α : Type} {enc : α → List Value} {sz : Nat} {hsz : ∀ x, (enc x).length = sz} {e : TypeId} {A : Option Addr} {n cap n' : Nat} {l : List α} (h0 : 0 < sz) (hS : St w0 M w (D ++ H) Z) (hm : Chunk.own (.slice A n cap) e sz n' (l.flatMap enc) ∈ H) :
    SlAt (Cod.flat enc sz hsz) (fun b => b < w.heap.size ∧ b ∉ fps D) w A l :=
  SlAt.ofOwn h0 (hS.holds _ (List.mem_append_right _ hm)) fun g hg => by
    refine ⟨(hS.inb _ (List.mem_append_right _ hm) g (by simp [Chunk.fp, hg])).1, fun hf => ?_⟩
    obtain ⟨c, hc, hb⟩ := mem_fps.1 hf
    exact (List.pairwise_append.1 hS.disj).2.2 c hc _ hm g hb (by simp [Chunk.fp, hg])
end
def zzK : List UInt8 := [122, 122]
def zzM : Bch := noteE [] ⟨zzK, [111, 116, 104, 101, 114], false⟩
section
variable {rows : Rws} {m : Bch} {l : List One} {K : Nat}
theorem BlobIs.foreign (h : BlobIs rows m l K) {o : Chg} (ho : o.key.take 2 ≠ [98, 47]) : BlobIs rows (noteE m o) l K := by
  refine ⟨h.rnd, note_nd h.mnd _, fun x hx => ?_, fun k hk hb => ?_, h.low, h.refs, h.nums, h.len, h.size, h.knd, h.dnd⟩
  · rw [bgetE_noted, if_neg]
    · exact h.has x hx
    · intro e; exact ho (by rw [← e]; rfl)
  · rw [bgetE_noted, if_neg] at hk
    · exact h.only k hk hb
    · intro e; exact ho (by rw [← e]; exact of_decide_eq_true hb)
theorem put_key2 (hd : (l.map One.data).Nodup) (data : List UInt8) : (putB l data).2.take 2 = [98, 47] := by
  obtain ⟨y, _, _, e⟩ := put_has hd data
  rw [← e]
  rfl
theorem put_frame (hd : (l.map One.data).Nodup) (data v : List UInt8) {k : List UInt8} (hk : k.take 2 ≠ [98, 47]) : bgetE rows (noteE m ⟨(putB l data).2, v, false⟩) k = bgetE rows m k := by
  rw [bgetE_noted, if_neg]
  intro e
  exact hk (by rw [e]; exact put_key2 hd data)
theorem count_same {a b : List UInt8} : ∀ {xs ys : List (List UInt8)}, xs.length = ys.length → (∀ j (h1 : j < xs.length) (h2 : j < ys.length), xs[j] = a ↔ ys[j] = b) → xs.count a = ys.count b
  | [], [], _, _ => rfl
  | [], _ :: _, h, _ => by simp at h
  | _ :: _, [], h, _ => by simp at h
  | x :: xs, y :: ys, hl, h => by
    have ih := count_same (xs := xs) (ys := ys) (by simpa using hl) fun j h1 h2 => h (j + 1) (by simp; omega) (by simp; omega)
    have h0 : x = a ↔ y = b := h 0 (by simp) (by simp)
    rw [List.count_cons, List.count_cons, ih]
    by_cases e : x = a
    · rw [if_pos (beq_iff_eq.2 e), if_pos (beq_iff_eq.2 (h0.1 e))]
    · rw [if_neg (fun hh => e (beq_iff_eq.1 hh)), if_neg (fun hh => e (h0.2 (beq_iff_eq.1 hh)))]
theorem PutsIs.count {ts ks : List (List UInt8)} (h : PutsIs ts ks l) (hk : (l.map One.key).Nodup) (hd : (l.map One.data).Nodup) {x : One} (hx : x ∈ l) : ks.count x.key = x.refs := by
  rw [(h.back x hx).2]
  refine count_same h.len fun j h1 h2 => ?_
  obtain ⟨y, hy, e1, e2⟩ := h.keys j h2
  have e2 : ks[j] = y.key := by rw [List.getElem?_eq_getElem h1] at e2; exact Option.some.inj e2
  rw [e2, ← e1]
  exact ⟨fun e => by rw [nd_key hk hy hx e], fun e => by rw [nd_data hd hy hx e]⟩
theorem PutsIs.sweep {ts ks : List (List UInt8)} (h : PutsIs ts ks l) (hk : (l.map One.key).Nodup) (hd : (l.map One.data).Nodup) : sweepB l ks = l := by
  unfold sweepB
  conv => rhs; rw [← List.filterMap_some (l := l)]
  refine filterMap_cong fun x hx => ?_
  have h1 := h.count hk hd hx
  have h2 : 0 < x.refs := by rw [(h.back x hx).2]; exact List.count_pos_iff.2 (h.back x hx).1
  unfold sweepOne
  rw [h1, if_neg (by omega)]
theorem sweep_nil (l : List One) : sweepB l [] = [] := by
  unfold sweepB
  refine List.filterMap_eq_nil_iff.2 fun x _ => ?_
  unfold sweepOne
  rw [List.count_nil, if_pos rfl]
theorem BlobIs.keys_same {m' : Bch} {K' : Nat} (h : BlobIs rows m l K) (h' : BlobIs rows m' l K') : bkeysP rows m' [98, 47] = bkeysP rows m [98, 47] := by
  have h1 := h.all
  have h2 := h'.all
  unfold bkeysP at h1 h2 ⊢
  exact sort_perm ((List.mergeSort_perm _ _).symm.trans ((h2.trans h1.symm).trans (List.mergeSort_perm _ _)))
theorem zz_only {m : Bch} (h : BlobIs [] m [] K) (hf : ∀ k, k.take 2 ≠ [98, 47] → bgetE [] m k = bgetE [] zzM k) : (bkeysP [] m []).length = 1 := by
  have hmem : ∀ k, k ∈ bkeysP [] m [] ↔ k ∈ [zzK] := fun k => by
    rw [mem_bkeys h.mnd, List.mem_singleton]
    constructor
    · rintro ⟨h1, _⟩
      by_cases hk : k.take 2 = [98, 47]
      · obtain ⟨x, hx, _⟩ := h.only k h1 (decide_eq_true hk)
        cases hx
      · rw [hf k hk, zzM, bgetE_noted] at h1
        split at h1
        · assumption
        · cases h1
    · rintro rfl
      refine ⟨?_, rfl⟩
      rw [hf zzK (by decide), zzM, bgetE_noted, if_pos rfl]
      rfl
  have := (List.perm_ext_iff_of_nodup (nodup_bkeys h.rnd h.mnd []) (by simp : [zzK].Nodup)).2 hmem
  rw [this.length_eq]; rfl
end
set_option maxHeartbeats 32000000 in
set_option maxRecDepth 100000 in
theorem blobSweeps_c (texts : List (List UInt8)) {A : Option Addr} {cap : Nat} {w0 : World} (h0 : SlAt cStr (Old w0) w0 A texts) (hz : (texts.map List.length).sum + texts.length ≤ 1048576) (ht : powT w0) :
    Cal Tryz.prog 5 [.slice A texts.length cap] w0 (fun v w' => Upd [] w0 w' ∧ v = .bool true) := by
  refine Cal.mk' (by kernel_rfl) Tryz.func5 rfl rfl fun hS => ?_
  have hp := PowI.of ht
  by_cases h150 : texts.length ≤ 100
  · repeat' (first
      | (show WL _ _ _ _ _ _ _; first
        | refine WL.pure rfl rfl rfl rfl ?_
        | refine WL.nil ?_
        | (refine WL.callL (D := []) hS .nil rfl rfl (fun hI => blmade_c _) rfl rfl rfl ?_; rintro v w ⟨B, Tp, q, fb, fp, rfl, hmu⟩ hS; replace hS := hS _ hmu; clear hmu)
        | (refine WL.calls hS rfl rfl (blawake_c _ (hp.at hS)) rfl rfl rfl ?_; rintro v w rfl hS)
        | (refine WL.callL (D := [bchC B (some ⟨Tp, 0, none⟩) [] fb]) hS (by repeat (first | exact Pulls.nil | (apply Pulls.cons; focus (repeat (first | exact Pull.here | apply Pull.there))))) rfl rfl (fun hI => bput_c zzK [111, 116, 104, 101, 114] hI.head hI.headB (Nat.zero_le _)) rfl rfl rfl ?_; rintro v w ⟨rfl, fb0, hmu⟩ hS; replace hmu := MutL.of1 hmu; rw [show noteE [] ⟨zzK, [111, 116, 104, 101, 114], false⟩ = zzM from rfl] at hmu; replace hS := hS _ hmu; clear hmu))
      | (show WC _ _ _ _ _ _; first
        | refine WC.seq ?_
        | refine WC.region ?_
        | refine WC.block ?_
        | refine WC.skip ?_
        | refine WC.condF rfl (decide_eq_false (by first | with_reducible assumption | omega)) ?_)
      | refine seqQ_n ?_)
    replace hS := (hS.nilRow 9 1).pulls (D := [.own (.slice none 0 0) 9 1 0 [], bchC B (some ⟨Tp, 0, none⟩) zzM fb0, tabC Tp q ⟨sysP, [], ⟨sysL, [], false⟩⟩ fp]) (by repeat (first | exact Pulls.nil | (apply Pulls.cons; focus (repeat (first | exact Pull.here | apply Pull.there)))))
    replace hS := hS.droplast2 (D := [.own (.slice none 0 0) 9 1 0 [], bchC B (some ⟨Tp, 0, none⟩) zzM fb0, tabC Tp q ⟨sysP, [], ⟨sysL, [], false⟩⟩ fp]) (by repeat (first | exact Pulls.nil | (apply Pulls.cons; focus (repeat (first | exact Pull.here | apply Pull.there)))))
    refine WC.loop (σ := Nat × List One × Bch × List Nat × List (List UInt8) × Option Addr × Nat) [0, 3] (fun (k, _, _, _, ks, AK, capK) => [(4, .slice AK ks.length capK), (5, .int .i64 (k : Int))])
      (fun (k, l, m, fb, ks, AK, capK) w => (k ≤ texts.length ∧ PutsIs (texts.take k) ks l ∧ BlobIs [] m l k ∧ m.length ≤ k + 1 ∧ (∀ k, k.take 2 ≠ [98, 47] → bgetE [] m k = bgetE [] zzM k)) ∧ St w0 [] w [.own (.slice AK ks.length capK) 9 1 ks.length (strs ks), bchC B (some ⟨Tp, 0, none⟩) m fb, tabC Tp q ⟨sysP, [], ⟨sysL, [], false⟩⟩ fp] [⟨w0, Old w0⟩])
      (fun (k, _) => texts.length - k) (0, [], zzM, fb0, [], none, 0) ⟨⟨Nat.zero_le _, PutsIs.nil, BlobIs.nil.foreign (by decide), Nat.le_refl _, fun _ _ => rfl⟩, hS⟩ ⟨rfl, rfl, trivial⟩ ?_
    clear hS
    rintro ⟨k, l, m, fb, ks, AK, capK⟩ g w ⟨⟨hk, hpi, hb, hml, hfr⟩, hS⟩
    show WC _ _ _ (lf _ [(4, .slice AK ks.length capK), (5, .int .i64 (k : Int))] _ _) _ _
    have hkl : ks.length = k := by rw [hpi.len, List.length_take]; omega
    by_cases hlt : k < texts.length
    · obtain ⟨rb, ro, es, rfl, hF, hrr, hes⟩ := h0.at_ hlt
      have hes : es = [str texts[k]] := hes
      subst hes
      have hrr : w0.rangeAt rb (ro + k * 1) [str texts[k]] := hrr
      have hxl := mem_le_sumB texts texts[k] (List.getElem_mem hlt)
      have hpi2 := hpi.put hb.knd hb.dnd texts[k]
      rw [← List.take_succ_eq_append_getElem hlt] at hpi2
      have hcap := (hS.own_len (List.Mem.head _)).2.2
      have hnl := fun v => note_len m ⟨(putB l texts[k]).2, v, false⟩
      have hfp : ∀ v kk, kk.take 2 ≠ [98, 47] → bgetE [] (noteE m ⟨(putB l texts[k]).2, v, false⟩) kk = bgetE [] zzM kk := fun v kk hkk => (put_frame hb.dnd texts[k] v hkk).trans (hfr kk hkk)
      generalize texts[k] = x at *
      clear hpi
      repeat' (first
        | (show WL _ _ _ _ _ _ _; first
          | refine WL.pure rfl rfl rfl rfl ?_
          | refine WL.nil ?_
          | refine WL.add rfl rfl rfl (by omega) rfl rfl rfl ?_
          | (refine WL.load hS rfl rfl (LdOk.snap0 hF hrr (by repeat (first | exact List.Mem.head _ | apply List.Mem.tail)) rfl) rfl rfl rfl ?_)
          | (refine WL.callL (D := [bchC B (some ⟨Tp, 0, none⟩) m fb, tabC Tp q ⟨sysP, [], ⟨sysL, [], false⟩⟩ fp]) hS (by repeat (first | exact Pulls.nil | (apply Pulls.cons; focus (repeat (first | exact Pull.here | apply Pull.there))))) rfl rfl (fun hI => blput_c (l := l) (K := k) x hI (hp.pull hS (by repeat (first | exact Pulls.nil | (apply Pulls.cons; focus (repeat (first | exact Pull.here | apply Pull.there)))))) hb (by omega) (by omega) (Nat.zero_le _) (by omega)) rfl rfl rfl ?_; rintro v w ⟨rfl, r1, fb1, hr1, hr2, hb1, hmu⟩ hS; replace hS := hS _ hmu; clear hmu)
          | (refine WL.app hS rfl rfl rfl rfl (RdOk.box (by repeat (first | exact List.Mem.head _ | apply List.Mem.tail))) rfl rfl (fun A cap => by repeat (first | exact Repl.here | apply Repl.there)) (by omega) rfl rfl rfl ?_; intro A3 cap3 w hS)
          | refine WL.index rfl rfl rfl rfl (by first | with_reducible assumption | omega) rfl rfl rfl rfl ?_
          | (refine WL.slit hS rfl rfl rfl rfl rfl ?_; intro w b hS))
        | (show WC _ _ _ _ _ _; first
          | refine WC.seq ?_
          | refine WC.region ?_
          | refine WC.block ?_
          | refine WC.skip ?_
          | refine WC.condT rfl (decide_eq_true (by first | with_reducible assumption | omega)) ?_)
        | refine seqQ_n ?_
        | refine blkQ_n ?_)
      have hnl2 := hnl (valB r1 x)
      replace hS := hS.droplast2 (D := [.own (.slice A3 (ks.length + 1) cap3) 9 1 (ks.length + 1) (strs ks ++ [str (putB l x).2]), bchC B (some ⟨Tp, 0, none⟩) (noteE m ⟨(putB l x).2, valB r1 x, false⟩) fb1, tabC Tp q ⟨sysP, [], ⟨sysL, [], false⟩⟩ fp]) (by repeat (first | exact Pulls.nil | (apply Pulls.cons; focus (repeat (first | exact Pull.here | apply Pull.there)))))
      exact rndQ_n (k + 1, (putB l x).1, noteE m ⟨(putB l x).2, valB r1 x, false⟩, fb1, ks ++ [(putB l x).2], A3, cap3) ⟨⟨by omega, hpi2, hb1, by omega, hfp _⟩, by
        rw [List.length_append, ← strs_snoc]
        exact hS⟩ (by show texts.length - (k + 1) < texts.length - k; omega) ⟨by rw [List.length_append]; rfl, vint (by omega), trivial⟩ ⟨rfl, rfl, trivial⟩
    · have hke : k = texts.length := by omega
      subst hke
      rw [List.take_length] at hpi
      clear hk hlt
      have hsw := hpi.sweep hb.knd hb.dnd
      have hkwl : (bkeysP [] m [98, 47]).length = l.length := hb.all_len
      have hksame := fun (m' : Bch) (K' : Nat) (h' : BlobIs [] m' l K') => hb.keys_same h'
      obtain ⟨kw, hkw⟩ : ∃ kw, kw = bkeysP [] m [98, 47] := ⟨_, rfl⟩
      rw [← hkw] at hksame hkwl
      have hbk := fun (w0 : World) (hi : InL w0 [bchC B (some ⟨Tp, 0, none⟩) m fb, tabC Tp q ⟨sysP, [], ⟨sysL, [], false⟩⟩ fp]) => bkeys_c [98, 47] hi (Nat.zero_le _) (show m.length ≤ 549755813888 by omega)
      rw [← show kw = bkeysP (Tb.rows ⟨sysP, [], ⟨sysL, [], false⟩⟩) m [98, 47] from hkw] at hbk
      have hln := hb.len
      repeat' (first
        | (show WL _ _ _ _ _ _ _; first
          | refine WL.pure rfl rfl rfl rfl ?_
          | refine WL.nil ?_
          | (refine WL.callL (D := [bchC B (some ⟨Tp, 0, none⟩) m fb, tabC Tp q ⟨sysP, [], ⟨sysL, [], false⟩⟩ fp]) hS (by repeat (first | exact Pulls.nil | (apply Pulls.cons; focus (repeat (first | exact Pull.here | apply Pull.there))))) rfl rfl (fun hI => hbk _ hI) rfl rfl rfl ?_; rintro v w ⟨WA, wc, rfl, hmu⟩ hS; replace hS := hS _ hmu; clear hmu)
          | (refine WL.callL (D := [bchC B (some ⟨Tp, 0, none⟩) m fb, tabC Tp q ⟨sysP, [], ⟨sysL, [], false⟩⟩ fp]) hS (by repeat (first | exact Pulls.nil | (apply Pulls.cons; focus (repeat (first | exact Pull.here | apply Pull.there))))) rfl rfl (fun hI => blsweep_c (l := l) (K := texts.length) ks hI (St.ownSlX (l := ks) (enc := fun s => [str s]) (hsz := fun _ => rfl) (by decide) (hS.pulls (by repeat (first | exact Pulls.nil | (apply Pulls.cons; focus (repeat (first | exact Pull.here | apply Pull.there)))))) (by repeat (first | exact List.Mem.head _ | apply List.Mem.tail))) hb (by omega) (by omega) (by omega) (Nat.zero_le _)) rfl rfl rfl ?_; rintro v w ⟨rfl, m2, fb2, hb2, hml2, hfr2, hmu⟩ hS; rw [hsw] at hb2 ⊢; rw [Nat.sub_self]; replace hS := hS _ hmu; clear hmu)
          | (refine WL.callL (D := [bchC B (some ⟨Tp, 0, none⟩) m2 fb2, tabC Tp q ⟨sysP, [], ⟨sysL, [], false⟩⟩ fp]) hS (by repeat (first | exact Pulls.nil | (apply Pulls.cons; focus (repeat (first | exact Pull.here | apply Pull.there))))) rfl rfl (fun hI => bkeys_c [98, 47] hI (Nat.zero_le _) (show m2.length ≤ 549755813888 by omega)) rfl rfl rfl ?_; rintro v w ⟨WA2, wc2, rfl, hmu⟩ hS; dsimp only at hmu ⊢; rw [hksame m2 _ hb2] at hmu ⊢; replace hS := hS _ hmu; clear hmu)
          | (refine WL.calls hS rfl rfl (same_n kw kw rfl rfl (hS.ownSl (l := kw) (enc := fun s => [str s]) (hsz := fun _ => rfl) (by decide) (by repeat (first | exact List.Mem.head _ | apply List.Mem.tail))) (hS.ownSl (l := kw) (enc := fun s => [str s]) (hsz := fun _ => rfl) (by decide) (by repeat (first | exact List.Mem.head _ | apply List.Mem.tail))) (by omega)) rfl rfl rfl ?_; rintro v w rfl hS))
        | (show WC _ _ _ _ _ _; first
          | refine WC.seq ?_
          | refine WC.region ?_
          | refine WC.block ?_
          | refine WC.skip ?_
          | refine WC.exit ?_
          | refine WC.condF rfl (decide_eq_false (by first | with_reducible assumption | omega)) ?_
          | refine WC.condF rfl (by first | (simp; done) | (simp; omega)) ?_)
        | refine seqQ_n ?_
        | refine seqQ_x ?_
        | refine blkQ_hit rfl ?_
        | refine rndQ_x ?_)
      replace hS := hS.droplast2 (D := [.own (.slice AK ks.length capK) 9 1 ks.length (strs ks), .own (.slice WA kw.length wc) 9 1 kw.length (strs kw), bchC B (some ⟨Tp, 0, none⟩) m2 fb2, tabC Tp q ⟨sysP, [], ⟨sysL, [], false⟩⟩ fp]) (by repeat (first | exact Pulls.nil | (apply Pulls.cons; focus (repeat (first | exact Pull.here | apply Pull.there)))))
      clear hbk hksame hb hsw
      refine WC.loop (σ := Nat) [0, 3, 4, 6] (fun i => [(7, .int .i64 (i : Int))]) (fun i w => i ≤ texts.length ∧ St w0 [] w [.own (.slice AK ks.length capK) 9 1 ks.length (strs ks), .own (.slice WA kw.length wc) 9 1 kw.length (strs kw), bchC B (some ⟨Tp, 0, none⟩) m2 fb2, tabC Tp q ⟨sysP, [], ⟨sysL, [], false⟩⟩ fp] [⟨w0, Old w0⟩])
        (fun i => texts.length - i) 0 ⟨Nat.zero_le _, hS⟩ ⟨rfl, trivial⟩ ?_
      clear hS
      rintro i g2 w ⟨hi, hS⟩
      show WC _ _ _ (lf _ [(7, .int .i64 (i : Int))] _ _) _ _
      by_cases hlt : i < texts.length
      · have hik : i < ks.length := by omega
        obtain ⟨x, hx, hxd, hxk⟩ := hpi.keys i hlt
        have hxk : ks[i] = x.key := by rw [List.getElem?_eq_getElem hik] at hxk; exact Option.some.inj hxk
        have hfx : findB l ks[i] = some x := by rw [hxk]; exact find_of hb2.knd hx
        have hgv : blgetV l ks[i] = .tuple #[str texts[i], .int .i64 0] := by unfold blgetV; rw [hfx]; dsimp only; rw [hxd]
        obtain ⟨rb, ro, es, rfl, hF, hrr, hes⟩ := h0.at_ hlt
        have hes : es = [str texts[i]] := hes
        subst hes
        have hrr : w0.rangeAt rb (ro + i * 1) [str texts[i]] := hrr
        have hki : (strs ks)[i * 1]? = some (str ks[i]) := by rw [Nat.mul_one, strs_at hik]
        obtain ⟨kg, ko, rfl⟩ := hS.own_addr (A := AK) (n := ks.length) (by repeat (first | exact List.Mem.head _ | apply List.Mem.tail)) (by omega)
        generalize hti : texts[i] = ti at *
        generalize hkie : ks[i] = ki at *
        clear hxk hfx hx hxd
        repeat' (first
          | (show WL _ _ _ _ _ _ _; first
            | refine WL.pure rfl rfl rfl rfl ?_
            | refine WL.nil ?_
            | refine WL.add rfl rfl rfl (by omega) rfl rfl rfl ?_
            | (refine WL.load hS rfl rfl (LdOk.ownAt (by repeat (first | exact List.Mem.head _ | apply List.Mem.tail)) rfl ⟨_, rfl⟩ hki rfl) rfl rfl rfl ?_)
            | (refine WL.load hS rfl rfl (LdOk.snap0 hF hrr (by repeat (first | exact List.Mem.head _ | apply List.Mem.tail)) rfl) rfl rfl rfl ?_)
            | (refine WL.callL (D := [bchC B (some ⟨Tp, 0, none⟩) m2 fb2, tabC Tp q ⟨sysP, [], ⟨sysL, [], false⟩⟩ fp]) hS (by repeat (first | exact Pulls.nil | (apply Pulls.cons; focus (repeat (first | exact Pull.here | apply Pull.there))))) rfl rfl (fun hI => blget_c (l := l) (K := texts.length + ks.length) ki hI hb2 (by omega)) rfl rfl rfl ?_; rintro v w ⟨rfl, hmu⟩ hS; rw [hgv]; replace hS := hS _ hmu; clear hmu)
            | refine WL.index rfl rfl rfl rfl (by first | with_reducible assumption | omega) rfl rfl rfl rfl ?_
            | ((fail_if_success (refine WL.wanted rfl ?_)); refine WL.guard rfl rfl rfl (fun h => ?_) (fun h => ?_) <;> (try simp only [Classical.not_not, Bool.not_eq_true', Bool.not_eq_false', Bool.not_eq_eq_eq_not, Bool.not_true, Bool.not_false, beq_iff_eq, beq_eq_false_iff_ne, ne_eq, decide_eq_decide, decide_eq_true_eq, decide_eq_false_iff_not, Bool.and_eq_true, Bool.or_eq_true, Bool.and_eq_false_iff, Bool.or_eq_false_iff] at h) <;> (try (exfalso; first | omega | contradiction))))
          | (show WC _ _ _ _ _ _; first
            | refine WC.seq ?_
            | refine WC.region ?_
            | refine WC.block ?_
            | refine WC.skip ?_
            | refine WC.condF rfl (by decide) ?_
            | refine WC.condT rfl (decide_eq_true (by first | with_reducible assumption | omega)) ?_)
          | refine seqQ_n ?_
          | refine blkQ_n ?_)
        exact rndQ_n (i + 1) ⟨by omega, hS.droplast2 (by repeat (first | exact Pulls.nil | (apply Pulls.cons; focus (repeat (first | exact Pull.here | apply Pull.there)))))⟩ (by show texts.length - (i + 1) < texts.length - i; omega) ⟨vint (by omega), trivial⟩ ⟨rfl, rfl, rfl, rfl, trivial⟩
      · have hsn := sweep_nil l
        clear hpi
        repeat' (first
          | (show WL _ _ _ _ _ _ _; first
            | refine WL.pure rfl rfl rfl rfl ?_
            | refine WL.nil ?_
            | (refine WL.callL (D := [bchC B (some ⟨Tp, 0, none⟩) m2 fb2, tabC Tp q ⟨sysP, [], ⟨sysL, [], false⟩⟩ fp]) hS (by repeat (first | exact Pulls.nil | (apply Pulls.cons; focus (repeat (first | exact Pull.here | apply Pull.there))))) rfl rfl (fun hI => blsweep_c (l := l) (K := texts.length + ks.length) (A := none) (cap := 0) [] hI (fun k h => absurd h (Nat.not_lt_zero _)) hb2 (by omega) (by decide) (by omega) (Nat.zero_le _)) rfl rfl rfl ?_; rintro v w ⟨rfl, m3, fb3, hb3, hml3, hfr3, hmu⟩ hS; rw [hsn] at hb3 ⊢; dsimp only [List.length_nil]; rw [Nat.sub_zero]; replace hS := hS _ hmu; clear hmu; have hal : (bkeysP [] m3 [98, 47]).length = 0 := hb3.all_len; have hzz : (bkeysP [] m3 []).length = 1 := zz_only hb3 fun k hk => (hfr3 k hk).trans ((hfr2 k hk).trans (hfr k hk)))
            | (refine WL.callL (D := [bchC B (some ⟨Tp, 0, none⟩) m3 fb3, tabC Tp q ⟨sysP, [], ⟨sysL, [], false⟩⟩ fp]) hS (by repeat (first | exact Pulls.nil | (apply Pulls.cons; focus (repeat (first | exact Pull.here | apply Pull.there))))) rfl rfl (fun hI => bkeys_c [98, 47] hI (Nat.zero_le _) (show m3.length ≤ 549755813888 by omega)) rfl rfl rfl ?_; rintro v w ⟨KA, kc, rfl, hmu⟩ hS; dsimp only at hmu ⊢; rw [hal] at hmu ⊢; replace hS := hS _ hmu; clear hmu)
            | (refine WL.callL (D := [bchC B (some ⟨Tp, 0, none⟩) m3 fb3, tabC Tp q ⟨sysP, [], ⟨sysL, [], false⟩⟩ fp]) hS (by repeat (first | exact Pulls.nil | (apply Pulls.cons; focus (repeat (first | exact Pull.here | apply Pull.there))))) rfl rfl (fun hI => bkeys_c [] hI (Nat.zero_le _) (show m3.length ≤ 549755813888 by omega)) rfl rfl rfl ?_; rintro v w ⟨KA, kc, rfl, hmu⟩ hS; dsimp only at hmu ⊢; rw [hzz] at hmu ⊢; replace hS := hS _ hmu; clear hmu)
            | ((fail_if_success (refine WL.wanted rfl ?_)); refine WL.guard rfl rfl rfl (fun h => ?_) (fun h => ?_) <;> (try simp only [Classical.not_not, Bool.not_eq_true', Bool.not_eq_false', Bool.not_eq_eq_eq_not, Bool.not_true, Bool.not_false, beq_iff_eq, beq_eq_false_iff_ne, ne_eq, decide_eq_decide, decide_eq_true_eq, decide_eq_false_iff_not, Bool.and_eq_true, Bool.or_eq_true, Bool.and_eq_false_iff, Bool.or_eq_false_iff] at h) <;> (try (exfalso; first | omega | contradiction))))
          | (show WC _ _ _ _ _ _; first
            | refine WC.seq ?_
            | refine WC.region ?_
            | refine WC.exit ?_
            | refine WC.ret ?_
            | refine WC.condF rfl (decide_eq_false (by first | with_reducible assumption | omega)) ?_)
          | refine seqQ_n ?_
          | refine seqQ_x ?_
          | refine blkQ_hit rfl ?_
          | refine rndQ_x ?_)
        exact fin1r rfl rfl ⟨hS.upd, vbool (by simp [hkwl])⟩
  · repeat' (first
      | (show WL _ _ _ _ _ _ _; first
        | refine WL.pure rfl rfl rfl rfl ?_
        | refine WL.nil ?_
        | (refine WL.callL (D := []) hS .nil rfl rfl (fun hI => blmade_c _) rfl rfl rfl ?_; rintro v w ⟨B, Tp, q, fb, fp, rfl, hmu⟩ hS; replace hS := hS _ hmu; clear hmu)
        | (refine WL.calls hS rfl rfl (blawake_c _ (hp.at hS)) rfl rfl rfl ?_; rintro v w rfl hS))
      | (show WC _ _ _ _ _ _; first
        | refine WC.seq ?_
        | refine WC.region ?_
        | refine WC.ret ?_
        | refine WC.condT rfl (decide_eq_true (by first | with_reducible assumption | omega)) ?_)
      | refine seqQ_n ?_
      | refine seqQ_r ?_)
    exact fin1r rfl rfl ⟨hS.upd, vbool (by simp)⟩
end Go.Proofs.YtlddmenpafcaiaaGreatDoor

/- What is proved: the key of BlobSweeps: with the table laid, the law answers true. Conditions: the statement's own bound on the bulk. -/
set_option linter.unusedSimpArgs false
set_option linter.unusedVariables false
namespace Go.Proofs.YtlddmenpafcaiaaGreatDoor
open Go Go.J Go.RowKit

set_option maxRecDepth 100000 in
theorem pow_blobSweeps (W : World) (h : laidMet Tryz.prog Rows.blobSweepsUptoRow.laid W) : powT W := by
  obtain ⟨a, b, r, he⟩ : ∃ a b r, Rows.blobSweepsUptoRow.laid = a :: b :: ("internal/strconv.uint64pow10", Lib.tabData .u64 Lib.pow10Tab) :: r := ⟨_, _, _, rfl⟩
  rw [he] at h
  have h1 := laidMet.tail (laidMet.tail h)
  exact Lib.tabIs_of_head (g := 2) (t := 195) (e := 140) (n := 20) (by kernel_rfl) (by kernel_rfl) (by kernel_rfl) (by kernel_rfl) (by kernel_rfl) (by kernel_rfl) h1
theorem blobSweeps.key_blobSweeps (W : World) (hL : laidMet Tryz.prog Rows.blobSweepsUptoRow.laid W) (v0 : Value) (y0 : List (List UInt8)) (b0 : Nat) (h0 : ASl cStr W v0 y0) (q0 : QL QStr y0 b0) (hb : b0 ≤ 1048576) :
    Cal Tryz.prog 5 [v0] W (fun v W' => Upd [] W W' ∧ v = .bool true) := by
  obtain ⟨A0, c0, rfl, _, h0⟩ := h0
  have := ql_strsB q0
  exact blobSweeps_c y0 h0 (by omega) (pow_blobSweeps W hL)
end Go.Proofs.YtlddmenpafcaiaaGreatDoor
