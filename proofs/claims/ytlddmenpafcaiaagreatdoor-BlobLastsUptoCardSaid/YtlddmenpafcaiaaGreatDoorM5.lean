/- What is proved: contracts and plain facts that the law leans on (texts put together). Conditions: as each names them. -/
import Derived.Test.YtlddmenpafcaiaaGreatDoorM4
import Derived.Lib.LaidTab
import Derived.Stop.LaidErr
/- What is proved: the batch that the laws on contents begin with, and that they are awake. Conditions: the library's table of powers laid. -/
set_option linter.unusedSimpArgs false
set_option linter.unusedVariables false
namespace Go.Proofs.YtlddmenpafcaiaaGreatDoor
open Go Go.J Go.RowKit
open Go.Lib (decDigits)

theorem BlobIs.nil : BlobIs [] [] [] 0 := ⟨by simp, by simp, by simp, fun k h => (by cases h), by simp, by simp, by simp, Nat.le_refl _, by simp, by simp, by simp⟩
set_option maxHeartbeats 4000000 in
set_option maxRecDepth 100000 in
theorem blmade_c (w0 : World) : Cal Tryz.prog 8 [] w0 (fun v w' => ∃ B Tp q fb fp, v = .pointer (some ⟨B, 0, none⟩) ∧ MutL w0 w' [] [bchC B (some ⟨Tp, 0, none⟩) [] fb, tabC Tp q ⟨sysP, [], ⟨sysL, [], false⟩⟩ fp]) := by
  refine Cal.mkL (D := []) ⟨by simp, by simp, .nil⟩ (by kernel_rfl) Tryz.func8 rfl rfl fun hS => ?_
  repeat' (first
    | (show WL _ _ _ _ _ _ _; first
      | refine WL.pure rfl rfl rfl rfl ?_
      | refine WL.nil ?_
      | (refine WL.callG rfl rfl (dnew_c _) rfl rfl rfl ?_; rintro v w ⟨hu, q, mb, lb, rfl, hn⟩; replace hS := hS.new hu hn; clear hu hn)
      | (refine WL.callL (D := [dkC q mb lb Dk0]) hS (by repeat (first | exact Pulls.nil | (apply Pulls.cons; focus (repeat (first | exact Pull.here | apply Pull.there))))) rfl rfl (fun hI => topenFirst_c hI) rfl rfl rfl ?_; rintro v w ⟨Tp, fp, rfl, hmu⟩ hS; replace hS := hS _ hmu; clear hmu)
      | (refine WL.callG rfl rfl (begin_c _) rfl rfl rfl ?_; rintro v w ⟨hu, B, fb, rfl, hn⟩; replace hS := hS.new hu hn; clear hu hn))
    | (show WC _ _ _ _ _ _; first
      | refine WC.seq ?_
      | refine WC.region ?_
      | refine WC.skip ?_
      | refine WC.ret ?_
      | refine WC.condF rfl (by decide) ?_)
    | refine seqQ_n ?_)
  exact fin1r rfl rfl ⟨_, _, _, _, _, rfl, hS.mutLp (by repeat (first | exact Pulls.nil | (apply Pulls.cons; focus (repeat (first | exact Pull.here | apply Pull.there)))))⟩
def keyA : List UInt8 := [98, 47, 52, 51, 47, 48]
theorem keyA_is : keyB 67 0 = keyA := by
  unfold keyB
  rw [Lib.decDigits, dif_pos (by decide)]
  rfl
theorem low_a : lowE [97] = 67 := by kernel_rfl
theorem putA1 : putB [] [97] = ([⟨67, 0, 1, [97]⟩], keyA) := by
  rw [putB_new (by simp), low_a]
  have h : freeN (numsB [] 67) = 0 := by decide
  rw [h, keyA_is]
  rfl
theorem putA2 : putB [⟨67, 0, 1, [97]⟩] [97] = ([⟨67, 0, 2, [97]⟩], keyA) := by
  rw [putB_old (x := ⟨67, 0, 1, [97]⟩) (by simp) (by simp) rfl]
  have h : One.key ⟨67, 0, 1, [97]⟩ = keyA := keyA_is
  rw [h]
  unfold updB
  rw [List.map_singleton, if_pos h]
theorem getA : findB [⟨67, 0, 2, [97]⟩] keyA = some ⟨67, 0, 2, [97]⟩ := by
  unfold findB
  rw [List.find?_cons_of_pos]
  exact decide_eq_true keyA_is
set_option maxHeartbeats 8000000 in
set_option maxRecDepth 100000 in
theorem blawake_c (w0 : World) (ht : powT w0) : Cal Tryz.prog 9 [] w0 (fun v w' => Upd [] w0 w' ∧ v = .bool true) := by
  refine Cal.mk' (by kernel_rfl) Tryz.func9 rfl rfl fun hS => ?_
  have hp := PowI.of ht
  have hgv : blgetV [⟨67, 0, 2, [97]⟩] keyA = .tuple #[str [97], .int .i64 0] := by unfold blgetV; rw [getA]
  have hrf : refsB [⟨67, 0, 2, [97]⟩] keyA = 2 := by unfold refsB; rw [getA]
  repeat' (first
    | (show WL _ _ _ _ _ _ _; first
      | refine WL.pure rfl rfl rfl rfl ?_
      | refine WL.nil ?_
      | (refine WL.callL (D := []) hS .nil rfl rfl (fun hI => blmade_c _) rfl rfl rfl ?_; rintro v w ⟨B, Tp, q, fb, fp, rfl, hmu⟩ hS; replace hS := hS _ hmu; clear hmu)
      | (refine WL.callL (D := [bchC B (some ⟨Tp, 0, none⟩) [] fb, tabC Tp q ⟨sysP, [], ⟨sysL, [], false⟩⟩ fp]) hS (by repeat (first | exact Pulls.nil | (apply Pulls.cons; focus (repeat (first | exact Pull.here | apply Pull.there))))) rfl rfl (fun hI => blput_c (l := []) (K := 0) [97] hI (hp.pull hS (by repeat (first | exact Pulls.nil | (apply Pulls.cons; focus (repeat (first | exact Pull.here | apply Pull.there)))))) BlobIs.nil (by decide) (by decide) (by decide) (by decide)) rfl rfl rfl ?_; rintro v w ⟨rfl, r1, fb1, _, _, hb1, hmu⟩ hS; rw [putA1] at hb1 hmu ⊢; dsimp only at hb1 hmu ⊢; have hm1 := note_len [] ⟨keyA, valB r1 [97], false⟩; generalize noteE [] ⟨keyA, valB r1 [97], false⟩ = m1 at hb1 hmu hm1; replace hS := hS _ hmu; clear hmu)
      | (refine WL.callL (D := [bchC B (some ⟨Tp, 0, none⟩) m1 fb1, tabC Tp q ⟨sysP, [], ⟨sysL, [], false⟩⟩ fp]) hS (by repeat (first | exact Pulls.nil | (apply Pulls.cons; focus (repeat (first | exact Pull.here | apply Pull.there))))) rfl rfl (fun hI => blput_c (l := [⟨67, 0, 1, [97]⟩]) (K := 1) [97] hI (hp.pull hS (by repeat (first | exact Pulls.nil | (apply Pulls.cons; focus (repeat (first | exact Pull.here | apply Pull.there)))))) hb1 (by decide) (by simp at hm1; omega) (by decide) (by decide)) rfl rfl rfl ?_; rintro v w ⟨rfl, r2, fb2, _, _, hb2, hmu⟩ hS; rw [putA2] at hb2 hmu ⊢; dsimp only at hb2 hmu ⊢; generalize noteE m1 ⟨keyA, valB r2 [97], false⟩ = m2 at hb2 hmu; replace hS := hS _ hmu; clear hmu)
      | (refine WL.callL (D := [bchC B (some ⟨Tp, 0, none⟩) m2 fb2, tabC Tp q ⟨sysP, [], ⟨sysL, [], false⟩⟩ fp]) hS (by repeat (first | exact Pulls.nil | (apply Pulls.cons; focus (repeat (first | exact Pull.here | apply Pull.there))))) rfl rfl (fun hI => blget_c (l := [⟨67, 0, 2, [97]⟩]) (K := 2) keyA hI hb2 (by decide)) rfl rfl rfl ?_; rintro v w ⟨rfl, hmu⟩ hS; rw [hgv]; replace hS := hS _ hmu; clear hmu)
      | (refine WL.callL (D := [bchC B (some ⟨Tp, 0, none⟩) m2 fb2, tabC Tp q ⟨sysP, [], ⟨sysL, [], false⟩⟩ fp]) hS (by repeat (first | exact Pulls.nil | (apply Pulls.cons; focus (repeat (first | exact Pull.here | apply Pull.there))))) rfl rfl (fun hI => blrefs_c (l := [⟨67, 0, 2, [97]⟩]) (K := 2) keyA hI hb2 (by decide)) rfl rfl rfl ?_; rintro v w ⟨rfl, hmu⟩ hS; rw [hrf]; replace hS := hS _ hmu; clear hmu))
    | (show WC _ _ _ _ _ _; first
      | refine WC.seq ?_
      | refine WC.region ?_
      | refine WC.skip ?_
      | refine WC.ret ?_
      | refine WC.condF rfl (by with_reducible rfl) ?_)
    | refine seqQ_n ?_)
  exact fin1r rfl rfl ⟨hS.upd, vbool (by decide)⟩
end Go.Proofs.YtlddmenpafcaiaaGreatDoor

/- What is proved: how the laws' arguments read. Conditions: none. -/
set_option linter.unusedSimpArgs false
set_option linter.unusedVariables false
namespace Go.Proofs.YtlddmenpafcaiaaGreatDoor
open Go Go.J Go.RowKit

theorem arg_strs : Arg Tryz.prog 22 (ASl cStr) (QL QStr) := Arg.slice Tryz.underlying22 (Opens.slice Tryz.underlying22 (by kernel_rfl) (by decide) (Opens.str Tryz.underlying9))
theorem ql_strsB {xs : List (List UInt8)} {b : Nat} (h : QL QStr xs b) : (xs.map List.length).sum + xs.length + 1 ≤ b := by
  have h1 := QL_sum (f := fun s : List UInt8 => s.length + 1) (fun a b (h : a.length + 1 ≤ b) => h) h
  have h2 : ∀ l : List (List UInt8), (l.map fun s : List UInt8 => s.length + 1).sum = (l.map List.length).sum + l.length := by
    intro l
    induction l with
    | nil => rfl
    | cons a l ih => simp only [List.map_cons, List.sum_cons, List.length_cons, ih]; omega
  rw [h2] at h1
  exact h1
theorem mem_le_sumB : ∀ (l : List (List UInt8)) (s : List UInt8), s ∈ l → s.length ≤ (l.map List.length).sum
  | x :: l, s, h => by
    simp only [List.map_cons, List.sum_cons]
    rcases List.mem_cons.1 h with rfl | h
    · omega
    · have := mem_le_sumB l s h; omega
end Go.Proofs.YtlddmenpafcaiaaGreatDoor

/- What is proved: the law BlobKeys answers true. Conditions: the statement's own bound on the bulk; the library's table of powers laid. -/
set_option linter.unusedSimpArgs false
set_option linter.unusedVariables false
namespace Go.Proofs.YtlddmenpafcaiaaGreatDoor
open Go Go.J Go.RowKit
open Go.Lib (decDigits)

theorem dig_cell (n : Nat) : IntKind.u8.wrap (48 + ((n : Int) % 10)) = (((UInt8.ofNat (48 + n % 10)).toNat : Nat) : Int) := by
  rw [ofNat_nat (by omega), IntWalk.u8_in _ (by omega)]; omega
set_option maxHeartbeats 8000000 in
set_option maxRecDepth 100000 in
theorem decimal_c : ∀ (m n : Nat) (w0 : World), n ≤ m → n ≤ 1099511627776 → Cal Tryz.prog 12 [.int .i64 (n : Int)] w0 (fun v w' => Upd [] w0 w' ∧ v = str (Lib.decDigits n))
  | m, n, w0, hm, hb => by
    refine Cal.mk' (by kernel_rfl) Tryz.func12 rfl rfl fun hS => ?_
    have hcell := dig_cell n
    generalize hch : UInt8.ofNat (48 + n % 10) = ch at *
    by_cases h : n < 10
    · have hE : Lib.decDigits n = [ch] := by rw [decDigits_small h, ← hch, Nat.mod_eq_of_lt h]
      rw [hE]
      clear hch hE
      repeat' (first
        | (show WL _ _ _ _ _ _ _; first
          | refine WL.pure rfl rfl rfl rfl ?_
          | refine WL.nil ?_
          | refine WL.add rfl rfl rfl (by omega) rfl rfl rfl ?_
          | refine WL.rem rfl rfl rfl (by omega) (by omega) rfl rfl rfl ?_
          | refine WL.b2sBox (s := [ch]) hS rfl rfl rfl rfl (by repeat (first | exact List.Mem.head _ | apply List.Mem.tail)) (congrArg (fun x => [Value.int .u8 x]) hcell) rfl (by decide) rfl rfl rfl ?_
          | (refine WL.slit hS rfl rfl rfl rfl rfl ?_; intro w b hS))
        | (show WC _ _ _ _ _ _; first
          | refine WC.seq ?_
          | refine WC.region ?_
          | refine WC.skip ?_
          | refine WC.ret ?_
          | refine WC.condT rfl (decide_eq_true (by first | with_reducible assumption | omega)) ?_
          | refine WC.condF rfl (decide_eq_false (by first | with_reducible assumption | omega)) ?_)
        | refine seqQ_n ?_
        | refine seqQ_r ?_)
      exact fin1r rfl rfl ⟨hS.upd, rfl⟩
    · cases m with
      | zero => omega
      | succ m =>
        have ih := fun w0 => decimal_c m (n / 10) w0 (by omega) (by omega)
        have hE : Lib.decDigits n = Lib.decDigits (n / 10) ++ [ch] := by rw [decDigits_big h, hch]
        have hlen : (Lib.decDigits (n / 10)).length ≤ 13 := (decDigits_spec _ (n / 10) (Nat.le_refl _)).2.2.2 12 (by omega)
        have h1 : ([ch] : List UInt8).length = 1 := rfl
        have hq : (n : Int) / 10 = ((n / 10 : Nat) : Int) := by omega
        rw [hE]
        clear hch hE
        repeat' (first
          | (show WL _ _ _ _ _ _ _; first
            | refine WL.pure rfl rfl rfl rfl ?_
            | refine WL.nil ?_
            | refine WL.add rfl rfl rfl (by omega) rfl rfl rfl ?_
            | refine WL.rem rfl rfl rfl (by omega) (by omega) rfl rfl rfl ?_
            | refine WL.b2sBox (s := [ch]) hS rfl rfl rfl rfl (by repeat (first | exact List.Mem.head _ | apply List.Mem.tail)) (congrArg (fun x => [Value.int .u8 x]) hcell) rfl (by decide) rfl rfl rfl ?_
            | (refine WL.quo rfl rfl rfl (by omega) (by omega) (by omega) rfl rfl rfl ?_; rw [hq])
            | (refine WL.calls hS rfl rfl (ih _) rfl rfl rfl ?_; rintro v w rfl hS)
            | refine WL.cat rfl rfl rfl (by omega) rfl rfl rfl ?_
            | (refine WL.slit hS rfl rfl rfl rfl rfl ?_; intro w b hS))
          | (show WC _ _ _ _ _ _; first
            | refine WC.seq ?_
            | refine WC.region ?_
            | refine WC.skip ?_
            | refine WC.ret ?_
            | refine WC.condF rfl (decide_eq_false (by first | with_reducible assumption | omega)) ?_)
          | refine seqQ_n ?_)
        exact fin1r rfl rfl ⟨hS.upd, rfl⟩
theorem low_wrap (n : Nat) : IntKind.u32.wrap ((n : Int) % 256) = (n : Int) % 256 := by rw [IntKind.wrap_u32']; omega
theorem low_int (s : List UInt8) : ((sumE s : Nat) : Int) % 256 = ((lowE s : Nat) : Int) := by unfold lowE; omega
theorem hex_one : ∀ j, j < 16 → (hexD.take (j + 1)).drop j = [hexC j] := by decide
theorem put_low {l : List One} {m : Bch} {K : Nat} {rows : Rws} (hd : (l.map One.data).Nodup) (data : List UInt8) (h : BlobIs rows m (putB l data).1 K) : ∃ n, (putB l data).2 = keyB (lowE data) n ∧ n < K := by
  obtain ⟨y, hy, e1, e2⟩ := put_has hd data
  refine ⟨y.n, ?_, h.nums y hy⟩
  rw [← e2, ← e1, ← h.low y hy]
theorem cnt_fresh {ts : List (List UInt8)} {d : List UInt8} {i : Nat} (h : d ∉ ts.take i) : cntB ts d (lowE d) i = ((firsts (ts.take i)).filter fun t => decide (lowE t = lowE d)).length := by
  unfold cntB
  congr 1
  refine List.filter_congr fun t ht => ?_
  have : t ≠ d := fun e => h (by rw [← e]; exact (mem_firsts _ _ rfl _).1 ht)
  simp [this]
theorem mem_take_next {ts : List (List UInt8)} {k : Nat} (h : k < ts.length) (a : List UInt8) : a ∈ ts.take (k + 1) ↔ a ∈ ts.take k ∨ a = ts[k] := by
  rw [List.take_succ_eq_append_getElem h, List.mem_append, List.mem_singleton]
set_option maxHeartbeats 64000000 in
set_option maxRecDepth 100000 in
theorem blobKeys_c (texts : List (List UInt8)) {A : Option Addr} {cap : Nat} {w0 : World} (h0 : SlAt cStr (Old w0) w0 A texts) (hz : (texts.map List.length).sum + texts.length ≤ 1048576) (ht : powT w0) :
    Cal Tryz.prog 3 [.slice A texts.length cap] w0 (fun v w' => Upd [] w0 w' ∧ v = .bool true) := by
  refine Cal.mk' (by kernel_rfl) Tryz.func3 rfl rfl fun hS => ?_
  have hp := PowI.of ht
  by_cases h150 : texts.length ≤ 120
  · repeat' (first
      | (show WL _ _ _ _ _ _ _; first
        | refine WL.pure rfl rfl rfl rfl ?_
        | refine WL.nil ?_
        | (refine WL.callL (D := []) hS .nil rfl rfl (fun hI => blmade_c _) rfl rfl rfl ?_; rintro v w ⟨B, Tp, q, fb, fp, rfl, hmu⟩ hS; replace hS := hS _ hmu; clear hmu)
        | (refine WL.calls hS rfl rfl (blawake_c _ (hp.at hS)) rfl rfl rfl ?_; rintro v w rfl hS))
      | (show WC _ _ _ _ _ _; first
        | refine WC.seq ?_
        | refine WC.region ?_
        | refine WC.block ?_
        | refine WC.skip ?_
        | refine WC.condF rfl (decide_eq_false (by first | with_reducible assumption | omega)) ?_)
      | refine seqQ_n ?_)
    replace hS := hS.droplast2 (D := [bchC B (some ⟨Tp, 0, none⟩) [] fb, tabC Tp q ⟨sysP, [], ⟨sysL, [], false⟩⟩ fp]) (by repeat (first | exact Pulls.nil | (apply Pulls.cons; focus (repeat (first | exact Pull.here | apply Pull.there)))))
    refine WC.loop (σ := Nat × List One × Bch × List Nat) [0, 3, 4] (fun (i, _) => [(5, .int .i64 (i : Int))])
      (fun (i, l, m, fb) w => (i ≤ texts.length ∧ PutsN (texts.take i) l ∧ BlobIs [] m l i ∧ m.length ≤ i) ∧ St w0 [] w [bchC B (some ⟨Tp, 0, none⟩) m fb, tabC Tp q ⟨sysP, [], ⟨sysL, [], false⟩⟩ fp] [⟨w0, Old w0⟩])
      (fun (i, _) => texts.length - i) (0, [], [], fb) ⟨⟨Nat.zero_le _, PutsN.nil, BlobIs.nil, Nat.le_refl _⟩, hS⟩ ⟨rfl, trivial⟩ ?_
    clear hS
    rintro ⟨i, l, m, fb⟩ g w ⟨⟨hi, hpn, hb, hml⟩, hS⟩
    show WC _ _ _ (lf _ [(5, .int .i64 (i : Int))] _ _) _ _
    by_cases hlt : i < texts.length
    · obtain ⟨rb, ro, es, rfl, hF, hri, hes⟩ := h0.at_ hlt
      have hes : es = [str texts[i]] := hes
      subst hes
      have hri : w0.rangeAt rb (ro + i * 1) [str texts[i]] := hri
      have hxl := mem_le_sumB texts texts[i] (List.getElem_mem hlt)
      have hpn2 := hpn.put hb.dnd texts[i]
      rw [← List.take_succ_eq_append_getElem hlt] at hpn2
      have hnl := fun v => note_len m ⟨(putB l texts[i]).2, v, false⟩
      have hplow := fun (m2 : Bch) (K2 : Nat) (hbl : BlobIs [] m2 (putB l texts[i]).1 K2) => put_low (m := m2) (K := K2) (rows := []) hb.dnd texts[i] hbl
      have hfresh := fun (h : texts[i] ∉ texts.take i) => hpn.fresh hb.low (data := texts[i]) h
      have hdnx := hb.dnd
      generalize hxi : texts[i] = x at *
      have hli := low_int x
      have hlw := low_wrap (sumE x)
      have hl256 := lowE_lt x
      clear hpn
      repeat' (first
        | (show WL _ _ _ _ _ _ _; first
          | refine WL.pure rfl rfl rfl rfl ?_
          | refine WL.nil ?_
          | (refine WL.load hS rfl rfl (LdOk.snap0 hF hri (by repeat (first | exact List.Mem.head _ | apply List.Mem.tail)) rfl) rfl rfl rfl ?_)
          | (refine WL.callL (D := [bchC B (some ⟨Tp, 0, none⟩) m fb, tabC Tp q ⟨sysP, [], ⟨sysL, [], false⟩⟩ fp]) hS (by repeat (first | exact Pulls.nil | (apply Pulls.cons; focus (repeat (first | exact Pull.here | apply Pull.there))))) rfl rfl (fun hI => blput_c (l := l) (K := i) x hI (hp.pull hS (by repeat (first | exact Pulls.nil | (apply Pulls.cons; focus (repeat (first | exact Pull.here | apply Pull.there)))))) hb (by omega) (by omega) (Nat.zero_le _) (by omega)) rfl rfl rfl ?_; rintro v w ⟨rfl, r1, fb1, hr1, hr2, hb1, hmu⟩ hS; replace hS := hS _ hmu; clear hmu)
          | (refine WL.calls hS rfl rfl (sum_c x _ (by omega)) rfl rfl rfl ?_; rintro v w rfl hS)
          | (refine WL.remK rfl rfl rfl (by omega) (by omega) hlw rfl rfl rfl ?_; rw [hli])
          | refine WL.conv64 rfl rfl rfl (by omega) rfl rfl rfl ?_
          | refine WL.index rfl rfl rfl rfl (by first | with_reducible assumption | omega) rfl rfl rfl rfl ?_)
        | (show WC _ _ _ _ _ _; first
          | refine WC.seq ?_
          | refine WC.region ?_
          | refine WC.block ?_
          | refine WC.skip ?_
          | refine WC.condT rfl (decide_eq_true (by first | with_reducible assumption | omega)) ?_)
        | refine seqQ_n ?_)
      obtain ⟨nn, hkey, hnn⟩ := hplow _ _ hb1
      have hnl2 := hnl (valB r1 x)
      obtain ⟨l2, hl2⟩ : ∃ l2, l2 = (putB l x).1 := ⟨_, rfl⟩
      obtain ⟨key, hky⟩ : ∃ key, key = (putB l x).2 := ⟨_, rfl⟩
      rw [← hl2] at hpn2 hb1
      rw [← hky] at hS hnl2 hfresh hkey hb1 ⊢
      generalize noteE m ⟨key, valB r1 x, false⟩ = m2 at *
      clear hplow hnl hb hl2 hky hdnx
      obtain ⟨low, hlow⟩ : ∃ low, low = lowE x := ⟨_, rfl⟩
      rw [← hlow] at hli hl256 hkey hfresh ⊢
      refine WC.loop (σ := Nat) [0, 3, 4, 5, 6, 7] (fun k => [(8, .int .i64 (cntB texts x low k : Int)), (9, .int .i64 (k : Int))])
        (fun k w => k ≤ i ∧ St w0 [] w [bchC B (some ⟨Tp, 0, none⟩) m2 fb1, tabC Tp q ⟨sysP, [], ⟨sysL, [], false⟩⟩ fp] [⟨w0, Old w0⟩])
        (fun k => i - k) 0 ⟨Nat.zero_le _, hS.droplast2 (by repeat (first | exact Pulls.nil | (apply Pulls.cons; focus (repeat (first | exact Pull.here | apply Pull.there)))))⟩ ⟨rfl, rfl, trivial⟩ ?_
      clear hS
      rintro k g2 w ⟨hk, hS⟩
      show WC _ _ _ (lf _ [(8, .int .i64 (cntB texts x low k : Int)), (9, .int .i64 (k : Int))] _ _) _ _
      by_cases hki : k < i
      · have hkt : k < texts.length := by omega
        obtain ⟨rb1, ro1, es, hA1, hF1, hrk, hes⟩ := h0.at_ hkt
        cases hA1
        have hes : es = [str texts[k]] := hes
        subst hes
        have hrk : w0.rangeAt rb (ro + k * 1) [str texts[k]] := hrk
        have hcs := cntB_succ (ts := texts) x low hkt
        have hcl := cntB_le texts x low k (by omega)
        have hyl := mem_le_sumB texts texts[k] (List.getElem_mem hkt)
        generalize hyk : texts[k] = y at *
        have hliy := low_int y
        have hlwy := low_wrap (sumE y)
        generalize hc : cntB texts x low k = c at *
        repeat' (first
          | (show WL _ _ _ _ _ _ _; first
            | refine WL.pure rfl rfl rfl rfl ?_
            | refine WL.nil ?_)
          | (show WC _ _ _ _ _ _; first
            | refine WC.seq ?_
            | refine WC.region ?_
            | refine WC.block ?_
            | refine WC.skip ?_
            | refine WC.condT rfl (decide_eq_true (by first | with_reducible assumption | omega)) ?_)
          | refine seqQ_n ?_)
        refine WC.loop (σ := Nat) [0, 3, 4, 5, 6, 7, 8, 9] (fun j => [(10, .bool (decide (y ∉ texts.take j))), (11, .int .i64 (j : Int))])
          (fun j w => j ≤ k ∧ St w0 [] w [bchC B (some ⟨Tp, 0, none⟩) m2 fb1, tabC Tp q ⟨sysP, [], ⟨sysL, [], false⟩⟩ fp] [⟨w0, Old w0⟩])
          (fun j => k - j) 0 ⟨Nat.zero_le _, hS⟩ ⟨vbool (by simp), rfl, trivial⟩ ?_
        clear hS
        rintro j g3 w ⟨hj, hS⟩
        show WC _ _ _ (lf _ [(10, .bool (decide (y ∉ texts.take j))), (11, .int .i64 (j : Int))] _ _) _ _
        by_cases hjk : j < k
        · have hjt : j < texts.length := by omega
          obtain ⟨rb2, ro2, es, hA2, hF2, hrj, hes⟩ := h0.at_ hjt
          cases hA2
          have hes : es = [str texts[j]] := hes
          subst hes
          have hrj : w0.rangeAt rb (ro + j * 1) [str texts[j]] := hrj
          have hmt := mem_take_next hjt y
          generalize texts[j] = z at *
          by_cases hin : y ∈ texts.take j
          · have hd1 : decide (y ∉ texts.take j) = false := by simp [hin]
            have hd2 : decide (y ∉ texts.take (j + 1)) = false := by simp [hmt, hin]
            rw [hd1]
            clear hmt
            repeat' (first
              | (show WL _ _ _ _ _ _ _; first
                | refine WL.pure rfl rfl rfl rfl ?_
                | refine WL.nil ?_
                | refine WL.add rfl rfl rfl (by omega) rfl rfl rfl ?_)
              | (show WC _ _ _ _ _ _; first
                | refine WC.seq ?_
                | refine WC.region ?_
                | refine WC.block ?_
                | refine WC.skip ?_
                | (show WC _ _ (Code.region _ (List.toArray [_, _, _, _, _, _, _, _, _, _, _, _, _]) true) _ _ _; refine WC.drawS hS [0, 1, 2, 3, 4, 5, 6, 7, 8, 9, 10, 11, 12] [0, 1, 2, 3, 4, 5, 6, 7, 8, 9, 10, 11, 12] (by kernel_rfl) (by kernel_rfl) ?_; clear hS; intro w hS hM)
                | refine WC.condT rfl (decide_eq_true (by first | with_reducible assumption | omega)) ?_)
              | (show WD _ _ _ _ _ _ _ _ _; first
                | refine WD.pure rfl rfl rfl rfl rfl ?_
                | refine WD.nil ?_
                | refine WD.pass rfl rfl rfl rfl ?_)
              | refine seqQ_n ?_
              | refine blkQ_n ?_)
            exact rndQ_n (j + 1) ⟨by omega, hS⟩ (by show k - (j + 1) < k - j; omega) ⟨vbool (by rw [hd2]), vint (by omega), trivial⟩ ⟨rfl, rfl, rfl, rfl, rfl, rfl, rfl, rfl, trivial⟩
          · have hd1 : decide (y ∉ texts.take j) = true := by simp [hin]
            have hd2 : decide (y ∉ texts.take (j + 1)) = decide (¬ z = y) := by
              rw [decide_eq_decide, hmt]
              exact ⟨fun h e => h (.inr e.symm), fun h hh => by rcases hh with hh | hh; exact hin hh; exact h hh.symm⟩
            rw [hd1]
            clear hmt
            repeat' (first
              | (show WL _ _ _ _ _ _ _; first
                | refine WL.pure rfl rfl rfl rfl ?_
                | refine WL.nil ?_
                | refine WL.add rfl rfl rfl (by omega) rfl rfl rfl ?_)
              | (show WC _ _ _ _ _ _; first
                | refine WC.seq ?_
                | refine WC.region ?_
                | refine WC.block ?_
                | refine WC.skip ?_
                | (show WC _ _ (Code.region _ (List.toArray [_, _, _, _, _, _, _, _, _, _, _, _, _]) true) _ _ _; refine WC.drawS hS [0, 1, 2, 3, 4, 5, 6, 7, 8, 9, 10, 11, 12] [0, 1, 2, 3, 4, 5, 6, 7, 8, 9, 10, 11, 12] (by kernel_rfl) (by kernel_rfl) ?_; clear hS; intro w hS hM)
                | refine WC.condT rfl (decide_eq_true (by first | with_reducible assumption | omega)) ?_)
              | (show WD _ _ _ _ _ _ _ _ _; first
                | refine WD.pure rfl rfl rfl rfl rfl ?_
                | refine WD.nil ?_
                | (refine WD.load rfl rfl (LdOk.snap0 hF hrj (by repeat (first | exact List.Mem.head _ | apply List.Mem.tail)) rfl) rfl rfl rfl rfl ?_)
                | (refine WD.load rfl rfl (LdOk.snap0 hF hrk (by repeat (first | exact List.Mem.head _ | apply List.Mem.tail)) rfl) rfl rfl rfl rfl ?_)
                | refine WD.index rfl rfl rfl rfl (by first | with_reducible assumption | omega) rfl rfl rfl rfl rfl ?_)
              | refine seqQ_n ?_
              | refine blkQ_n ?_)
            exact rndQ_n (j + 1) ⟨by omega, hS⟩ (by show k - (j + 1) < k - j; omega) ⟨vbool (by rw [hd2]), vint (by omega), trivial⟩ ⟨rfl, rfl, rfl, rfl, rfl, rfl, rfl, rfl, trivial⟩
        · have hje : j = k := by omega
          subst hje
          by_cases hin : y ∈ texts.take j
          · have hd1 : decide (y ∉ texts.take j) = false := by simp [hin]
            rw [if_neg (fun h => h.1 hin)] at hcs
            rw [hd1]
            repeat' (first
              | (show WL _ _ _ _ _ _ _; first
                | refine WL.pure rfl rfl rfl rfl ?_
                | refine WL.nil ?_
                | refine WL.add rfl rfl rfl (by omega) rfl rfl rfl ?_)
              | (show WC _ _ _ _ _ _; first
                | refine WC.seq ?_
                | refine WC.region ?_
                | refine WC.skip ?_
                | refine WC.exit ?_
                | (show WC _ _ (Code.region _ (List.toArray [_, _, _, _, _, _, _, _, _, _, _, _, _, _, _, _, _, _, _, _, _, _, _]) true) _ _ _; refine WC.drawS hS [0,1,2,3,4,5,6,7,8,9,10,11,12,13,14,15,16,18,19,20,21,22] [0,1,2,3,4,5,6,7,8,9,10,11,12,13,14,15,16,20,17,18,19,21,22] (by kernel_rfl) (by kernel_rfl) ?_; clear hS; intro w hS hM)
                | refine WC.condF rfl (by with_reducible rfl) ?_
                | refine WC.condF rfl (decide_eq_false (by first | with_reducible assumption | omega)) ?_)
              | (show WD _ _ _ _ _ _ _ _ _; first
                | refine WD.pure rfl rfl rfl rfl rfl ?_
                | refine WD.nil ?_
                | refine WD.pass rfl rfl rfl rfl ?_
                | refine WD.skip rfl rfl rfl rfl rfl (hM.ss hS) ?_)
              | refine seqQ_n ?_
              | refine blkQ_n ?_
              | refine seqQ_x ?_
              | refine blkQ_hit rfl ?_
              | refine rndQ_x ?_)
            exact rndQ_n (j + 1) ⟨by omega, hS⟩ (by show i - (j + 1) < i - j; omega) ⟨vint (by omega), vint (by omega), trivial⟩ ⟨rfl, rfl, rfl, rfl, rfl, rfl, trivial⟩
          · have hd1 : decide (y ∉ texts.take j) = true := by simp [hin]
            rw [hd1]
            by_cases hyx : y = x
            · rw [if_neg (fun h => h.2.1 hyx)] at hcs
              repeat' (first
                | (show WL _ _ _ _ _ _ _; first
                  | refine WL.pure rfl rfl rfl rfl ?_
                  | refine WL.nil ?_
                  | refine WL.add rfl rfl rfl (by omega) rfl rfl rfl ?_)
                | (show WC _ _ _ _ _ _; first
                  | refine WC.seq ?_
                  | refine WC.region ?_
                  | refine WC.skip ?_
                  | refine WC.exit ?_
                  | (show WC _ _ (Code.region _ (List.toArray [_, _, _, _, _, _, _, _, _, _, _, _, _, _, _, _, _, _, _, _, _, _, _]) true) _ _ _; refine WC.drawS hS [0,1,2,3,4,5,6,7,8,9,10,11,12,13,14,15,16,18,19,20,21,22] [0,1,2,3,4,5,6,7,8,9,10,11,12,13,14,15,16,20,17,18,19,21,22] (by kernel_rfl) (by kernel_rfl) ?_; clear hS; intro w hS hM)
                  | refine WC.condF rfl (by with_reducible rfl) ?_
                  | refine WC.condF rfl (decide_eq_false (by first | with_reducible assumption | omega)) ?_)
                | (show WD _ _ _ _ _ _ _ _ _; first
                  | refine WD.pure rfl rfl rfl rfl rfl ?_
                  | refine WD.nil ?_
                  | (refine WD.load rfl rfl (LdOk.snap0 hF hrk (by repeat (first | exact List.Mem.head _ | apply List.Mem.tail)) rfl) rfl rfl rfl rfl ?_)
                  | (refine WD.load rfl rfl (LdOk.snap0 hF hri (by repeat (first | exact List.Mem.head _ | apply List.Mem.tail)) rfl) rfl rfl rfl rfl ?_)
                  | refine WD.index rfl rfl rfl rfl (by first | with_reducible assumption | omega) rfl rfl rfl rfl rfl ?_
                  | refine WD.pass rfl rfl rfl rfl ?_
                  | refine WD.skip rfl rfl rfl rfl rfl (hM.ss hS) ?_
                  | ((fail_if_success (refine WD.wanted rfl ?_)); refine WD.guard rfl rfl rfl (fun h => ?_) (fun h => ?_) <;> (try simp only [Classical.not_not, Bool.not_eq_true', Bool.not_eq_false', Bool.not_eq_eq_eq_not, Bool.not_true, Bool.not_false, beq_iff_eq, beq_eq_false_iff_ne, ne_eq, decide_eq_decide, decide_eq_true_eq, decide_eq_false_iff_not, Bool.and_eq_true, Bool.or_eq_true, Bool.and_eq_false_iff, Bool.or_eq_false_iff] at h) <;> (try (exfalso; first | omega | contradiction))))
                | refine seqQ_n ?_
                | refine blkQ_n ?_
                | refine seqQ_x ?_
                | refine blkQ_hit rfl ?_
                | refine rndQ_x ?_)
              exact rndQ_n (j + 1) ⟨by omega, hS⟩ (by show i - (j + 1) < i - j; omega) ⟨vint (by omega), vint (by omega), trivial⟩ ⟨rfl, rfl, rfl, rfl, rfl, rfl, trivial⟩
            · by_cases hyl2 : lowE y = low
              · rw [if_pos ⟨hin, hyx, hyl2⟩] at hcs
                repeat' (first
                  | (show WL _ _ _ _ _ _ _; first
                    | refine WL.pure rfl rfl rfl rfl ?_
                    | refine WL.nil ?_
                    | refine WL.add rfl rfl rfl (by omega) rfl rfl rfl ?_)
                  | (show WC _ _ _ _ _ _; first
                    | refine WC.seq ?_
                    | refine WC.region ?_
                    | refine WC.exit ?_
                    | (show WC _ _ (Code.region _ (List.toArray [_, _, _, _, _, _, _, _, _, _, _, _, _, _, _, _, _, _, _, _, _, _, _]) true) _ _ _; refine WC.drawS hS [0,1,2,3,4,5,6,7,8,9,10,11,12,13,14,15,16,18,19,20,21,22] [0,1,2,3,4,5,6,7,8,9,10,11,12,13,14,15,16,20,17,18,19,21,22] (by kernel_rfl) (by kernel_rfl) ?_; clear hS; intro w hS hM)
                    | refine WC.condT rfl (decide_eq_true (by first | with_reducible assumption | omega)) ?_
                    | refine WC.condF rfl (decide_eq_false (by first | with_reducible assumption | omega)) ?_)
                  | (show WD _ _ _ _ _ _ _ _ _; first
                    | refine WD.pure rfl rfl rfl rfl rfl ?_
                    | refine WD.nil ?_
                    | (refine WD.load rfl rfl (LdOk.snap0 hF hrk (by repeat (first | exact List.Mem.head _ | apply List.Mem.tail)) rfl) rfl rfl rfl rfl ?_)
                    | (refine WD.load rfl rfl (LdOk.snap0 hF hri (by repeat (first | exact List.Mem.head _ | apply List.Mem.tail)) rfl) rfl rfl rfl rfl ?_)
                    | (refine WD.calls hS hM rfl rfl (sum_c y _ (by omega)) rfl rfl rfl rfl rfl ?_; clear hS; rintro v w rfl hS)
                    | (refine WD.remK rfl rfl rfl (by omega) (by omega) hlwy rfl rfl rfl rfl ?_; rw [hliy, hyl2])
                    | refine WD.conv64 rfl rfl rfl (by omega) rfl rfl rfl rfl ?_
                    | refine WD.index rfl rfl rfl rfl (by first | with_reducible assumption | omega) rfl rfl rfl rfl rfl ?_
                    | ((fail_if_success (refine WD.wanted rfl ?_)); refine WD.guard rfl rfl rfl (fun h => ?_) (fun h => ?_) <;> (try simp only [Classical.not_not, Bool.not_eq_true', Bool.not_eq_false', Bool.not_eq_eq_eq_not, Bool.not_true, Bool.not_false, beq_iff_eq, beq_eq_false_iff_ne, ne_eq, decide_eq_decide, decide_eq_true_eq, decide_eq_false_iff_not, Bool.and_eq_true, Bool.or_eq_true, Bool.and_eq_false_iff, Bool.or_eq_false_iff] at h) <;> (try (exfalso; first | omega | contradiction))))
                  | refine seqQ_n ?_
                  | refine blkQ_n ?_
                  | refine seqQ_x ?_
                  | refine blkQ_hit rfl ?_
                  | refine rndQ_x ?_)
                exact rndQ_n (j + 1) ⟨by omega, hS⟩ (by show i - (j + 1) < i - j; omega) ⟨vint (by omega), vint (by omega), trivial⟩ ⟨rfl, rfl, rfl, rfl, rfl, rfl, trivial⟩
              · rw [if_neg (fun h => hyl2 h.2.2)] at hcs
                have hyl3 := lowE_lt y
                repeat' (first
                  | (show WL _ _ _ _ _ _ _; first
                    | refine WL.pure rfl rfl rfl rfl ?_
                    | refine WL.nil ?_
                    | refine WL.add rfl rfl rfl (by omega) rfl rfl rfl ?_)
                  | (show WC _ _ _ _ _ _; first
                    | refine WC.seq ?_
                    | refine WC.region ?_
                    | refine WC.skip ?_
                    | refine WC.exit ?_
                    | (show WC _ _ (Code.region _ (List.toArray [_, _, _, _, _, _, _, _, _, _, _, _, _, _, _, _, _, _, _, _, _, _, _]) true) _ _ _; refine WC.drawS hS [0,1,2,3,4,5,6,7,8,9,10,11,12,13,14,15,16,18,19,20,21,22] [0,1,2,3,4,5,6,7,8,9,10,11,12,13,14,15,16,20,17,18,19,21,22] (by kernel_rfl) (by kernel_rfl) ?_; clear hS; intro w hS hM)
                    | refine WC.condF rfl (decide_eq_false (by first | with_reducible assumption | omega)) ?_)
                  | (show WD _ _ _ _ _ _ _ _ _; first
                    | refine WD.pure rfl rfl rfl rfl rfl ?_
                    | refine WD.nil ?_
                    | (refine WD.load rfl rfl (LdOk.snap0 hF hrk (by repeat (first | exact List.Mem.head _ | apply List.Mem.tail)) rfl) rfl rfl rfl rfl ?_)
                    | (refine WD.load rfl rfl (LdOk.snap0 hF hri (by repeat (first | exact List.Mem.head _ | apply List.Mem.tail)) rfl) rfl rfl rfl rfl ?_)
                    | (refine WD.calls hS hM rfl rfl (sum_c y _ (by omega)) rfl rfl rfl rfl rfl ?_; clear hS; rintro v w rfl hS)
                    | (refine WD.remK rfl rfl rfl (by omega) (by omega) hlwy rfl rfl rfl rfl ?_; rw [hliy])
                    | refine WD.conv64 rfl rfl rfl (by omega) rfl rfl rfl rfl ?_
                    | refine WD.index rfl rfl rfl rfl (by first | with_reducible assumption | omega) rfl rfl rfl rfl rfl ?_
                    | ((fail_if_success (refine WD.wanted rfl ?_)); refine WD.guard rfl rfl rfl (fun h => ?_) (fun h => ?_) <;> (try simp only [Classical.not_not, Bool.not_eq_true', Bool.not_eq_false', Bool.not_eq_eq_eq_not, Bool.not_true, Bool.not_false, beq_iff_eq, beq_eq_false_iff_ne, ne_eq, decide_eq_decide, decide_eq_true_eq, decide_eq_false_iff_not, Bool.and_eq_true, Bool.or_eq_true, Bool.and_eq_false_iff, Bool.or_eq_false_iff] at h) <;> (try (exfalso; first | omega | contradiction))))
                  | refine seqQ_n ?_
                  | refine blkQ_n ?_
                  | refine seqQ_x ?_
                  | refine blkQ_hit rfl ?_
                  | refine rndQ_x ?_)
                exact rndQ_n (j + 1) ⟨by omega, hS⟩ (by show i - (j + 1) < i - j; omega) ⟨vint (by omega), vint (by omega), trivial⟩ ⟨rfl, rfl, rfl, rfl, rfl, rfl, trivial⟩
      · have hke : k = i := by omega
        subst hke
        have hcn := fun h => cnt_fresh (ts := texts) (d := x) (i := k) h
        rw [← hlow] at hcn
        have hcl := cntB_le texts x low k (by omega)
        have hx1 := hex_one (low / 16) (by omega)
        have hx2 := hex_one (low % 16) (by omega)
        obtain ⟨hd, hhd⟩ : ∃ hd : List UInt8, [98, 47] ++ [hexC (low / 16)] ++ [hexC (low % 16)] ++ [47] = hd := ⟨_, rfl⟩
        have hpre : preB low = hd := hhd
        have hdl : hd.length = 5 := by rw [← hpre]; rfl
        have hky : key = hd ++ decDigits nn := by rw [hkey, ← hpre]; rfl
        have hnn1 : 1 ≤ (decDigits nn).length := by
          have := decDigits_ne nn
          cases hd1 : decDigits nn with
          | nil => exact absurd hd1 this
          | cons a b => simp
        have hkl : key.length = 5 + (decDigits nn).length := by rw [hky, List.length_append, hdl]
        have htk : key.take hd.length = hd := by rw [hky, List.take_left]
        have hdn := dec_len (n := nn) (k := 12) (by omega)
        have hfr : x ∉ texts.take k → key = hd ++ decDigits (cntB texts x low k) := fun h => by
          rw [hfresh h, hcn h, ← hpre]; rfl
        clear hkey hfresh hcn hpre hky
        generalize cntB texts x low k = c at *
        have hdc := dec_len (n := c) (k := 12) (by omega)
        repeat' (first
          | (show WL _ _ _ _ _ _ _; first
            | refine WL.pure rfl rfl rfl rfl ?_
            | refine WL.nil ?_
            | (refine WL.highS rfl rfl rfl rfl (by omega) rfl rfl rfl ?_; rw [htk])
            | ((fail_if_success (refine WL.wanted rfl ?_)); refine WL.guard rfl rfl rfl (fun h => ?_) (fun h => ?_) <;> (try simp only [Classical.not_not, Bool.not_eq_true', Bool.not_eq_false', Bool.not_eq_eq_eq_not, Bool.not_true, Bool.not_false, beq_iff_eq, beq_eq_false_iff_ne, ne_eq, decide_eq_decide, decide_eq_true_eq, decide_eq_false_iff_not, Bool.and_eq_true, Bool.or_eq_true, Bool.and_eq_false_iff, Bool.or_eq_false_iff] at h) <;> (try (exfalso; first | omega | contradiction))))
          | (show WC _ _ _ _ _ _; first
            | refine WC.seq ?_
            | refine WC.region ?_
            | refine WC.block ?_
            | refine WC.skip ?_
            | refine WC.exit ?_
            | (show WC _ _ (Code.region _ (List.toArray [_, _, _, _, _, _, _, _, _, _, _, _, _, _, _, _, _, _]) true) _ _ _; refine WC.drawS hS [0, 1, 2, 3, 4, 5, 6, 7, 8, 9, 10, 11, 12, 13, 14, 15, 16, 17] [0, 1, 2, 3, 4, 5, 6, 7, 8, 9, 10, 11, 12, 13, 14, 15, 16, 17] (by kernel_rfl) (by kernel_rfl) ?_; clear hS; intro w hS hM)
            | refine WC.condF rfl (decide_eq_false (by first | with_reducible assumption | omega)) ?_
            | refine WC.condF rfl (by first | (simp; done) | (simp; omega)) ?_)
          | (show WD _ _ _ _ _ _ _ _ _; first
            | refine WD.pure rfl rfl rfl rfl rfl ?_
            | refine WD.nil ?_
            | refine WD.add rfl rfl rfl (by omega) rfl rfl rfl rfl ?_
            | (refine WD.quo rfl rfl rfl (by omega) (by omega) (by omega) rfl rfl rfl rfl ?_)
            | (refine WD.rem rfl rfl rfl (by omega) (by omega) rfl rfl rfl rfl ?_)
            | (refine WD.midS (s := hexD) (a := low / 16) (b := low / 16 + 1) rfl rfl rfl (vint (show _ = ((low / 16 : Nat) : Int) by omega)) (vint (show _ = ((low / 16 + 1 : Nat) : Int) by omega)) (by omega) (by show _ ≤ 16; omega) rfl rfl rfl rfl ?_; rw [hx1])
            | (refine WD.midS (s := hexD) (a := low % 16) (b := low % 16 + 1) rfl rfl rfl (vint (show _ = ((low % 16 : Nat) : Int) by omega)) (vint (show _ = ((low % 16 + 1 : Nat) : Int) by omega)) (by omega) (by show _ ≤ 16; omega) rfl rfl rfl rfl ?_; rw [hx2])
            | (refine WD.cat rfl rfl rfl (by first | (simp; done) | fail) rfl rfl rfl rfl ?_; rw [hhd])
            | (refine WD.cat rfl rfl rfl (by first | (simp; done) | fail) rfl rfl rfl rfl ?_))
          | refine seqQ_n ?_
          | refine seqQ_x ?_
          | refine blkQ_hit rfl ?_
          | refine rndQ_x ?_)
        refine WC.loop (σ := Nat) [0, 3, 4, 5, 6, 8, 12] (fun j => [(13, .bool (decide (x ∉ texts.take j))), (14, .int .i64 (j : Int))])
          (fun j w => j ≤ k ∧ St w0 [] w [bchC B (some ⟨Tp, 0, none⟩) m2 fb1, tabC Tp q ⟨sysP, [], ⟨sysL, [], false⟩⟩ fp] [⟨w0, Old w0⟩])
          (fun j => k - j) 0 ⟨Nat.zero_le _, hS⟩ ⟨vbool (by simp), rfl, trivial⟩ ?_
        clear hS
        rintro j g3 w ⟨hj, hS⟩
        show WC _ _ _ (lf _ [(13, .bool (decide (x ∉ texts.take j))), (14, .int .i64 (j : Int))] _ _) _ _
        by_cases hjk : j < k
        · have hjt : j < texts.length := by omega
          obtain ⟨rb2, ro2, es, hA2, hF2, hrj, hes⟩ := h0.at_ hjt
          cases hA2
          have hes : es = [str texts[j]] := hes
          subst hes
          have hrj : w0.rangeAt rb (ro + j * 1) [str texts[j]] := hrj
          have hmt := mem_take_next hjt x
          generalize texts[j] = z at *
          clear hfr
          by_cases hin : x ∈ texts.take j
          · have hd1 : decide (x ∉ texts.take j) = false := by simp [hin]
            have hd2 : decide (x ∉ texts.take (j + 1)) = false := by simp [hmt, hin]
            rw [hd1]
            clear hmt
            repeat' (first
              | (show WL _ _ _ _ _ _ _; first
                | refine WL.pure rfl rfl rfl rfl ?_
                | refine WL.nil ?_
                | refine WL.add rfl rfl rfl (by omega) rfl rfl rfl ?_)
              | (show WC _ _ _ _ _ _; first
                | refine WC.seq ?_
                | refine WC.region ?_
                | refine WC.block ?_
                | refine WC.skip ?_
                | (show WC _ _ (Code.region _ (List.toArray [_, _, _, _, _, _, _, _, _, _, _, _, _]) true) _ _ _; refine WC.drawS hS [0, 1, 2, 3, 4, 5, 6, 7, 8, 9, 10, 11, 12] [0, 1, 2, 3, 4, 5, 6, 7, 8, 9, 10, 11, 12] (by kernel_rfl) (by kernel_rfl) ?_; clear hS; intro w hS hM)
                | refine WC.condT rfl (decide_eq_true (by first | with_reducible assumption | omega)) ?_)
              | (show WD _ _ _ _ _ _ _ _ _; first
                | refine WD.pure rfl rfl rfl rfl rfl ?_
                | refine WD.nil ?_
                | refine WD.pass rfl rfl rfl rfl ?_)
              | refine seqQ_n ?_
              | refine blkQ_n ?_)
            exact rndQ_n (j + 1) ⟨by omega, hS⟩ (by show k - (j + 1) < k - j; omega) ⟨vbool (by rw [hd2]), vint (by omega), trivial⟩ ⟨rfl, rfl, rfl, rfl, rfl, rfl, rfl, trivial⟩
          · have hd1 : decide (x ∉ texts.take j) = true := by simp [hin]
            have hd2 : decide (x ∉ texts.take (j + 1)) = decide (¬ z = x) := by
              rw [decide_eq_decide, hmt]
              exact ⟨fun h e => h (.inr e.symm), fun h hh => by rcases hh with hh | hh; exact hin hh; exact h hh.symm⟩
            rw [hd1]
            clear hmt
            repeat' (first
              | (show WL _ _ _ _ _ _ _; first
                | refine WL.pure rfl rfl rfl rfl ?_
                | refine WL.nil ?_
                | refine WL.add rfl rfl rfl (by omega) rfl rfl rfl ?_)
              | (show WC _ _ _ _ _ _; first
                | refine WC.seq ?_
                | refine WC.region ?_
                | refine WC.block ?_
                | refine WC.skip ?_
                | (show WC _ _ (Code.region _ (List.toArray [_, _, _, _, _, _, _, _, _, _, _, _, _]) true) _ _ _; refine WC.drawS hS [0, 1, 2, 3, 4, 5, 6, 7, 8, 9, 10, 11, 12] [0, 1, 2, 3, 4, 5, 6, 7, 8, 9, 10, 11, 12] (by kernel_rfl) (by kernel_rfl) ?_; clear hS; intro w hS hM)
                | refine WC.condT rfl (decide_eq_true (by first | with_reducible assumption | omega)) ?_)
              | (show WD _ _ _ _ _ _ _ _ _; first
                | refine WD.pure rfl rfl rfl rfl rfl ?_
                | refine WD.nil ?_
                | (refine WD.load rfl rfl (LdOk.snap0 hF hrj (by repeat (first | exact List.Mem.head _ | apply List.Mem.tail)) rfl) rfl rfl rfl rfl ?_)
                | (refine WD.load rfl rfl (LdOk.snap0 hF hri (by repeat (first | exact List.Mem.head _ | apply List.Mem.tail)) rfl) rfl rfl rfl rfl ?_)
                | refine WD.index rfl rfl rfl rfl (by first | with_reducible assumption | omega) rfl rfl rfl rfl rfl ?_)
              | refine seqQ_n ?_
              | refine blkQ_n ?_)
            exact rndQ_n (j + 1) ⟨by omega, hS⟩ (by show k - (j + 1) < k - j; omega) ⟨vbool (by rw [hd2]), vint (by omega), trivial⟩ ⟨rfl, rfl, rfl, rfl, rfl, rfl, rfl, trivial⟩
        · have hje : j = k := by omega
          subst hje
          by_cases hin : x ∈ texts.take j
          · have hd1 : decide (x ∉ texts.take j) = false := by simp [hin]
            rw [hd1]
            clear hfr
            repeat' (first
              | (show WL _ _ _ _ _ _ _; first
                | refine WL.pure rfl rfl rfl rfl ?_
                | refine WL.nil ?_
                | refine WL.add rfl rfl rfl (by omega) rfl rfl rfl ?_
                | refine WL.skip rfl rfl rfl ?_)
              | (show WC _ _ _ _ _ _; first
                | refine WC.seq ?_
                | refine WC.region ?_
                | refine WC.skip ?_
                | refine WC.exit ?_
                | refine WC.condF rfl (by with_reducible rfl) ?_
                | refine WC.condF rfl (decide_eq_false (by first | with_reducible assumption | omega)) ?_)
              | refine seqQ_n ?_
              | refine blkQ_n ?_
              | refine seqQ_x ?_
              | refine blkQ_hit rfl ?_
              | refine rndQ_x ?_)
            exact rndQ_n (j + 1, l2, m2, fb1) ⟨⟨by omega, hpn2, hb1, by omega⟩, hS⟩ (by show texts.length - (j + 1) < texts.length - j; omega) ⟨vint (by omega), trivial⟩ ⟨rfl, rfl, rfl, trivial⟩
          · have hd1 : decide (x ∉ texts.take j) = true := by simp [hin]
            have hfr := hfr hin
            rw [hd1]
            repeat' (first
              | (show WL _ _ _ _ _ _ _; first
                | refine WL.pure rfl rfl rfl rfl ?_
                | refine WL.nil ?_
                | refine WL.add rfl rfl rfl (by omega) rfl rfl rfl ?_
                | (refine WL.calls hS rfl rfl (decimal_c c c _ (Nat.le_refl _) (by omega)) rfl rfl rfl ?_; rintro v w rfl hS)
                | (refine WL.cat rfl rfl rfl (by omega) rfl rfl rfl ?_; rw [← hfr]))
              | (show WC _ _ _ _ _ _; first
                | refine WC.seq ?_
                | refine WC.region ?_
                | refine WC.skip ?_
                | refine WC.exit ?_
                | refine WC.condF rfl (decide_eq_false (by first | with_reducible assumption | omega)) ?_
                | refine WC.condF rfl (by first | (simp; done) | (simp; omega)) ?_)
              | refine seqQ_n ?_
              | refine blkQ_n ?_
              | refine seqQ_x ?_
              | refine blkQ_hit rfl ?_
              | refine rndQ_x ?_)
            exact rndQ_n (j + 1, l2, m2, fb1) ⟨⟨by omega, hpn2, hb1, by omega⟩, hS⟩ (by show texts.length - (j + 1) < texts.length - j; omega) ⟨vint (by omega), trivial⟩ ⟨rfl, rfl, rfl, trivial⟩
    · repeat' (first
        | (show WL _ _ _ _ _ _ _; first
          | refine WL.pure rfl rfl rfl rfl ?_
          | refine WL.nil ?_)
        | (show WC _ _ _ _ _ _; first
          | refine WC.seq ?_
          | refine WC.region ?_
          | refine WC.exit ?_
          | refine WC.ret ?_
          | refine WC.condF rfl (decide_eq_false (by first | with_reducible assumption | omega)) ?_)
        | refine seqQ_n ?_
        | refine seqQ_x ?_
        | refine blkQ_hit rfl ?_
        | refine rndQ_x ?_)
      exact fin1r rfl rfl ⟨hS.upd, rfl⟩
  · repeat' (first
      | (show WL _ _ _ _ _ _ _; first
        | refine WL.pure rfl rfl rfl rfl ?_
        | refine WL.nil ?_
        | (refine WL.callL (D := []) hS .nil rfl rfl (fun hI => blmade_c _) rfl rfl rfl ?_; rintro v w ⟨B, Tp, q, fb, fp, rfl, hmu⟩ hS; replace hS := hS _ hmu; clear hmu)
        | (refine WL.calls hS rfl rfl (blawake_c _ (hp.at hS)) rfl rfl rfl ?_; rintro v w rfl hS))
      | (show WC _ _ _ _ _ _; first
        | refine WC.seq ?_
        | refine WC.region ?_
        | refine WC.ret ?_
        | refine WC.condT rfl (decide_eq_true (by first | with_reducible assumption | omega)) ?_)
      | refine seqQ_n ?_
      | refine seqQ_r ?_)
    exact fin1r rfl rfl ⟨hS.upd, vbool (by simp)⟩
end Go.Proofs.YtlddmenpafcaiaaGreatDoor

/- What is proved: the key of BlobKeys: with the table laid, the law answers true. Conditions: the statement's own bound on the bulk. -/
set_option linter.unusedSimpArgs false
set_option linter.unusedVariables false
namespace Go.Proofs.YtlddmenpafcaiaaGreatDoor
open Go Go.J Go.RowKit

set_option maxRecDepth 100000 in
theorem pow_blobKeys (W : World) (h : laidMet Tryz.prog Rows.blobKeysUptoRow.laid W) : powT W := by
  obtain ⟨a, b, r, he⟩ : ∃ a b r, Rows.blobKeysUptoRow.laid = a :: b :: ("internal/strconv.uint64pow10", Lib.tabData .u64 Lib.pow10Tab) :: r := ⟨_, _, _, rfl⟩
  rw [he] at h
  have h1 := laidMet.tail (laidMet.tail h)
  exact Lib.tabIs_of_head (g := 2) (t := 195) (e := 140) (n := 20) (by kernel_rfl) (by kernel_rfl) (by kernel_rfl) (by kernel_rfl) (by kernel_rfl) (by kernel_rfl) h1
theorem blobKeys.key_blobKeys (W : World) (hL : laidMet Tryz.prog Rows.blobKeysUptoRow.laid W) (v0 : Value) (y0 : List (List UInt8)) (b0 : Nat) (h0 : ASl cStr W v0 y0) (q0 : QL QStr y0 b0) (hb : b0 ≤ 1048576) :
    Cal Tryz.prog 3 [v0] W (fun v W' => Upd [] W W' ∧ v = .bool true) := by
  obtain ⟨A0, c0, rfl, _, h0⟩ := h0
  have := ql_strsB q0
  exact blobKeys_c y0 h0 (by omega) (pow_blobKeys W hL)
end Go.Proofs.YtlddmenpafcaiaaGreatDoor

/- What is proved: the law BlobLasts answers true. Conditions: the statement's own bound on the bulk; the library's table of powers laid. -/
set_option linter.unusedSimpArgs false
set_option linter.unusedVariables false
namespace Go.Proofs.YtlddmenpafcaiaaGreatDoor
open Go Go.J Go.RowKit
open Go.Lib (decDigits)

theorem BlobIs.commit {m : Bch} {l : List One} {K : Nat} {rows1 : Rws} (h : BlobIs [] m l K) (hn : (rows1.map Prod.fst).Nodup) (hg : ∀ k, getE rows1 k = bgetE [] m k) : BlobIs rows1 [] l K := by
  have hb : ∀ k, bgetE rows1 [] k = bgetE [] m k := hg
  exact ⟨hn, by simp, fun x hx => by rw [hb]; exact h.has x hx, fun k hk => by rw [hb] at hk; exact h.only k hk, h.low, h.refs, h.nums, h.len, h.size, h.knd, h.dnd⟩
theorem put_klen {l : List One} {m : Bch} {K : Nat} {rows : Rws} (hd : (l.map One.data).Nodup) (data : List UInt8) (h : BlobIs rows m (putB l data).1 K) (hK : K ≤ 1048576) : (putB l data).2.length ≤ 18 := by
  obtain ⟨y, hy, e1, e2⟩ := put_has hd data
  rw [← e2]
  have h1 := h.nums y hy
  have h2 := dec_len (n := y.n) (k := 12) (by omega)
  show (preB y.low ++ decDigits y.n).length ≤ 18
  rw [List.length_append, show (preB y.low).length = 5 from rfl]
  omega
set_option maxHeartbeats 32000000 in
set_option maxRecDepth 100000 in
theorem blobLasts_c (texts : List (List UInt8)) {A : Option Addr} {cap : Nat} {w0 : World} (h0 : SlAt cStr (Old w0) w0 A texts) (hz : (texts.map List.length).sum + texts.length ≤ 1048576) (ht : powT w0) :
    Cal Tryz.prog 7 [.slice A texts.length cap] w0 (fun v w' => Upd [] w0 w' ∧ v = .bool true) := by
  refine Cal.mk' (by kernel_rfl) Tryz.func7 rfl rfl fun hS => ?_
  have hp := PowI.of ht
  by_cases h150 : texts.length ≤ 60
  · repeat' (first
      | (show WL _ _ _ _ _ _ _; first
        | refine WL.pure rfl rfl rfl rfl ?_
        | refine WL.nil ?_
        | (refine WL.callG rfl rfl (dnew_c _) rfl rfl rfl ?_; rintro v w ⟨hu, q, mb, lb, rfl, hn⟩; replace hS := hS.new hu hn; clear hu hn)
        | (refine WL.callL (D := [dkC q mb lb Dk0]) hS (by repeat (first | exact Pulls.nil | (apply Pulls.cons; focus (repeat (first | exact Pull.here | apply Pull.there))))) rfl rfl (fun hI => topenFirst_c hI) rfl rfl rfl ?_; rintro v w ⟨Tp, fp, rfl, hmu⟩ hS; replace hS := hS _ hmu; clear hmu)
        | (refine WL.calls hS rfl rfl (blawake_c _ (hp.at hS)) rfl rfl rfl ?_; rintro v w rfl hS)
        | (refine WL.callG rfl rfl (begin_c _) rfl rfl rfl ?_; rintro v w ⟨hu, B, fb, rfl, hn⟩; replace hS := hS.new hu hn; clear hu hn))
      | (show WC _ _ _ _ _ _; first
        | refine WC.seq ?_
        | refine WC.region ?_
        | refine WC.block ?_
        | refine WC.skip ?_
        | refine WC.condF rfl (decide_eq_false (by first | with_reducible assumption | omega)) ?_)
      | refine seqQ_n ?_)
    replace hS := (hS.nilRow 9 1).pulls (D := [.own (.slice none 0 0) 9 1 0 [], bchC B (some ⟨Tp, 0, none⟩) [] fb, tabC Tp q ⟨sysP, [], ⟨sysL, [], false⟩⟩ fp, dkC q mb lb Dt0]) (by repeat (first | exact Pulls.nil | (apply Pulls.cons; focus (repeat (first | exact Pull.here | apply Pull.there)))))
    replace hS := hS.droplast2 (D := [.own (.slice none 0 0) 9 1 0 [], bchC B (some ⟨Tp, 0, none⟩) [] fb, tabC Tp q ⟨sysP, [], ⟨sysL, [], false⟩⟩ fp, dkC q mb lb Dt0]) (by repeat (first | exact Pulls.nil | (apply Pulls.cons; focus (repeat (first | exact Pull.here | apply Pull.there)))))
    refine WC.loop (σ := Nat × List One × Bch × List Nat × List (List UInt8) × Option Addr × Nat) [0, 3, 6] (fun (k, _, _, _, ks, AK, capK) => [(7, .slice AK ks.length capK), (8, .int .i64 (k : Int))])
      (fun (k, l, m, fb, ks, AK, capK) w => (k ≤ texts.length ∧ PutsIs (texts.take k) ks l ∧ BlobIs [] m l k ∧ m.length ≤ k ∧ BchOk m ∧ szL (m.map Prod.snd) ≤ k * 1048700) ∧ St w0 [] w [.own (.slice AK ks.length capK) 9 1 ks.length (strs ks), bchC B (some ⟨Tp, 0, none⟩) m fb, tabC Tp q ⟨sysP, [], ⟨sysL, [], false⟩⟩ fp, dkC q mb lb Dt0] [⟨w0, Old w0⟩])
      (fun (k, _) => texts.length - k) (0, [], [], fb, [], none, 0) ⟨⟨Nat.zero_le _, PutsIs.nil, BlobIs.nil, Nat.le_refl _, BchOk.nil, Nat.le_refl _⟩, hS⟩ ⟨rfl, rfl, trivial⟩ ?_
    clear hS
    rintro ⟨k, l, m, fb, ks, AK, capK⟩ g w ⟨⟨hk, hpi, hb, hml, hbo, hsz⟩, hS⟩
    show WC _ _ _ (lf _ [(7, .slice AK ks.length capK), (8, .int .i64 (k : Int))] _ _) _ _
    have hkl : ks.length = k := by rw [hpi.len, List.length_take]; omega
    by_cases hlt : k < texts.length
    · obtain ⟨rb, ro, es, rfl, hF, hrr, hes⟩ := h0.at_ hlt
      have hes : es = [str texts[k]] := hes
      subst hes
      have hrr : w0.rangeAt rb (ro + k * 1) [str texts[k]] := hrr
      have hxl := mem_le_sumB texts texts[k] (List.getElem_mem hlt)
      have hpi2 := hpi.put hb.knd hb.dnd texts[k]
      rw [← List.take_succ_eq_append_getElem hlt] at hpi2
      have hcap := (hS.own_len (List.Mem.head _)).2.2
      have hnl := fun v => szB_note m ⟨(putB l texts[k]).2, v, false⟩
      have hbo2 := fun v => hbo.note ⟨(putB l texts[k]).2, v, false⟩
      have hkl2 := fun (m2 : Bch) (K2 : Nat) (hbl : BlobIs [] m2 (putB l texts[k]).1 K2) => put_klen (m := m2) (K := K2) (rows := []) hb.dnd texts[k] hbl
      generalize texts[k] = x at *
      clear hpi
      repeat' (first
        | (show WL _ _ _ _ _ _ _; first
          | refine WL.pure rfl rfl rfl rfl ?_
          | refine WL.nil ?_
          | refine WL.add rfl rfl rfl (by omega) rfl rfl rfl ?_
          | (refine WL.load hS rfl rfl (LdOk.snap0 hF hrr (by repeat (first | exact List.Mem.head _ | apply List.Mem.tail)) rfl) rfl rfl rfl ?_)
          | (refine WL.callL (D := [bchC B (some ⟨Tp, 0, none⟩) m fb, tabC Tp q ⟨sysP, [], ⟨sysL, [], false⟩⟩ fp]) hS (by repeat (first | exact Pulls.nil | (apply Pulls.cons; focus (repeat (first | exact Pull.here | apply Pull.there))))) rfl rfl (fun hI => blput_c (l := l) (K := k) x hI (hp.pull hS (by repeat (first | exact Pulls.nil | (apply Pulls.cons; focus (repeat (first | exact Pull.here | apply Pull.there)))))) hb (by omega) (by omega) (Nat.zero_le _) (by omega)) rfl rfl rfl ?_; rintro v w ⟨rfl, r1, fb1, hr1, hr2, hb1, hmu⟩ hS; replace hS := hS _ hmu; clear hmu)
          | (refine WL.app hS rfl rfl rfl rfl (RdOk.box (by repeat (first | exact List.Mem.head _ | apply List.Mem.tail))) rfl rfl (fun A cap => by repeat (first | exact Repl.here | apply Repl.there)) (by omega) rfl rfl rfl ?_; intro A3 cap3 w hS)
          | refine WL.index rfl rfl rfl rfl (by first | with_reducible assumption | omega) rfl rfl rfl rfl ?_
          | (refine WL.slit hS rfl rfl rfl rfl rfl ?_; intro w b hS))
        | (show WC _ _ _ _ _ _; first
          | refine WC.seq ?_
          | refine WC.region ?_
          | refine WC.block ?_
          | refine WC.skip ?_
          | refine WC.condT rfl (decide_eq_true (by first | with_reducible assumption | omega)) ?_)
        | refine seqQ_n ?_
        | refine blkQ_n ?_)
      have hnl2 := hnl (valB r1 x)
      have hkl3 := hkl2 _ _ hb1 (by omega)
      have hvl : (valB r1 x).length ≤ 10 + x.length := by unfold valB; rw [List.length_append]; have := putN_len10 (n := r1) (by omega); omega
      have hszo : szO ⟨(putB l x).2, valB r1 x, false⟩ ≤ 60 + x.length := by unfold szO; dsimp only; omega
      replace hS := hS.droplast2 (D := [.own (.slice A3 (ks.length + 1) cap3) 9 1 (ks.length + 1) (strs ks ++ [str (putB l x).2]), bchC B (some ⟨Tp, 0, none⟩) (noteE m ⟨(putB l x).2, valB r1 x, false⟩) fb1, tabC Tp q ⟨sysP, [], ⟨sysL, [], false⟩⟩ fp, dkC q mb lb Dt0]) (by repeat (first | exact Pulls.nil | (apply Pulls.cons; focus (repeat (first | exact Pull.here | apply Pull.there)))))
      exact rndQ_n (k + 1, (putB l x).1, noteE m ⟨(putB l x).2, valB r1 x, false⟩, fb1, ks ++ [(putB l x).2], A3, cap3) ⟨⟨by omega, hpi2, hb1, by omega, hbo2 _, by rw [Nat.add_mul]; omega⟩, by
        rw [List.length_append, ← strs_snoc]
        exact hS⟩ (by show texts.length - (k + 1) < texts.length - k; omega) ⟨by rw [List.length_append]; rfl, vint (by omega), trivial⟩ ⟨rfl, rfl, rfl, trivial⟩
    · have hke : k = texts.length := by omega
      subst hke
      rw [List.take_length] at hpi
      clear hk hlt
      have hsz2 : szL (m.map Prod.snd) ≤ 62922000 := by omega
      obtain ⟨D1, ls1, hcm1, hst1, hwf1, hl1, hrow1⟩ := Dt0_st.commitAny wf0 [] (m.map Prod.snd) hbo.clean (by omega) (by decide)
      obtain ⟨rows1, hr1⟩ : ∃ r, r = applyE [] (m.map Prod.snd) := ⟨_, rfl⟩
      have a1 : RowsAre rows1 (applyF (fun _ => none) (m.map Prod.snd)) := by rw [hr1]; exact RowsAre.nil.apply
      have s1 : szR rows1 ≤ 62922000 := by have := szR_apply (m.map Prod.snd) []; rw [← hr1] at this; have h00 : szR ([] : Rws) = 0 := rfl; omega
      have n1 : rows1.length ≤ 60 := by have := applyE_len (m.map Prod.snd) []; rw [← hr1, List.length_map] at this; have : ([] : Rws).length = 0 := rfl; omega
      have hge := getE_commit RowsAre.nil hbo
      rw [← hr1] at hge
      have hb2 := hb.commit a1.1 hge
      have hrow : rowsOf none ls1 = rows1 := by rw [hrow1, hr1]; rfl
      obtain ⟨p1, p1'⟩ := pack_small a1.1 s1 (by omega)
      have rc1 := rec_small (l := m.map Prod.snd) (by omega)
      have hsm1 : D1.Sm 1173742000 := by
        have h := tabCommit_sm (T := ⟨sysP, [], ⟨sysL, [], false⟩⟩) (D := Dt0) (ops := m.map Prod.snd) (B := 100000000) Dt0_sm rc1 (by dsimp only; rw [← hr1]; omega)
        rw [show tabCommit ⟨sysP, [], ⟨sysL, [], false⟩⟩ Dt0 (m.map Prod.snd) = _ from hcm1] at h
        exact h
      rw [← hr1] at hcm1
      have hcm1 : tabCommit ⟨sysP, [], ⟨sysL, [], false⟩⟩ Dt0 (m.map Prod.snd) = (0, ⟨sysP, rows1, ⟨sysL, ls1.map recordE, false⟩⟩, D1) := hcm1
      have k1 : ∀ p ∈ rows1, p.1.length ≤ 1099511627776 := fun p hp => by have := szR_mem hp; omega
      have r1 : ∀ x y, applyE (Tb.rows ⟨x, [], y⟩) (m.map Prod.snd) = rows1 := fun _ _ => hr1.symm
      have hml1 : m.length ≤ 1048576 := by omega
      clear hl1 hrow1 a1 p1' hr1 hge hb hbo
      repeat' (first
        | (show WL _ _ _ _ _ _ _; first
          | refine WL.pure rfl rfl rfl rfl ?_
          | refine WL.nil ?_
          | (refine WL.callL (D := [bchC B (some ⟨Tp, 0, none⟩) m fb, tabC Tp q ⟨sysP, [], ⟨sysL, [], false⟩⟩ fp, dkC q mb lb Dt0]) hS (by repeat (first | exact Pulls.nil | (apply Pulls.cons; focus (repeat (first | exact Pull.here | apply Pull.there))))) rfl rfl (fun hI => bcommit_c hI hcm1 (by decide) (by decide) Dt0_sm rc1 (by decide) hml1 (by rw [r1]; omega) (by rw [r1]; omega) (by rw [r1]; exact k1)) rfl rfl rfl ?_; rintro v w ⟨rfl, fb3, fp2, hmu⟩ hS; replace hS := hS _ hmu; clear hmu)
          | (refine WL.callL (D := [dkC q mb lb D1]) hS (by repeat (first | exact Pulls.nil | (apply Pulls.cons; focus (repeat (first | exact Pull.here | apply Pull.there))))) rfl rfl (fun hI => topenSt_c hI hst1 hwf1 (hsm1.up (by omega))) rfl rfl rfl ?_; rintro v w ⟨Tp2, fp4, rfl, hmu⟩ hS; rw [hrow] at hmu; replace hS := hS _ hmu; clear hmu))
        | (show WC _ _ _ _ _ _; first
          | refine WC.seq ?_
          | refine WC.region ?_
          | refine WC.block ?_
          | refine WC.skip ?_
          | refine WC.exit ?_
          | refine WC.condF rfl (by decide) ?_
          | refine WC.condF rfl (decide_eq_false (by first | with_reducible assumption | omega)) ?_)
        | refine seqQ_n ?_
        | refine seqQ_x ?_
        | refine blkQ_hit rfl ?_
        | refine rndQ_x ?_)
      replace hS := hS.droplast2 (D := [.own (.slice AK ks.length capK) 9 1 ks.length (strs ks), tabC Tp2 q ⟨sysP, rows1, ⟨sysL, ls1.map recordE, false⟩⟩ fp4]) (by repeat (first | exact Pulls.nil | (apply Pulls.cons; focus (repeat (first | exact Pull.here | apply Pull.there)))))
      clear hcm1 hst1 hwf1 hsm1 hrow
      refine WC.loop (σ := Nat) [0, 7, 9] (fun i => [(11, .int .i64 (i : Int))]) (fun i w => i ≤ texts.length ∧ St w0 [] w [.own (.slice AK ks.length capK) 9 1 ks.length (strs ks), tabC Tp2 q ⟨sysP, rows1, ⟨sysL, ls1.map recordE, false⟩⟩ fp4] [⟨w0, Old w0⟩])
        (fun i => texts.length - i) 0 ⟨Nat.zero_le _, hS⟩ ⟨rfl, trivial⟩ ?_
      clear hS
      rintro i g2 w ⟨hi, hS⟩
      show WC _ _ _ (lf _ [(11, .int .i64 (i : Int))] _ _) _ _
      by_cases hlt : i < texts.length
      · have hik : i < ks.length := by omega
        obtain ⟨x, hx, hxd, hxk⟩ := hpi.keys i hlt
        have hxk : ks[i] = x.key := by rw [List.getElem?_eq_getElem hik] at hxk; exact Option.some.inj hxk
        have hfx : findB l ks[i] = some x := by rw [hxk]; exact find_of hb2.knd hx
        have hgv : blgetV l ks[i] = .tuple #[str texts[i], .int .i64 0] := by unfold blgetV; rw [hfx]; dsimp only; rw [hxd]
        obtain ⟨rb, ro, es, rfl, hF, hrr, hes⟩ := h0.at_ hlt
        have hes : es = [str texts[i]] := hes
        subst hes
        have hrr : w0.rangeAt rb (ro + i * 1) [str texts[i]] := hrr
        have hki : (strs ks)[i * 1]? = some (str ks[i]) := by rw [Nat.mul_one, strs_at hik]
        obtain ⟨kg, ko, rfl⟩ := hS.own_addr (A := AK) (n := ks.length) (by repeat (first | exact List.Mem.head _ | apply List.Mem.tail)) (by omega)
        generalize hti : texts[i] = ti at *
        generalize hkie : ks[i] = ki at *
        clear hxk hfx hx hxd
        repeat' (first
          | (show WL _ _ _ _ _ _ _; first
            | refine WL.pure rfl rfl rfl rfl ?_
            | refine WL.nil ?_
            | refine WL.add rfl rfl rfl (by omega) rfl rfl rfl ?_
            | (refine WL.load hS rfl rfl (LdOk.snap0 hF hrr (by repeat (first | exact List.Mem.head _ | apply List.Mem.tail)) rfl) rfl rfl rfl ?_)
            | refine WL.index rfl rfl rfl rfl (by first | with_reducible assumption | omega) rfl rfl rfl rfl ?_
            | ((fail_if_success (refine WL.wanted rfl ?_)); refine WL.guard rfl rfl rfl (fun h => ?_) (fun h => ?_) <;> (try simp only [Classical.not_not, Bool.not_eq_true', Bool.not_eq_false', Bool.not_eq_eq_eq_not, Bool.not_true, Bool.not_false, beq_iff_eq, beq_eq_false_iff_ne, ne_eq, decide_eq_decide, decide_eq_true_eq, decide_eq_false_iff_not, Bool.and_eq_true, Bool.or_eq_true, Bool.and_eq_false_iff, Bool.or_eq_false_iff] at h) <;> (try (exfalso; first | omega | contradiction))))
          | (show WC _ _ _ _ _ _; first
            | refine WC.seq ?_
            | refine WC.region ?_
            | refine WC.block ?_
            | refine WC.skip ?_
            | (show WC _ _ (Code.region _ (List.toArray [_, _, _, _, _, _, _, _, _, _, _, _]) true) _ _ _; refine WC.drawL [tabC Tp2 q ⟨sysP, rows1, ⟨sysL, ls1.map recordE, false⟩⟩ fp4] hS (by repeat (first | exact Pulls.nil | (apply Pulls.cons; focus (repeat (first | exact Pull.here | apply Pull.there))))) [0,2,3,4,5,7,8,9,10,11] [0,2,3,4,5,1,6,7,8,9,10,11] (by kernel_rfl) (by kernel_rfl) ?_; clear hS; intro w hS hM)
            | refine WC.condF rfl (by decide) ?_
            | refine WC.condT rfl (decide_eq_true (by first | with_reducible assumption | omega)) ?_)
          | (show WD _ _ _ _ _ _ _ _ _; first
            | refine WD.pure rfl rfl rfl rfl rfl ?_
            | refine WD.nil ?_
            | (refine WD.load rfl rfl (LdOk.ownAt (by repeat (first | exact List.Mem.head _ | apply List.Mem.tail)) rfl ⟨_, rfl⟩ hki rfl) rfl rfl rfl rfl ?_)
            | (refine WD.callG rfl rfl (begin_c _) rfl rfl rfl rfl rfl ?_; rintro v w ⟨hu, B2, fb5, rfl, hn⟩; have hS := hS.new hu hn; clear hu hn; have hM := hM.new hS; refine ⟨hM.ss hS, ?_⟩)
            | (refine WD.callL (D := [bchC B2 (some ⟨Tp2, 0, none⟩) [] fb5, tabC Tp2 q ⟨sysP, rows1, ⟨sysL, ls1.map recordE, false⟩⟩ fp4]) hS (by repeat (first | exact Pulls.nil | (apply Pulls.cons; focus (repeat (first | exact Pull.here | apply Pull.there))))) (.refl _ _) rfl rfl (fun hI => blget_c (l := l) (K := texts.length) ki hI hb2 (by omega)) rfl rfl rfl rfl rfl ?_; rintro v w ⟨rfl, hmu⟩; rw [hgv]; refine ⟨_, hmu, fun hS hM => ?_⟩; clear hmu)
            | refine WD.index rfl rfl rfl rfl (by first | with_reducible assumption | omega) rfl rfl rfl rfl rfl ?_)
          | refine seqQ_n ?_
          | refine blkQ_n ?_)
        exact rndQ_n (i + 1) ⟨by omega, hS.droplast2 (by repeat (first | exact Pulls.nil | (apply Pulls.cons; focus (repeat (first | exact Pull.here | apply Pull.there)))))⟩ (by show texts.length - (i + 1) < texts.length - i; omega) ⟨vint (by omega), trivial⟩ ⟨rfl, rfl, rfl, trivial⟩
      · clear hpi
        repeat' (first
          | (show WL _ _ _ _ _ _ _; first
            | refine WL.pure rfl rfl rfl rfl ?_
            | refine WL.nil ?_)
          | (show WC _ _ _ _ _ _; first
            | refine WC.seq ?_
            | refine WC.region ?_
            | refine WC.exit ?_
            | refine WC.ret ?_
            | refine WC.condF rfl (decide_eq_false (by first | with_reducible assumption | omega)) ?_)
          | refine seqQ_n ?_
          | refine seqQ_x ?_
          | refine blkQ_hit rfl ?_
          | refine rndQ_x ?_)
        exact fin1r rfl rfl ⟨hS.upd, rfl⟩
  · repeat' (first
      | (show WL _ _ _ _ _ _ _; first
        | refine WL.pure rfl rfl rfl rfl ?_
        | refine WL.nil ?_
        | (refine WL.callG rfl rfl (dnew_c _) rfl rfl rfl ?_; rintro v w ⟨hu, q, mb, lb, rfl, hn⟩; replace hS := hS.new hu hn; clear hu hn)
        | (refine WL.callL (D := [dkC q mb lb Dk0]) hS (by repeat (first | exact Pulls.nil | (apply Pulls.cons; focus (repeat (first | exact Pull.here | apply Pull.there))))) rfl rfl (fun hI => topenFirst_c hI) rfl rfl rfl ?_; rintro v w ⟨Tp, fp, rfl, hmu⟩ hS; replace hS := hS _ hmu; clear hmu)
        | (refine WL.calls hS rfl rfl (blawake_c _ (hp.at hS)) rfl rfl rfl ?_; rintro v w rfl hS))
      | (show WC _ _ _ _ _ _; first
        | refine WC.seq ?_
        | refine WC.region ?_
        | refine WC.ret ?_
        | refine WC.condT rfl (decide_eq_true (by first | with_reducible assumption | omega)) ?_)
      | refine seqQ_n ?_
      | refine seqQ_r ?_)
    exact fin1r rfl rfl ⟨hS.upd, vbool (by simp)⟩
end Go.Proofs.YtlddmenpafcaiaaGreatDoor

/- What is proved: the key of BlobLasts: with the table laid, the law answers true. Conditions: the statement's own bound on the bulk. -/
set_option linter.unusedSimpArgs false
set_option linter.unusedVariables false
namespace Go.Proofs.YtlddmenpafcaiaaGreatDoor
open Go Go.J Go.RowKit

set_option maxRecDepth 100000 in
theorem pow_blobLasts (W : World) (h : laidMet Tryz.prog Rows.blobLastsUptoRow.laid W) : powT W := by
  obtain ⟨a, b, r, he⟩ : ∃ a b r, Rows.blobLastsUptoRow.laid = a :: b :: ("internal/strconv.uint64pow10", Lib.tabData .u64 Lib.pow10Tab) :: r := ⟨_, _, _, rfl⟩
  rw [he] at h
  have h1 := laidMet.tail (laidMet.tail h)
  exact Lib.tabIs_of_head (g := 2) (t := 195) (e := 140) (n := 20) (by kernel_rfl) (by kernel_rfl) (by kernel_rfl) (by kernel_rfl) (by kernel_rfl) (by kernel_rfl) h1
theorem blobLasts.key_blobLasts (W : World) (hL : laidMet Tryz.prog Rows.blobLastsUptoRow.laid W) (v0 : Value) (y0 : List (List UInt8)) (b0 : Nat) (h0 : ASl cStr W v0 y0) (q0 : QL QStr y0 b0) (hb : b0 ≤ 1048576) :
    Cal Tryz.prog 7 [v0] W (fun v W' => Upd [] W W' ∧ v = .bool true) := by
  obtain ⟨A0, c0, rfl, _, h0⟩ := h0
  have := ql_strsB q0
  exact blobLasts_c y0 h0 (by omega) (pow_blobLasts W hL)
end Go.Proofs.YtlddmenpafcaiaaGreatDoor
