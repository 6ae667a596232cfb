/- What is proved: contracts and plain facts that the law leans on (texts put together). Conditions: as each names them. -/
import Derived.Test.YtlddmenpafcaiaaGreatDoorM4
import Derived.Lib.LaidTab
import Derived.Stop.LaidErr
/- What is proved: the batch that the laws on contents begin with, and that they are awake. Conditions: the library's table of powers laid. -/
set_option linter.unusedSimpArgs false
set_option linter.unusedVariables false
namespace Go.Proofs.YtlddmenpafcaiaaGreatDoor
open Go Go.J Go.RowKit
open Go.Lib (decDigits)

theorem BlobIs.nil : BlobIs [] [] [] 0 := ⟨by simp, by simp, by simp, fun k h => (by cases h), by simp, by simp, by simp, Nat.le_refl _, by simp, by simp, by simp⟩
set_option maxHeartbeats 4000000 in
set_option maxRecDepth 100000 in
theorem blmade_c (w0 : World) : Cal Tryz.prog 8 [] w0 (fun v w' => ∃ B Tp q fb fp, v = .pointer (some ⟨B, 0, none⟩) ∧ MutL w0 w' [] [bchC B (some ⟨Tp, 0, none⟩) [] fb, tabC Tp q ⟨sysP, [], ⟨sysL, [], false⟩⟩ fp]) := by
  refine Cal.mkL (D := []) ⟨by simp, by simp, .nil⟩ (by kernel_rfl) Tryz.func8 rfl rfl fun hS => ?_
  repeat' (first
    | (show WL _ _ _ _ _ _ _; first
      | refine WL.pure rfl rfl rfl rfl ?_
      | refine WL.nil ?_
      | (refine WL.callG rfl rfl (dnew_c _) rfl rfl rfl ?_; rintro v w ⟨hu, q, mb, lb, rfl, hn⟩; replace hS := hS.new hu hn; clear hu hn)
      | (refine WL.callL (D := [dkC q mb lb Dk0]) hS (by repeat (first | exact Pulls.nil | (apply Pulls.cons; focus (repeat (first | exact Pull.here | apply Pull.there))))) rfl rfl (fun hI => topenFirst_c hI) rfl rfl rfl ?_; rintro v w ⟨Tp, fp, rfl, hmu⟩ hS; replace hS := hS _ hmu; clear hmu)
      | (refine WL.callG rfl rfl (begin_c _) rfl rfl rfl ?_; rintro v w ⟨hu, B, fb, rfl, hn⟩; replace hS := hS.new hu hn; clear hu hn))
    | (show WC _ _ _ _ _ _; first
      | refine WC.seq ?_
      | refine WC.region ?_
      | refine WC.skip ?_
      | refine WC.ret ?_
      | refine WC.condF rfl (by decide) ?_)
    | refine seqQ_n ?_)
  exact fin1r rfl rfl ⟨_, _, _, _, _, rfl, hS.mutLp (by repeat (first | exact Pulls.nil | (apply Pulls.cons; focus (repeat (first | exact Pull.here | apply Pull.there)))))⟩
def keyA : List UInt8 := [98, 47, 52, 51, 47, 48]
theorem keyA_is : keyB 67 0 = keyA := by
  unfold keyB
  rw [Lib.decDigits, dif_pos (by decide)]
  rfl
theorem low_a : lowE [97] = 67 := by kernel_rfl
theorem putA1 : putB [] [97] = ([⟨67, 0, 1, [97]⟩], keyA) := by
  rw [putB_new (by simp), low_a]
  have h : freeN (numsB [] 67) = 0 := by decide
  rw [h, keyA_is]
  rfl
theorem putA2 : putB [⟨67, 0, 1, [97]⟩] [97] = ([⟨67, 0, 2, [97]⟩], keyA) := by
  rw [putB_old (x := ⟨67, 0, 1, [97]⟩) (by simp) (by simp) rfl]
  have h : One.key ⟨67, 0, 1, [97]⟩ = keyA := keyA_is
  rw [h]
  unfold updB
  rw [List.map_singleton, if_pos h]
theorem getA : findB [⟨67, 0, 2, [97]⟩] keyA = some ⟨67, 0, 2, [97]⟩ := by
  unfold findB
  rw [List.find?_cons_of_pos]
  exact decide_eq_true keyA_is
set_option maxHeartbeats 8000000 in
set_option maxRecDepth 100000 in
theorem blawake_c (w0 : World) (ht : powT w0) : Cal Tryz.prog 9 [] w0 (fun v w' => Upd [] w0 w' ∧ v = .bool true) := by
  refine Cal.mk' (by kernel_rfl) Tryz.func9 rfl rfl fun hS => ?_
  have hp := PowI.of ht
  have hgv : blgetV [⟨67, 0, 2, [97]⟩] keyA = .tuple #[str [97], .int .i64 0] := by unfold blgetV; rw [getA]
  have hrf : refsB [⟨67, 0, 2, [97]⟩] keyA = 2 := by unfold refsB; rw [getA]
  repeat' (first
    | (show WL _ _ _ _ _ _ _; first
      | refine WL.pure rfl rfl rfl rfl ?_
      | refine WL.nil ?_
      | (refine WL.callL (D := []) hS .nil rfl rfl (fun hI => blmade_c _) rfl rfl rfl ?_; rintro v w ⟨B, Tp, q, fb, fp, rfl, hmu⟩ hS; replace hS := hS _ hmu; clear hmu)
      | (refine WL.callL (D := [bchC B (some ⟨Tp, 0, none⟩) [] fb, tabC Tp q ⟨sysP, [], ⟨sysL, [], false⟩⟩ fp]) hS (by repeat (first | exact Pulls.nil | (apply Pulls.cons; focus (repeat (first | exact Pull.here | apply Pull.there))))) rfl rfl (fun hI => blput_c (l := []) (K := 0) [97] hI (hp.pull hS (by repeat (first | exact Pulls.nil | (apply Pulls.cons; focus (repeat (first | exact Pull.here | apply Pull.there)))))) BlobIs.nil (by decide) (by decide) (by decide) (by decide)) rfl rfl rfl ?_; rintro v w ⟨rfl, r1, fb1, _, _, hb1, hmu⟩ hS; rw [putA1] at hb1 hmu ⊢; dsimp only at hb1 hmu ⊢; have hm1 := note_len [] ⟨keyA, valB r1 [97], false⟩; generalize noteE [] ⟨keyA, valB r1 [97], false⟩ = m1 at hb1 hmu hm1; replace hS := hS _ hmu; clear hmu)
      | (refine WL.callL (D := [bchC B (some ⟨Tp, 0, none⟩) m1 fb1, tabC Tp q ⟨sysP, [], ⟨sysL, [], false⟩⟩ fp]) hS (by repeat (first | exact Pulls.nil | (apply Pulls.cons; focus (repeat (first | exact Pull.here | apply Pull.there))))) rfl rfl (fun hI => blput_c (l := [⟨67, 0, 1, [97]⟩]) (K := 1) [97] hI (hp.pull hS (by repeat (first | exact Pulls.nil | (apply Pulls.cons; focus (repeat (first | exact Pull.here | apply Pull.there)))))) hb1 (by decide) (by simp at hm1; omega) (by decide) (by decide)) rfl rfl rfl ?_; rintro v w ⟨rfl, r2, fb2, _, _, hb2, hmu⟩ hS; rw [putA2] at hb2 hmu ⊢; dsimp only at hb2 hmu ⊢; generalize noteE m1 ⟨keyA, valB r2 [97], false⟩ = m2 at hb2 hmu; replace hS := hS _ hmu; clear hmu)
      | (refine WL.callL (D := [bchC B (some ⟨Tp, 0, none⟩) m2 fb2, tabC Tp q ⟨sysP, [], ⟨sysL, [], false⟩⟩ fp]) hS (by repeat (first | exact Pulls.nil | (apply Pulls.cons; focus (repeat (first | exact Pull.here | apply Pull.there))))) rfl rfl (fun hI => blget_c (l := [⟨67, 0, 2, [97]⟩]) (K := 2) keyA hI hb2 (by decide)) rfl rfl rfl ?_; rintro v w ⟨rfl, hmu⟩ hS; rw [hgv]; replace hS := hS _ hmu; clear hmu)
      | (refine WL.callL (D := [bchC B (some ⟨Tp, 0, none⟩) m2 fb2, tabC Tp q ⟨sysP, [], ⟨sysL, [], false⟩⟩ fp]) hS (by repeat (first | exact Pulls.nil | (apply Pulls.cons; focus (repeat (first | exact Pull.here | apply Pull.there))))) rfl rfl (fun hI => blrefs_c (l := [⟨67, 0, 2, [97]⟩]) (K := 2) keyA hI hb2 (by decide)) rfl rfl rfl ?_; rintro v w ⟨rfl, hmu⟩ hS; rw [hrf]; replace hS := hS _ hmu; clear hmu))
    | (show WC _ _ _ _ _ _; first
      | refine WC.seq ?_
      | refine WC.region ?_
      | refine WC.skip ?_
      | refine WC.ret ?_
      | refine WC.condF rfl (by with_reducible rfl) ?_)
    | refine seqQ_n ?_)
  exact fin1r rfl rfl ⟨hS.upd, vbool (by decide)⟩
end Go.Proofs.YtlddmenpafcaiaaGreatDoor

/- What is proved: how the laws' arguments read. Conditions: none. -/
set_option linter.unusedSimpArgs false
set_option linter.unusedVariables false
namespace Go.Proofs.YtlddmenpafcaiaaGreatDoor
open Go Go.J Go.RowKit

theorem arg_strs : Arg Tryz.prog 22 (ASl cStr) (QL QStr) := Arg.slice Tryz.underlying22 (Opens.slice Tryz.underlying22 (by kernel_rfl) (by decide) (Opens.str Tryz.underlying9))
theorem ql_strsB {xs : List (List UInt8)} {b : Nat} (h : QL QStr xs b) : (xs.map List.length).sum + xs.length + 1 ≤ b := by
  have h1 := QL_sum (f := fun s : List UInt8 => s.length + 1) (fun a b (h : a.length + 1 ≤ b) => h) h
  have h2 : ∀ l : List (List UInt8), (l.map fun s : List UInt8 => s.length + 1).sum = (l.map List.length).sum + l.length := by
    intro l
    induction l with
    | nil => rfl
    | cons a l ih => simp only [List.map_cons, List.sum_cons, List.length_cons, ih]; omega
  rw [h2] at h1
  exact h1
theorem mem_le_sumB : ∀ (l : List (List UInt8)) (s : List UInt8), s ∈ l → s.length ≤ (l.map List.length).sum
  | x :: l, s, h => by
    simp only [List.map_cons, List.sum_cons]
    rcases List.mem_cons.1 h with rfl | h
    · omega
    · have := mem_le_sumB l s h; omega
end Go.Proofs.YtlddmenpafcaiaaGreatDoor

/- What is proved: the law BlobKeys answers true. Conditions: the statement's own bound on the bulk; the library's table of powers laid. -/
set_option linter.unusedSimpArgs false
set_option linter.unusedVariables false
namespace Go.Proofs.YtlddmenpafcaiaaGreatDoor
open Go Go.J Go.RowKit
open Go.Lib (decDigits)

theorem dig_cell (n : Nat) : IntKind.u8.wrap (48 + ((n : Int) % 10)) = (((UInt8.ofNat (48 + n % 10)).toNat : Nat) : Int) := by
  rw [ofNat_nat (by omega), IntWalk.u8_in _ (by omega)]; omega
set_option maxHeartbeats 8000000 in
set_option maxRecDepth 100000 in
theorem decimal_c : ∀ (m n : Nat) (w0 : World), n ≤ m → n ≤ 1099511627776 → Cal Tryz.prog 12 [.int .i64 (n : Int)] w0 (fun v w' => Upd [] w0 w' ∧ v = str (Lib.decDigits n))
  | m, n, w0, hm, hb => by
    refine Cal.mk' (by kernel_rfl) Tryz.func12 rfl rfl fun hS => ?_
    have hcell := dig_cell n
    generalize hch : UInt8.ofNat (48 + n % 10) = ch at *
    by_cases h : n < 10
    · have hE : Lib.decDigits n = [ch] := by rw [decDigits_small h, ← hch, Nat.mod_eq_of_lt h]
      rw [hE]
      clear hch hE
      repeat' (first
        | (show WL _ _ _ _ _ _ _; first
          | refine WL.pure rfl rfl rfl rfl ?_
          | refine WL.nil ?_
          | refine WL.add rfl rfl rfl (by omega) rfl rfl rfl ?_
          | refine WL.rem rfl rfl rfl (by omega) (by omega) rfl rfl rfl ?_
          | refine WL.b2sBox (s := [ch]) hS rfl rfl rfl rfl (by repeat (first | exact List.Mem.head _ | apply List.Mem.tail)) (congrArg (fun x => [Value.int .u8 x]) hcell) rfl (by decide) rfl rfl rfl ?_
          | (refine WL.slit hS rfl rfl rfl rfl rfl ?_; intro w b hS))
        | (show WC _ _ _ _ _ _; first
          | refine WC.seq ?_
          | refine WC.region ?_
          | refine WC.skip ?_
          | refine WC.ret ?_
          | refine WC.condT rfl (decide_eq_true (by first | with_reducible assumption | omega)) ?_
          | refine WC.condF rfl (decide_eq_false (by first | with_reducible assumption | omega)) ?_)
        | refine seqQ_n ?_
        | refine seqQ_r ?_)
      exact fin1r rfl rfl ⟨hS.upd, rfl⟩
    · cases m with
      | zero => omega
      | succ m =>
        have ih := fun w0 => decimal_c m (n / 10) w0 (by omega) (by omega)
        have hE : Lib.decDigits n = Lib.decDigits (n / 10) ++ [ch] := by rw [decDigits_big h, hch]
        have hlen : (Lib.decDigits (n / 10)).length ≤ 13 := (decDigits_spec _ (n / 10) (Nat.le_refl _)).2.2.2 12 (by omega)
        have h1 : ([ch] : List UInt8).length = 1 := rfl
        have hq : (n : Int) / 10 = ((n / 10 : Nat) : Int) := by omega
        rw [hE]
        clear hch hE
        repeat' (first
          | (show WL _ _ _ _ _ _ _; first
            | refine WL.pure rfl rfl rfl rfl ?_
            | refine WL.nil ?_
            | refine WL.add rfl rfl rfl (by omega) rfl rfl rfl ?_
            | refine WL.rem rfl rfl rfl (by omega) (by omega) rfl rfl rfl ?_
            | refine WL.b2sBox (s := [ch]) hS rfl rfl rfl rfl (by repeat (first | exact List.Mem.head _ | apply List.Mem.tail)) (congrArg (fun x => [Value.int .u8 x]) hcell) rfl (by decide) rfl rfl rfl ?_
            | (refine WL.quo rfl rfl rfl (by omega) (by omega) (by omega) rfl rfl rfl ?_; rw [hq])
            | (refine WL.calls hS rfl rfl (ih _) rfl rfl rfl ?_; rintro v w rfl hS)
            | refine WL.cat rfl rfl rfl (by omega) rfl rfl rfl ?_
            | (refine WL.slit hS rfl rfl rfl rfl rfl ?_; intro w b hS))
          | (show WC _ _ _ _ _ _; first
            | refine WC.seq ?_
            | refine WC.region ?_
            | refine WC.skip ?_
            | refine WC.ret ?_
            | refine WC.condF rfl (decide_eq_false (by first | with_reducible assumption | omega)) ?_)
          | refine seqQ_n ?_)
        exact fin1r rfl rfl ⟨hS.upd, rfl⟩
theorem low_wrap (n : Nat) : IntKind.u32.wrap ((n : Int) % 256) = (n : Int) % 256 := by rw [IntKind.wrap_u32']; omega
theorem low_int (s : List UInt8) : ((sumE s : Nat) : Int) % 256 = ((lowE s : Nat) : Int) := by unfold lowE; omega
theorem hex_one : ∀ j, j < 16 → (hexD.take (j + 1)).drop j = [hexC j] := by decide
theorem put_low {l : List One} {m : Bch} {K : Nat} {rows : Rws} (hd : (l.map One.data).Nodup) (data : List UInt8) (h : BlobIs rows m (putB l data).1 K) : ∃ n, (putB l data).2 = keyB (lowE data) n ∧ n < K := by
  obtain ⟨y, hy, e1, e2⟩ := put_has hd data
  refine ⟨y.n, ?_, h.nums y hy⟩
  rw [← e2, ← e1, ← h.low y hy]
theorem cnt_fresh {ts : List (List UInt8)} {d : List UInt8} {i : Nat} (h : d ∉ ts.take i) : cntB ts d (lowE d) i = ((firsts (ts.take i)).filter fun t => decide (lowE t = lowE d)).length := by
  unfold cntB
  congr 1
  refine List.filter_congr fun t ht => ?_
  have : t ≠ d := fun e => h (by rw [← e]; exact (mem_firsts _ _ rfl _).1 ht)
  simp [this]
theorem mem_take_next {ts : List (List UInt8)} {k : Nat} (h : k < ts.length) (a : List UInt8) : a ∈ ts.take (k + 1) ↔ a ∈ ts.take k ∨ a = ts[k] := by
  rw [List.take_succ_eq_append_getElem h, List.mem_append, List.mem_singleton]
set_option maxHeartbeats 64000000 in
set_option maxRecDepth 100000 in
theorem blobKeys_c (texts : List (List UInt8)) {A : Option Addr} {cap : Nat} {w0 : World} (h0 : SlAt cStr (Old w0) w0 A texts) (hz : (texts.map List.length).sum + texts.length ≤ 1048576) (ht : powT w0) :
    Cal Tryz.prog 3 [.slice A texts.length cap] w0 (fun v w' => Upd [] w0 w' ∧ v = .bool true) := by
  refine Cal.mk' (by kernel_rfl) Tryz.func3 rfl rfl fun hS => ?_
  have hp := PowI.of ht
  by_cases h150 : texts.length ≤ 120
  · repeat' (first
      | (show WL _ _ _ _ _ _ _; first
        | refine WL.pure rfl rfl rfl rfl ?_
        | refine WL.nil ?_
        | (refine WL.callL (D := []) hS .nil rfl rfl (fun hI => blmade_c _) rfl rfl rfl ?_; rintro v w ⟨B, Tp, q, fb, fp, rfl, hmu⟩ hS; replace hS := hS _ hmu; clear hmu)
        | (refine WL.calls hS rfl rfl (blawake_c _ (hp.at hS)) rfl rfl rfl ?_; rintro v w rfl hS))
      | (show WC _ _ _ _ _ _; first
        | refine WC.seq ?_
        | refine WC.region ?_
        | refine WC.block ?_
        | refine WC.skip ?_
        | refine WC.condF rfl (decide_eq_false (by first | with_reducible assumption | omega)) ?_)
      | refine seqQ_n ?_)
    replace hS := hS.droplast2 (D := [bchC B (some ⟨Tp, 0, none⟩) [] fb, tabC Tp q ⟨sysP, [], ⟨sysL, [], false⟩⟩ fp]) (by repeat (first | exact Pulls.nil | (apply Pulls.cons; focus (repeat (first | exact Pull.here | apply Pull.there)))))
    refine WC.loop (σ := Nat × List One × Bch × List Nat) [0, 3, 4] (fun (i, _) => [(5, .int .i64 (i : Int))])
      (fun (i, l, m, fb) w => (i ≤ texts.length ∧ PutsN (texts.take i) l ∧ BlobIs [] m l i ∧ m.length ≤ i) ∧ St w0 [] w [bchC B (some ⟨Tp, 0, none⟩) m fb, tabC Tp q ⟨sysP, [], ⟨sysL, [], false⟩⟩ fp] [⟨w0, Old w0⟩])
      (fun (i, _) => texts.length - i) (0, [], [], fb) ⟨⟨Nat.zero_le _, PutsN.nil, BlobIs.nil, Nat.le_refl _⟩, hS⟩ ⟨rfl, trivial⟩ ?_
    clear hS
    rintro ⟨i, l, m, fb⟩ g w ⟨⟨hi, hpn, hb, hml⟩, hS⟩
    show WC _ _ _ (lf _ [(5, .int .i64 (i : Int))] _ _) _ _
    by_cases hlt : i < texts.length
    · obtain ⟨rb, ro, es, rfl, hF, hri, hes⟩ := h0.at_ hlt
      have hes : es = [str texts[i]] := hes
      subst hes
      have hri : w0.rangeAt rb (ro + i * 1) [str texts[i]] := hri
      have hxl := mem_le_sumB texts texts[i] (List.getElem_mem hlt)
      have hpn2 := hpn.put hb.dnd texts[i]
      rw [← List.take_succ_eq_append_getElem hlt] at hpn2
      have hnl := fun v => note_len m ⟨(putB l texts[i]).2, v, false⟩
      have hplow := fun (m2 : Bch) (K2 : Nat) (hbl : BlobIs [] m2 (putB l texts[i]).1 K2) => put_low (m := m2) (K := K2) (rows := []) hb.dnd texts[i] hbl
      have hfresh := fun (h : texts[i] ∉ texts.take i) => hpn.fresh hb.low (data := texts[i]) h
      have hdnx := hb.dnd
      generalize hxi : texts[i] = x at *
      have hli := low_int x
      have hlw := low_wrap (sumE x)
      have hl256 := lowE_lt x
      clear hpn
      repeat' (first
        | (show WL _ _ _ _ _ _ _; first
          | refine WL.pure rfl rfl rfl rfl ?_
          | refine WL.nil ?_
          | (refine WL.load hS rfl rfl (LdOk.snap0 hF hri (by repeat (first | exact List.Mem.head _ | apply List.Mem.tail)) rfl) rfl rfl rfl ?_)
          | (refine WL.callL (D := [bchC B (some ⟨Tp, 0, none⟩) m fb, tabC Tp q ⟨sysP, [], ⟨sysL, [], false⟩⟩ fp]) hS (by repeat (first | exact Pulls.nil | (apply Pulls.cons; focus (repeat (first | exact Pull.here | apply Pull.there))))) rfl rfl (fun hI => blput_c (l := l) (K := i) x hI (hp.pull hS (by repeat (first | exact Pulls.nil | (apply Pulls.cons; focus (repeat (first | exact Pull.here | apply Pull.there)))))) hb (by omega) (by omega) (Nat.zero_le _) (by omega)) rfl rfl rfl ?_; rintro v w ⟨rfl, r1, fb1, hr1, hr2, hb1, hmu⟩ hS; replace hS := hS _ hmu; clear hmu)
          | (refine WL.calls hS rfl rfl (sum_c x _ (by omega)) rfl rfl rfl ?_; rintro v w rfl hS)
          | (refine WL.remK rfl rfl rfl (by omega) (by omega) hlw rfl rfl rfl ?_; rw [hli])
          | refine WL.conv64 rfl rfl rfl (by omega) rfl rfl rfl ?_
          | refine WL.index rfl rfl rfl rfl (by first | with_reducible assumption | omega) rfl rfl rfl rfl ?_)
        | (show WC _ _ _ _ _ _; first
          | refine WC.seq ?_
          | refine WC.region ?_
          | refine WC.block ?_
          | refine WC.skip ?_
          | refine WC.condT rfl (decide_eq_true (by first | with_reducible assumption | omega)) ?_)
        | refine seqQ_n ?_)
      obtain ⟨nn, hkey, hnn⟩ := hplow _ _ hb1
      have hnl2 := hnl (valB r1 x)
      obtain ⟨l2, hl2⟩ : ∃ l2, l2 = (putB l x).1 := ⟨_, rfl⟩
      obtain ⟨key, hky⟩ : ∃ key, key = (putB l x).2 := ⟨_, rfl⟩
      rw [← hl2] at hpn2 hb1
      rw [← hky] at hS hnl2 hfresh hkey hb1 ⊢
      generalize noteE m ⟨key, valB r1 x, false⟩ = m2 at *
      clear hplow hnl hb hl2 hky hdnx
      obtain ⟨low, hlow⟩ : ∃ low, low = lowE x := ⟨_, rfl⟩
      rw [← hlow] at hli hl256 hkey hfresh ⊢
      refine WC.loop (σ := Nat) [0, 3, 4, 5, 6, 7] (fun k => [(8, .int .i64 (cntB texts x low k : Int)), (9, .int .i64 (k : Int))])
        (fun k w => k ≤ i ∧ St w0 [] w [bchC B (some ⟨Tp, 0, none⟩) m2 fb1, tabC Tp q ⟨sysP, [], ⟨sysL, [], false⟩⟩ fp] [⟨w0, Old w0⟩])
        (fun k => i - k) 0 ⟨Nat.zero_le _, hS.droplast2 (by repeat (first | exact Pulls.nil | (apply Pulls.cons; focus (repeat (first | exact Pull.here | apply Pull.there)))))⟩ ⟨rfl, rfl, trivial⟩ ?_
      clear hS
      rintro k g2 w ⟨hk, hS⟩
      show WC _ _ _ (lf _ [(8, .int .i64 (cntB texts x low k : Int)), (9, .int .i64 (k : Int))] _ _) _ _
      by_cases hki : k < i
      · have hkt : k < texts.length := by omega
        obtain ⟨rb1, ro1, es, hA1, hF1, hrk, hes⟩ := h0.at_ hkt
        cases hA1
        have hes : es = [str texts[k]] := hes
        subst hes
        have hrk : w0.rangeAt rb (ro + k * 1) [str texts[k]] := hrk
        have hcs := cntB_succ (ts := texts) x low hkt
        have hcl := cntB_le texts x low k (by omega)
        have hyl := mem_le_sumB texts texts[k] (List.getElem_mem hkt)
        generalize hyk : texts[k] = y at *
        have hliy := low_int y
        have hlwy := low_wrap (sumE y)
        generalize hc : cntB texts x low k = c at *
        repeat' (first
          | (show WL _ _ _ _ _ _ _; first
            | refine WL.pure rfl rfl rfl rfl ?_
            | refine WL.nil ?_)
          | (show WC _ _ _ _ _ _; first
            | refine WC.seq ?_
            | refine WC.region ?_
            | refine WC.block ?_
            | refine WC.skip ?_
            | refine WC.condT rfl (decide_eq_true (by first | with_reducible assumption | omega)) ?_)
          | refine seqQ_n ?_)
        refine WC.loop (σ := Nat) [0, 3, 4, 5, 6, 7, 8, 9] (fun j => [(10, .bool (decide (y ∉ texts.take j))), (11, .int .i64 (j : Int))])
          (fun j w => j ≤ k ∧ St w0 [] w [bchC B (some ⟨Tp, 0, none⟩) m2 fb1, tabC Tp q ⟨sysP, [], ⟨sysL, [], false⟩⟩ fp] [⟨w0, Old w0⟩])
          (fun j => k - j) 0 ⟨Nat.zero_le _, hS⟩ ⟨vbool (by simp), rfl, trivial⟩ ?_
        clear hS
        rintro j g3 w ⟨hj, hS⟩
        show WC _ _ _ (lf _ [(10, .bool (decide (y ∉ texts.take j))), (11, .int .i64 (j : Int))] _ _) _ _
        by_cases hjk : j < k
        · have hjt : j < texts.length := by omega
          obtain ⟨rb2, ro2, es, hA2, hF2, hrj, hes⟩ := h0.at_ hjt
          cases hA2
          have hes : es = [str texts[j]] := hes
          subst hes
          have hrj : w0.rangeAt rb (ro + j * 1) [str texts[j]] := hrj
          have hmt := mem_take_next hjt y
          generalize texts[j] = z at *
          by_cases hin : y ∈ texts.take j
          · have hd1 : decide (y ∉ texts.take j) = false := by simp [hin]
            have hd2 : decide (y ∉ texts.take (j + 1)) = false := by simp [hmt, hin]
            rw [hd1]
            clear hmt
            repeat' (first
              | (show WL _ _ _ _ _ _ _; first
                | refine WL.pure rfl rfl rfl rfl ?_
                | refine WL.nil ?_
                | refine WL.add rfl rfl rfl (by omega) rfl rfl rfl ?_)
              | (show WC _ _ _ _ _ _; first
                | refine WC.seq ?_
                | refine WC.region ?_
                | refine WC.block ?_
                | refine WC.skip ?_
                | (show WC _ _ (Code.region _ (List.toArray [_, _, _, _, _, _, _, _, _, _, _, _, _]) true) _ _ _; refine WC.drawS hS [0, 1, 2, 3, 4, 5, 6, 7, 8, 9, 10, 11, 12] [0, 1, 2, 3, 4, 5, 6, 7, 8, 9, 10, 11, 12] (by kernel_rfl) (by kernel_rfl) ?_; clear hS; intro w hS hM)
                | refine WC.condT rfl (decide_eq_true (by first | with_reducible assumption | omega)) ?_)
              | (show WD _ _ _ _ _ _ _ _ _; first
                | refine WD.pure rfl rfl rfl rfl rfl ?_
                | refine WD.nil ?_
                | refine WD.pass rfl rfl rfl rfl ?_)
              | refine seqQ_n ?_
              | refine blkQ_n ?_)
            exact rndQ_n (j + 1) ⟨by omega, hS⟩ (by show k - (j + 1) < k - j; omega) ⟨vbool (by rw [hd2]), vint (by omega), trivial⟩ ⟨rfl, rfl, rfl, rfl, rfl, rfl, rfl, rfl, trivial⟩
          · have hd1 : decide (y ∉ texts.take j) = true := by simp [hin]
            have hd2 : decide (y ∉ texts.take (j + 1)) = decide (¬ z = y) := by
              rw [decide_eq_decide, hmt]
              exact ⟨fun h e => h (.inr e.symm), fun h hh => by rcases hh with hh | hh; exact hin hh; exact h hh.symm⟩
            rw [hd1]
            clear hmt
            repeat' (first
              | (show WL _ _ _ _ _ _ _; first
                | refine WL.pure rfl rfl rfl rfl ?_
                | refine WL.nil ?_
                | refine WL.add rfl rfl rfl (by omega) rfl rfl rfl ?_)
              | (show WC _ _ _ _ _ _; first
                | refine WC.seq ?_
                | refine WC.region ?_
                | refine WC.block ?_
                | refine WC.skip ?_
                | (show WC _ _ (Code.region _ (List.toArray [_, _, _, _, _, _, _, _, _, _, _, _, _]) true) _ _ _; refine WC.drawS hS [0, 1, 2, 3, 4, 5, 6, 7, 8, 9, 10, 11, 12] [0, 1, 2, 3, 4, 5, 6, 7, 8, 9, 10, 11, 12] (by kernel_rfl) (by kernel_rfl) ?_; clear hS; intro w hS hM)
                | refine WC.condT rfl (decide_eq_true (by first | with_reducible assumption | omega)) ?_)
              | (show WD _ _ _ _ _ _ _ _ _; first
                | refine WD.pure rfl rfl rfl rfl rfl ?_
                | refine WD.nil ?_
                | (refine WD.load rfl rfl (LdOk.snap0 hF hrj (by repeat (first | exact List.Mem.head _ | apply List.Mem.tail)) rfl) rfl rfl rfl rfl ?_)
                | (refine WD.load rfl rfl (LdOk.snap0 hF hrk (by repeat (first | exact List.Mem.head _ | apply List.Mem.tail)) rfl) rfl rfl rfl rfl ?_)
                | refine WD.index rfl rfl rfl rfl (by first | with_reducible assumption | omega) rfl rfl rfl rfl rfl ?_)
              | refine seqQ_n ?_
              | refine blkQ_n ?_)
            exact rndQ_n (j + 1) ⟨by omega, hS⟩ (by show k - (j + 1) < k - j; omega) ⟨vbool (by rw [hd2]), vint (by omega), trivial⟩ ⟨rfl, rfl, rfl, rfl, rfl, rfl, rfl, rfl, trivial⟩
        · have hje : j = k := by omega
          subst hje
          by_cases hin : y ∈ texts.take j
          · have hd1 : decide (y ∉ texts.take j) = false := by simp [hin]
            rw [if_neg (fun h => h.1 hin)] at hcs
            rw [hd1]
            repeat' (first
              | (show WL _ _ _ _ _ _ _; first
                | refine WL.pure rfl rfl rfl rfl ?_
                | refine WL.nil ?_
                | refine WL.add rfl rfl rfl (by omega) rfl rfl rfl ?_)
              | (show WC _ _ _ _ _ _; first
                | refine WC.seq ?_
                | refine WC.region ?_
                | refine WC.skip ?_
                | refine WC.exit ?_
                | (show WC _ _ (Code.region _ (List.toArray [_, _, _, _, _, _, _, _, _, _, _, _, _, _, _, _, _, _, _, _, _, _, _]) true) _ _ _; refine WC.drawS hS [0,1,2,3,4,5,6,7,8,9,10,11,12,13,14,15,16,18,19,20,21,22] [0,1,2,3,4,5,6,7,8,9,10,11,12,13,14,15,16,20,17,18,19,21,22] (by kernel_rfl) (by kernel_rfl) ?_; clear hS; intro w hS hM)
                | refine WC.condF rfl (by with_reducible rfl) ?_
                | refine WC.condF rfl (decide_eq_false (by first | with_reducible assumption | omega)) ?_)
              | (show WD _ _ _ _ _ _ _ _ _; first
                | refine WD.pure rfl rfl rfl rfl rfl ?_
                | refine WD.nil ?_
                | refine WD.pass rfl rfl rfl rfl ?_
                | refine WD.skip rfl rfl rfl rfl rfl (hM.ss hS) ?_)
              | refine seqQ_n ?_
              | refine blkQ_n ?_
              | refine seqQ_x ?_
              | refine blkQ_hit rfl ?_
              | refine rndQ_x ?_)
            exact rndQ_n (j + 1) ⟨by omega, hS⟩ (by show i - (j + 1) < i - j; omega) ⟨vint (by omega), vint (by omega), trivial⟩ ⟨rfl, rfl, rfl, rfl, rfl, rfl, trivial⟩
          · have hd1 : decide (y ∉ texts.take j) = true := by simp [hin]
            rw [hd1]
            by_cases hyx : y = x
            · rw [if_neg (fun h => h.2.1 hyx)] at hcs
              repeat' (first
                | (show WL _ _ _ _ _ _ _; first
                  | refine WL.pure rfl rfl rfl rfl ?_
                  | refine WL.nil ?_
                  | refine WL.add rfl rfl rfl (by omega) rfl rfl rfl ?_)
                | (show WC _ _ _ _ _ _; first
                  | refine WC.seq ?_
                  | refine WC.region ?_
                  | refine WC.skip ?_
                  | refine WC.exit ?_
                  | (show WC _ _ (Code.region _ (List.toArray [_, _, _, _, _, _, _, _, _, _, _, _, _, _, _, _, _, _, _, _, _, _, _]) true) _ _ _; refine WC.drawS hS [0,1,2,3,4,5,6,7,8,9,10,11,12,13,14,15,16,18,19,20,21,22] [0,1,2,3,4,5,6,7,8,9,10,11,12,13,14,15,16,20,17,18,19,21,22] (by kernel_rfl) (by kernel_rfl) ?_; clear hS; intro w hS hM)
                  | refine WC.condF rfl (by with_reducible rfl) ?_
                  | refine WC.condF rfl (decide_eq_false (by first | with_reducible assumption | omega)) ?_)
                | (show WD _ _ _ _ _ _ _ _ _; first
                  | refine WD.pure rfl rfl rfl rfl rfl ?_
                  | refine WD.nil ?_
                  | (refine WD.load rfl rfl (LdOk.snap0 hF hrk (by repeat (first | exact List.Mem.head _ | apply List.Mem.tail)) rfl) rfl rfl rfl rfl ?_)
                  | (refine WD.load rfl rfl (LdOk.snap0 hF hri (by repeat (first | exact List.Mem.head _ | apply List.Mem.tail)) rfl) rfl rfl rfl rfl ?_)
                  | refine WD.index rfl rfl rfl rfl (by first | with_reducible assumption | omega) rfl rfl rfl rfl rfl ?_
                  | refine WD.pass rfl rfl rfl rfl ?_
                  | refine WD.skip rfl rfl rfl rfl rfl (hM.ss hS) ?_
                  | ((fail_if_success (refine WD.wanted rfl ?_)); refine WD.guard rfl rfl rfl (fun h => ?_) (fun h => ?_) <;> (try simp only [Classical.not_not, Bool.not_eq_true', Bool.not_eq_false', Bool.not_eq_eq_eq_not, Bool.not_true, Bool.not_false, beq_iff_eq, beq_eq_false_iff_ne, ne_eq, decide_eq_decide, decide_eq_true_eq, decide_eq_false_iff_not, Bool.and_eq_true, Bool.or_eq_true, Bool.and_eq_false_iff, Bool.or_eq_false_iff] at h) <;> (try (exfalso; first | omega | contradiction))))
                | refine seqQ_n ?_
                | refine blkQ_n ?_
                | refine seqQ_x ?_
                | refine blkQ_hit rfl ?_
                | refine rndQ_x ?_)
              exact rndQ_n (j + 1) ⟨by omega, hS⟩ (by show i - (j + 1) < i - j; omega) ⟨vint (by omega), vint (by omega), trivial⟩ ⟨rfl, rfl, rfl, rfl, rfl, rfl, trivial⟩
            · by_cases hyl2 : lowE y = low
              · rw [if_pos ⟨hin, hyx, hyl2⟩] at hcs
                repeat' (first
                  | (show WL _ _ _ _ _ _ _; first
                    | refine WL.pure rfl rfl rfl rfl ?_
                    | refine WL.nil ?_
                    | refine WL.add rfl rfl rfl (by omega) rfl rfl rfl ?_)
                  | (show WC _ _ _ _ _ _; first
                    | refine WC.seq ?_
                    | refine WC.region ?_
                    | refine WC.exit ?_
                    | (show WC _ _ (Code.region _ (List.toArray [_, _, _, _, _, _, _, _, _, _, _, _, _, _, _, _, _, _, _, _, _, _, _]) true) _ _ _; refine WC.drawS hS [0,1,2,3,4,5,6,7,8,9,10,11,12,13,14,15,16,18,19,20,21,22] [0,1,2,3,4,5,6,7,8,9,10,11,12,13,14,15,16,20,17,18,19,21,22] (by kernel_rfl) (by kernel_rfl) ?_; clear hS; intro w hS hM)
                    | refine WC.condT rfl (decide_eq_true (by first | with_reducible assumption | omega)) ?_
                    | refine WC.condF rfl (decide_eq_false (by first | with_reducible assumption | omega)) ?_)
                  | (show WD _ _ _ _ _ _ _ _ _; first
                    | refine WD.pure rfl rfl rfl rfl rfl ?_
                    | refine WD.nil ?_
                    | (refine WD.load rfl rfl (LdOk.snap0 hF hrk (by repeat (first | exact List.Mem.head _ | apply List.Mem.tail)) rfl) rfl rfl rfl rfl ?_)
                    | (refine WD.load rfl rfl (LdOk.snap0 hF hri (by repeat (first | exact List.Mem.head _ | apply List.Mem.tail)) rfl) rfl rfl rfl rfl ?_)
                    | (refine WD.calls hS hM rfl rfl (sum_c y _ (by omega)) rfl rfl rfl rfl rfl ?_; clear hS; rintro v w rfl hS)
                    | (refine WD.remK rfl rfl rfl (by omega) (by omega) hlwy rfl rfl rfl rfl ?_; rw [hliy, hyl2])
                    | refine WD.conv64 rfl rfl rfl (by omega) rfl rfl rfl rfl ?_
                    | refine WD.index rfl rfl rfl rfl (by first | with_reducible assumption | omega) rfl rfl rfl rfl rfl ?_
                    | ((fail_if_success (refine WD.wanted rfl ?_)); refine WD.guard rfl rfl rfl (fun h => ?_) (fun h => ?_) <;> (try simp only [Classical.not_not, Bool.not_eq_true', Bool.not_eq_false', Bool.not_eq_eq_eq_not, Bool.not_true, Bool.not_false, beq_iff_eq, beq_eq_false_iff_ne, ne_eq, decide_eq_decide, decide_eq_true_eq, decide_eq_false_iff_not, Bool.and_eq_true, Bool.or_eq_true, Bool.and_eq_false_iff, Bool.or_eq_false_iff] at h) <;> (try (exfalso; first | omega | contradiction))))
                  | refine seqQ_n ?_
                  | refine blkQ_n ?_
                  | refine seqQ_x ?_
                  | refine blkQ_hit rfl ?_
                  | refine rndQ_x ?_)
                exact rndQ_n (j + 1) ⟨by omega, hS⟩ (by show i - (j + 1) < i - j; omega) ⟨vint (by omega), vint (by omega), trivial⟩ ⟨rfl, rfl, rfl, rfl, rfl, rfl, trivial⟩
              · rw [if_neg (fun h => hyl2 h.2.2)] at hcs
                have hyl3 := lowE_lt y
                repeat' (first
                  | (show WL _ _ _ _ _ _ _; first
                    | refine WL.pure rfl rfl rfl rfl ?_
                    | refine WL.nil ?_
                    | refine WL.add rfl rfl rfl (by omega) rfl rfl rfl ?_)
                  | (show WC _ _ _ _ _ _; first
                    | refine WC.seq ?_
                    | refine WC.region ?_
                    | refine WC.skip ?_
                    | refine WC.exit ?_
                    | (show WC _ _ (Code.region _ (List.toArray [_, _, _, _, _, _, _, _, _, _, _, _, _, _, _, _, _, _, _, _, _, _, _]) true) _ _ _; refine WC.drawS hS [0,1,2,3,4,5,6,7,8,9,10,11,12,13,14,15,16,18,19,20,21,22] [0,1,2,3,4,5,6,7,8,9,10,11,12,13,14,15,16,20,17,18,19,21,22] (by kernel_rfl) (by kernel_rfl) ?_; clear hS; intro w hS hM)
                    | refine WC.condF rfl (decide_eq_false (by first | with_reducible assumption | omega)) ?_)
                  | (show WD _ _ _ _ _ _ _ _ _; first
                    | refine WD.pure rfl rfl rfl rfl rfl ?_
                    | refine WD.nil ?_
                    | (refine WD.load rfl rfl (LdOk.snap0 hF hrk (by repeat (first | exact List.Mem.head _ | apply List.Mem.tail)) rfl) rfl rfl rfl rfl ?_)
                    | (refine WD.load rfl rfl (LdOk.snap0 hF hri (by repeat (first | exact List.Mem.head _ | apply List.Mem.tail)) rfl) rfl rfl rfl rfl ?_)
                    | (refine WD.calls hS hM rfl rfl (sum_c y _ (by omega)) rfl rfl rfl rfl rfl ?_; clear hS; rintro v w rfl hS)
                    | (refine WD.remK rfl rfl rfl (by omega) (by omega) hlwy rfl rfl rfl rfl ?_; rw [hliy])
                    | refine WD.conv64 rfl rfl rfl (by omega) rfl rfl rfl rfl ?_
                    | refine WD.index rfl rfl rfl rfl (by first | with_reducible assumption | omega) rfl rfl rfl rfl rfl ?_
                    | ((fail_if_success (refine WD.wanted rfl ?_)); refine WD.guard rfl rfl rfl (fun h => ?_) (fun h => ?_) <;> (try simp only [Classical.not_not, Bool.not_eq_true', Bool.not_eq_false', Bool.not_eq_eq_eq_not, Bool.not_true, Bool.not_false, beq_iff_eq, beq_eq_false_iff_ne, ne_eq, decide_eq_decide, decide_eq_true_eq, decide_eq_false_iff_not, Bool.and_eq_true, Bool.or_eq_true, Bool.and_eq_false_iff, Bool.or_eq_false_iff] at h) <;> (try (exfalso; first | omega | contradiction))))
                  | refine seqQ_n ?_
                  | refine blkQ_n ?_
                  | refine seqQ_x ?_
                  | refine blkQ_hit rfl ?_
                  | refine rndQ_x ?_)
                exact rndQ_n (j + 1) ⟨by omega, hS⟩ (by show i - (j + 1) < i - j; omega) ⟨vint (by omega), vint (by omega), trivial⟩ ⟨rfl, rfl, rfl, rfl, rfl, rfl, trivial⟩
      · have hke : k = i := by omega
        subst hke
        have hcn := fun h => cnt_fresh (ts := texts) (d := x) (i := k) h
        rw [← hlow] at hcn
        have hcl := cntB_le texts x low k (by omega)
        have hx1 := hex_one (low / 16) (by omega)
        have hx2 := hex_one (low % 16) (by omega)
        obtain ⟨hd, hhd⟩ : ∃ hd : List UInt8, [98, 47] ++ [hexC (low / 16)] ++ [hexC (low % 16)] ++ [47] = hd := ⟨_, rfl⟩
        have hpre : preB low = hd := hhd
        have hdl : hd.length = 5 := by rw [← hpre]; rfl
        have hky : key = hd ++ decDigits nn := by rw [hkey, ← hpre]; rfl
        have hnn1 : 1 ≤ (decDigits nn).length := by
          have := decDigits_ne nn
          cases hd1 : decDigits nn with
          | nil => exact absurd hd1 this
          | cons a b => simp
        have hkl : key.length = 5 + (decDigits nn).length := by rw [hky, List.length_append, hdl]
        have htk : key.take hd.length = hd := by rw [hky, List.take_left]
        have hdn := dec_len (n := nn) (k := 12) (by omega)
        have hfr : x ∉ texts.take k → key = hd ++ decDigits (cntB texts x low k) := fun h => by
          rw [hfresh h, hcn h, ← hpre]; rfl
        clear hkey hfresh hcn hpre hky
        generalize cntB texts x low k = c at *
        have hdc := dec_len (n := c) (k := 12) (by omega)
        repeat' (first
          | (show WL _ _ _ _ _ _ _; first
            | refine WL.pure rfl rfl rfl rfl ?_
            | refine WL.nil ?_
            | (refine WL.highS rfl rfl rfl rfl (by omega) rfl rfl rfl ?_; rw [htk])
            | ((fail_if_success (refine WL.wanted rfl ?_)); refine WL.guard rfl rfl rfl (fun h => ?_) (fun h => ?_) <;> (try simp only [Classical.not_not, Bool.not_eq_true', Bool.not_eq_false', Bool.not_eq_eq_eq_not, Bool.not_true, Bool.not_false, beq_iff_eq, beq_eq_false_iff_ne, ne_eq, decide_eq_decide, decide_eq_true_eq, decide_eq_false_iff_not, Bool.and_eq_true, Bool.or_eq_true, Bool.and_eq_false_iff, Bool.or_eq_false_iff] at h) <;> (try (exfalso; first | omega | contradiction))))
          | (show WC _ _ _ _ _ _; first
            | refine WC.seq ?_
            | refine WC.region ?_
            | refine WC.block ?_
            | refine WC.skip ?_
            | refine WC.exit ?_
            | (show WC _ _ (Code.region _ (List.toArray [_, _, _, _, _, _, _, _, _, _, _, _, _, _, _, _, _, _]) true) _ _ _; refine WC.drawS hS [0, 1, 2, 3, 4, 5, 6, 7, 8, 9, 10, 11, 12, 13, 14, 15, 16, 17] [0, 1, 2, 3, 4, 5, 6, 7, 8, 9, 10, 11, 12, 13, 14, 15, 16, 17] (by kernel_rfl) (by kernel_rfl) ?_; clear hS; intro w hS hM)
            | refine WC.condF rfl (decide_eq_false (by first | with_reducible assumption | omega)) ?_
            | refine WC.condF rfl (by first | (simp; done) | (simp; omega)) ?_)
          | (show WD _ _ _ _ _ _ _ _ _; first
            | refine WD.pure rfl rfl rfl rfl rfl ?_
            | refine WD.nil ?_
            | refine WD.add rfl rfl rfl (by omega) rfl rfl rfl rfl ?_
            | (refine WD.quo rfl rfl rfl (by omega) (by omega) (by omega) rfl rfl rfl rfl ?_)
            | (refine WD.rem rfl rfl rfl (by omega) (by omega) rfl rfl rfl rfl ?_)
            | (refine WD.midS (s := hexD) (a := low / 16) (b := low / 16 + 1) rfl rfl rfl (vint (show _ = ((low / 16 : Nat) : Int) by omega)) (vint (show _ = ((low / 16 + 1 : Nat) : Int) by omega)) (by omega) (by show _ ≤ 16; omega) rfl rfl rfl rfl ?_; rw [hx1])
            | (refine WD.midS (s := hexD) (a := low % 16) (b := low % 16 + 1) rfl rfl rfl (vint (show _ = ((low % 16 : Nat) : Int) by omega)) (vint (show _ = ((low % 16 + 1 : Nat) : Int) by omega)) (by omega) (by show _ ≤ 16; omega) rfl rfl rfl rfl ?_; rw [hx2])
            | (refine WD.cat rfl rfl rfl (by first | (simp; done) | fail) rfl rfl rfl rfl ?_; rw [hhd])
            | (refine WD.cat rfl rfl rfl (by first | (simp; done) | fail) rfl rfl rfl rfl ?_))
          | refine seqQ_n ?_
          | refine seqQ_x ?_
          | refine blkQ_hit rfl ?_
          | refine rndQ_x ?_)
        refine WC.loop (σ := Nat) [0, 3, 4, 5, 6, 8, 12] (fun j => [(13, .bool (decide (x ∉ texts.take j))), (14, .int .i64 (j : Int))])
          (fun j w => j ≤ k ∧ St w0 [] w [bchC B (some ⟨Tp, 0, none⟩) m2 fb1, tabC Tp q ⟨sysP, [], ⟨sysL, [], false⟩⟩ fp] [⟨w0, Old w0⟩])
          (fun j => k - j) 0 ⟨Nat.zero_le _, hS⟩ ⟨vbool (by simp), rfl, trivial⟩ ?_
        clear hS
        rintro j g3 w ⟨hj, hS⟩
        show WC _ _ _ (lf _ [(13, .bool (decide (x ∉ texts.take j))), (14, .int .i64 (j : Int))] _ _) _ _
        by_cases hjk : j < k
        · have hjt : j < texts.length := by omega
          obtain ⟨rb2, ro2, es, hA2, hF2, hrj, hes⟩ := h0.at_ hjt
          cases hA2
          have hes : es = [str texts[j]] := hes
          subst hes
          have hrj : w0.rangeAt rb (ro + j * 1) [str texts[j]] := hrj
          have hmt := mem_take_next hjt x
          generalize texts[j] = z at *
          clear hfr
          by_cases hin : x ∈ texts.take j
          · have hd1 : decide (x ∉ texts.take j) = false := by simp [hin]
            have hd2 : decide (x ∉ texts.take (j + 1)) = false := by simp [hmt, hin]
            rw [hd1]
            clear hmt
            repeat' (first
              | (show WL _ _ _ _ _ _ _; first
                | refine WL.pure rfl rfl rfl rfl ?_
                | refine WL.nil ?_
                | refine WL.add rfl rfl rfl (by omega) rfl rfl rfl ?_)
              | (show WC _ _ _ _ _ _; first
                | refine WC.seq ?_
                | refine WC.region ?_
                | refine WC.block ?_
                | refine WC.skip ?_
                | (show WC _ _ (Code.region _ (List.toArray [_, _, _, _, _, _, _, _, _, _, _, _, _]) true) _ _ _; refine WC.drawS hS [0, 1, 2, 3, 4, 5, 6, 7, 8, 9, 10, 11, 12] [0, 1, 2, 3, 4, 5, 6, 7, 8, 9, 10, 11, 12] (by kernel_rfl) (by kernel_rfl) ?_; clear hS; intro w hS hM)
                | refine WC.condT rfl (decide_eq_true (by first | with_reducible assumption | omega)) ?_)
              | (show WD _ _ _ _ _ _ _ _ _; first
                | refine WD.pure rfl rfl rfl rfl rfl ?_
                | refine WD.nil ?_
                | refine WD.pass rfl rfl rfl rfl ?_)
              | refine seqQ_n ?_
              | refine blkQ_n ?_)
            exact rndQ_n (j + 1) ⟨by omega, hS⟩ (by show k - (j + 1) < k - j; omega) ⟨vbool (by rw [hd2]), vint (by omega), trivial⟩ ⟨rfl, rfl, rfl, rfl, rfl, rfl, rfl, trivial⟩
          · have hd1 : decide (x ∉ texts.take j) = true := by simp [hin]
            have hd2 : decide (x ∉ texts.take (j + 1)) = decide (¬ z = x) := by
              rw [decide_eq_decide, hmt]
              exact ⟨fun h e => h (.inr e.symm), fun h hh => by rcases hh with hh | hh; exact hin hh; exact h hh.symm⟩
            rw [hd1]
            clear hmt
            repeat' (first
              | (show WL _ _ _ _ _ _ _; first
                | refine WL.pure rfl rfl rfl rfl ?_
                | refine WL.nil ?_
                | refine WL.add rfl rfl rfl (by omega) rfl rfl rfl ?_)
              | (show WC _ _ _ _ _ _; first
                | refine WC.seq ?_
                | refine WC.region ?_
                | refine WC.block ?_
                | refine WC.skip ?_
                | (show WC _ _ (Code.region _ (List.toArray [_, _, _, _, _, _, _, _, _, _, _, _, _]) true) _ _ _; refine WC.drawS hS [0, 1, 2, 3, 4, 5, 6, 7, 8, 9, 10, 11, 12] [0, 1, 2, 3, 4, 5, 6, 7, 8, 9, 10, 11, 12] (by kernel_rfl) (by kernel_rfl) ?_; clear hS; intro w hS hM)
                | refine WC.condT rfl (decide_eq_true (by first | with_reducible assumption | omega)) ?_)
              | (show WD _ _ _ _ _ _ _ _ _; first
                | refine WD.pure rfl rfl rfl rfl rfl ?_
                | refine WD.nil ?_
                | (refine WD.load rfl rfl (LdOk.snap0 hF hrj (by repeat (first | exact List.Mem.head _ | apply List.Mem.tail)) rfl) rfl rfl rfl rfl ?_)
                | (refine WD.load rfl rfl (LdOk.snap0 hF hri (by repeat (first | exact List.Mem.head _ | apply List.Mem.tail)) rfl) rfl rfl rfl rfl ?_)
                | refine WD.index rfl rfl rfl rfl (by first | with_reducible assumption | omega) rfl rfl rfl rfl rfl ?_)
              | refine seqQ_n ?_
              | refine blkQ_n ?_)
            exact rndQ_n (j + 1) ⟨by omega, hS⟩ (by show k - (j + 1) < k - j; omega) ⟨vbool (by rw [hd2]), vint (by omega), trivial⟩ ⟨rfl, rfl, rfl, rfl, rfl, rfl, rfl, trivial⟩
        · have hje : j = k := by omega
          subst hje
          by_cases hin : x ∈ texts.take j
          · have hd1 : decide (x ∉ texts.take j) = false := by simp [hin]
            rw [hd1]
            clear hfr
            repeat' (first
              | (show WL _ _ _ _ _ _ _; first
                | refine WL.pure rfl rfl rfl rfl ?_
                | refine WL.nil ?_
                | refine WL.add rfl rfl rfl (by omega) rfl rfl rfl ?_
                | refine WL.skip rfl rfl rfl ?_)
              | (show WC _ _ _ _ _ _; first
                | refine WC.seq ?_
                | refine WC.region ?_
                | refine WC.skip ?_
                | refine WC.exit ?_
                | refine WC.condF rfl (by with_reducible rfl) ?_
                | refine WC.condF rfl (decide_eq_false (by first | with_reducible assumption | omega)) ?_)
              | refine seqQ_n ?_
              | refine blkQ_n ?_
              | refine seqQ_x ?_
              | refine blkQ_hit rfl ?_
              | refine rndQ_x ?_)
            exact rndQ_n (j + 1, l2, m2, fb1) ⟨⟨by omega, hpn2, hb1, by omega⟩, hS⟩ (by show texts.length - (j + 1) < texts.length - j; omega) ⟨vint (by omega), trivial⟩ ⟨rfl, rfl, rfl, trivial⟩
          · have hd1 : decide (x ∉ texts.take j) = true := by simp [hin]
            have hfr := hfr hin
            rw [hd1]
            repeat' (first
              | (show WL _ _ _ _ _ _ _; first
                | refine WL.pure rfl rfl rfl rfl ?_
                | refine WL.nil ?_
                | refine WL.add rfl rfl rfl (by omega) rfl rfl rfl ?_
                | (refine WL.calls hS rfl rfl (decimal_c c c _ (Nat.le_refl _) (by omega)) rfl rfl rfl ?_; rintro v w rfl hS)
                | (refine WL.cat rfl rfl rfl (by omega) rfl rfl rfl ?_; rw [← hfr]))
              | (show WC _ _ _ _ _ _; first
                | refine WC.seq ?_
                | refine WC.region ?_
                | refine WC.skip ?_
                | refine WC.exit ?_
                | refine WC.condF rfl (decide_eq_false (by first | with_reducible assumption | omega)) ?_
                | refine WC.condF rfl (by first | (simp; done) | (simp; omega)) ?_)
              | refine seqQ_n ?_
              | refine blkQ_n ?_
              | refine seqQ_x ?_
              | refine blkQ_hit rfl ?_
              | refine rndQ_x ?_)
            exact rndQ_n (j + 1, l2, m2, fb1) ⟨⟨by omega, hpn2, hb1, by omega⟩, hS⟩ (by show texts.length - (j + 1) < texts.length - j; omega) ⟨vint (by omega), trivial⟩ ⟨rfl, rfl, rfl, trivial⟩
    · repeat' (first
        | (show WL _ _ _ _ _ _ _; first
          | refine WL.pure rfl rfl rfl rfl ?_
          | refine WL.nil ?_)
        | (show WC _ _ _ _ _ _; first
          | refine WC.seq ?_
          | refine WC.region ?_
          | refine WC.exit ?_
          | refine WC.ret ?_
          | refine WC.condF rfl (decide_eq_false (by first | with_reducible assumption | omega)) ?_)
        | refine seqQ_n ?_
        | refine seqQ_x ?_
        | refine blkQ_hit rfl ?_
        | refine rndQ_x ?_)
      exact fin1r rfl rfl ⟨hS.upd, rfl⟩
  · repeat' (first
      | (show WL _ _ _ _ _ _ _; first
        | refine WL.pure rfl rfl rfl rfl ?_
        | refine WL.nil ?_
        | (refine WL.callL (D := []) hS .nil rfl rfl (fun hI => blmade_c _) rfl rfl rfl ?_; rintro v w ⟨B, Tp, q, fb, fp, rfl, hmu⟩ hS; replace hS := hS _ hmu; clear hmu)
        | (refine WL.calls hS rfl rfl (blawake_c _ (hp.at hS)) rfl rfl rfl ?_; rintro v w rfl hS))
      | (show WC _ _ _ _ _ _; first
        | refine WC.seq ?_
        | refine WC.region ?_
        | refine WC.ret ?_
        | refine WC.condT rfl (decide_eq_true (by first | with_reducible assumption | omega)) ?_)
      | refine seqQ_n ?_
      | refine seqQ_r ?_)
    exact fin1r rfl rfl ⟨hS.upd, vbool (by simp)⟩
end Go.Proofs.YtlddmenpafcaiaaGreatDoor

/- What is proved: when two lists of texts are told to be alike. Conditions: none. -/
set_option linter.unusedSimpArgs false
set_option linter.unusedVariables false
namespace Go.Proofs.YtlddmenpafcaiaaGreatDoor
open Go Go.J Go.RowKit

theorem list_ext_get {α : Type} {xs ys : List α} (hl : xs.length = ys.length) (h : ∀ j (h1 : j < xs.length) (h2 : j < ys.length), xs[j] = ys[j]) : xs = ys := List.ext_getElem hl h
set_option maxHeartbeats 4000000 in
set_option maxRecDepth 100000 in
theorem same_c (xs ys : List (List UInt8)) {A B : Option Addr} {ca cb : Nat} {w0 : World} (hA : SlAt cStr (Old w0) w0 A xs) (hB : SlAt cStr (Old w0) w0 B ys) (hlx : xs.length ≤ 4611686018427387904) :
    Cal Tryz.prog 19 [.slice A xs.length ca, .slice B ys.length cb] w0 (fun v w' => Upd [] w0 w' ∧ v = .bool (decide (xs = ys))) := by
  refine Cal.mk' (by kernel_rfl) Tryz.func19 rfl rfl fun hS => ?_
  by_cases hl : xs.length = ys.length
  · repeat' (first
      | (show WL _ _ _ _ _ _ _; first
        | refine WL.pure rfl rfl rfl rfl ?_
        | refine WL.nil ?_)
      | (show WC _ _ _ _ _ _; first
        | refine WC.seq ?_
        | refine WC.region ?_
        | refine WC.block ?_
        | refine WC.skip ?_
        | refine WC.condF rfl (decide_eq_false (by first | with_reducible assumption | omega)) ?_)
      | refine seqQ_n ?_)
    refine WC.loop (σ := Nat) [0, 1] (fun k => [(5, .int .i64 (k : Int))]) (fun k w => k ≤ xs.length ∧ (∀ j (h1 : j < xs.length) (h2 : j < ys.length), j < k → xs[j] = ys[j]) ∧ St w0 [] w [] [⟨w0, Old w0⟩]) (fun k => xs.length - k) 0 ⟨Nat.zero_le _, fun j h1 h2 hj => absurd hj (Nat.not_lt_zero _), hS⟩ ⟨rfl, trivial⟩ ?_
    clear hS
    rintro k g w ⟨hk, hall, hS⟩
    obtain ⟨Hall, rfl⟩ : ∃ h : (∀ j (h1 : j < xs.length) (h2 : j < ys.length), j < k → xs[j] = ys[j]), h = hall := ⟨_, rfl⟩
    by_cases hlt : k < xs.length
    · have hlt2 : k < ys.length := by omega
      obtain ⟨b1, o1, e1, rfl, f1, r1, rfl⟩ := hA.at_ hlt
      obtain ⟨b2, o2, e2, rfl, f2, r2, rfl⟩ := hB.at_ hlt2
      change w0.rangeAt b1 (o1 + k * 1) [str xs[k]] at r1
      change w0.rangeAt b2 (o2 + k * 1) [str ys[k]] at r2
      by_cases he : xs[k] = ys[k]
      · have hnx : ∀ j (h1 : j < xs.length) (h2 : j < ys.length), j < k + 1 → xs[j] = ys[j] := fun j h1 h2 hj => if e : j = k then (by subst e; exact he) else Hall j h1 h2 (by omega)
        clear Hall
        generalize xs[k] = x at *
        generalize ys[k] = y at *
        subst he
        repeat' (first
          | (show WL _ _ _ _ _ _ _; first
            | refine WL.pure rfl rfl rfl rfl ?_
            | refine WL.nil ?_
            | refine WL.add rfl rfl rfl (by omega) rfl rfl rfl ?_)
          | (show WC _ _ _ _ _ _; first
            | refine WC.seq ?_
            | refine WC.region ?_
            | refine WC.block ?_
            | refine WC.skip ?_
            | (show WC _ _ (Code.region _ (List.toArray [_, _, _, _, _, _, _, _, _]) true) _ _ _; refine WC.drawS hS [0, 1, 2, 3, 4, 5, 6, 7, 8] [0, 1, 2, 3, 4, 5, 6, 7, 8] (by kernel_rfl) (by kernel_rfl) ?_; clear hS; intro w hS hM)
            | refine WC.condT rfl (decide_eq_true (by first | with_reducible assumption | omega)) ?_
            | refine WC.condF rfl (by first | (simp; done) | (simp; omega)) ?_)
          | (show WD _ _ _ _ _ _ _ _ _; first
            | refine WD.pure rfl rfl rfl rfl rfl ?_
            | refine WD.nil ?_
            | (refine WD.load rfl rfl (LdOk.snap0 f1 r1 (by repeat (first | exact List.Mem.head _ | apply List.Mem.tail)) rfl) rfl rfl rfl rfl ?_)
            | (refine WD.load rfl rfl (LdOk.snap0 f2 r2 (by repeat (first | exact List.Mem.head _ | apply List.Mem.tail)) rfl) rfl rfl rfl rfl ?_)
            | refine WD.index rfl rfl rfl rfl (by first | with_reducible assumption | omega) rfl rfl rfl rfl rfl ?_)
          | refine seqQ_n ?_
          | refine blkQ_n ?_)
        exact rndQ_n (k + 1) ⟨by omega, hnx, hS⟩ (by omega) ⟨vint (by omega), trivial⟩ ⟨rfl, rfl, trivial⟩
      · have hne : ¬ xs = ys := fun h => he (by subst h; rfl)
        clear Hall
        generalize xs[k] = x at *
        generalize ys[k] = y at *
        repeat' (first
          | (show WL _ _ _ _ _ _ _; first
            | refine WL.pure rfl rfl rfl rfl ?_
            | refine WL.nil ?_)
          | (show WC _ _ _ _ _ _; first
            | refine WC.seq ?_
            | refine WC.region ?_
            | refine WC.block ?_
            | refine WC.skip ?_
            | refine WC.ret ?_
            | (show WC _ _ (Code.region _ (List.toArray [_, _, _, _, _, _, _, _, _]) true) _ _ _; refine WC.drawS hS [0, 1, 2, 3, 4, 5, 6, 7, 8] [0, 1, 2, 3, 4, 5, 6, 7, 8] (by kernel_rfl) (by kernel_rfl) ?_; clear hS; intro w hS hM)
            | refine WC.condT rfl (decide_eq_true (by first | with_reducible assumption | omega)) ?_)
          | (show WD _ _ _ _ _ _ _ _ _; first
            | refine WD.pure rfl rfl rfl rfl rfl ?_
            | refine WD.nil ?_
            | (refine WD.load rfl rfl (LdOk.snap0 f1 r1 (by repeat (first | exact List.Mem.head _ | apply List.Mem.tail)) rfl) rfl rfl rfl rfl ?_)
            | (refine WD.load rfl rfl (LdOk.snap0 f2 r2 (by repeat (first | exact List.Mem.head _ | apply List.Mem.tail)) rfl) rfl rfl rfl rfl ?_)
            | refine WD.index rfl rfl rfl rfl (by first | with_reducible assumption | omega) rfl rfl rfl rfl rfl ?_)
          | refine seqQ_n ?_
          | refine seqQ_r ?_
          | refine blkQ_r ?_
          | refine rndQ_r ?_)
        exact fin1r rfl rfl ⟨hS.upd, vbool (by simp [hne])⟩
    · have heq : xs = ys := list_ext_get hl fun j h1 h2 => Hall j h1 h2 (by omega)
      clear Hall
      repeat' (first
        | (show WL _ _ _ _ _ _ _; first
          | refine WL.pure rfl rfl rfl rfl ?_
          | refine WL.nil ?_)
        | (show WC _ _ _ _ _ _; first
          | refine WC.seq ?_
          | refine WC.region ?_
          | refine WC.exit ?_
          | refine WC.ret ?_
          | refine WC.condF rfl (decide_eq_false (by first | with_reducible assumption | omega)) ?_)
        | refine seqQ_n ?_
        | refine seqQ_x ?_
        | refine blkQ_hit rfl ?_
        | refine rndQ_x ?_)
      exact fin1r rfl rfl ⟨hS.upd, vbool (by simp [heq])⟩
  · have hne : ¬ xs = ys := fun h => hl (by rw [h])
    repeat' (first
      | (show WL _ _ _ _ _ _ _; first
        | refine WL.pure rfl rfl rfl rfl ?_
        | refine WL.nil ?_)
      | (show WC _ _ _ _ _ _; first
        | refine WC.seq ?_
        | refine WC.region ?_
        | refine WC.ret ?_
        | refine WC.condT rfl (decide_eq_true (by first | with_reducible assumption | omega)) ?_)
      | refine seqQ_n ?_
      | refine seqQ_r ?_)
    exact fin1r rfl rfl ⟨hS.upd, vbool (by simp [hne])⟩
theorem same_n (xs ys : List (List UInt8)) {A B : Option Addr} {ca cb n m : Nat} {w0 : World} (hn : n = xs.length) (hm : m = ys.length) (hA : SlAt cStr (Old w0) w0 A xs) (hB : SlAt cStr (Old w0) w0 B ys) (hlx : xs.length ≤ 4611686018427387904) :
    Cal Tryz.prog 19 [.slice A n ca, .slice B m cb] w0 (fun v w' => Upd [] w0 w' ∧ v = .bool (decide (xs = ys))) := by
  subst hn; subst hm; exact same_c xs ys hA hB hlx
end Go.Proofs.YtlddmenpafcaiaaGreatDoor

/- What is proved: the law BlobSweeps answers true. Conditions: the statement's own bound on the bulk; the library's table of powers laid. -/
set_option linter.unusedSimpArgs false
set_option linter.unusedVariables false
namespace Go.Proofs.YtlddmenpafcaiaaGreatDoor
open Go Go.J Go.RowKit
open Go.Lib (decDigits)

section
variable {w0 w : World} {M : List Nat} {D H : List Chunk} {Z : List Snap}
/-- a row of the call's own, as a callee reads it that changes other chunks -/
theorem St.ownSlX {α : Type} {enc : α → List Value} {sz : Nat} {hsz : ∀ x, (enc x).length = sz} {e : TypeId} {A : Option Addr} {n cap n' : Nat} {l : List α} (h0 : 0 < sz) (hS : St w0 M w (D ++ H) Z) (hm : Chunk.own (.slice A n cap) e sz n' (l.flatMap enc) ∈ H) :
    SlAt (Cod.flat enc sz hsz) (fun b => b < w.heap.size ∧ b ∉ fps D) w A l :=
  SlAt.ofOwn h0 (hS.holds _ (List.mem_append_right _ hm)) fun g hg => by
    refine ⟨(hS.inb _ (List.mem_append_right _ hm) g (by simp [Chunk.fp, hg])).1, fun hf => ?_⟩
    obtain ⟨c, hc, hb⟩ := mem_fps.1 hf
    exact (List.pairwise_append.1 hS.disj).2.2 c hc _ hm g hb (by simp [Chunk.fp, hg])
end
def zzK : List UInt8 := [122, 122]
def zzM : Bch := noteE [] ⟨zzK, [111, 116, 104, 101, 114], false⟩
section
variable {rows : Rws} {m : Bch} {l : List One} {K : Nat}
theorem BlobIs.foreign (h : BlobIs rows m l K) {o : Chg} (ho : o.key.take 2 ≠ [98, 47]) : BlobIs rows (noteE m o) l K := by
  refine ⟨h.rnd, note_nd h.mnd _, fun x hx => ?_, fun k hk hb => ?_, h.low, h.refs, h.nums, h.len, h.size, h.knd, h.dnd⟩
  · rw [bgetE_noted, if_neg]
    · exact h.has x hx
    · intro e; exact ho (by rw [← e]; rfl)
  · rw [bgetE_noted, if_neg] at hk
    · exact h.only k hk hb
    · intro e; exact ho (by rw [← e]; exact of_decide_eq_true hb)
theorem put_key2 (hd : (l.map One.data).Nodup) (data : List UInt8) : (putB l data).2.take 2 = [98, 47] := by
  obtain ⟨y, _, _, e⟩ := put_has hd data
  rw [← e]
  rfl
theorem put_frame (hd : (l.map One.data).Nodup) (data v : List UInt8) {k : List UInt8} (hk : k.take 2 ≠ [98, 47]) : bgetE rows (noteE m ⟨(putB l data).2, v, false⟩) k = bgetE rows m k := by
  rw [bgetE_noted, if_neg]
  intro e
  exact hk (by rw [e]; exact put_key2 hd data)
theorem count_same {a b : List UInt8} : ∀ {xs ys : List (List UInt8)}, xs.length = ys.length → (∀ j (h1 : j < xs.length) (h2 : j < ys.length), xs[j] = a ↔ ys[j] = b) → xs.count a = ys.count b
  | [], [], _, _ => rfl
  | [], _ :: _, h, _ => by simp at h
  | _ :: _, [], h, _ => by simp at h
  | x :: xs, y :: ys, hl, h => by
    have ih := count_same (xs := xs) (ys := ys) (by simpa using hl) fun j h1 h2 => h (j + 1) (by simp; omega) (by simp; omega)
    have h0 : x = a ↔ y = b := h 0 (by simp) (by simp)
    rw [List.count_cons, List.count_cons, ih]
    by_cases e : x = a
    · rw [if_pos (beq_iff_eq.2 e), if_pos (beq_iff_eq.2 (h0.1 e))]
    · rw [if_neg (fun hh => e (beq_iff_eq.1 hh)), if_neg (fun hh => e (h0.2 (beq_iff_eq.1 hh)))]
theorem PutsIs.count {ts ks : List (List UInt8)} (h : PutsIs ts ks l) (hk : (l.map One.key).Nodup) (hd : (l.map One.data).Nodup) {x : One} (hx : x ∈ l) : ks.count x.key = x.refs := by
  rw [(h.back x hx).2]
  refine count_same h.len fun j h1 h2 => ?_
  obtain ⟨y, hy, e1, e2⟩ := h.keys j h2
  have e2 : ks[j] = y.key := by rw [List.getElem?_eq_getElem h1] at e2; exact Option.some.inj e2
  rw [e2, ← e1]
  exact ⟨fun e => by rw [nd_key hk hy hx e], fun e => by rw [nd_data hd hy hx e]⟩
theorem PutsIs.sweep {ts ks : List (List UInt8)} (h : PutsIs ts ks l) (hk : (l.map One.key).Nodup) (hd : (l.map One.data).Nodup) : sweepB l ks = l := by
  unfold sweepB
  conv => rhs; rw [← List.filterMap_some (l := l)]
  refine filterMap_cong fun x hx => ?_
  have h1 := h.count hk hd hx
  have h2 : 0 < x.refs := by rw [(h.back x hx).2]; exact List.count_pos_iff.2 (h.back x hx).1
  unfold sweepOne
  rw [h1, if_neg (by omega)]
theorem sweep_nil (l : List One) : sweepB l [] = [] := by
  unfold sweepB
  refine List.filterMap_eq_nil_iff.2 fun x _ => ?_
  unfold sweepOne
  rw [List.count_nil, if_pos rfl]
theorem BlobIs.keys_same {m' : Bch} {K' : Nat} (h : BlobIs rows m l K) (h' : BlobIs rows m' l K') : bkeysP rows m' [98, 47] = bkeysP rows m [98, 47] := by
  have h1 := h.all
  have h2 := h'.all
  unfold bkeysP at h1 h2 ⊢
  exact sort_perm ((List.mergeSort_perm _ _).symm.trans ((h2.trans h1.symm).trans (List.mergeSort_perm _ _)))
theorem zz_only {m : Bch} (h : BlobIs [] m [] K) (hf : ∀ k, k.take 2 ≠ [98, 47] → bgetE [] m k = bgetE [] zzM k) : (bkeysP [] m []).length = 1 := by
  have hmem : ∀ k, k ∈ bkeysP [] m [] ↔ k ∈ [zzK] := fun k => by
    rw [mem_bkeys h.mnd, List.mem_singleton]
    constructor
    · rintro ⟨h1, _⟩
      by_cases hk : k.take 2 = [98, 47]
      · obtain ⟨x, hx, _⟩ := h.only k h1 (decide_eq_true hk)
        cases hx
      · rw [hf k hk, zzM, bgetE_noted] at h1
        split at h1
        · assumption
        · cases h1
    · rintro rfl
      refine ⟨?_, rfl⟩
      rw [hf zzK (by decide), zzM, bgetE_noted, if_pos rfl]
      rfl
  have := (List.perm_ext_iff_of_nodup (nodup_bkeys h.rnd h.mnd []) (by simp : [zzK].Nodup)).2 hmem
  rw [this.length_eq]; rfl
end
set_option maxHeartbeats 32000000 in
set_option maxRecDepth 100000 in
theorem blobSweeps_c (texts : List (List UInt8)) {A : Option Addr} {cap : Nat} {w0 : World} (h0 : SlAt cStr (Old w0) w0 A texts) (hz : (texts.map List.length).sum + texts.length ≤ 1048576) (ht : powT w0) :
    Cal Tryz.prog 5 [.slice A texts.length cap] w0 (fun v w' => Upd [] w0 w' ∧ v = .bool true) := by
  refine Cal.mk' (by kernel_rfl) Tryz.func5 rfl rfl fun hS => ?_
  have hp := PowI.of ht
  by_cases h150 : texts.length ≤ 100
  · repeat' (first
      | (show WL _ _ _ _ _ _ _; first
        | refine WL.pure rfl rfl rfl rfl ?_
        | refine WL.nil ?_
        | (refine WL.callL (D := []) hS .nil rfl rfl (fun hI => blmade_c _) rfl rfl rfl ?_; rintro v w ⟨B, Tp, q, fb, fp, rfl, hmu⟩ hS; replace hS := hS _ hmu; clear hmu)
        | (refine WL.calls hS rfl rfl (blawake_c _ (hp.at hS)) rfl rfl rfl ?_; rintro v w rfl hS)
        | (refine WL.callL (D := [bchC B (some ⟨Tp, 0, none⟩) [] fb]) hS (by repeat (first | exact Pulls.nil | (apply Pulls.cons; focus (repeat (first | exact Pull.here | apply Pull.there))))) rfl rfl (fun hI => bput_c zzK [111, 116, 104, 101, 114] hI.head hI.headB (Nat.zero_le _)) rfl rfl rfl ?_; rintro v w ⟨rfl, fb0, hmu⟩ hS; replace hmu := MutL.of1 hmu; rw [show noteE [] ⟨zzK, [111, 116, 104, 101, 114], false⟩ = zzM from rfl] at hmu; replace hS := hS _ hmu; clear hmu))
      | (show WC _ _ _ _ _ _; first
        | refine WC.seq ?_
        | refine WC.region ?_
        | refine WC.block ?_
        | refine WC.skip ?_
        | refine WC.condF rfl (decide_eq_false (by first | with_reducible assumption | omega)) ?_)
      | refine seqQ_n ?_)
    replace hS := (hS.nilRow 9 1).pulls (D := [.own (.slice none 0 0) 9 1 0 [], bchC B (some ⟨Tp, 0, none⟩) zzM fb0, tabC Tp q ⟨sysP, [], ⟨sysL, [], false⟩⟩ fp]) (by repeat (first | exact Pulls.nil | (apply Pulls.cons; focus (repeat (first | exact Pull.here | apply Pull.there)))))
    replace hS := hS.droplast2 (D := [.own (.slice none 0 0) 9 1 0 [], bchC B (some ⟨Tp, 0, none⟩) zzM fb0, tabC Tp q ⟨sysP, [], ⟨sysL, [], false⟩⟩ fp]) (by repeat (first | exact Pulls.nil | (apply Pulls.cons; focus (repeat (first | exact Pull.here | apply Pull.there)))))
    refine WC.loop (σ := Nat × List One × Bch × List Nat × List (List UInt8) × Option Addr × Nat) [0, 3] (fun (k, _, _, _, ks, AK, capK) => [(4, .slice AK ks.length capK), (5, .int .i64 (k : Int))])
      (fun (k, l, m, fb, ks, AK, capK) w => (k ≤ texts.length ∧ PutsIs (texts.take k) ks l ∧ BlobIs [] m l k ∧ m.length ≤ k + 1 ∧ (∀ k, k.take 2 ≠ [98, 47] → bgetE [] m k = bgetE [] zzM k)) ∧ St w0 [] w [.own (.slice AK ks.length capK) 9 1 ks.length (strs ks), bchC B (some ⟨Tp, 0, none⟩) m fb, tabC Tp q ⟨sysP, [], ⟨sysL, [], false⟩⟩ fp] [⟨w0, Old w0⟩])
      (fun (k, _) => texts.length - k) (0, [], zzM, fb0, [], none, 0) ⟨⟨Nat.zero_le _, PutsIs.nil, BlobIs.nil.foreign (by decide), Nat.le_refl _, fun _ _ => rfl⟩, hS⟩ ⟨rfl, rfl, trivial⟩ ?_
    clear hS
    rintro ⟨k, l, m, fb, ks, AK, capK⟩ g w ⟨⟨hk, hpi, hb, hml, hfr⟩, hS⟩
    show WC _ _ _ (lf _ [(4, .slice AK ks.length capK), (5, .int .i64 (k : Int))] _ _) _ _
    have hkl : ks.length = k := by rw [hpi.len, List.length_take]; omega
    by_cases hlt : k < texts.length
    · obtain ⟨rb, ro, es, rfl, hF, hrr, hes⟩ := h0.at_ hlt
      have hes : es = [str texts[k]] := hes
      subst hes
      have hrr : w0.rangeAt rb (ro + k * 1) [str texts[k]] := hrr
      have hxl := mem_le_sumB texts texts[k] (List.getElem_mem hlt)
      have hpi2 := hpi.put hb.knd hb.dnd texts[k]
      rw [← List.take_succ_eq_append_getElem hlt] at hpi2
      have hcap := (hS.own_len (List.Mem.head _)).2.2
      have hnl := fun v => note_len m ⟨(putB l texts[k]).2, v, false⟩
      have hfp : ∀ v kk, kk.take 2 ≠ [98, 47] → bgetE [] (noteE m ⟨(putB l texts[k]).2, v, false⟩) kk = bgetE [] zzM kk := fun v kk hkk => (put_frame hb.dnd texts[k] v hkk).trans (hfr kk hkk)
      generalize texts[k] = x at *
      clear hpi
      repeat' (first
        | (show WL _ _ _ _ _ _ _; first
          | refine WL.pure rfl rfl rfl rfl ?_
          | refine WL.nil ?_
          | refine WL.add rfl rfl rfl (by omega) rfl rfl rfl ?_
          | (refine WL.load hS rfl rfl (LdOk.snap0 hF hrr (by repeat (first | exact List.Mem.head _ | apply List.Mem.tail)) rfl) rfl rfl rfl ?_)
          | (refine WL.callL (D := [bchC B (some ⟨Tp, 0, none⟩) m fb, tabC Tp q ⟨sysP, [], ⟨sysL, [], false⟩⟩ fp]) hS (by repeat (first | exact Pulls.nil | (apply Pulls.cons; focus (repeat (first | exact Pull.here | apply Pull.there))))) rfl rfl (fun hI => blput_c (l := l) (K := k) x hI (hp.pull hS (by repeat (first | exact Pulls.nil | (apply Pulls.cons; focus (repeat (first | exact Pull.here | apply Pull.there)))))) hb (by omega) (by omega) (Nat.zero_le _) (by omega)) rfl rfl rfl ?_; rintro v w ⟨rfl, r1, fb1, hr1, hr2, hb1, hmu⟩ hS; replace hS := hS _ hmu; clear hmu)
          | (refine WL.app hS rfl rfl rfl rfl (RdOk.box (by repeat (first | exact List.Mem.head _ | apply List.Mem.tail))) rfl rfl (fun A cap => by repeat (first | exact Repl.here | apply Repl.there)) (by omega) rfl rfl rfl ?_; intro A3 cap3 w hS)
          | refine WL.index rfl rfl rfl rfl (by first | with_reducible assumption | omega) rfl rfl rfl rfl ?_
          | (refine WL.slit hS rfl rfl rfl rfl rfl ?_; intro w b hS))
        | (show WC _ _ _ _ _ _; first
          | refine WC.seq ?_
          | refine WC.region ?_
          | refine WC.block ?_
          | refine WC.skip ?_
          | refine WC.condT rfl (decide_eq_true (by first | with_reducible assumption | omega)) ?_)
        | refine seqQ_n ?_
        | refine blkQ_n ?_)
      have hnl2 := hnl (valB r1 x)
      replace hS := hS.droplast2 (D := [.own (.slice A3 (ks.length + 1) cap3) 9 1 (ks.length + 1) (strs ks ++ [str (putB l x).2]), bchC B (some ⟨Tp, 0, none⟩) (noteE m ⟨(putB l x).2, valB r1 x, false⟩) fb1, tabC Tp q ⟨sysP, [], ⟨sysL, [], false⟩⟩ fp]) (by repeat (first | exact Pulls.nil | (apply Pulls.cons; focus (repeat (first | exact Pull.here | apply Pull.there)))))
      exact rndQ_n (k + 1, (putB l x).1, noteE m ⟨(putB l x).2, valB r1 x, false⟩, fb1, ks ++ [(putB l x).2], A3, cap3) ⟨⟨by omega, hpi2, hb1, by omega, hfp _⟩, by
        rw [List.length_append, ← strs_snoc]
        exact hS⟩ (by show texts.length - (k + 1) < texts.length - k; omega) ⟨by rw [List.length_append]; rfl, vint (by omega), trivial⟩ ⟨rfl, rfl, trivial⟩
    · have hke : k = texts.length := by omega
      subst hke
      rw [List.take_length] at hpi
      clear hk hlt
      have hsw := hpi.sweep hb.knd hb.dnd
      have hkwl : (bkeysP [] m [98, 47]).length = l.length := hb.all_len
      have hksame := fun (m' : Bch) (K' : Nat) (h' : BlobIs [] m' l K') => hb.keys_same h'
      obtain ⟨kw, hkw⟩ : ∃ kw, kw = bkeysP [] m [98, 47] := ⟨_, rfl⟩
      rw [← hkw] at hksame hkwl
      have hbk := fun (w0 : World) (hi : InL w0 [bchC B (some ⟨Tp, 0, none⟩) m fb, tabC Tp q ⟨sysP, [], ⟨sysL, [], false⟩⟩ fp]) => bkeys_c [98, 47] hi (Nat.zero_le _) (show m.length ≤ 549755813888 by omega)
      rw [← show kw = bkeysP (Tb.rows ⟨sysP, [], ⟨sysL, [], false⟩⟩) m [98, 47] from hkw] at hbk
      have hln := hb.len
      repeat' (first
        | (show WL _ _ _ _ _ _ _; first
          | refine WL.pure rfl rfl rfl rfl ?_
          | refine WL.nil ?_
          | (refine WL.callL (D := [bchC B (some ⟨Tp, 0, none⟩) m fb, tabC Tp q ⟨sysP, [], ⟨sysL, [], false⟩⟩ fp]) hS (by repeat (first | exact Pulls.nil | (apply Pulls.cons; focus (repeat (first | exact Pull.here | apply Pull.there))))) rfl rfl (fun hI => hbk _ hI) rfl rfl rfl ?_; rintro v w ⟨WA, wc, rfl, hmu⟩ hS; replace hS := hS _ hmu; clear hmu)
          | (refine WL.callL (D := [bchC B (some ⟨Tp, 0, none⟩) m fb, tabC Tp q ⟨sysP, [], ⟨sysL, [], false⟩⟩ fp]) hS (by repeat (first | exact Pulls.nil | (apply Pulls.cons; focus (repeat (first | exact Pull.here | apply Pull.there))))) rfl rfl (fun hI => blsweep_c (l := l) (K := texts.length) ks hI (St.ownSlX (l := ks) (enc := fun s => [str s]) (hsz := fun _ => rfl) (by decide) (hS.pulls (by repeat (first | exact Pulls.nil | (apply Pulls.cons; focus (repeat (first | exact Pull.here | apply Pull.there)))))) (by repeat (first | exact List.Mem.head _ | apply List.Mem.tail))) hb (by omega) (by omega) (by omega) (Nat.zero_le _)) rfl rfl rfl ?_; rintro v w ⟨rfl, m2, fb2, hb2, hml2, hfr2, hmu⟩ hS; rw [hsw] at hb2 ⊢; rw [Nat.sub_self]; replace hS := hS _ hmu; clear hmu)
          | (refine WL.callL (D := [bchC B (some ⟨Tp, 0, none⟩) m2 fb2, tabC Tp q ⟨sysP, [], ⟨sysL, [], false⟩⟩ fp]) hS (by repeat (first | exact Pulls.nil | (apply Pulls.cons; focus (repeat (first | exact Pull.here | apply Pull.there))))) rfl rfl (fun hI => bkeys_c [98, 47] hI (Nat.zero_le _) (show m2.length ≤ 549755813888 by omega)) rfl rfl rfl ?_; rintro v w ⟨WA2, wc2, rfl, hmu⟩ hS; dsimp only at hmu ⊢; rw [hksame m2 _ hb2] at hmu ⊢; replace hS := hS _ hmu; clear hmu)
          | (refine WL.calls hS rfl rfl (same_n kw kw rfl rfl (hS.ownSl (l := kw) (enc := fun s => [str s]) (hsz := fun _ => rfl) (by decide) (by repeat (first | exact List.Mem.head _ | apply List.Mem.tail))) (hS.ownSl (l := kw) (enc := fun s => [str s]) (hsz := fun _ => rfl) (by decide) (by repeat (first | exact List.Mem.head _ | apply List.Mem.tail))) (by omega)) rfl rfl rfl ?_; rintro v w rfl hS))
        | (show WC _ _ _ _ _ _; first
          | refine WC.seq ?_
          | refine WC.region ?_
          | refine WC.block ?_
          | refine WC.skip ?_
          | refine WC.exit ?_
          | refine WC.condF rfl (decide_eq_false (by first | with_reducible assumption | omega)) ?_
          | refine WC.condF rfl (by first | (simp; done) | (simp; omega)) ?_)
        | refine seqQ_n ?_
        | refine seqQ_x ?_
        | refine blkQ_hit rfl ?_
        | refine rndQ_x ?_)
      replace hS := hS.droplast2 (D := [.own (.slice AK ks.length capK) 9 1 ks.length (strs ks), .own (.slice WA kw.length wc) 9 1 kw.length (strs kw), bchC B (some ⟨Tp, 0, none⟩) m2 fb2, tabC Tp q ⟨sysP, [], ⟨sysL, [], false⟩⟩ fp]) (by repeat (first | exact Pulls.nil | (apply Pulls.cons; focus (repeat (first | exact Pull.here | apply Pull.there)))))
      clear hbk hksame hb hsw
      refine WC.loop (σ := Nat) [0, 3, 4, 6] (fun i => [(7, .int .i64 (i : Int))]) (fun i w => i ≤ texts.length ∧ St w0 [] w [.own (.slice AK ks.length capK) 9 1 ks.length (strs ks), .own (.slice WA kw.length wc) 9 1 kw.length (strs kw), bchC B (some ⟨Tp, 0, none⟩) m2 fb2, tabC Tp q ⟨sysP, [], ⟨sysL, [], false⟩⟩ fp] [⟨w0, Old w0⟩])
        (fun i => texts.length - i) 0 ⟨Nat.zero_le _, hS⟩ ⟨rfl, trivial⟩ ?_
      clear hS
      rintro i g2 w ⟨hi, hS⟩
      show WC _ _ _ (lf _ [(7, .int .i64 (i : Int))] _ _) _ _
      by_cases hlt : i < texts.length
      · have hik : i < ks.length := by omega
        obtain ⟨x, hx, hxd, hxk⟩ := hpi.keys i hlt
        have hxk : ks[i] = x.key := by rw [List.getElem?_eq_getElem hik] at hxk; exact Option.some.inj hxk
        have hfx : findB l ks[i] = some x := by rw [hxk]; exact find_of hb2.knd hx
        have hgv : blgetV l ks[i] = .tuple #[str texts[i], .int .i64 0] := by unfold blgetV; rw [hfx]; dsimp only; rw [hxd]
        obtain ⟨rb, ro, es, rfl, hF, hrr, hes⟩ := h0.at_ hlt
        have hes : es = [str texts[i]] := hes
        subst hes
        have hrr : w0.rangeAt rb (ro + i * 1) [str texts[i]] := hrr
        have hki : (strs ks)[i * 1]? = some (str ks[i]) := by rw [Nat.mul_one, strs_at hik]
        obtain ⟨kg, ko, rfl⟩ := hS.own_addr (A := AK) (n := ks.length) (by repeat (first | exact List.Mem.head _ | apply List.Mem.tail)) (by omega)
        generalize hti : texts[i] = ti at *
        generalize hkie : ks[i] = ki at *
        clear hxk hfx hx hxd
        repeat' (first
          | (show WL _ _ _ _ _ _ _; first
            | refine WL.pure rfl rfl rfl rfl ?_
            | refine WL.nil ?_
            | refine WL.add rfl rfl rfl (by omega) rfl rfl rfl ?_
            | (refine WL.load hS rfl rfl (LdOk.ownAt (by repeat (first | exact List.Mem.head _ | apply List.Mem.tail)) rfl ⟨_, rfl⟩ hki rfl) rfl rfl rfl ?_)
            | (refine WL.load hS rfl rfl (LdOk.snap0 hF hrr (by repeat (first | exact List.Mem.head _ | apply List.Mem.tail)) rfl) rfl rfl rfl ?_)
            | (refine WL.callL (D := [bchC B (some ⟨Tp, 0, none⟩) m2 fb2, tabC Tp q ⟨sysP, [], ⟨sysL, [], false⟩⟩ fp]) hS (by repeat (first | exact Pulls.nil | (apply Pulls.cons; focus (repeat (first | exact Pull.here | apply Pull.there))))) rfl rfl (fun hI => blget_c (l := l) (K := texts.length + ks.length) ki hI hb2 (by omega)) rfl rfl rfl ?_; rintro v w ⟨rfl, hmu⟩ hS; rw [hgv]; replace hS := hS _ hmu; clear hmu)
            | refine WL.index rfl rfl rfl rfl (by first | with_reducible assumption | omega) rfl rfl rfl rfl ?_
            | ((fail_if_success (refine WL.wanted rfl ?_)); refine WL.guard rfl rfl rfl (fun h => ?_) (fun h => ?_) <;> (try simp only [Classical.not_not, Bool.not_eq_true', Bool.not_eq_false', Bool.not_eq_eq_eq_not, Bool.not_true, Bool.not_false, beq_iff_eq, beq_eq_false_iff_ne, ne_eq, decide_eq_decide, decide_eq_true_eq, decide_eq_false_iff_not, Bool.and_eq_true, Bool.or_eq_true, Bool.and_eq_false_iff, Bool.or_eq_false_iff] at h) <;> (try (exfalso; first | omega | contradiction))))
          | (show WC _ _ _ _ _ _; first
            | refine WC.seq ?_
            | refine WC.region ?_
            | refine WC.block ?_
            | refine WC.skip ?_
            | refine WC.condF rfl (by decide) ?_
            | refine WC.condT rfl (decide_eq_true (by first | with_reducible assumption | omega)) ?_)
          | refine seqQ_n ?_
          | refine blkQ_n ?_)
        exact rndQ_n (i + 1) ⟨by omega, hS.droplast2 (by repeat (first | exact Pulls.nil | (apply Pulls.cons; focus (repeat (first | exact Pull.here | apply Pull.there)))))⟩ (by show texts.length - (i + 1) < texts.length - i; omega) ⟨vint (by omega), trivial⟩ ⟨rfl, rfl, rfl, rfl, trivial⟩
      · have hsn := sweep_nil l
        clear hpi
        repeat' (first
          | (show WL _ _ _ _ _ _ _; first
            | refine WL.pure rfl rfl rfl rfl ?_
            | refine WL.nil ?_
            | (refine WL.callL (D := [bchC B (some ⟨Tp, 0, none⟩) m2 fb2, tabC Tp q ⟨sysP, [], ⟨sysL, [], false⟩⟩ fp]) hS (by repeat (first | exact Pulls.nil | (apply Pulls.cons; focus (repeat (first | exact Pull.here | apply Pull.there))))) rfl rfl (fun hI => blsweep_c (l := l) (K := texts.length + ks.length) (A := none) (cap := 0) [] hI (fun k h => absurd h (Nat.not_lt_zero _)) hb2 (by omega) (by decide) (by omega) (Nat.zero_le _)) rfl rfl rfl ?_; rintro v w ⟨rfl, m3, fb3, hb3, hml3, hfr3, hmu⟩ hS; rw [hsn] at hb3 ⊢; dsimp only [List.length_nil]; rw [Nat.sub_zero]; replace hS := hS _ hmu; clear hmu; have hal : (bkeysP [] m3 [98, 47]).length = 0 := hb3.all_len; have hzz : (bkeysP [] m3 []).length = 1 := zz_only hb3 fun k hk => (hfr3 k hk).trans ((hfr2 k hk).trans (hfr k hk)))
            | (refine WL.callL (D := [bchC B (some ⟨Tp, 0, none⟩) m3 fb3, tabC Tp q ⟨sysP, [], ⟨sysL, [], false⟩⟩ fp]) hS (by repeat (first | exact Pulls.nil | (apply Pulls.cons; focus (repeat (first | exact Pull.here | apply Pull.there))))) rfl rfl (fun hI => bkeys_c [98, 47] hI (Nat.zero_le _) (show m3.length ≤ 549755813888 by omega)) rfl rfl rfl ?_; rintro v w ⟨KA, kc, rfl, hmu⟩ hS; dsimp only at hmu ⊢; rw [hal] at hmu ⊢; replace hS := hS _ hmu; clear hmu)
            | (refine WL.callL (D := [bchC B (some ⟨Tp, 0, none⟩) m3 fb3, tabC Tp q ⟨sysP, [], ⟨sysL, [], false⟩⟩ fp]) hS (by repeat (first | exact Pulls.nil | (apply Pulls.cons; focus (repeat (first | exact Pull.here | apply Pull.there))))) rfl rfl (fun hI => bkeys_c [] hI (Nat.zero_le _) (show m3.length ≤ 549755813888 by omega)) rfl rfl rfl ?_; rintro v w ⟨KA, kc, rfl, hmu⟩ hS; dsimp only at hmu ⊢; rw [hzz] at hmu ⊢; replace hS := hS _ hmu; clear hmu)
            | ((fail_if_success (refine WL.wanted rfl ?_)); refine WL.guard rfl rfl rfl (fun h => ?_) (fun h => ?_) <;> (try simp only [Classical.not_not, Bool.not_eq_true', Bool.not_eq_false', Bool.not_eq_eq_eq_not, Bool.not_true, Bool.not_false, beq_iff_eq, beq_eq_false_iff_ne, ne_eq, decide_eq_decide, decide_eq_true_eq, decide_eq_false_iff_not, Bool.and_eq_true, Bool.or_eq_true, Bool.and_eq_false_iff, Bool.or_eq_false_iff] at h) <;> (try (exfalso; first | omega | contradiction))))
          | (show WC _ _ _ _ _ _; first
            | refine WC.seq ?_
            | refine WC.region ?_
            | refine WC.exit ?_
            | refine WC.ret ?_
            | refine WC.condF rfl (decide_eq_false (by first | with_reducible assumption | omega)) ?_)
          | refine seqQ_n ?_
          | refine seqQ_x ?_
          | refine blkQ_hit rfl ?_
          | refine rndQ_x ?_)
        exact fin1r rfl rfl ⟨hS.upd, vbool (by simp [hkwl])⟩
  · repeat' (first
      | (show WL _ _ _ _ _ _ _; first
        | refine WL.pure rfl rfl rfl rfl ?_
        | refine WL.nil ?_
        | (refine WL.callL (D := []) hS .nil rfl rfl (fun hI => blmade_c _) rfl rfl rfl ?_; rintro v w ⟨B, Tp, q, fb, fp, rfl, hmu⟩ hS; replace hS := hS _ hmu; clear hmu)
        | (refine WL.calls hS rfl rfl (blawake_c _ (hp.at hS)) rfl rfl rfl ?_; rintro v w rfl hS))
      | (show WC _ _ _ _ _ _; first
        | refine WC.seq ?_
        | refine WC.region ?_
        | refine WC.ret ?_
        | refine WC.condT rfl (decide_eq_true (by first | with_reducible assumption | omega)) ?_)
      | refine seqQ_n ?_
      | refine seqQ_r ?_)
    exact fin1r rfl rfl ⟨hS.upd, vbool (by simp)⟩
end Go.Proofs.YtlddmenpafcaiaaGreatDoor

/- What is proved: what the reference's checksum answers. Conditions: a text of bounded length. -/
set_option linter.unusedSimpArgs false
set_option linter.unusedVariables false
namespace Go.Proofs.YtlddmenpafcaiaaGreatDoor
open Go Go.J Go.RowKit

theorem xor_half (a b : Nat) : (a ^^^ b) / 2 = (a / 2) ^^^ (b / 2) := Nat.xor_div_two
theorem xor_odd (a b : Nat) : ((a ^^^ b) % 2 = 1) ↔ ¬ ((a % 2 = 1) ↔ (b % 2 = 1)) := by
  exact Nat.xor_mod_two_eq_one
/-- a bit of the checksum, the byte apart -/
def refS (a x : Nat) : Nat := if (decide (a % 2 = 1)) ≠ (decide (x % 2 = 1)) then (a / 2) ^^^ 3988292384 else a / 2
theorem refS_crc (a x : Nat) : refS a x ^^^ (x / 2) = crcS (a ^^^ x) := by
  unfold refS crcS
  rw [xor_half]
  have h := xor_odd a x
  by_cases h1 : (a ^^^ x) % 2 = 1
  · have h2 := h.1 h1
    rw [if_pos h1, if_pos (fun e => h2 (decide_eq_decide.1 e)), Nat.xor_assoc, Nat.xor_comm 3988292384, ← Nat.xor_assoc]
  · have h2 : (a % 2 = 1) ↔ (x % 2 = 1) := Classical.byContradiction fun hn => h1 (h.2 hn)
    rw [if_neg h1, if_neg (fun e => e (decide_eq_decide.2 h2)), Nat.xor_zero]
theorem refS_lt {a : Nat} (x : Nat) (h : a < 4294967296) : refS a x < 4294967296 := by
  unfold refS
  split
  · exact Nat.xor_lt_two_pow (n := 32) (by omega) (by omega)
  · omega
theorem sub_xor {c : Nat} (h : c < 4294967296) : 4294967295 - c = 4294967295 ^^^ c := by
  refine Nat.eq_of_testBit_eq fun i => ?_
  rw [show 4294967295 - c = 2 ^ 32 - (c + 1) by omega, Nat.testBit_two_pow_sub_succ (by omega), Nat.testBit_xor, show (4294967295 : Nat) = 2 ^ 32 - 1 from rfl, Nat.testBit_two_pow_sub_one]
  by_cases hi : i < 32
  · rw [decide_eq_true hi]; simp
  · rw [decide_eq_false hi, Nat.testBit_lt_two_pow (Nat.lt_of_lt_of_le (show c < 2 ^ 32 by omega) (Nat.pow_le_pow_right (by decide) (by omega)))]; rfl
theorem refS_bool (a x : Nat) : (decide (((a : Nat) : Int) % 2 = 1) = decide (a % 2 = 1)) ∧ (decide (((x : Nat) : Int) % 2 = 1) = decide (x % 2 = 1)) := ⟨decide_eq_decide.2 (by omega), decide_eq_decide.2 (by omega)⟩
theorem crcN_zero : ∀ j, crcN j 0 = 0
  | 0 => rfl
  | j + 1 => crcN_zero j
set_option maxHeartbeats 8000000 in
set_option maxRecDepth 100000 in
theorem rsum_c (s : List UInt8) (w0 : World) (hl : s.length ≤ 1099511627776) : Cal Tryz.prog 42 [str s] w0 (fun v w' => Upd [] w0 w' ∧ v = .int .u32 ((sumE s : Nat) : Int)) := by
  refine Cal.mk' (by kernel_rfl) Tryz.func42 rfl rfl fun hS => ?_
  repeat' (first
    | (show WL _ _ _ _ _ _ _; first
      | refine WL.pure rfl rfl rfl rfl ?_
      | refine WL.nil ?_)
    | (show WC _ _ _ _ _ _; first
      | refine WC.seq ?_
      | refine WC.region ?_
      | refine WC.block ?_)
    | refine seqQ_n ?_)
  refine WC.loop (σ := Nat × Nat) [0] (fun (k, c) => [(3, .int .u32 (c : Int)), (4, .int .i64 (k : Int))]) (fun (k, c) w => k ≤ s.length ∧ c = crcL 4294967295 (s.take k) ∧ St w0 [] w [] _) (fun (k, _) => s.length - k) (0, 4294967295) ⟨Nat.zero_le _, rfl, hS⟩ ⟨rfl, rfl, trivial⟩ ?_
  clear hS
  rintro ⟨k, c⟩ g w ⟨hk, hc, hS⟩
  have hclt : c < 4294967296 := by rw [hc]; exact crcL_lt _ (by omega)
  by_cases hlt : k < s.length
  · have hx : s[k]? = some s[k] := List.getElem?_eq_getElem hlt
    have hnx : crcL 4294967295 (s.take (k + 1)) = crcB c s[k] := by rw [List.take_succ_eq_append_getElem hlt, crcL_snoc, ← hc]
    generalize s[k] = x at *
    clear hc
    have hxt := x.toNat_lt
    repeat' (first
      | (show WL _ _ _ _ _ _ _; first
        | refine WL.pure rfl rfl rfl rfl ?_
        | refine WL.nil ?_
        | refine WL.conv64 rfl rfl rfl (by omega) rfl rfl rfl ?_
        | refine WL.idxS rfl rfl rfl rfl (by with_reducible assumption) rfl rfl rfl ?_)
      | (show WC _ _ _ _ _ _; first
        | refine WC.seq ?_
        | refine WC.region ?_
        | refine WC.block ?_
        | refine WC.skip ?_
        | refine WC.condT rfl (decide_eq_true (by first | with_reducible assumption | omega)) ?_)
      | refine seqQ_n ?_)
    refine WC.loop (σ := Nat × Nat × Nat) [0, 4] (fun (j, a, y) => [(3, .int .u32 (a : Int)), (5, .int .i64 (y : Int)), (6, .int .i64 (j : Int))]) (fun (j, a, y) w => (j ≤ 8 ∧ crcN (8 - j) (a ^^^ y) = crcB c x ∧ a < 4294967296 ∧ y < 2 ^ (8 - j)) ∧ St w0 [] w [] _) (fun (j, _) => 8 - j) (0, c, x.toNat) ⟨⟨by omega, rfl, hclt, hxt⟩, hS⟩ ⟨rfl, rfl, rfl, trivial⟩ ?_
    clear hS
    rintro ⟨j, a, y⟩ g w ⟨⟨hj, he, halt, hyl⟩, hS⟩
    by_cases h8 : j < 8
    · have hst := refS_crc a y
      have hlt2 := refS_lt y halt
      have h82 : 8 - j = (8 - (j + 1)) + 1 := by omega
      have hy256 : y < 256 := Nat.lt_of_lt_of_le hyl (Nat.pow_le_pow_right (n := 2) (by decide) (show 8 - j ≤ 8 by omega))
      have hyn : y / 2 < 2 ^ (8 - (j + 1)) := by rw [h82, Nat.pow_succ] at hyl; omega
      have hen : crcN (8 - (j + 1)) (refS a y ^^^ (y / 2)) = crcB c x := by rw [hst, ← he, h82]; rfl
      have hxa := u32_xor_nat (a / 2) 3988292384 (by omega) (by omega)
      have hwr : IntKind.u32.wrap ((a : Int) % 2) = (a : Int) % 2 := by rw [IntKind.wrap_u32']; omega
      have hwq : IntKind.u32.wrap ((a : Int) / 2) = (a : Int) / 2 := by rw [IntKind.wrap_u32']; omega
      have hq : (a : Int) / 2 = ((a / 2 : Nat) : Int) := by omega
      clear he hst hyl h82
      have hqy : (y : Int) / 2 = ((y / 2 : Nat) : Int) := by omega
      rcases Nat.mod_two_eq_zero_or_one a with pa | pa <;> rcases Nat.mod_two_eq_zero_or_one y with py | py
      · have hA : decide (((a : Nat) : Int) % 2 = 1) = false := decide_eq_false (by omega)
        have hY : decide (((y : Nat) : Int) % 2 = 1) = false := decide_eq_false (by omega)
        have hR : refS a y = a / 2 := by unfold refS; rw [pa, py]; rfl
        rw [hR] at hen hlt2
        clear hR
        repeat' (first
          | (show WL _ _ _ _ _ _ _; first
            | refine WL.pure rfl rfl rfl rfl ?_
            | refine WL.nil ?_
            | refine WL.add rfl rfl rfl (by omega) rfl rfl rfl ?_
            | (refine WL.remK rfl rfl rfl (by omega) (by omega) hwr rfl rfl rfl ?_)
            | (refine WL.quoK rfl rfl rfl (by omega) (by omega) hwq rfl rfl rfl ?_; rw [hq])
            | (refine WL.rem rfl rfl rfl (by omega) (by omega) rfl rfl rfl ?_)
            | (refine WL.quo rfl rfl rfl (by omega) (by omega) (by omega) rfl rfl rfl ?_; rw [hqy]))
          | (show WC _ _ _ _ _ _; first
            | refine WC.seq ?_
            | refine WC.region ?_
            | refine WC.block ?_
            | refine WC.skip ?_
            | refine WC.condT rfl (decide_eq_true (by first | with_reducible assumption | omega)) ?_
            | refine WC.condF rfl (by first | (simp; done) | (simp; omega)) ?_)
          | refine seqQ_n ?_
          | refine blkQ_n ?_)
        exact rndQ_n (j + 1, a / 2, y / 2) ⟨⟨by omega, hen, hlt2, hyn⟩, hS⟩ (by show 8 - (j + 1) < 8 - j; omega) ⟨rfl, rfl, vint (by omega), trivial⟩ ⟨rfl, rfl, trivial⟩
      · have hA : decide (((a : Nat) : Int) % 2 = 1) = false := decide_eq_false (by omega)
        have hY : decide (((y : Nat) : Int) % 2 = 1) = true := decide_eq_true (by omega)
        have hR : refS a y = (a / 2) ^^^ 3988292384 := by unfold refS; rw [pa, py]; rfl
        rw [hR] at hen hlt2
        clear hR
        repeat' (first
          | (show WL _ _ _ _ _ _ _; first
            | refine WL.pure rfl rfl rfl rfl ?_
            | refine WL.nil ?_
            | refine WL.add rfl rfl rfl (by omega) rfl rfl rfl ?_
            | (refine WL.remK rfl rfl rfl (by omega) (by omega) hwr rfl rfl rfl ?_)
            | (refine WL.quoK rfl rfl rfl (by omega) (by omega) hwq rfl rfl rfl ?_; rw [hq])
            | (refine WL.rem rfl rfl rfl (by omega) (by omega) rfl rfl rfl ?_)
            | (refine WL.quo rfl rfl rfl (by omega) (by omega) (by omega) rfl rfl rfl ?_; rw [hqy]))
          | (show WC _ _ _ _ _ _; first
            | refine WC.seq ?_
            | refine WC.region ?_
            | refine WC.block ?_
            | refine WC.skip ?_
            | refine WC.condT rfl (decide_eq_true (by first | with_reducible assumption | omega)) ?_
            | refine WC.condT rfl (by first | (simp; done) | (simp; omega)) ?_)
          | refine seqQ_n ?_
          | refine blkQ_n ?_)
        exact rndQ_n (j + 1, (a / 2) ^^^ 3988292384, y / 2) ⟨⟨by omega, hen, hlt2, hyn⟩, hS⟩ (by show 8 - (j + 1) < 8 - j; omega) ⟨congrArg (Value.int .u32) hxa, rfl, vint (by omega), trivial⟩ ⟨rfl, rfl, trivial⟩
      · have hA : decide (((a : Nat) : Int) % 2 = 1) = true := decide_eq_true (by omega)
        have hY : decide (((y : Nat) : Int) % 2 = 1) = false := decide_eq_false (by omega)
        have hR : refS a y = (a / 2) ^^^ 3988292384 := by unfold refS; rw [pa, py]; rfl
        rw [hR] at hen hlt2
        clear hR
        repeat' (first
          | (show WL _ _ _ _ _ _ _; first
            | refine WL.pure rfl rfl rfl rfl ?_
            | refine WL.nil ?_
            | refine WL.add rfl rfl rfl (by omega) rfl rfl rfl ?_
            | (refine WL.remK rfl rfl rfl (by omega) (by omega) hwr rfl rfl rfl ?_)
            | (refine WL.quoK rfl rfl rfl (by omega) (by omega) hwq rfl rfl rfl ?_; rw [hq])
            | (refine WL.rem rfl rfl rfl (by omega) (by omega) rfl rfl rfl ?_)
            | (refine WL.quo rfl rfl rfl (by omega) (by omega) (by omega) rfl rfl rfl ?_; rw [hqy]))
          | (show WC _ _ _ _ _ _; first
            | refine WC.seq ?_
            | refine WC.region ?_
            | refine WC.block ?_
            | refine WC.skip ?_
            | refine WC.condT rfl (decide_eq_true (by first | with_reducible assumption | omega)) ?_
            | refine WC.condT rfl (by first | (simp; done) | (simp; omega)) ?_)
          | refine seqQ_n ?_
          | refine blkQ_n ?_)
        exact rndQ_n (j + 1, (a / 2) ^^^ 3988292384, y / 2) ⟨⟨by omega, hen, hlt2, hyn⟩, hS⟩ (by show 8 - (j + 1) < 8 - j; omega) ⟨congrArg (Value.int .u32) hxa, rfl, vint (by omega), trivial⟩ ⟨rfl, rfl, trivial⟩
      · have hA : decide (((a : Nat) : Int) % 2 = 1) = true := decide_eq_true (by omega)
        have hY : decide (((y : Nat) : Int) % 2 = 1) = true := decide_eq_true (by omega)
        have hR : refS a y = a / 2 := by unfold refS; rw [pa, py]; rfl
        rw [hR] at hen hlt2
        clear hR
        repeat' (first
          | (show WL _ _ _ _ _ _ _; first
            | refine WL.pure rfl rfl rfl rfl ?_
            | refine WL.nil ?_
            | refine WL.add rfl rfl rfl (by omega) rfl rfl rfl ?_
            | (refine WL.remK rfl rfl rfl (by omega) (by omega) hwr rfl rfl rfl ?_)
            | (refine WL.quoK rfl rfl rfl (by omega) (by omega) hwq rfl rfl rfl ?_; rw [hq])
            | (refine WL.rem rfl rfl rfl (by omega) (by omega) rfl rfl rfl ?_)
            | (refine WL.quo rfl rfl rfl (by omega) (by omega) (by omega) rfl rfl rfl ?_; rw [hqy]))
          | (show WC _ _ _ _ _ _; first
            | refine WC.seq ?_
            | refine WC.region ?_
            | refine WC.block ?_
            | refine WC.skip ?_
            | refine WC.condT rfl (decide_eq_true (by first | with_reducible assumption | omega)) ?_
            | refine WC.condF rfl (by first | (simp; done) | (simp; omega)) ?_)
          | refine seqQ_n ?_
          | refine blkQ_n ?_)
        exact rndQ_n (j + 1, a / 2, y / 2) ⟨⟨by omega, hen, hlt2, hyn⟩, hS⟩ (by show 8 - (j + 1) < 8 - j; omega) ⟨rfl, rfl, vint (by omega), trivial⟩ ⟨rfl, rfl, trivial⟩
    · obtain rfl : j = 8 := by omega
      have hy0 : y = 0 := by have : y < 2 ^ 0 := hyl; omega
      subst hy0
      have he : a ^^^ 0 = crcB c x := he
      rw [Nat.xor_zero] at he
      subst he
      repeat' (first
        | (show WL _ _ _ _ _ _ _; first
          | refine WL.pure rfl rfl rfl rfl ?_
          | refine WL.nil ?_
          | refine WL.add rfl rfl rfl (by omega) rfl rfl rfl ?_)
        | (show WC _ _ _ _ _ _; first
          | refine WC.seq ?_
          | refine WC.region ?_
          | refine WC.exit ?_
          | refine WC.condF rfl (by decide) ?_)
        | refine seqQ_n ?_
        | refine blkQ_n ?_
        | refine seqQ_x ?_
        | refine blkQ_hit rfl ?_
        | refine rndQ_x ?_)
      exact rndQ_n (k + 1, crcB c x) ⟨by omega, hnx.symm, hS⟩ (by show s.length - (k + 1) < s.length - k; omega) ⟨rfl, vint (by omega), trivial⟩ ⟨rfl, trivial⟩
  · have hks : s.take k = s := List.take_of_length_le (by omega)
    rw [hks] at hc
    subst hc
    have hcm := sub_xor hclt
    have hse : sumE s = 4294967295 - crcL 4294967295 s := by rw [hcm]; rfl
    have hwr : IntKind.u32.wrap (4294967295 - ((crcL 4294967295 s : Nat) : Int)) = ((sumE s : Nat) : Int) := by rw [IntKind.wrap_u32', hse]; omega
    clear hse hcm
    repeat' (first
      | (show WL _ _ _ _ _ _ _; first
        | refine WL.pure rfl rfl rfl rfl ?_
        | refine WL.nil ?_)
      | (show WC _ _ _ _ _ _; first
        | refine WC.seq ?_
        | refine WC.region ?_
        | refine WC.exit ?_
        | refine WC.ret ?_
        | refine WC.condF rfl (decide_eq_false (by first | with_reducible assumption | omega)) ?_)
      | refine seqQ_n ?_
      | refine seqQ_x ?_
      | refine blkQ_hit rfl ?_
      | refine rndQ_x ?_)
    exact fin1r rfl rfl ⟨hS.upd, congrArg (Value.int .u32) hwr⟩
end Go.Proofs.YtlddmenpafcaiaaGreatDoor

/- What is proved: what the reference's functions on lists of contents answer. Conditions: lists of bounded length. -/
set_option linter.unusedSimpArgs false
set_option linter.unusedVariables false
namespace Go.Proofs.YtlddmenpafcaiaaGreatDoor
open Go Go.J Go.RowKit
open Go.Lib (decDigits)

def encOne (x : One) : List Value := [.int .i64 (x.low : Int), .int .i64 (x.n : Int), .int .i64 (x.refs : Int), str x.data]
def cOne : Cod One := .flat encOne 4 fun _ => rfl
def ones (l : List One) : List Value := l.flatMap encOne
theorem ones_len (l : List One) : (ones l).length = l.length * 4 := flat_len (enc := encOne) (fun _ => rfl) l
theorem ones_snoc (l : List One) (x : One) : ones l ++ encOne x = ones (l ++ [x]) := by simp [ones]
theorem ones_one (l : List One) : Go.J.one (ones l) = true := by
  unfold ones
  induction l with
  | nil => rfl
  | cons x l ih => rw [List.flatMap_cons]; unfold Go.J.one at ih ⊢; rw [List.all_append, ih]; rfl
/-- what a list of contents may be -/
structure OnesOk (l : List One) (K : Nat) : Prop where
  low : ∀ x ∈ l, x.low < 256
  nums : ∀ x ∈ l, x.n ≤ K
  refs : ∀ x ∈ l, 1 ≤ x.refs ∧ x.refs ≤ K
  size : ∀ x ∈ l, x.data.length ≤ 549755813888
  knd : (l.map One.key).Nodup
  dnd : (l.map One.data).Nodup
set_option maxHeartbeats 8000000 in
set_option maxRecDepth 100000 in
theorem rkey_c (x : One) (w0 : World) (hl : x.low < 256) (hn : x.n ≤ 1048576) : Cal Tryz.prog 23 [.agg ⟨encOne x⟩] w0 (fun v w' => Upd [] w0 w' ∧ v = str x.key) := by
  refine Cal.mk' (by kernel_rfl) Tryz.func23 rfl rfl fun hS => ?_
  obtain ⟨low, n, refs, data⟩ := x
  have hx1 := hex_one (low / 16) (by dsimp only at hl; omega)
  have hx2 := hex_one (low % 16) (by omega)
  obtain ⟨hd, hhd⟩ : ∃ hd : List UInt8, [98, 47] ++ [hexC (low / 16)] ++ [hexC (low % 16)] ++ [47] = hd := ⟨_, rfl⟩
  have hpre : preB low = hd := hhd
  have hdl : hd.length = 5 := by rw [← hpre]; rfl
  have hky : One.key ⟨low, n, refs, data⟩ = hd ++ decDigits n := by rw [← hpre]; rfl
  rw [hky]
  have hdn := dec_len (n := n) (k := 12) (by dsimp only at hn; omega)
  dsimp only at hl hn
  clear hpre hky
  unfold encOne
  dsimp only
  repeat' (first
    | (show WL _ _ _ _ _ _ _; first
      | refine WL.pure rfl rfl rfl rfl ?_
      | refine WL.nil ?_
      | (refine WL.box hS rfl rfl rfl rfl rfl ?_; intro w b hS))
    | (show WC _ _ _ _ _ _; first
      | refine WC.seq ?_
      | refine WC.region ?_
      | refine WC.ret ?_
      | (show WC _ _ (Code.region _ (List.toArray [_, _, _, _, _, _, _, _, _, _, _, _, _, _, _, _, _, _, _, _, _, _, _, _, _, _]) true) _ _ _; refine WC.drawS hS [0,1,2,3,4,5,6,7,8,9,10,11,12,13,14,15,16,17,18,19,20,21,22,24,25] [0,1,2,3,4,5,6,7,8,9,10,11,12,13,14,15,16,17,18,19,20,21,22,23,24,25] (by kernel_rfl) (by kernel_rfl) ?_; clear hS; intro w hS hM))
    | (show WD _ _ _ _ _ _ _ _ _; first
      | refine WD.pure rfl rfl rfl rfl rfl ?_
      | refine WD.nil ?_
      | refine WD.load rfl rfl (LdOk.box (by repeat (first | exact List.Mem.head _ | apply List.Mem.tail)) rfl) rfl rfl rfl rfl ?_
      | refine WD.add rfl rfl rfl (by omega) rfl rfl rfl rfl ?_
      | (refine WD.quo rfl rfl rfl (by omega) (by omega) (by omega) rfl rfl rfl rfl ?_)
      | (refine WD.rem rfl rfl rfl (by omega) (by omega) rfl rfl rfl rfl ?_)
      | (refine WD.midS (s := hexD) (a := low / 16) (b := low / 16 + 1) rfl rfl rfl (vint (show _ = ((low / 16 : Nat) : Int) by omega)) (vint (show _ = ((low / 16 + 1 : Nat) : Int) by omega)) (by omega) (by show _ ≤ 16; omega) rfl rfl rfl rfl ?_; rw [hx1])
      | (refine WD.midS (s := hexD) (a := low % 16) (b := low % 16 + 1) rfl rfl rfl (vint (show _ = ((low % 16 : Nat) : Int) by omega)) (vint (show _ = ((low % 16 + 1 : Nat) : Int) by omega)) (by omega) (by show _ ≤ 16; omega) rfl rfl rfl rfl ?_; rw [hx2])
      | (refine WD.cat rfl rfl rfl (by first | (simp; done) | fail) rfl rfl rfl rfl ?_; rw [hhd])
      | (refine WD.cat rfl rfl rfl (by first | (simp; done) | omega) rfl rfl rfl rfl ?_)
      | (refine WD.calls hS hM rfl rfl (decimal_c n n _ (Nat.le_refl _) (by omega)) rfl rfl rfl rfl rfl ?_; clear hS; rintro v w rfl hS))
    | refine seqQ_n ?_)
  exact fin1r rfl rfl ⟨hS.upd, rfl⟩
/-- a key's place; -1: there is none -/
def PlaceIs (l : List One) (k : List UInt8) (v : Value) : Prop := (∀ x ∈ l, x.key ≠ k) ∧ v = .int .i64 (-1) ∨ ∃ i, ∃ h : i < l.length, l[i].key = k ∧ v = .int .i64 (i : Int)
set_option maxHeartbeats 8000000 in
set_option maxRecDepth 100000 in
theorem rplace_c (l : List One) (k : List UInt8) {A : Option Addr} {cap : Nat} {w0 : World} (hA : SlAt cOne (Old w0) w0 A l) (hl : l.length ≤ 1048576) (h1 : ∀ x ∈ l, x.low < 256 ∧ x.n ≤ 1048576) :
    Cal Tryz.prog 43 [.slice A l.length cap, str k] w0 (fun v w' => Upd [] w0 w' ∧ PlaceIs l k v) := by
  refine Cal.mk' (by kernel_rfl) Tryz.func43 rfl rfl fun hS => ?_
  repeat' (first
    | (show WL _ _ _ _ _ _ _; first
      | refine WL.pure rfl rfl rfl rfl ?_
      | refine WL.nil ?_)
    | (show WC _ _ _ _ _ _; first
      | refine WC.seq ?_
      | refine WC.region ?_
      | refine WC.block ?_)
    | refine seqQ_n ?_)
  refine WC.loop (σ := Nat) [0, 1] (fun i => [(5, .int .i64 (i : Int))]) (fun i w => (i ≤ l.length ∧ ∀ j (h : j < l.length), j < i → l[j].key ≠ k) ∧ St w0 [] w [] [⟨w0, Old w0⟩]) (fun i => l.length - i) 0 ⟨⟨Nat.zero_le _, fun j h h0 => absurd h0 (Nat.not_lt_zero _)⟩, hS⟩ ⟨rfl, trivial⟩ ?_
  clear hS
  rintro i g w ⟨⟨hi, hno⟩, hS⟩
  show WC _ _ _ (lf _ [(5, .int .i64 (i : Int))] _ _) _ _
  by_cases hlt : i < l.length
  · obtain ⟨rb, ro, es, rfl, hF, hr, hes⟩ := hA.at_ hlt
    have hes : es = encOne l[i] := hes
    subst hes
    have hr : w0.rangeAt rb (ro + i * 4) (encOne l[i]) := hr
    obtain ⟨g1, g2⟩ := h1 l[i] (List.getElem_mem hlt)
    have hP : l[i].key = k → PlaceIs l k (.int .i64 (i : Int)) := fun e => .inr ⟨i, hlt, e, rfl⟩
    have hn2 : l[i].key ≠ k → ∀ j (h : j < l.length), j < i + 1 → l[j].key ≠ k := fun e j h hj => by
      rcases Nat.lt_or_ge j i with h3 | h3
      · exact hno j h h3
      · have : j = i := by omega
        subst this; exact e
    obtain ⟨HP, rfl⟩ : ∃ h : (l[i].key = k → PlaceIs l k (.int .i64 (i : Int))), h = hP := ⟨_, rfl⟩
    obtain ⟨HN, rfl⟩ : ∃ h : (l[i].key ≠ k → ∀ j (h : j < l.length), j < i + 1 → l[j].key ≠ k), h = hn2 := ⟨_, rfl⟩
    have hkc := fun w0 => rkey_c l[i] w0 g1 g2
    generalize l[i].key = ki at *
    clear hno
    by_cases he : ki = k
    · have hq := HP he
      clear HP HN
      repeat' (first
        | (show WL _ _ _ _ _ _ _; first
          | refine WL.pure rfl rfl rfl rfl ?_
          | refine WL.nil ?_
          | (refine WL.load hS rfl rfl (LdOk.snap0 hF hr (by repeat (first | exact List.Mem.head _ | apply List.Mem.tail)) rfl) rfl rfl rfl ?_)
          | (refine WL.calls hS rfl rfl (hkc _) rfl rfl rfl ?_; rintro v w rfl hS)
          | refine WL.index rfl rfl rfl rfl (by first | with_reducible assumption | omega) rfl rfl rfl rfl ?_)
        | (show WC _ _ _ _ _ _; first
          | refine WC.seq ?_
          | refine WC.region ?_
          | refine WC.block ?_
          | refine WC.skip ?_
          | refine WC.ret ?_
          | refine WC.condT rfl (decide_eq_true (by first | with_reducible assumption | omega)) ?_)
        | refine seqQ_n ?_
        | refine seqQ_r ?_
        | refine blkQ_r ?_
        | refine rndQ_r ?_)
      exact fin1r rfl rfl ⟨hS.upd, hq⟩
    · have hq := HN he
      clear HP HN
      obtain ⟨HQ, rfl⟩ : ∃ h : (∀ j (h : j < l.length), j < i + 1 → l[j].key ≠ k), h = hq := ⟨_, rfl⟩
      repeat' (first
        | (show WL _ _ _ _ _ _ _; first
          | refine WL.pure rfl rfl rfl rfl ?_
          | refine WL.nil ?_
          | refine WL.add rfl rfl rfl (by omega) rfl rfl rfl ?_
          | (refine WL.load hS rfl rfl (LdOk.snap0 hF hr (by repeat (first | exact List.Mem.head _ | apply List.Mem.tail)) rfl) rfl rfl rfl ?_)
          | (refine WL.calls hS rfl rfl (hkc _) rfl rfl rfl ?_; rintro v w rfl hS)
          | refine WL.index rfl rfl rfl rfl (by first | with_reducible assumption | omega) rfl rfl rfl rfl ?_)
        | (show WC _ _ _ _ _ _; first
          | refine WC.seq ?_
          | refine WC.region ?_
          | refine WC.block ?_
          | refine WC.skip ?_
          | refine WC.condT rfl (decide_eq_true (by first | with_reducible assumption | omega)) ?_
          | refine WC.condF rfl (decide_eq_false (by first | with_reducible assumption | omega)) ?_)
        | refine seqQ_n ?_
        | refine blkQ_n ?_)
      exact rndQ_n (i + 1) ⟨⟨by omega, HQ⟩, hS⟩ (by show l.length - (i + 1) < l.length - i; omega) ⟨vint (by omega), trivial⟩ ⟨rfl, rfl, trivial⟩
  · have hall : ∀ x ∈ l, x.key ≠ k := fun x hx => by
      obtain ⟨j, hj, rfl⟩ := List.mem_iff_getElem.1 hx
      exact hno j hj (by omega)
    clear hno
    repeat' (first
      | (show WL _ _ _ _ _ _ _; first
        | refine WL.pure rfl rfl rfl rfl ?_
        | refine WL.nil ?_)
      | (show WC _ _ _ _ _ _; first
        | refine WC.seq ?_
        | refine WC.region ?_
        | refine WC.exit ?_
        | refine WC.ret ?_
        | refine WC.condF rfl (decide_eq_false (by first | with_reducible assumption | omega)) ?_)
      | refine seqQ_n ?_
      | refine seqQ_x ?_
      | refine blkQ_hit rfl ?_
      | refine rndQ_x ?_)
    exact fin1r rfl rfl ⟨hS.upd, .inl ⟨hall, rfl⟩⟩
/-- the law's key of a content -/
def keyOf (l : List One) (s : List UInt8) : List UInt8 := match l.find? fun x => decide (x.data = s) with
  | some x => x.key
  | none => s
set_option maxHeartbeats 8000000 in
set_option maxRecDepth 100000 in
theorem lkey_c (l : List One) (s : List UInt8) {A : Option Addr} {cap : Nat} {w0 : World} (hA : SlAt cOne (Old w0) w0 A l) (hl : l.length ≤ 1048576) (h1 : ∀ x ∈ l, x.low < 256 ∧ x.n ≤ 1048576) :
    Cal Tryz.prog 20 [.slice A l.length cap, str s] w0 (fun v w' => Upd [] w0 w' ∧ v = str (keyOf l s)) := by
  refine Cal.mk' (by kernel_rfl) Tryz.func20 rfl rfl fun hS => ?_
  repeat' (first
    | (show WL _ _ _ _ _ _ _; first
      | refine WL.pure rfl rfl rfl rfl ?_
      | refine WL.nil ?_)
    | (show WC _ _ _ _ _ _; first
      | refine WC.seq ?_
      | refine WC.region ?_
      | refine WC.block ?_)
    | refine seqQ_n ?_)
  refine WC.loop (σ := Nat) [0, 1] (fun i => [(5, .int .i64 (i : Int))]) (fun i w => (i ≤ l.length ∧ keyOf l s = keyOf (l.drop i) s) ∧ St w0 [] w [] [⟨w0, Old w0⟩]) (fun i => l.length - i) 0 ⟨⟨Nat.zero_le _, rfl⟩, hS⟩ ⟨rfl, trivial⟩ ?_
  clear hS
  rintro i g w ⟨⟨hi, hno⟩, hS⟩
  show WC _ _ _ (lf _ [(5, .int .i64 (i : Int))] _ _) _ _
  by_cases hlt : i < l.length
  · obtain ⟨rb, ro, es, rfl, hF, hr, hes⟩ := hA.at_ hlt
    have hes : es = encOne l[i] := hes
    subst hes
    have hr : w0.rangeAt rb (ro + i * 4) (encOne l[i]) := hr
    obtain ⟨g1, g2⟩ := h1 l[i] (List.getElem_mem hlt)
    have hkc := fun w0 => rkey_c l[i] w0 g1 g2
    rw [List.drop_eq_getElem_cons hlt] at hno
    have hk1 : l[i].data = s → keyOf l s = l[i].key := fun e => by rw [hno]; unfold keyOf; rw [List.find?_cons, decide_eq_true e]
    have hk2 : l[i].data ≠ s → keyOf l s = keyOf (l.drop (i + 1)) s := fun e => by rw [hno]; unfold keyOf; rw [List.find?_cons, decide_eq_false e]
    generalize l[i].key = ki at *
    generalize hx : l[i] = x at *
    obtain ⟨low, n, refs, data⟩ := x
    have hr : w0.rangeAt rb (ro + i * 4) [.int .i64 (low : Int), .int .i64 (n : Int), .int .i64 (refs : Int), str data] := hr
    by_cases he : data = s
    · have hq := hk1 he
      rw [hq]
      clear hno hk1 hk2 hq
      repeat' (first
        | (show WL _ _ _ _ _ _ _; first
          | refine WL.pure rfl rfl rfl rfl ?_
          | refine WL.nil ?_
          | (refine WL.load hS rfl rfl (LdOk.snap hF hr (by repeat (first | exact List.Mem.head _ | apply List.Mem.tail)) rfl) rfl rfl rfl ?_)
          | (refine WL.load hS rfl rfl (LdOk.snap0 hF hr (by repeat (first | exact List.Mem.head _ | apply List.Mem.tail)) rfl) rfl rfl rfl ?_)
          | (refine WL.calls hS rfl rfl (hkc _) rfl rfl rfl ?_; rintro v w rfl hS)
          | refine WL.index rfl rfl rfl rfl (by first | with_reducible assumption | omega) rfl rfl rfl rfl ?_)
        | (show WC _ _ _ _ _ _; first
          | refine WC.seq ?_
          | refine WC.region ?_
          | refine WC.block ?_
          | refine WC.skip ?_
          | refine WC.ret ?_
          | refine WC.condT rfl (decide_eq_true (by first | with_reducible assumption | omega)) ?_)
        | refine seqQ_n ?_
        | refine seqQ_r ?_
        | refine blkQ_r ?_
        | refine rndQ_r ?_)
      exact fin1r rfl rfl ⟨hS.upd, rfl⟩
    · have hq := hk2 he
      clear hno hk1 hk2
      repeat' (first
        | (show WL _ _ _ _ _ _ _; first
          | refine WL.pure rfl rfl rfl rfl ?_
          | refine WL.nil ?_
          | refine WL.add rfl rfl rfl (by omega) rfl rfl rfl ?_
          | (refine WL.load hS rfl rfl (LdOk.snap hF hr (by repeat (first | exact List.Mem.head _ | apply List.Mem.tail)) rfl) rfl rfl rfl ?_)
          | refine WL.index rfl rfl rfl rfl (by first | with_reducible assumption | omega) rfl rfl rfl rfl ?_)
        | (show WC _ _ _ _ _ _; first
          | refine WC.seq ?_
          | refine WC.region ?_
          | refine WC.block ?_
          | refine WC.skip ?_
          | refine WC.condT rfl (decide_eq_true (by first | with_reducible assumption | omega)) ?_
          | refine WC.condF rfl (decide_eq_false (by first | with_reducible assumption | omega)) ?_)
        | refine seqQ_n ?_
        | refine blkQ_n ?_)
      exact rndQ_n (i + 1) ⟨⟨by omega, hq⟩, hS⟩ (by show l.length - (i + 1) < l.length - i; omega) ⟨vint (by omega), trivial⟩ ⟨rfl, rfl, trivial⟩
  · rw [List.drop_of_length_le (by omega)] at hno
    rw [hno]
    clear hno
    repeat' (first
      | (show WL _ _ _ _ _ _ _; first
        | refine WL.pure rfl rfl rfl rfl ?_
        | refine WL.nil ?_)
      | (show WC _ _ _ _ _ _; first
        | refine WC.seq ?_
        | refine WC.region ?_
        | refine WC.exit ?_
        | refine WC.ret ?_
        | refine WC.condF rfl (decide_eq_false (by first | with_reducible assumption | omega)) ?_)
      | refine seqQ_n ?_
      | refine seqQ_x ?_
      | refine blkQ_hit rfl ?_
      | refine rndQ_x ?_)
    exact fin1r rfl rfl ⟨hS.upd, rfl⟩
end Go.Proofs.YtlddmenpafcaiaaGreatDoor

/- What is proved: what the reference's Put of a content answers. Conditions: lists of bounded length. -/
set_option linter.unusedSimpArgs false
set_option linter.unusedVariables false
namespace Go.Proofs.YtlddmenpafcaiaaGreatDoor
open Go Go.J Go.RowKit
open Go.Lib (decDigits)

theorem ones_at {l : List One} {i : Nat} (h : i < l.length) {j : Nat} (hj : j < 4) : (ones l)[i * 4 + j]? = (encOne l[i])[j]? := by
  have h1 := flat_get (enc := encOne) (sz := 4) (fun _ => rfl) l h hj
  exact h1
theorem ones_set {l : List One} {i r : Nat} (h : i < l.length) : (ones l).take (i * 4 + 2) ++ [.int .i64 (r : Int)] ++ (ones l).drop (i * 4 + 2 + 1) = ones (l.set i { l[i] with refs := r }) := by
  induction l generalizing i with
  | nil => exact absurd h (Nat.not_lt_zero _)
  | cons x l ih =>
    cases i with
    | zero => rfl
    | succ i =>
      have hc : ones (x :: l) = encOne x ++ ones l := by unfold ones; rw [List.flatMap_cons]
      have h2 := ih (i := i) (by simpa using h)
      rw [List.set_cons_succ, hc, show ones (x :: l.set i { (x :: l)[i + 1] with refs := r }) = encOne x ++ ones (l.set i { l[i]'(by simpa using h) with refs := r }) from by unfold ones; rw [List.flatMap_cons]; rfl, ← h2]
      rw [show (i + 1) * 4 + 2 = (encOne x).length + (i * 4 + 2) by show _ = 4 + _; omega, List.take_length_add_append, show (encOne x).length + (i * 4 + 2) + 1 = (encOne x).length + (i * 4 + 2 + 1) by omega, List.drop_length_add_append]
      simp
theorem upd_set {l : List One} (hk : (l.map One.key).Nodup) {i r : Nat} (h : i < l.length) : l.set i { l[i] with refs := r } = updB l l[i].key r := by
  refine List.ext_getElem? fun j => ?_
  unfold updB
  rw [List.getElem?_map, List.getElem?_set]
  by_cases e : i = j
  · subst e
    rw [if_pos rfl, if_pos h, List.getElem?_eq_getElem h, Option.map_some, if_pos rfl]
  · rw [if_neg e]
    by_cases hj : j < l.length
    · rw [List.getElem?_eq_getElem hj, Option.map_some, if_neg]
      intro e2
      have h3 : (l.map One.key)[j]'(by simpa using hj) = (l.map One.key)[i]'(by simpa using h) := by simpa using e2
      have hpw := List.pairwise_iff_getElem.1 hk
      rcases Nat.lt_or_gt_of_ne e with h4 | h4
      · exact hpw i j (by simpa using h) (by simpa using hj) h4 h3.symm
      · exact hpw j i (by simpa using hj) (by simpa using h) h4 h3
    · rw [List.getElem?_eq_none (by omega)]; rfl
set_option maxHeartbeats 16000000 in
set_option maxRecDepth 100000 in
theorem rput_c (l : List One) (data : List UInt8) {K : Nat} {A : Option Addr} {cap : Nat} {w0 : World} (hA : SlAt cOne (Old w0) w0 A l) (hok : OnesOk l K) (hK : K ≤ 524288) (hl : l.length ≤ K) (hd : data.length ≤ 549755813888) (hlow : ∀ x ∈ l, x.low = lowE x.data) :
    Cal Tryz.prog 21 [.slice A l.length cap, str data] w0 (fun v w' => Upd [] w0 w' ∧ ∃ A' cap', v = .tuple #[.slice A' (putB l data).1.length cap', str (putB l data).2] ∧ New w0 w' (.own (.slice A' (putB l data).1.length cap') 50 4 (putB l data).1.length (ones (putB l data).1))) := by
  refine Cal.mk' (by kernel_rfl) Tryz.func21 rfl rfl fun hS => ?_
  have h1 : ∀ x ∈ l, x.low < 256 ∧ x.n ≤ 1048576 := fun x hx => ⟨hok.low x hx, by have := hok.nums x hx; omega⟩
  have hlw := low_wrap (sumE data)
  have hli := low_int data
  have hl256 := lowE_lt data
  repeat' (first
    | (show WL _ _ _ _ _ _ _; first
      | refine WL.pure rfl rfl rfl rfl ?_
      | refine WL.nil ?_
      | (refine WL.slit (t := 41) (len := 0) hS rfl rfl rfl rfl rfl ?_; intro w ob hS; have hS := hS.boxRow (n := 0) (size := 4) .here rfl (Nat.zero_le _))
      | (refine WL.appSl (sz := 4) (enc := encOne) (hsz := fun _ => rfl) hS rfl rfl rfl rfl hA (by repeat (first | exact List.Mem.head _ | apply List.Mem.tail)) (by decide) (ones_one l) (fun A cap => by repeat (first | exact Repl.here | apply Repl.there)) (by omega) rfl rfl rfl ?_; intro A2 cap2 w hS; rw [Nat.zero_add] at hS ⊢; have hcap2 := (hS.own_len (List.Mem.head _)).2.2)
      | (refine WL.calls hS rfl rfl (rsum_c data _ (by omega)) rfl rfl rfl ?_; rintro v w rfl hS)
      | (refine WL.remK rfl rfl rfl (by omega) (by omega) hlw rfl rfl rfl ?_; rw [hli])
      | refine WL.conv64 rfl rfl rfl (by omega) rfl rfl rfl ?_)
    | (show WC _ _ _ _ _ _; first
      | refine WC.seq ?_
      | refine WC.region ?_
      | refine WC.block ?_)
    | refine seqQ_n ?_)
  replace hS := hS.droplast2 (D := [.own (.slice A2 l.length cap2) 50 4 l.length (ones l)]) (by repeat (first | exact Pulls.nil | (apply Pulls.cons; focus (repeat (first | exact Pull.here | apply Pull.there)))))
  refine WC.loop (σ := Nat) [1, 6, 7] (fun i => [(8, .int .i64 (i : Int))]) (fun i w => (i ≤ l.length ∧ ∀ x ∈ l.take i, x.data ≠ data) ∧ St w0 [] w [.own (.slice A2 l.length cap2) 50 4 l.length (ones l)] [⟨w0, Old w0⟩]) (fun i => l.length - i) 0 ⟨⟨Nat.zero_le _, fun x hx => by simp at hx⟩, hS⟩ ⟨rfl, trivial⟩ ?_
  clear hS
  rintro i g w ⟨⟨hi, hno⟩, hS⟩
  show WC _ _ _ (lf _ [(8, .int .i64 (i : Int))] _ _) _ _
  by_cases hlt : i < l.length
  · obtain ⟨kg, ko, rfl⟩ := hS.own_addr (A := A2) (n := l.length) (List.Mem.head _) (by omega)
    have hx := List.getElem_mem hlt
    have h3 : (ones l)[i * 4 + 3]? = some (str l[i].data) := ones_at hlt (by decide)
    have h2 : (ones l)[i * 4 + 2]? = some (.int .i64 (l[i].refs : Int)) := ones_at hlt (by decide)
    have hnx : l[i].data ≠ data → ∀ x ∈ l.take (i + 1), x.data ≠ data := fun e x hx => by
      rw [List.take_succ_eq_append_getElem hlt] at hx
      rcases List.mem_append.1 hx with hx | hx
      · exact hno x hx
      · rw [List.mem_singleton.1 hx]; exact e
    obtain ⟨HN, rfl⟩ : ∃ h : (l[i].data ≠ data → ∀ x ∈ l.take (i + 1), x.data ≠ data), h = hnx := ⟨_, rfl⟩
    have hlen := ones_len l
    have hrb := hok.refs l[i] hx
    by_cases hd1 : l[i].data = data
    · have hput : putB l data = (updB l l[i].key (l[i].refs + 1), l[i].key) := putB_old hok.dnd hx hd1
      have hset := upd_set hok.knd (r := l[i].refs + 1) hlt
      have hoset := ones_set (r := l[i].refs + 1) hlt
      rw [hset] at hoset
      have hat : (updB l l[i].key (l[i].refs + 1))[i]? = some { l[i] with refs := l[i].refs + 1 } := by rw [← hset, List.getElem?_set_self hlt]
      have hul : (updB l l[i].key (l[i].refs + 1)).length = l.length := by unfold updB; rw [List.length_map]
      have hkc := fun w0 => rkey_c { l[i] with refs := l[i].refs + 1 } w0 (h1 _ hx).1 (h1 _ hx).2
      rw [hput]
      dsimp only
      rw [hul]
      generalize updB l l[i].key (l[i].refs + 1) = l' at *
      generalize hxr : l[i].refs = r at *
      generalize hxk : l[i].key = key at *
      generalize { l[i] with refs := r + 1 : One } = x' at *
      clear HN hno hset hput
      repeat' (first
        | (show WL _ _ _ _ _ _ _; first
          | refine WL.pure rfl rfl rfl rfl ?_
          | refine WL.nil ?_
          | refine WL.add rfl rfl rfl (by omega) rfl rfl rfl ?_
          | (refine WL.load hS rfl rfl (LdOk.ownAt (off := i * 4 + 3) (by repeat (first | exact List.Mem.head _ | apply List.Mem.tail)) rfl ⟨_, rfl⟩ h3 rfl) rfl rfl rfl ?_)
          | (refine WL.load hS rfl rfl (LdOk.ownAt (off := i * 4 + 2) (by repeat (first | exact List.Mem.head _ | apply List.Mem.tail)) rfl ⟨_, rfl⟩ h2 rfl) rfl rfl rfl ?_)
          | (refine WL.storeOwn (off := i * 4 + 2) (vs := [.int .i64 ((r + 1 : Nat) : Int)]) hS rfl rfl rfl (by repeat (first | exact Repl.here | apply Repl.there)) (by show i * 4 + 2 + 1 ≤ _; rw [hlen]; omega) rfl rfl rfl rfl ?_; intro w hS; replace hS : St w0 [] w [.own (.slice (some ⟨kg, ko, none⟩) l.length cap2) 50 4 l.length (ones l')] [⟨w0, Old w0⟩] := (by rw [← hoset]; exact hS))
          | (refine WL.load hS rfl rfl (LdOk.ownElemE (enc := encOne) (l := l') (fun _ => rfl) (by repeat (first | exact List.Mem.head _ | apply List.Mem.tail)) hat rfl rfl) rfl rfl rfl ?_)
          | (refine WL.calls hS rfl rfl (hkc _) rfl rfl rfl ?_; rintro v w rfl hS)
          | refine WL.index rfl rfl rfl rfl (by first | with_reducible assumption | omega) rfl rfl rfl rfl ?_)
        | (show WC _ _ _ _ _ _; first
          | refine WC.seq ?_
          | refine WC.region ?_
          | refine WC.block ?_
          | refine WC.skip ?_
          | refine WC.ret ?_
          | refine WC.condT rfl (decide_eq_true (by first | with_reducible assumption | omega)) ?_)
        | refine seqQ_n ?_
        | refine seqQ_r ?_
        | refine blkQ_r ?_
        | refine rndQ_r ?_)
      exact fin2r rfl rfl rfl ⟨hS.upd, _, _, rfl, hS.newOf (List.Mem.head _)⟩
    · have hq := HN hd1
      obtain ⟨HQ, rfl⟩ : ∃ h : (∀ x ∈ l.take (i + 1), x.data ≠ data), h = hq := ⟨_, rfl⟩
      generalize l[i].data = dx at *
      clear HN hno
      repeat' (first
        | (show WL _ _ _ _ _ _ _; first
          | refine WL.pure rfl rfl rfl rfl ?_
          | refine WL.nil ?_
          | refine WL.add rfl rfl rfl (by omega) rfl rfl rfl ?_
          | (refine WL.load hS rfl rfl (LdOk.ownAt (off := i * 4 + 3) (by repeat (first | exact List.Mem.head _ | apply List.Mem.tail)) rfl ⟨_, rfl⟩ h3 rfl) rfl rfl rfl ?_)
          | refine WL.index rfl rfl rfl rfl (by first | with_reducible assumption | omega) rfl rfl rfl rfl ?_)
        | (show WC _ _ _ _ _ _; first
          | refine WC.seq ?_
          | refine WC.region ?_
          | refine WC.block ?_
          | refine WC.skip ?_
          | refine WC.condT rfl (decide_eq_true (by first | with_reducible assumption | omega)) ?_
          | refine WC.condF rfl (decide_eq_false (by first | with_reducible assumption | omega)) ?_)
        | refine seqQ_n ?_
        | refine blkQ_n ?_)
      exact rndQ_n (i + 1) ⟨⟨by omega, HQ⟩, hS⟩ (by show l.length - (i + 1) < l.length - i; omega) ⟨vint (by omega), trivial⟩ ⟨rfl, rfl, rfl, trivial⟩
  · have hie : i = l.length := by omega
    subst hie
    rw [List.take_length] at hno
    have hput := putB_new hno
    rw [hput]
    dsimp only
    obtain ⟨low, hlo⟩ : ∃ low, low = lowE data := ⟨_, rfl⟩
    rw [← hlo] at hli hl256 ⊢
    clear hput hno
    repeat' (first
      | (show WL _ _ _ _ _ _ _; first
        | refine WL.pure rfl rfl rfl rfl ?_
        | refine WL.nil ?_
        | (refine WL.store hS rfl rfl rfl (by repeat (first | exact StB.here rfl | apply StB.there)) rfl rfl rfl ?_; intro w hS)
        | (refine WL.alloc hS rfl rfl rfl rfl rfl rfl ?_; intro w b hS)
        | refine WL.build rfl rfl rfl rfl rfl ?_)
      | (show WC _ _ _ _ _ _; first
        | refine WC.seq ?_
        | refine WC.region ?_
        | refine WC.block ?_
        | refine WC.exit ?_
        | refine WC.condF rfl (decide_eq_false (by first | with_reducible assumption | omega)) ?_)
      | refine seqQ_n ?_
      | refine seqQ_x ?_
      | refine blkQ_hit rfl ?_
      | refine rndQ_x ?_)
    refine WC.loop (σ := Nat) [6, 9] (fun _ => []) (fun k w => (∀ i, i < k → i ∈ numsB l low) ∧ St w0 [] w [.own (.slice A2 l.length cap2) 50 4 l.length (ones l), .box b 50 [.int .i64 (low : Int), .int .i64 (k : Int), .int .i64 1, str data]] [⟨w0, Old w0⟩]) (fun k => (numsB l low).length - k) 0 ⟨fun i hi => absurd hi (Nat.not_lt_zero _), hS.droplast2 (by repeat (first | exact Pulls.nil | (apply Pulls.cons; focus (repeat (first | exact Pull.here | apply Pull.there)))))⟩ trivial ?_
    clear hS
    rintro k g2 w ⟨hkn, hS⟩
    show WC _ _ _ (lf _ [] _ _) _ _
    have hkl := free_le hkn
    have hnl := nums_len l low
    have hkc := fun w0 => rkey_c ⟨low, k, 1, data⟩ w0 hl256 (by show k ≤ _; omega)
    have hkey : One.key ⟨low, k, 1, data⟩ = keyB low k := rfl
    rw [hkey] at hkc
    by_cases hk : k ∈ numsB l low
    · have hkn1 : ∀ i, i < k + 1 → i ∈ numsB l low := fun i hi => by
        rcases Nat.lt_or_ge i k with h | h
        · exact hkn i h
        · rw [show i = k by omega]; exact hk
      have hkl2 := free_le hkn1
      have hpc := fun (w0 : World) (A : Option Addr) (cap : Nat) (hA : SlAt cOne (Old w0) w0 A l) => (rplace_c l (keyB low k) (cap := cap) hA (by omega) h1).mono (R' := fun v w' => Upd [] w0 w' ∧ ∃ i : Nat, v = .int .i64 (i : Int)) fun v w' ⟨hu, hp⟩ => ⟨hu, by
        obtain ⟨x, hx, e1, e2⟩ := mem_nums.1 hk
        rcases hp with ⟨hp, _⟩ | ⟨i, _, _, hv⟩
        · exact absurd (show x.key = keyB low k by rw [← e1, ← e2]) (hp x hx)
        · exact ⟨i, hv⟩⟩
      repeat' (first
        | (show WL _ _ _ _ _ _ _; first
          | refine WL.pure rfl rfl rfl rfl ?_
          | refine WL.nil ?_
          | refine WL.load hS rfl rfl (LdOk.box (by repeat (first | exact List.Mem.head _ | apply List.Mem.tail)) rfl) rfl rfl rfl ?_
          | refine WL.add rfl rfl rfl (by omega) rfl rfl rfl ?_
          | (refine WL.calls hS rfl rfl (hkc _) rfl rfl rfl ?_; rintro v w rfl hS)
          | (refine WL.calls hS rfl rfl (hpc _ _ _ (St.ownSl (enc := encOne) (hsz := fun _ => rfl) (l := l) (by decide) hS (by repeat (first | exact List.Mem.head _ | apply List.Mem.tail)))) rfl rfl rfl ?_; rintro v w ⟨ip, rfl⟩ hS)
          | (refine WL.store hS rfl rfl rfl (by repeat (first | exact StB.here rfl | apply StB.there)) rfl rfl rfl ?_; intro w hS))
        | (show WC _ _ _ _ _ _; first
          | refine WC.seq ?_
          | refine WC.region ?_
          | refine WC.block ?_
          | refine WC.skip ?_
          | refine WC.condT rfl (decide_eq_true (by first | with_reducible assumption | omega)) ?_)
        | refine seqQ_n ?_
        | refine blkQ_n ?_)
      exact rndQ_n (k + 1) ⟨hkn1, hS⟩ (by show (numsB l low).length - (k + 1) < (numsB l low).length - k; omega) trivial ⟨rfl, rfl, trivial⟩
    · have hfr : freeN (numsB l low) = k := freeN_of hkn hk
      rw [hfr]
      have hpc := fun (w0 : World) (A : Option Addr) (cap : Nat) (hA : SlAt cOne (Old w0) w0 A l) => (rplace_c l (keyB low k) (cap := cap) hA (by omega) h1).mono (R' := fun v w' => Upd [] w0 w' ∧ v = .int .i64 (-1)) fun v w' ⟨hu, hp⟩ => ⟨hu, by
        rcases hp with ⟨_, hv⟩ | ⟨i, hi, he, _⟩
        · exact hv
        · obtain ⟨e1, e2⟩ := keyB_inj (h1 _ (List.getElem_mem hi)).1 hl256 he
          exact absurd (mem_nums.2 ⟨_, List.getElem_mem hi, e1, e2⟩) hk⟩
      repeat' (first
        | (show WL _ _ _ _ _ _ _; first
          | refine WL.pure rfl rfl rfl rfl ?_
          | refine WL.nil ?_
          | refine WL.load hS rfl rfl (LdOk.box (by repeat (first | exact List.Mem.head _ | apply List.Mem.tail)) rfl) rfl rfl rfl ?_
          | (refine WL.calls hS rfl rfl (hkc _) rfl rfl rfl ?_; rintro v w rfl hS)
          | (refine WL.calls hS rfl rfl (hpc _ _ _ (St.ownSl (enc := encOne) (hsz := fun _ => rfl) (l := l) (by decide) hS (by repeat (first | exact List.Mem.head _ | apply List.Mem.tail)))) rfl rfl rfl ?_; rintro v w rfl hS)
          | (refine WL.app (m := 1) hS rfl rfl rfl rfl (RdOk.box (by repeat (first | exact List.Mem.head _ | apply List.Mem.tail))) rfl rfl (fun A cap => by repeat (first | exact Repl.here | apply Repl.there)) (by omega) rfl rfl rfl ?_; intro A3 cap3 w hS)
          | (refine WL.slit hS rfl rfl rfl rfl rfl ?_; intro w b hS))
        | (show WC _ _ _ _ _ _; first
          | refine WC.seq ?_
          | refine WC.region ?_
          | refine WC.exit ?_
          | refine WC.ret ?_
          | refine WC.condF rfl (by decide) ?_)
        | refine seqQ_n ?_
        | refine seqQ_x ?_
        | refine blkQ_hit rfl ?_
        | refine rndQ_x ?_)
      replace hS := hS.droplast2 (D := [.own (.slice A3 (l.length + 1) cap3) 50 4 (l.length + 1) (ones l ++ encOne ⟨low, k, 1, data⟩)]) (by repeat (first | exact Pulls.nil | (apply Pulls.cons; focus (repeat (first | exact Pull.here | apply Pull.there)))))
      rw [ones_snoc] at hS
      exact fin2r rfl rfl rfl ⟨hS.upd, A3, cap3, by rw [List.length_append]; rfl, by rw [List.length_append]; exact hS.newOf (List.Mem.head _)⟩
end Go.Proofs.YtlddmenpafcaiaaGreatDoor

/- What is proved: what the reference's Release and Sweep of contents answer. Conditions: lists of bounded length. -/
set_option linter.unusedSimpArgs false
set_option linter.unusedVariables false
namespace Go.Proofs.YtlddmenpafcaiaaGreatDoor
open Go Go.J Go.RowKit
open Go.Lib (decDigits)

def relOne (k : List UInt8) (y : One) : Option One := if y.key = k then (if 1 < y.refs then some { y with refs := y.refs - 1 } else none) else some y
theorem relB_fm {l : List One} {k : List UInt8} {x : One} (hk : (l.map One.key).Nodup) (hf : findB l k = some x) : relB l k = l.filterMap (relOne k) := by
  obtain ⟨hx, e⟩ := find_some hf
  unfold relB
  rw [hf]
  dsimp only
  by_cases h1 : 1 < x.refs
  · rw [if_pos h1]
    unfold updB
    rw [← List.filterMap_eq_map]
    refine filterMap_cong fun y hy => ?_
    unfold relOne
    show some (if y.key = k then _ else y) = _
    by_cases h2 : y.key = k
    · have := nd_key hk hy hx (h2.trans e.symm)
      subst this
      rw [if_pos h2, if_pos h2, if_pos h1]
    · rw [if_neg h2, if_neg h2]
  · rw [if_neg h1, ← List.filterMap_eq_filter]
    refine filterMap_cong fun y hy => ?_
    unfold relOne
    by_cases h2 : y.key = k
    · have := nd_key hk hy hx (h2.trans e.symm)
      subst this
      rw [if_pos h2, if_neg h1]; simp [Option.guard, h2]
    · rw [if_neg h2]; simp [Option.guard, h2]
theorem fm_snoc {f : One → Option One} {l : List One} {i : Nat} (h : i < l.length) : (l.take (i + 1)).filterMap f = (l.take i).filterMap f ++ (f l[i]).toList := by
  rw [List.take_succ_eq_append_getElem h, List.filterMap_append]
  cases hf : f l[i] with
  | none => simp [hf]
  | some y => simp [hf]
theorem fm_len (f : One → Option One) (l : List One) (i : Nat) : ((l.take i).filterMap f).length ≤ i := by
  refine Nat.le_trans (List.length_filterMap_le _ _) ?_
  rw [List.length_take]; omega
section
variable {l : List One} {K : Nat} {A : Option Addr} {cap : Nat} {w0 : World}
set_option maxHeartbeats 8000000 in
set_option maxRecDepth 100000 in
theorem rrelNo_c (k : List UInt8) (hA : SlAt cOne (Old w0) w0 A l) (hok : OnesOk l K) (hK : K ≤ 524288) (hl : l.length ≤ K) (hf : findB l k = none) :
    Cal Tryz.prog 22 [.slice A l.length cap, str k] w0 (fun v w' => Upd [] w0 w' ∧ v = .tuple #[.slice A l.length cap, .bool false]) := by
  refine Cal.mk' (by kernel_rfl) Tryz.func22 rfl rfl fun hS => ?_
  have h1 : ∀ x ∈ l, x.low < 256 ∧ x.n ≤ 1048576 := fun x hx => ⟨hok.low x hx, by have := hok.nums x hx; omega⟩
  have hpc := fun (w0 : World) (A : Option Addr) (cap : Nat) (hA : SlAt cOne (Old w0) w0 A l) => (rplace_c l k (cap := cap) hA (by omega) h1).mono (R' := fun v w' => Upd [] w0 w' ∧ v = .int .i64 (-1)) fun v w' ⟨hu, hp⟩ => ⟨hu, by
    rcases hp with ⟨_, hv⟩ | ⟨i, hi, he, _⟩
    · exact hv
    · exact absurd (List.find?_eq_none.1 hf _ (List.getElem_mem hi)) (by simp [he])⟩
  repeat' (first
    | (show WL _ _ _ _ _ _ _; first
      | refine WL.pure rfl rfl rfl rfl ?_
      | refine WL.nil ?_
      | (refine WL.calls hS rfl rfl (hpc _ _ _ hA) rfl rfl rfl ?_; rintro v w rfl hS))
    | (show WC _ _ _ _ _ _; first
      | refine WC.seq ?_
      | refine WC.region ?_
      | refine WC.ret ?_
      | refine WC.condT rfl (by decide) ?_)
    | refine seqQ_n ?_
    | refine seqQ_r ?_)
  exact fin2r rfl rfl rfl ⟨hS.upd, rfl⟩
set_option maxHeartbeats 16000000 in
set_option maxRecDepth 100000 in
theorem rrelYes_c (k : List UInt8) {x : One} (hA : SlAt cOne (Old w0) w0 A l) (hok : OnesOk l K) (hK : K ≤ 524288) (hl : l.length ≤ K) (hf : findB l k = some x) :
    Cal Tryz.prog 22 [.slice A l.length cap, str k] w0 (fun v w' => Upd [] w0 w' ∧ ∃ A' cap', v = .tuple #[.slice A' (relB l k).length cap', .bool true] ∧ New w0 w' (.own (.slice A' (relB l k).length cap') 50 4 (relB l k).length (ones (relB l k)))) := by
  refine Cal.mk' (by kernel_rfl) Tryz.func22 rfl rfl fun hS => ?_
  have h1 : ∀ x ∈ l, x.low < 256 ∧ x.n ≤ 1048576 := fun x hx => ⟨hok.low x hx, by have := hok.nums x hx; omega⟩
  have hpc := fun (w0 : World) (A : Option Addr) (cap : Nat) (hA : SlAt cOne (Old w0) w0 A l) => (rplace_c l k (cap := cap) hA (by omega) h1).mono (R' := fun v w' => Upd [] w0 w' ∧ ∃ i, ∃ h : i < l.length, l[i].key = k ∧ v = .int .i64 (i : Int)) fun v w' ⟨hu, hp⟩ => ⟨hu, by
    rcases hp with ⟨hp, _⟩ | hp
    · obtain ⟨hx, e⟩ := find_some hf
      exact absurd e (hp x hx)
    · exact hp⟩
  rw [relB_fm hok.knd hf]
  repeat' (first
    | (show WL _ _ _ _ _ _ _; first
      | refine WL.pure rfl rfl rfl rfl ?_
      | refine WL.nil ?_
      | (refine WL.calls hS rfl rfl (hpc _ _ _ hA) rfl rfl rfl ?_; rintro v w ⟨p, hp, hpk, rfl⟩ hS))
    | (show WC _ _ _ _ _ _; first
      | refine WC.seq ?_
      | refine WC.region ?_
      | refine WC.block ?_
      | refine WC.skip ?_
      | refine WC.condF rfl (decide_eq_false (by first | with_reducible assumption | omega)) ?_)
    | refine seqQ_n ?_)
  replace hS := hS.nilRow 50 4
  refine WC.loop (σ := Nat × List One × Option Addr × Nat) [0, 6] (fun (i, out, A', cap') => [(7, .slice A' out.length cap'), (8, .int .i64 (i : Int))]) (fun (i, out, A', cap') w => (i ≤ l.length ∧ out = (l.take i).filterMap (relOne k)) ∧ St w0 [] w [.own (.slice A' out.length cap') 50 4 out.length (ones out)] [⟨w0, Old w0⟩]) (fun (i, _) => l.length - i) (0, [], none, 0) ⟨⟨Nat.zero_le _, rfl⟩, hS.droplast2 (D := [.own (.slice none 0 0) 50 4 0 []]) (by repeat (first | exact Pulls.nil | (apply Pulls.cons; focus (repeat (first | exact Pull.here | apply Pull.there)))))⟩ ⟨rfl, rfl, trivial⟩ ?_
  clear hS
  rintro ⟨i, out, A', cap'⟩ g w ⟨⟨hi, hout⟩, hS⟩
  show WC _ _ _ (lf _ [(7, .slice A' out.length cap'), (8, .int .i64 (i : Int))] _ _) _ _
  have hol : out.length ≤ i := by rw [hout]; exact fm_len _ _ _
  by_cases hlt : i < l.length
  · obtain ⟨rb, ro, es, rfl, hF, hr, hes⟩ := hA.at_ hlt
    have hes : es = encOne l[i] := hes
    subst hes
    have hr : w0.rangeAt rb (ro + i * 4) (encOne l[i]) := hr
    have hfs := fm_snoc (f := relOne k) hlt
    rw [← hout] at hfs
    have hrf := hok.refs l[i] (List.getElem_mem hlt)
    have hipk : i = p ↔ l[i].key = k := ⟨fun e => by subst e; exact hpk, fun e => by
      apply Classical.byContradiction
      intro hne
      have hpw := List.pairwise_iff_getElem.1 hok.knd
      have h3 : (l.map One.key)[i]'(by simpa using hlt) = (l.map One.key)[p]'(by simpa using hp) := by simpa using e.trans hpk.symm
      rcases Nat.lt_or_gt_of_ne hne with h4 | h4
      · exact hpw i p (by simpa using hlt) (by simpa using hp) h4 h3
      · exact hpw p i (by simpa using hp) (by simpa using hlt) h4 h3.symm⟩
    have hro : relOne k l[i] = if i = p then (if 1 < l[i].refs then some { l[i] with refs := l[i].refs - 1 } else none) else some l[i] := by
      unfold relOne
      by_cases e : i = p
      · rw [if_pos e, if_pos (hipk.1 e)]
      · rw [if_neg e, if_neg (fun h => e (hipk.2 h))]
    rw [hro] at hfs
    have hcap := (hS.own_len (List.Mem.head _)).2.2
    generalize l[i] = y at *
    obtain ⟨low, n, refs, data⟩ := y
    have hr : w0.rangeAt rb (ro + i * 4) [.int .i64 (low : Int), .int .i64 (n : Int), .int .i64 (refs : Int), str data] := hr
    clear hpc hipk hro hpk hout
    dsimp only at hfs hrf
    by_cases hip : i = p
    · rw [if_pos hip] at hfs
      by_cases hr1 : 1 < refs
      · rw [if_pos hr1] at hfs
        obtain ⟨r, rfl⟩ : ∃ r, refs = r + 1 := ⟨refs - 1, by omega⟩
        have hfs : (l.take (i + 1)).filterMap (relOne k) = out ++ [⟨low, n, r, data⟩] := hfs
        repeat' (first
          | (show WL _ _ _ _ _ _ _; first
            | refine WL.pure rfl rfl rfl rfl ?_
            | refine WL.nil ?_
            | refine WL.load hS rfl rfl (LdOk.box (by repeat (first | exact List.Mem.head _ | apply List.Mem.tail)) rfl) rfl rfl rfl ?_
            | refine WL.add rfl rfl rfl (by omega) rfl rfl rfl ?_
            | refine WL.sub rfl rfl rfl (by omega) rfl rfl rfl ?_
            | (refine WL.load hS rfl rfl (LdOk.snap0 hF hr (by repeat (first | exact List.Mem.head _ | apply List.Mem.tail)) rfl) rfl rfl rfl ?_)
            | (refine WL.app (m := 1) hS rfl rfl rfl rfl (RdOk.box (by repeat (first | exact List.Mem.head _ | apply List.Mem.tail))) rfl rfl (fun A cap => by repeat (first | exact Repl.here | apply Repl.there)) (by omega) rfl rfl rfl ?_; intro A3 cap3 w hS)
            | (refine WL.store hS rfl rfl rfl (by repeat (first | exact StB.here rfl | apply StB.there)) rfl rfl rfl ?_; intro w hS)
            | (refine WL.alloc hS rfl rfl rfl rfl rfl rfl ?_; intro w b hS)
            | refine WL.index rfl rfl rfl rfl (by first | with_reducible assumption | omega) rfl rfl rfl rfl ?_
            | (refine WL.slit hS rfl rfl rfl rfl rfl ?_; intro w b hS))
          | (show WC _ _ _ _ _ _; first
            | refine WC.seq ?_
            | refine WC.region ?_
            | refine WC.block ?_
            | refine WC.skip ?_
            | refine WC.condT rfl (decide_eq_true (by first | with_reducible assumption | omega)) ?_)
          | refine seqQ_n ?_
          | refine blkQ_n ?_)
        have e2 : ones out ++ [.int .i64 (low : Int), .int .i64 (n : Int), .int .i64 (((r + 1 : Nat) : Int) - 1), str data] = ones (out ++ [⟨low, n, r, data⟩]) := by
          rw [← ones_snoc, show ((r + 1 : Nat) : Int) - 1 = (r : Int) by omega]; rfl
        replace hS := hS.droplast2 (D := [.own (.slice A3 (out.length + 1) cap3) 50 4 (out.length + 1) (ones out ++ [.int .i64 (low : Int), .int .i64 (n : Int), .int .i64 (((r + 1 : Nat) : Int) - 1), str data])]) (by repeat (first | exact Pulls.nil | (apply Pulls.cons; focus (repeat (first | exact Pull.here | apply Pull.there)))))
        rw [e2] at hS
        exact rndQ_n (i + 1, out ++ [⟨low, n, r, data⟩], A3, cap3) ⟨⟨by omega, hfs.symm⟩, by rw [List.length_append]; exact hS⟩ (by show l.length - (i + 1) < l.length - i; omega) ⟨by rw [List.length_append]; rfl, vint (by omega), trivial⟩ ⟨rfl, rfl, trivial⟩
      · rw [if_neg hr1] at hfs
        have hfs : (l.take (i + 1)).filterMap (relOne k) = out := by rw [hfs]; simp
        have : refs = 1 := by omega
        subst this
        repeat' (first
          | (show WL _ _ _ _ _ _ _; first
            | refine WL.pure rfl rfl rfl rfl ?_
            | refine WL.nil ?_
            | refine WL.load hS rfl rfl (LdOk.box (by repeat (first | exact List.Mem.head _ | apply List.Mem.tail)) rfl) rfl rfl rfl ?_
            | refine WL.add rfl rfl rfl (by omega) rfl rfl rfl ?_
            | refine WL.sub rfl rfl rfl (by omega) rfl rfl rfl ?_
            | (refine WL.load hS rfl rfl (LdOk.snap0 hF hr (by repeat (first | exact List.Mem.head _ | apply List.Mem.tail)) rfl) rfl rfl rfl ?_)
            | (refine WL.store hS rfl rfl rfl (by repeat (first | exact StB.here rfl | apply StB.there)) rfl rfl rfl ?_; intro w hS)
            | (refine WL.alloc hS rfl rfl rfl rfl rfl rfl ?_; intro w b hS)
            | refine WL.index rfl rfl rfl rfl (by first | with_reducible assumption | omega) rfl rfl rfl rfl ?_)
          | (show WC _ _ _ _ _ _; first
            | refine WC.seq ?_
            | refine WC.region ?_
            | refine WC.block ?_
            | refine WC.skip ?_
            | refine WC.condF rfl (by decide) ?_
            | refine WC.condT rfl (decide_eq_true (by first | with_reducible assumption | omega)) ?_)
          | refine seqQ_n ?_
          | refine blkQ_n ?_)
        exact rndQ_n (i + 1, out, A', cap') ⟨⟨by omega, hfs.symm⟩, hS.droplast2 (by repeat (first | exact Pulls.nil | (apply Pulls.cons; focus (repeat (first | exact Pull.here | apply Pull.there)))))⟩ (by show l.length - (i + 1) < l.length - i; omega) ⟨rfl, vint (by omega), trivial⟩ ⟨rfl, rfl, trivial⟩
    · rw [if_neg hip] at hfs
      have hfs : (l.take (i + 1)).filterMap (relOne k) = out ++ [⟨low, n, refs, data⟩] := hfs
      repeat' (first
        | (show WL _ _ _ _ _ _ _; first
          | refine WL.pure rfl rfl rfl rfl ?_
          | refine WL.nil ?_
          | refine WL.load hS rfl rfl (LdOk.box (by repeat (first | exact List.Mem.head _ | apply List.Mem.tail)) rfl) rfl rfl rfl ?_
          | refine WL.add rfl rfl rfl (by omega) rfl rfl rfl ?_
          | (refine WL.load hS rfl rfl (LdOk.snap0 hF hr (by repeat (first | exact List.Mem.head _ | apply List.Mem.tail)) rfl) rfl rfl rfl ?_)
          | (refine WL.app (m := 1) hS rfl rfl rfl rfl (RdOk.box (by repeat (first | exact List.Mem.head _ | apply List.Mem.tail))) rfl rfl (fun A cap => by repeat (first | exact Repl.here | apply Repl.there)) (by omega) rfl rfl rfl ?_; intro A3 cap3 w hS)
          | (refine WL.store hS rfl rfl rfl (by repeat (first | exact StB.here rfl | apply StB.there)) rfl rfl rfl ?_; intro w hS)
          | (refine WL.alloc hS rfl rfl rfl rfl rfl rfl ?_; intro w b hS)
          | refine WL.index rfl rfl rfl rfl (by first | with_reducible assumption | omega) rfl rfl rfl rfl ?_
          | (refine WL.slit hS rfl rfl rfl rfl rfl ?_; intro w b hS))
        | (show WC _ _ _ _ _ _; first
          | refine WC.seq ?_
          | refine WC.region ?_
          | refine WC.block ?_
          | refine WC.skip ?_
          | refine WC.condT rfl (decide_eq_true (by first | with_reducible assumption | omega)) ?_
          | refine WC.condF rfl (decide_eq_false (by first | with_reducible assumption | omega)) ?_)
        | refine seqQ_n ?_
        | refine blkQ_n ?_)
      replace hS := hS.droplast2 (D := [.own (.slice A3 (out.length + 1) cap3) 50 4 (out.length + 1) (ones out ++ encOne ⟨low, n, refs, data⟩)]) (by repeat (first | exact Pulls.nil | (apply Pulls.cons; focus (repeat (first | exact Pull.here | apply Pull.there)))))
      rw [ones_snoc] at hS
      exact rndQ_n (i + 1, out ++ [⟨low, n, refs, data⟩], A3, cap3) ⟨⟨by omega, hfs.symm⟩, by rw [List.length_append]; exact hS⟩ (by show l.length - (i + 1) < l.length - i; omega) ⟨by rw [List.length_append]; rfl, vint (by omega), trivial⟩ ⟨rfl, rfl, trivial⟩
  · have hie : i = l.length := by omega
    subst hie
    rw [List.take_length] at hout
    rw [← hout]
    clear hpc hout
    repeat' (first
      | (show WL _ _ _ _ _ _ _; first
        | refine WL.pure rfl rfl rfl rfl ?_
        | refine WL.nil ?_)
      | (show WC _ _ _ _ _ _; first
        | refine WC.seq ?_
        | refine WC.region ?_
        | refine WC.exit ?_
        | refine WC.ret ?_
        | refine WC.condF rfl (decide_eq_false (by first | with_reducible assumption | omega)) ?_)
      | refine seqQ_n ?_
      | refine seqQ_x ?_
      | refine blkQ_hit rfl ?_
      | refine rndQ_x ?_)
    exact fin2r rfl rfl rfl ⟨hS.upd, _, _, rfl, hS.newOf (List.Mem.head _)⟩
end
end Go.Proofs.YtlddmenpafcaiaaGreatDoor

/- What is proved: what the reference's Sweep of contents answers. Conditions: lists of bounded length. -/
set_option linter.unusedSimpArgs false
set_option linter.unusedVariables false
namespace Go.Proofs.YtlddmenpafcaiaaGreatDoor
open Go Go.J Go.RowKit
open Go.Lib (decDigits)

section
variable {l : List One} {K : Nat} {A B : Option Addr} {cap capB : Nat} {w0 : World}
set_option maxHeartbeats 16000000 in
set_option maxRecDepth 100000 in
theorem rsweep_c (held : List (List UInt8)) (hA : SlAt cOne (Old w0) w0 A l) (hB : SlAt cStr (Old w0) w0 B held) (hok : OnesOk l K) (hK : K ≤ 524288) (hl : l.length ≤ K) (hh : held.length ≤ 1048576) :
    Cal Tryz.prog 24 [.slice A l.length cap, .slice B held.length capB] w0 (fun v w' => Upd [] w0 w' ∧ ∃ A' cap', v = .tuple #[.slice A' (sweepB l held).length cap', .int .i64 ((l.length - (sweepB l held).length : Nat) : Int)] ∧ New w0 w' (.own (.slice A' (sweepB l held).length cap') 50 4 (sweepB l held).length (ones (sweepB l held)))) := by
  refine Cal.mk' (by kernel_rfl) Tryz.func24 rfl rfl fun hS => ?_
  repeat' (first
    | (show WL _ _ _ _ _ _ _; first
      | refine WL.pure rfl rfl rfl rfl ?_
      | refine WL.nil ?_)
    | (show WC _ _ _ _ _ _; first
      | refine WC.seq ?_
      | refine WC.region ?_
      | refine WC.block ?_)
    | refine seqQ_n ?_)
  replace hS := hS.nilRow 50 4
  refine WC.loop (σ := Nat × List One × Option Addr × Nat) [0, 1] (fun (i, out, A', cap') => [(6, .slice A' out.length cap'), (7, .int .i64 (i : Int))]) (fun (i, out, A', cap') w => (i ≤ l.length ∧ out = (l.take i).filterMap (sweepOne held)) ∧ St w0 [] w [.own (.slice A' out.length cap') 50 4 out.length (ones out)] [⟨w0, Old w0⟩]) (fun (i, _) => l.length - i) (0, [], none, 0) ⟨⟨Nat.zero_le _, rfl⟩, hS.droplast2 (D := [.own (.slice none 0 0) 50 4 0 []]) (by repeat (first | exact Pulls.nil | (apply Pulls.cons; focus (repeat (first | exact Pull.here | apply Pull.there)))))⟩ ⟨rfl, rfl, trivial⟩ ?_
  clear hS
  rintro ⟨i, out, A', cap'⟩ g w ⟨⟨hi, hout⟩, hS⟩
  show WC _ _ _ (lf _ [(6, .slice A' out.length cap'), (7, .int .i64 (i : Int))] _ _) _ _
  have hol : out.length ≤ i := by rw [hout]; exact fm_len _ _ _
  by_cases hlt : i < l.length
  · obtain ⟨rb, ro, es, rfl, hF, hr, hes⟩ := hA.at_ hlt
    have hes : es = encOne l[i] := hes
    subst hes
    have hr : w0.rangeAt rb (ro + i * 4) (encOne l[i]) := hr
    have hfs := fm_snoc (f := sweepOne held) hlt
    rw [← hout] at hfs
    have hlo := hok.low l[i] (List.getElem_mem hlt)
    have hnn := hok.nums l[i] (List.getElem_mem hlt)
    have hcap := (hS.own_len (List.Mem.head _)).2.2
    generalize l[i] = y at *
    obtain ⟨low, n, refs, data⟩ := y
    have hr : w0.rangeAt rb (ro + i * 4) [.int .i64 (low : Int), .int .i64 (n : Int), .int .i64 (refs : Int), str data] := hr
    have hkc := fun c w0 => rkey_c ⟨low, n, c, data⟩ w0 hlo (by show n ≤ _; dsimp only at hnn; omega)
    have hso : sweepOne held ⟨low, n, refs, data⟩ = if held.count (keyB low n) = 0 then none else some ⟨low, n, held.count (keyB low n), data⟩ := rfl
    rw [hso] at hfs
    have hkc : ∀ c w0, Cal Tryz.prog 23 [.agg ⟨[.int .i64 (low : Int), .int .i64 (n : Int), .int .i64 (c : Nat), str data]⟩] w0 (fun v w' => Upd [] w0 w' ∧ v = str (keyB low n)) := hkc
    generalize keyB low n = key at *
    clear hout hso
    repeat' (first
      | (show WL _ _ _ _ _ _ _; first
        | refine WL.pure rfl rfl rfl rfl ?_
        | refine WL.nil ?_
        | (refine WL.load hS rfl rfl (LdOk.snap0 hF hr (by repeat (first | exact List.Mem.head _ | apply List.Mem.tail)) rfl) rfl rfl rfl ?_)
        | (refine WL.store hS rfl rfl rfl (by repeat (first | exact StB.here rfl | apply StB.there)) rfl rfl rfl ?_; intro w hS)
        | (refine WL.alloc hS rfl rfl rfl rfl rfl rfl ?_; intro w b hS)
        | refine WL.index rfl rfl rfl rfl (by first | with_reducible assumption | omega) rfl rfl rfl rfl ?_)
      | (show WC _ _ _ _ _ _; first
        | refine WC.seq ?_
        | refine WC.region ?_
        | refine WC.block ?_
        | refine WC.skip ?_
        | refine WC.condT rfl (decide_eq_true (by first | with_reducible assumption | omega)) ?_)
      | refine seqQ_n ?_)
    refine WC.loop (σ := Nat) [0, 1, 6, 7, 8] (fun k => [(9, .int .i64 (k : Int))]) (fun k w => k ≤ held.length ∧ St w0 [] w [.box b 50 [.int .i64 (low : Int), .int .i64 (n : Int), .int .i64 (((held.take k).count key : Nat) : Int), str data], .own (.slice A' out.length cap') 50 4 out.length (ones out)] [⟨w0, Old w0⟩]) (fun k => held.length - k) 0 ⟨Nat.zero_le _, hS⟩ ⟨rfl, trivial⟩ ?_
    clear hS
    rintro k g2 w ⟨hk, hS⟩
    show WC _ _ _ (lf _ [(9, .int .i64 (k : Int))] _ _) _ _
    by_cases hlk : k < held.length
    · obtain ⟨rb2, ro2, es, rfl, hF2, hr2, hes⟩ := hB.at_ hlk
      have hes : es = [str held[k]] := hes
      subst hes
      have hr2 : w0.rangeAt rb2 (ro2 + k * 1) [str held[k]] := hr2
      have htk : (held.take (k + 1)).count key = (held.take k).count key + if held[k] = key then 1 else 0 := by
        rw [List.take_succ_eq_append_getElem hlk, List.count_append, List.count_singleton]
        by_cases e : held[k] = key <;> simp [e]
      have hcl : (held.take k).count key ≤ k := Nat.le_trans List.count_le_length (by rw [List.length_take]; omega)
      generalize held[k] = z at *
      generalize (held.take k).count key = c at *
      by_cases he : z = key
      · rw [if_pos he] at htk
        repeat' (first
          | (show WL _ _ _ _ _ _ _; first
            | refine WL.pure rfl rfl rfl rfl ?_
            | refine WL.nil ?_
            | refine WL.load hS rfl rfl (LdOk.box (by repeat (first | exact List.Mem.head _ | apply List.Mem.tail)) rfl) rfl rfl rfl ?_
            | refine WL.add rfl rfl rfl (by omega) rfl rfl rfl ?_
            | (refine WL.store hS rfl rfl rfl (by repeat (first | exact StB.here rfl | apply StB.there)) rfl rfl rfl ?_; intro w hS))
          | (show WC _ _ _ _ _ _; first
            | refine WC.seq ?_
            | refine WC.region ?_
            | refine WC.block ?_
            | refine WC.skip ?_
            | (show WC _ _ (Code.region _ (List.toArray [_, _, _, _, _, _, _]) true) _ _ _; refine WC.drawS hS [0,1,2,3,4,6] [0,1,2,3,4,5,6] (by kernel_rfl) (by kernel_rfl) ?_; clear hS; intro w hS hM)
            | refine WC.condT rfl (decide_eq_true (by first | with_reducible assumption | omega)) ?_)
          | (show WD _ _ _ _ _ _ _ _ _; first
            | refine WD.pure rfl rfl rfl rfl rfl ?_
            | refine WD.nil ?_
            | refine WD.load rfl rfl (LdOk.box (by repeat (first | exact List.Mem.head _ | apply List.Mem.tail)) rfl) rfl rfl rfl rfl ?_
            | (refine WD.load rfl rfl (LdOk.snap0 hF2 hr2 (by repeat (first | exact List.Mem.head _ | apply List.Mem.tail)) rfl) rfl rfl rfl rfl ?_)
            | (refine WD.calls hS hM rfl rfl (hkc c _) rfl rfl rfl rfl rfl ?_; clear hS; rintro v w rfl hS)
            | refine WD.index rfl rfl rfl rfl (by first | with_reducible assumption | omega) rfl rfl rfl rfl rfl ?_)
          | refine seqQ_n ?_
          | refine blkQ_n ?_)
        exact rndQ_n (k + 1) ⟨by omega, by rw [htk]; exact hS⟩ (by show held.length - (k + 1) < held.length - k; omega) ⟨vint (by omega), trivial⟩ ⟨rfl, rfl, rfl, rfl, rfl, trivial⟩
      · rw [if_neg he, Nat.add_zero] at htk
        repeat' (first
          | (show WL _ _ _ _ _ _ _; first
            | refine WL.pure rfl rfl rfl rfl ?_
            | refine WL.nil ?_
            | refine WL.add rfl rfl rfl (by omega) rfl rfl rfl ?_)
          | (show WC _ _ _ _ _ _; first
            | refine WC.seq ?_
            | refine WC.region ?_
            | refine WC.block ?_
            | refine WC.skip ?_
            | (show WC _ _ (Code.region _ (List.toArray [_, _, _, _, _, _, _]) true) _ _ _; refine WC.drawS hS [0,1,2,3,4,6] [0,1,2,3,4,5,6] (by kernel_rfl) (by kernel_rfl) ?_; clear hS; intro w hS hM)
            | refine WC.condT rfl (decide_eq_true (by first | with_reducible assumption | omega)) ?_
            | refine WC.condF rfl (decide_eq_false (by first | with_reducible assumption | omega)) ?_)
          | (show WD _ _ _ _ _ _ _ _ _; first
            | refine WD.pure rfl rfl rfl rfl rfl ?_
            | refine WD.nil ?_
            | refine WD.load rfl rfl (LdOk.box (by repeat (first | exact List.Mem.head _ | apply List.Mem.tail)) rfl) rfl rfl rfl rfl ?_
            | (refine WD.load rfl rfl (LdOk.snap0 hF2 hr2 (by repeat (first | exact List.Mem.head _ | apply List.Mem.tail)) rfl) rfl rfl rfl rfl ?_)
            | (refine WD.calls hS hM rfl rfl (hkc c _) rfl rfl rfl rfl rfl ?_; clear hS; rintro v w rfl hS)
            | refine WD.index rfl rfl rfl rfl (by first | with_reducible assumption | omega) rfl rfl rfl rfl rfl ?_)
          | refine seqQ_n ?_
          | refine blkQ_n ?_)
        exact rndQ_n (k + 1) ⟨by omega, by rw [htk]; exact hS⟩ (by show held.length - (k + 1) < held.length - k; omega) ⟨vint (by omega), trivial⟩ ⟨rfl, rfl, rfl, rfl, rfl, trivial⟩
    · have hke : k = held.length := by omega
      subst hke
      rw [List.take_length] at hS
      have hcl := List.count_le_length (a := key) (l := held)
      generalize held.count key = c at *
      clear hkc hk hlk
      by_cases h0 : c = 0
      · subst h0
        rw [if_pos rfl] at hfs
        have hfs : (l.take (i + 1)).filterMap (sweepOne held) = out := by rw [hfs]; simp
        repeat' (first
          | (show WL _ _ _ _ _ _ _; first
            | refine WL.pure rfl rfl rfl rfl ?_
            | refine WL.nil ?_
            | refine WL.load hS rfl rfl (LdOk.box (by repeat (first | exact List.Mem.head _ | apply List.Mem.tail)) rfl) rfl rfl rfl ?_
            | refine WL.add rfl rfl rfl (by omega) rfl rfl rfl ?_)
          | (show WC _ _ _ _ _ _; first
            | refine WC.seq ?_
            | refine WC.region ?_
            | refine WC.skip ?_
            | refine WC.exit ?_
            | refine WC.condF rfl (by decide) ?_
            | refine WC.condF rfl (decide_eq_false (by first | with_reducible assumption | omega)) ?_)
          | refine seqQ_n ?_
          | refine blkQ_n ?_
          | refine seqQ_x ?_
          | refine blkQ_hit rfl ?_
          | refine rndQ_x ?_)
        exact rndQ_n (i + 1, out, A', cap') ⟨⟨by omega, hfs.symm⟩, hS.droplast2 (by repeat (first | exact Pulls.nil | (apply Pulls.cons; focus (repeat (first | exact Pull.here | apply Pull.there)))))⟩ (by show l.length - (i + 1) < l.length - i; omega) ⟨rfl, vint (by omega), trivial⟩ ⟨rfl, rfl, trivial⟩
      · rw [if_neg h0] at hfs
        have hfs : (l.take (i + 1)).filterMap (sweepOne held) = out ++ [⟨low, n, c, data⟩] := hfs
        repeat' (first
          | (show WL _ _ _ _ _ _ _; first
            | refine WL.pure rfl rfl rfl rfl ?_
            | refine WL.nil ?_
            | refine WL.load hS rfl rfl (LdOk.box (by repeat (first | exact List.Mem.head _ | apply List.Mem.tail)) rfl) rfl rfl rfl ?_
            | refine WL.add rfl rfl rfl (by omega) rfl rfl rfl ?_
            | (refine WL.app (m := 1) hS rfl rfl rfl rfl (RdOk.box (by repeat (first | exact List.Mem.head _ | apply List.Mem.tail))) rfl rfl (fun A cap => by repeat (first | exact Repl.here | apply Repl.there)) (by omega) rfl rfl rfl ?_; intro A3 cap3 w hS)
            | (refine WL.slit hS rfl rfl rfl rfl rfl ?_; intro w b hS))
          | (show WC _ _ _ _ _ _; first
            | refine WC.seq ?_
            | refine WC.region ?_
            | refine WC.exit ?_
            | refine WC.condT rfl (decide_eq_true (by first | with_reducible assumption | omega)) ?_
            | refine WC.condF rfl (decide_eq_false (by first | with_reducible assumption | omega)) ?_)
          | refine seqQ_n ?_
          | refine blkQ_n ?_
          | refine seqQ_x ?_
          | refine blkQ_hit rfl ?_
          | refine rndQ_x ?_)
        replace hS := hS.droplast2 (D := [.own (.slice A3 (out.length + 1) cap3) 50 4 (out.length + 1) (ones out ++ encOne ⟨low, n, c, data⟩)]) (by repeat (first | exact Pulls.nil | (apply Pulls.cons; focus (repeat (first | exact Pull.here | apply Pull.there)))))
        rw [ones_snoc] at hS
        exact rndQ_n (i + 1, out ++ [⟨low, n, c, data⟩], A3, cap3) ⟨⟨by omega, hfs.symm⟩, by rw [List.length_append]; exact hS⟩ (by show l.length - (i + 1) < l.length - i; omega) ⟨by rw [List.length_append]; rfl, vint (by omega), trivial⟩ ⟨rfl, rfl, trivial⟩
  · have hie : i = l.length := by omega
    subst hie
    rw [List.take_length] at hout
    have hout : out = sweepB l held := hout
    rw [← hout]
    clear hout
    repeat' (first
      | (show WL _ _ _ _ _ _ _; first
        | refine WL.pure rfl rfl rfl rfl ?_
        | refine WL.nil ?_
        | refine WL.sub rfl rfl rfl (by omega) rfl rfl rfl ?_)
      | (show WC _ _ _ _ _ _; first
        | refine WC.seq ?_
        | refine WC.region ?_
        | refine WC.exit ?_
        | refine WC.ret ?_
        | refine WC.condF rfl (decide_eq_false (by first | with_reducible assumption | omega)) ?_)
      | refine seqQ_n ?_
      | refine seqQ_x ?_
      | refine blkQ_hit rfl ?_
      | refine rndQ_x ?_)
    exact fin2r rfl rfl rfl ⟨hS.upd, _, _, by rw [show ((l.length - out.length : Nat) : Int) = (l.length : Int) - out.length by omega], hS.newOf (List.Mem.head _)⟩
end
end Go.Proofs.YtlddmenpafcaiaaGreatDoor

/- What is proved: when the batch and the document's list of contents are told to be alike. Conditions: lists of bounded length. -/
set_option linter.unusedSimpArgs false
set_option linter.unusedVariables false
namespace Go.Proofs.YtlddmenpafcaiaaGreatDoor
open Go Go.J Go.RowKit
open Go.Lib (decDigits)

theorem BlobIs.ones {rows : Rws} {m : Bch} {l : List One} {K : Nat} (h : BlobIs rows m l K) : OnesOk l K :=
  ⟨fun x hx => by rw [h.low x hx]; exact lowE_lt _, fun x hx => Nat.le_of_lt (h.nums x hx), h.refs, h.size, h.knd, h.dnd⟩
set_option maxHeartbeats 16000000 in
set_option maxRecDepth 100000 in
theorem lalike_c {B Tp q : Nat} {m : Bch} {fb fp : List Nat} {l : List One} {K : Nat} {A : Option Addr} {cap : Nat} {w0 : World} (hi : InL w0 [bchC B (some ⟨Tp, 0, none⟩) m fb, tabC Tp q ⟨sysP, [], ⟨sysL, [], false⟩⟩ fp]) (hA : SlAt cOne (fun b => b < w0.heap.size ∧ b ∉ fps [bchC B (some ⟨Tp, 0, none⟩) m fb, tabC Tp q ⟨sysP, [], ⟨sysL, [], false⟩⟩ fp]) w0 A l) (hb : BlobIs [] m l K) (hK : K ≤ 524288) (hm : m.length ≤ 1048576) (hzz : bgetE [] m zzK = ([111, 116, 104, 101, 114], true)) :
    Cal Tryz.prog 25 [.pointer (some ⟨B, 0, none⟩), .slice A l.length cap] w0 (fun v w' => v = .bool true ∧ MutL w0 w' [bchC B (some ⟨Tp, 0, none⟩) m fb, tabC Tp q ⟨sysP, [], ⟨sysL, [], false⟩⟩ fp] [bchC B (some ⟨Tp, 0, none⟩) m fb, tabC Tp q ⟨sysP, [], ⟨sysL, [], false⟩⟩ fp]) := by
  refine Cal.mkL hi (by kernel_rfl) Tryz.func25 rfl rfl fun hS => ?_
  have hal : (bkeysP [] m [98, 47]).length = l.length := hb.all_len
  have hlk := hb.len
  repeat' (first
    | (show WL _ _ _ _ _ _ _; first
      | refine WL.pure rfl rfl rfl rfl ?_
      | refine WL.nil ?_
      | (refine WL.callL (D := [bchC B (some ⟨Tp, 0, none⟩) m fb, tabC Tp q ⟨sysP, [], ⟨sysL, [], false⟩⟩ fp]) hS (by repeat (first | exact Pulls.nil | (apply Pulls.cons; focus (repeat (first | exact Pull.here | apply Pull.there))))) rfl rfl (fun hI => bkeys_c [98, 47] hI (Nat.zero_le _) (show m.length ≤ 549755813888 by omega)) rfl rfl rfl ?_; rintro v w ⟨KA, kc, rfl, hmu⟩ hS; dsimp only at hmu ⊢; rw [hal] at hmu ⊢; replace hS := hS _ hmu; clear hmu))
    | (show WC _ _ _ _ _ _; first
      | refine WC.seq ?_
      | refine WC.region ?_
      | refine WC.block ?_
      | refine WC.skip ?_
      | refine WC.condF rfl (decide_eq_false (by first | with_reducible assumption | omega)) ?_)
    | refine seqQ_n ?_)
  refine WC.loop (σ := Nat) [0, 1] (fun i => [(5, .int .i64 (i : Int))]) (fun i w => i ≤ l.length ∧ St w0 (fps [bchC B (some ⟨Tp, 0, none⟩) m fb, tabC Tp q ⟨sysP, [], ⟨sysL, [], false⟩⟩ fp]) w [bchC B (some ⟨Tp, 0, none⟩) m fb, tabC Tp q ⟨sysP, [], ⟨sysL, [], false⟩⟩ fp] (ZL w0 [bchC B (some ⟨Tp, 0, none⟩) m fb, tabC Tp q ⟨sysP, [], ⟨sysL, [], false⟩⟩ fp])) (fun i => l.length - i) 0 ⟨Nat.zero_le _, hS.droplast2 (by repeat (first | exact Pulls.nil | (apply Pulls.cons; focus (repeat (first | exact Pull.here | apply Pull.there)))))⟩ ⟨rfl, trivial⟩ ?_
  clear hS
  rintro i g w ⟨hi2, hS⟩
  show WC _ _ _ (lf _ [(5, .int .i64 (i : Int))] _ _) _ _
  by_cases hlt : i < l.length
  · obtain ⟨rb, ro, es, rfl, hF, hr, hes⟩ := hA.at_ hlt
    have hes : es = encOne l[i] := hes
    subst hes
    have hr : w0.rangeAt rb (ro + i * 4) (encOne l[i]) := hr
    have hx := List.getElem_mem hlt
    have hfx := find_of hb.knd hx
    have hgv : blgetV l l[i].key = .tuple #[str l[i].data, .int .i64 0] := by unfold blgetV; rw [hfx]
    have hrf : refsB l l[i].key = l[i].refs := by unfold refsB; rw [hfx]
    have hkc := fun w0 => rkey_c l[i] w0 (hb.ones.low _ hx) (by have := hb.nums _ hx; omega)
    generalize l[i].key = key at *
    generalize l[i] = y at *
    obtain ⟨low, n, refs, data⟩ := y
    have hr : w0.rangeAt rb (ro + i * 4) [.int .i64 (low : Int), .int .i64 (n : Int), .int .i64 (refs : Int), str data] := hr
    dsimp only at hgv hrf
    repeat' (first
      | (show WL _ _ _ _ _ _ _; first
        | refine WL.pure rfl rfl rfl rfl ?_
        | refine WL.nil ?_
        | refine WL.add rfl rfl rfl (by omega) rfl rfl rfl ?_
        | (refine WL.load hS rfl rfl (LdOk.snap0 hF hr (by repeat (first | exact List.Mem.head _ | apply List.Mem.tail)) rfl) rfl rfl rfl ?_)
        | (refine WL.calls hS rfl rfl (hkc _) rfl rfl rfl ?_; rintro v w rfl hS)
        | (refine WL.callL (D := [bchC B (some ⟨Tp, 0, none⟩) m fb, tabC Tp q ⟨sysP, [], ⟨sysL, [], false⟩⟩ fp]) hS (by repeat (first | exact Pulls.nil | (apply Pulls.cons; focus (repeat (first | exact Pull.here | apply Pull.there))))) rfl rfl (fun hI => blget_c (l := l) (K := K) key hI hb (by omega)) rfl rfl rfl ?_; rintro v w ⟨rfl, hmu⟩ hS; rw [hgv]; replace hS := hS _ hmu; clear hmu)
        | refine WL.index rfl rfl rfl rfl (by first | with_reducible assumption | omega) rfl rfl rfl rfl ?_)
      | (show WC _ _ _ _ _ _; first
        | refine WC.seq ?_
        | refine WC.region ?_
        | refine WC.block ?_
        | refine WC.skip ?_
        | (show WC _ _ (Code.region _ (List.toArray [_, _, _, _, _, _, _, _, _, _, _, _, _, _, _, _, _, _, _, _, _, _]) true) _ _ _; refine WC.drawL [bchC B (some ⟨Tp, 0, none⟩) m fb, tabC Tp q ⟨sysP, [], ⟨sysL, [], false⟩⟩ fp] hS (by repeat (first | exact Pulls.nil | (apply Pulls.cons; focus (repeat (first | exact Pull.here | apply Pull.there))))) [0,1,2,3,4,5,6,7,8,9,10,11,12,13,15,16,17,18,19,20,21] [0,1,2,3,4,5,6,7,8,9,10,11,12,13,15,16,17,18,19,14,20,21] (by kernel_rfl) (by kernel_rfl) ?_; clear hS; intro w hS hM)
        | refine WC.condT rfl (decide_eq_true (by first | with_reducible assumption | omega)) ?_
        | refine WC.condF rfl (decide_eq_false (by first | with_reducible assumption | omega)) ?_)
      | (show WD _ _ _ _ _ _ _ _ _; first
        | refine WD.pure rfl rfl rfl rfl rfl ?_
        | refine WD.nil ?_
        | (refine WD.load rfl rfl (LdOk.snap hF hr (by repeat (first | exact List.Mem.head _ | apply List.Mem.tail)) rfl) rfl rfl rfl rfl ?_)
        | (refine WD.callL (D := [bchC B (some ⟨Tp, 0, none⟩) m fb, tabC Tp q ⟨sysP, [], ⟨sysL, [], false⟩⟩ fp]) hS (by repeat (first | exact Pulls.nil | (apply Pulls.cons; focus (repeat (first | exact Pull.here | apply Pull.there))))) (.refl _ _) rfl rfl (fun hI => blrefs_c (l := l) (K := K) key hI hb (by omega)) rfl rfl rfl rfl rfl ?_; rintro v w ⟨rfl, hmu⟩; rw [hrf]; refine ⟨_, hmu, fun hS hM => ?_⟩; clear hmu)
        | refine WD.index rfl rfl rfl rfl (by first | with_reducible assumption | omega) rfl rfl rfl rfl rfl ?_
        | ((fail_if_success (refine WD.wanted rfl ?_)); refine WD.guard rfl rfl rfl (fun h => ?_) (fun h => ?_) <;> (try simp only [Classical.not_not, Bool.not_eq_true', Bool.not_eq_false', Bool.not_eq_eq_eq_not, Bool.not_true, Bool.not_false, beq_iff_eq, beq_eq_false_iff_ne, ne_eq, decide_eq_decide, decide_eq_true_eq, decide_eq_false_iff_not, Bool.and_eq_true, Bool.or_eq_true, Bool.and_eq_false_iff, Bool.or_eq_false_iff] at h) <;> (try (exfalso; first | omega | contradiction))))
      | refine seqQ_n ?_
      | refine blkQ_n ?_)
    exact rndQ_n (i + 1) ⟨by omega, hS⟩ (by show l.length - (i + 1) < l.length - i; omega) ⟨vint (by omega), trivial⟩ ⟨rfl, rfl, trivial⟩
  · repeat' (first
      | (show WL _ _ _ _ _ _ _; first
        | refine WL.pure rfl rfl rfl rfl ?_
        | refine WL.nil ?_
        | (refine WL.callL (D := [bchC B (some ⟨Tp, 0, none⟩) m fb, tabC Tp q ⟨sysP, [], ⟨sysL, [], false⟩⟩ fp]) hS (by repeat (first | exact Pulls.nil | (apply Pulls.cons; focus (repeat (first | exact Pull.here | apply Pull.there))))) rfl rfl (fun hI => bget_c zzK hI) rfl rfl rfl ?_; rintro v w ⟨rfl, hmu⟩ hS; dsimp only; rw [hzz]; replace hS := hS _ hmu; clear hmu))
      | (show WC _ _ _ _ _ _; first
        | refine WC.seq ?_
        | refine WC.region ?_
        | refine WC.exit ?_
        | refine WC.ret ?_
        | refine WC.condF rfl (decide_eq_false (by first | with_reducible assumption | omega)) ?_)
      | refine seqQ_n ?_
      | refine seqQ_x ?_
      | refine blkQ_hit rfl ?_
      | refine rndQ_x ?_)
    exact fin1r rfl rfl ⟨vbool (by simp), hS.mutLp (by repeat (first | exact Pulls.nil | (apply Pulls.cons; focus (repeat (first | exact Pull.here | apply Pull.there)))))⟩
end Go.Proofs.YtlddmenpafcaiaaGreatDoor

/- What is proved: the law BlobPlays answers true. Conditions: the statement's own bound on the bulk; the library's table of powers laid. -/
set_option linter.unusedSimpArgs false
set_option linter.unusedVariables false
namespace Go.Proofs.YtlddmenpafcaiaaGreatDoor
open Go Go.J Go.RowKit
open Go.Lib (decDigits)

structure Stp where
  kind : Int
  text : List UInt8
def encStp (s : Stp) : List Value := [.int .i64 s.kind, str s.text]
def cStp : Cod Stp := .flat encStp 2 fun _ => rfl
section
variable {rows : Rws} {m : Bch} {l : List One} {K : Nat}
theorem BlobIs.up (h : BlobIs rows m l K) {K' : Nat} (hK : K ≤ K') : BlobIs rows m l K' :=
  ⟨h.rnd, h.mnd, h.has, h.only, h.low, fun x hx => by have := h.refs x hx; omega, fun x hx => by have := h.nums x hx; omega, by have := h.len; omega, h.size, h.knd, h.dnd⟩
/-- a sweep that holds each key once at most -/
theorem BlobIs.swept {m' : Bch} {held : List (List UInt8)} {K' : Nat} (h : BlobIs rows m l K) (h' : BlobIs rows m' (sweepB l held) K') (hn : held.Nodup) (hK : 1 ≤ K) : BlobIs rows m' (sweepB l held) K := by
  have hs : ∀ x ∈ sweepB l held, x.refs ≤ 1 ∧ x.n < K := fun x hx => by
    obtain ⟨y, hy, e⟩ := List.mem_filterMap.1 hx
    unfold sweepOne at e
    split at e
    · cases e
    · cases e
      exact ⟨List.nodup_iff_count.1 hn _, h.nums y hy⟩
  exact ⟨h'.rnd, h'.mnd, h'.has, h'.only, h'.low, fun x hx => ⟨(h'.refs x hx).1, by have := hs x hx; omega⟩, fun x hx => (hs x hx).2, Nat.le_trans (List.length_filterMap_le _ _) h.len, h'.size, h'.knd, h'.dnd⟩
theorem zz_get (hf : ∀ k, k.take 2 ≠ [98, 47] → bgetE [] m k = bgetE [] zzM k) : bgetE [] m zzK = ([111, 116, 104, 101, 114], true) := by
  rw [hf zzK (by decide), zzM, bgetE_noted, if_pos rfl]; rfl
theorem zz_none (h : BlobIs rows m l K) : findB l zzK = none := find_none fun x hx e => by
  have h1 : x.key.take 2 = [98, 47] := rfl
  rw [e] at h1
  exact absurd h1 (by decide)
theorem rel_frame {k : List UInt8} (h : BlobIs rows m l K) {kk : List UInt8} (hk : kk.take 2 ≠ [98, 47]) : bgetE rows (relM m l k) kk = bgetE rows m kk := by
  unfold relM
  cases hf : findB l k with
  | none => rfl
  | some x =>
    dsimp only
    have hxk : (relO x).key = x.key := by unfold relO; split <;> rfl
    rw [bgetE_noted, if_neg]
    intro e
    exact hk (by rw [e, hxk]; rfl)
end
def heldB (l : List One) (p : List UInt8) : List (List UInt8) := (l.filter fun x => begB p x.data).map One.key
theorem heldB_nodup {l : List One} (hk : (l.map One.key).Nodup) (p : List UInt8) : (heldB l p).Nodup := hk.sublist (List.filter_sublist.map _)
theorem heldB_len (l : List One) (p : List UInt8) : (heldB l p).length ≤ l.length := by unfold heldB; rw [List.length_map]; exact List.length_filter_le _ _
theorem heldB_snoc {l : List One} {n : Nat} (h : n < l.length) (p : List UInt8) : heldB (l.take (n + 1)) p = heldB (l.take n) p ++ if begB p l[n].data then [l[n].key] else [] := by
  unfold heldB
  rw [List.take_succ_eq_append_getElem h, List.filter_append, List.map_append]
  by_cases e : begB p l[n].data = true
  · rw [if_pos e]; simp [List.filter, e]
  · rw [if_neg e]; simp [List.filter, e]
set_option maxHeartbeats 64000000 in
set_option maxRecDepth 100000 in
theorem blobPlays_c (steps : List Stp) {A : Option Addr} {cap : Nat} {w0 : World} (h0 : SlAt cStp (Old w0) w0 A steps) (hz : ∀ s ∈ steps, s.text.length ≤ 1048576) (hsl : steps.length ≤ 1048576) (ht : powT w0) :
    Cal Tryz.prog 6 [.slice A steps.length cap] w0 (fun v w' => Upd [] w0 w' ∧ v = .bool true) := by
  refine Cal.mk' (by kernel_rfl) Tryz.func6 rfl rfl fun hS => ?_
  have hp := PowI.of ht
  repeat' (first
    | (show WL _ _ _ _ _ _ _; first
      | refine WL.pure rfl rfl rfl rfl ?_
      | refine WL.nil ?_
      | (refine WL.callL (D := []) hS .nil rfl rfl (fun hI => blmade_c _) rfl rfl rfl ?_; rintro v w ⟨B, Tp, q, fb, fp, rfl, hmu⟩ hS; replace hS := hS _ hmu; clear hmu)
      | (refine WL.calls hS rfl rfl (blawake_c _ (hp.at hS)) rfl rfl rfl ?_; rintro v w rfl hS)
      | (refine WL.callL (D := [bchC B (some ⟨Tp, 0, none⟩) [] fb]) hS (by repeat (first | exact Pulls.nil | (apply Pulls.cons; focus (repeat (first | exact Pull.here | apply Pull.there))))) rfl rfl (fun hI => bput_c zzK [111, 116, 104, 101, 114] hI.head hI.headB (Nat.zero_le _)) rfl rfl rfl ?_; rintro v w ⟨rfl, fb0, hmu⟩ hS; replace hmu := MutL.of1 hmu; rw [show noteE [] ⟨zzK, [111, 116, 104, 101, 114], false⟩ = zzM from rfl] at hmu; replace hS := hS _ hmu; clear hmu))
    | (show WC _ _ _ _ _ _; first
      | refine WC.seq ?_
      | refine WC.region ?_
      | refine WC.block ?_
      | refine WC.skip ?_
      | refine WC.condF rfl (by with_reducible rfl) ?_)
    | refine seqQ_n ?_)
  replace hS := (hS.nilRow 50 4).pulls (D := [.own (.slice none 0 0) 50 4 0 [], bchC B (some ⟨Tp, 0, none⟩) zzM fb0, tabC Tp q ⟨sysP, [], ⟨sysL, [], false⟩⟩ fp]) (by repeat (first | exact Pulls.nil | (apply Pulls.cons; focus (repeat (first | exact Pull.here | apply Pull.there)))))
  replace hS := hS.droplast2 (D := [.own (.slice none 0 0) 50 4 0 [], bchC B (some ⟨Tp, 0, none⟩) zzM fb0, tabC Tp q ⟨sysP, [], ⟨sysL, [], false⟩⟩ fp]) (by repeat (first | exact Pulls.nil | (apply Pulls.cons; focus (repeat (first | exact Pull.here | apply Pull.there)))))
  refine WC.loop (σ := Nat × List One × Bch × List Nat × Option Addr × Nat) [0, 3] (fun (i, l, _, _, AL, cl) => [(4, .slice AL l.length cl), (5, .int .i64 (i : Int))])
    (fun (i, l, m, fb, AL, cl) w => (i ≤ 120 ∧ BlobIs [] m l i ∧ m.length ≤ 1 + 121 * i ∧ (∀ k, k.take 2 ≠ [98, 47] → bgetE [] m k = bgetE [] zzM k)) ∧ St w0 [] w [.own (.slice AL l.length cl) 50 4 l.length (ones l), bchC B (some ⟨Tp, 0, none⟩) m fb, tabC Tp q ⟨sysP, [], ⟨sysL, [], false⟩⟩ fp] [⟨w0, Old w0⟩])
    (fun (i, _) => steps.length - i) (0, [], zzM, fb0, none, 0) ⟨⟨Nat.zero_le _, BlobIs.nil.foreign (by decide), Nat.le_refl _, fun _ _ => rfl⟩, hS⟩ ⟨rfl, rfl, trivial⟩ ?_
  clear hS
  rintro ⟨i, l, m, fb, AL, cl⟩ g w ⟨⟨hi, hb, hml, hfr⟩, hS⟩
  show WC _ _ _ (lf _ [(4, .slice AL l.length cl), (5, .int .i64 (i : Int))] _ _) _ _
  by_cases hlt : i < steps.length
  rotate_left
  · repeat' (first
      | (show WL _ _ _ _ _ _ _; first
        | refine WL.pure rfl rfl rfl rfl ?_
        | refine WL.nil ?_
        | refine WL.skip rfl rfl rfl ?_
        | ((fail_if_success (refine WL.wanted rfl ?_)); refine WL.guard rfl rfl rfl (fun h => ?_) (fun h => ?_) <;> (try simp only [Classical.not_not, Bool.not_eq_true', Bool.not_eq_false', Bool.not_eq_eq_eq_not, Bool.not_true, Bool.not_false, beq_iff_eq, beq_eq_false_iff_ne, ne_eq, decide_eq_decide, decide_eq_true_eq, decide_eq_false_iff_not, Bool.and_eq_true, Bool.or_eq_true, Bool.and_eq_false_iff, Bool.or_eq_false_iff] at h) <;> (try (exfalso; first | omega | contradiction))))
      | (show WC _ _ _ _ _ _; first
        | refine WC.seq ?_
        | refine WC.region ?_
        | refine WC.exit ?_
        | refine WC.ret ?_
        | refine WC.condF rfl (by with_reducible rfl) ?_)
      | refine seqQ_n ?_
      | refine seqQ_x ?_
      | refine blkQ_hit rfl ?_
      | refine rndQ_x ?_)
    exact fin1r rfl rfl ⟨hS.upd, rfl⟩
  by_cases h120 : i < 120
  rotate_left
  · repeat' (first
      | (show WL _ _ _ _ _ _ _; first
        | refine WL.pure rfl rfl rfl rfl ?_
        | refine WL.nil ?_
        | ((fail_if_success (refine WL.wanted rfl ?_)); refine WL.guard rfl rfl rfl (fun h => ?_) (fun h => ?_) <;> (try simp only [Classical.not_not, Bool.not_eq_true', Bool.not_eq_false', Bool.not_eq_eq_eq_not, Bool.not_true, Bool.not_false, beq_iff_eq, beq_eq_false_iff_ne, ne_eq, decide_eq_decide, decide_eq_true_eq, decide_eq_false_iff_not, Bool.and_eq_true, Bool.or_eq_true, Bool.and_eq_false_iff, Bool.or_eq_false_iff] at h) <;> (try (exfalso; first | omega | contradiction))))
      | (show WC _ _ _ _ _ _; first
        | refine WC.seq ?_
        | refine WC.region ?_
        | refine WC.exit ?_
        | refine WC.ret ?_
        | refine WC.condF rfl (decide_eq_false (by first | with_reducible assumption | omega)) ?_)
      | refine seqQ_n ?_
      | refine seqQ_x ?_
      | refine blkQ_hit rfl ?_
      | refine rndQ_x ?_)
    exact fin1r rfl rfl ⟨hS.upd, rfl⟩
  obtain ⟨rb, ro, es, rfl, hF, hr, hes⟩ := h0.at_ hlt
  have hes : es = encStp steps[i] := hes
  subst hes
  have hr : w0.rangeAt rb (ro + i * 2) (encStp steps[i]) := hr
  have htl := hz steps[i] (List.getElem_mem hlt)
  generalize steps[i] = sp at *
  obtain ⟨kind, text⟩ := sp
  have hr : w0.rangeAt rb (ro + i * 2) [.int .i64 kind, str text] := hr
  dsimp only at htl
  have hok := hb.ones
  have hln := hb.len
  have h1 : ∀ x ∈ l, x.low < 256 ∧ x.n ≤ 1048576 := fun x hx => ⟨hok.low x hx, by have := hok.nums x hx; omega⟩
  have hzz := zz_get hfr
  have hcap := (hS.own_len (List.Mem.head _)).2.2
  obtain ⟨kq, hkq⟩ : ∃ kq, keyOf l text = kq := ⟨_, rfl⟩
  by_cases k1 : kind = 1
  · subst k1
    have hfp : ∀ v kk, kk.take 2 ≠ [98, 47] → bgetE [] (noteE m ⟨(putB l text).2, v, false⟩) kk = bgetE [] zzM kk := fun v kk hkk => (put_frame hb.dnd text v hkk).trans (hfr kk hkk)
    have hnl := fun v => note_len m ⟨(putB l text).2, v, false⟩
    repeat' (first
      | (show WL _ _ _ _ _ _ _; first
        | refine WL.pure rfl rfl rfl rfl ?_
        | refine WL.nil ?_
        | refine WL.load hS rfl rfl (LdOk.box (by repeat (first | exact List.Mem.head _ | apply List.Mem.tail)) rfl) rfl rfl rfl ?_
        | refine WL.add rfl rfl rfl (by omega) rfl rfl rfl ?_
        | (refine WL.load hS rfl rfl (LdOk.snap0 hF hr (by repeat (first | exact List.Mem.head _ | apply List.Mem.tail)) rfl) rfl rfl rfl ?_)
        | (refine WL.calls hS rfl rfl (lkey_c l text (St.ownSl (enc := encOne) (hsz := fun _ => rfl) (l := l) (by decide) hS (by repeat (first | exact List.Mem.head _ | apply List.Mem.tail))) (by omega) h1) rfl rfl rfl ?_; rintro v w rfl hS; rw [hkq])
        | (refine WL.callG rfl rfl (rput_c l text (K := i) (St.ownSl (enc := encOne) (hsz := fun _ => rfl) (l := l) (by decide) hS (by repeat (first | exact List.Mem.head _ | apply List.Mem.tail))) hok (by omega) hln (by omega) hb.low) rfl rfl rfl ?_; rintro v w ⟨hu, AL2, cl2, rfl, hn⟩; replace hS := hS.new hu hn; clear hu hn)
        | (refine WL.callL (D := [bchC B (some ⟨Tp, 0, none⟩) m fb, tabC Tp q ⟨sysP, [], ⟨sysL, [], false⟩⟩ fp]) hS (by repeat (first | exact Pulls.nil | (apply Pulls.cons; focus (repeat (first | exact Pull.here | apply Pull.there))))) rfl rfl (fun hI => blput_c (l := l) (K := i) text hI (hp.pull hS (by repeat (first | exact Pulls.nil | (apply Pulls.cons; focus (repeat (first | exact Pull.here | apply Pull.there)))))) hb (by omega) (by omega) (Nat.zero_le _) (by omega)) rfl rfl rfl ?_; rintro v w ⟨rfl, r1, fb1, hr1, hr2, hb1, hmu⟩ hS; replace hS := hS _ hmu; clear hmu; have hnl2 := hnl (valB r1 text); have hzz2 := zz_get (hfp (valB r1 text)))
        | (refine WL.callL (D := [bchC B (some ⟨Tp, 0, none⟩) (noteE m ⟨(putB l text).2, valB r1 text, false⟩) fb1, tabC Tp q ⟨sysP, [], ⟨sysL, [], false⟩⟩ fp]) hS (by repeat (first | exact Pulls.nil | (apply Pulls.cons; focus (repeat (first | exact Pull.here | apply Pull.there))))) rfl rfl (fun hI => lalike_c (l := (putB l text).1) (K := i + 1) hI (St.ownSlX (enc := encOne) (hsz := fun _ => rfl) (l := (putB l text).1) (by decide) (hS.pulls (by repeat (first | exact Pulls.nil | (apply Pulls.cons; focus (repeat (first | exact Pull.here | apply Pull.there)))))) (by repeat (first | exact List.Mem.head _ | apply List.Mem.tail))) hb1 (by omega) (by omega) hzz2) rfl rfl rfl ?_; rintro v w ⟨rfl, hmu⟩ hS; replace hS := hS _ hmu; clear hmu)
        | (refine WL.store hS rfl rfl rfl (by repeat (first | exact StB.here rfl | apply StB.there)) rfl rfl rfl ?_; intro w hS)
        | (refine WL.alloc hS rfl rfl rfl rfl rfl rfl ?_; intro w b hS)
        | refine WL.index rfl rfl rfl rfl (by first | with_reducible assumption | omega) rfl rfl rfl rfl ?_
        | ((fail_if_success (refine WL.wanted rfl ?_)); refine WL.guard rfl rfl rfl (fun h => ?_) (fun h => ?_) <;> (try simp only [Classical.not_not, Bool.not_eq_true', Bool.not_eq_false', Bool.not_eq_eq_eq_not, Bool.not_true, Bool.not_false, beq_iff_eq, beq_eq_false_iff_ne, ne_eq, decide_eq_decide, decide_eq_true_eq, decide_eq_false_iff_not, Bool.and_eq_true, Bool.or_eq_true, Bool.and_eq_false_iff, Bool.or_eq_false_iff] at h) <;> (try (exfalso; first | omega | contradiction))))
      | (show WC _ _ _ _ _ _; first
        | refine WC.seq ?_
        | refine WC.region ?_
        | refine WC.block ?_
        | refine WC.skip ?_
        | refine WC.condT rfl (by decide) ?_
        | refine WC.condF rfl (by decide) ?_
        | refine WC.condT rfl (decide_eq_true (by first | with_reducible assumption | omega)) ?_)
      | refine seqQ_n ?_
      | refine blkQ_n ?_)
    exact rndQ_n (i + 1, (putB l text).1, noteE m ⟨(putB l text).2, valB r1 text, false⟩, fb1, AL2, cl2) ⟨⟨by omega, hb1, by omega, hfp _⟩, hS.droplast2 (D := [.own (.slice AL2 (putB l text).1.length cl2) 50 4 (putB l text).1.length (ones (putB l text).1), bchC B (some ⟨Tp, 0, none⟩) (noteE m ⟨(putB l text).2, valB r1 text, false⟩) fb1, tabC Tp q ⟨sysP, [], ⟨sysL, [], false⟩⟩ fp]) (by repeat (first | exact Pulls.nil | (apply Pulls.cons; focus (repeat (first | exact Pull.here | apply Pull.there)))))⟩ (by show steps.length - (i + 1) < steps.length - i; omega) ⟨rfl, vint (by omega), trivial⟩ ⟨rfl, rfl, trivial⟩
  by_cases k2 : kind = 2
  · subst k2
    have hbr := (hb.relM kq).up (K' := i + 1) (by omega)
    have hfrr : ∀ kk, kk.take 2 ≠ [98, 47] → bgetE [] (relM m l kq) kk = bgetE [] zzM kk := fun kk hkk => (rel_frame hb hkk).trans (hfr kk hkk)
    have hmr : (relM m l kq).length ≤ m.length + 1 := by
      unfold relM
      cases findB l kq with
      | none => exact Nat.le_succ _
      | some x => exact note_len _ _
    have hzz2 := zz_get hfrr
    cases hf : findB l kq with
    | none =>
      have hre : relEB l kq = 11 := by unfold relEB; rw [hf]
      have hm2 : relM m l kq = m := by unfold relM; rw [hf]
      have hl2 : relB l kq = l := by unfold relB; rw [hf]
      rw [hl2, hm2] at hbr
      repeat' (first
        | (show WL _ _ _ _ _ _ _; first
          | refine WL.pure rfl rfl rfl rfl ?_
          | refine WL.nil ?_
          | refine WL.load hS rfl rfl (LdOk.box (by repeat (first | exact List.Mem.head _ | apply List.Mem.tail)) rfl) rfl rfl rfl ?_
          | refine WL.add rfl rfl rfl (by omega) rfl rfl rfl ?_
          | (refine WL.load hS rfl rfl (LdOk.snap0 hF hr (by repeat (first | exact List.Mem.head _ | apply List.Mem.tail)) rfl) rfl rfl rfl ?_)
          | (refine WL.calls hS rfl rfl (lkey_c l text (St.ownSl (enc := encOne) (hsz := fun _ => rfl) (l := l) (by decide) hS (by repeat (first | exact List.Mem.head _ | apply List.Mem.tail))) (by omega) h1) rfl rfl rfl ?_; rintro v w rfl hS; rw [hkq])
          | (refine WL.calls hS rfl rfl (rrelNo_c kq (St.ownSl (enc := encOne) (hsz := fun _ => rfl) (l := l) (by decide) hS (by repeat (first | exact List.Mem.head _ | apply List.Mem.tail))) hok (by omega) hln hf) rfl rfl rfl ?_; rintro v w rfl hS)
          | (refine WL.callL (D := [bchC B (some ⟨Tp, 0, none⟩) m fb, tabC Tp q ⟨sysP, [], ⟨sysL, [], false⟩⟩ fp]) hS (by repeat (first | exact Pulls.nil | (apply Pulls.cons; focus (repeat (first | exact Pull.here | apply Pull.there))))) rfl rfl (fun hI => blrel_c (l := l) (K := i) kq hI hb (by omega) (by omega)) rfl rfl rfl ?_; rintro v w ⟨rfl, fb1, hmu⟩ hS; rw [hm2] at hmu; rw [hre]; replace hS := hS _ hmu; clear hmu)
          | (refine WL.callL (D := [bchC B (some ⟨Tp, 0, none⟩) m fb1, tabC Tp q ⟨sysP, [], ⟨sysL, [], false⟩⟩ fp]) hS (by repeat (first | exact Pulls.nil | (apply Pulls.cons; focus (repeat (first | exact Pull.here | apply Pull.there))))) rfl rfl (fun hI => lalike_c (l := l) (K := i) hI (St.ownSlX (enc := encOne) (hsz := fun _ => rfl) (l := l) (by decide) (hS.pulls (by repeat (first | exact Pulls.nil | (apply Pulls.cons; focus (repeat (first | exact Pull.here | apply Pull.there)))))) (by repeat (first | exact List.Mem.head _ | apply List.Mem.tail))) hb (by omega) (by omega) hzz) rfl rfl rfl ?_; rintro v w ⟨rfl, hmu⟩ hS; replace hS := hS _ hmu; clear hmu)
          | (refine WL.store hS rfl rfl rfl (by repeat (first | exact StB.here rfl | apply StB.there)) rfl rfl rfl ?_; intro w hS)
          | (refine WL.alloc hS rfl rfl rfl rfl rfl rfl ?_; intro w b hS)
          | refine WL.index rfl rfl rfl rfl (by first | with_reducible assumption | omega) rfl rfl rfl rfl ?_
          | refine WL.skip rfl rfl rfl ?_
          | ((fail_if_success (refine WL.wanted rfl ?_)); refine WL.guard rfl rfl rfl (fun h => ?_) (fun h => ?_) <;> (try simp only [Classical.not_not, Bool.not_eq_true', Bool.not_eq_false', Bool.not_eq_eq_eq_not, Bool.not_true, Bool.not_false, beq_iff_eq, beq_eq_false_iff_ne, ne_eq, decide_eq_decide, decide_eq_true_eq, decide_eq_false_iff_not, Bool.and_eq_true, Bool.or_eq_true, Bool.and_eq_false_iff, Bool.or_eq_false_iff] at h) <;> (try (exfalso; first | omega | contradiction))))
        | (show WC _ _ _ _ _ _; first
          | refine WC.seq ?_
          | refine WC.region ?_
          | refine WC.block ?_
          | refine WC.skip ?_
          | refine WC.condT rfl (by decide) ?_
          | refine WC.condF rfl (by decide) ?_
          | refine WC.condT rfl (decide_eq_true (by first | with_reducible assumption | omega)) ?_)
        | refine seqQ_n ?_
        | refine blkQ_n ?_)
      exact rndQ_n (i + 1, l, m, fb1, AL, cl) ⟨⟨by omega, hbr, by omega, hfr⟩, hS.droplast2 (D := [.own (.slice AL l.length cl) 50 4 l.length (ones l), bchC B (some ⟨Tp, 0, none⟩) m fb1, tabC Tp q ⟨sysP, [], ⟨sysL, [], false⟩⟩ fp]) (by repeat (first | exact Pulls.nil | (apply Pulls.cons; focus (repeat (first | exact Pull.here | apply Pull.there)))))⟩ (by show steps.length - (i + 1) < steps.length - i; omega) ⟨rfl, vint (by omega), trivial⟩ ⟨rfl, rfl, trivial⟩
    | some x =>
      have hre : relEB l kq = 0 := by unfold relEB; rw [hf]
      repeat' (first
        | (show WL _ _ _ _ _ _ _; first
          | refine WL.pure rfl rfl rfl rfl ?_
          | refine WL.nil ?_
          | refine WL.load hS rfl rfl (LdOk.box (by repeat (first | exact List.Mem.head _ | apply List.Mem.tail)) rfl) rfl rfl rfl ?_
          | refine WL.add rfl rfl rfl (by omega) rfl rfl rfl ?_
          | (refine WL.load hS rfl rfl (LdOk.snap0 hF hr (by repeat (first | exact List.Mem.head _ | apply List.Mem.tail)) rfl) rfl rfl rfl ?_)
          | (refine WL.calls hS rfl rfl (lkey_c l text (St.ownSl (enc := encOne) (hsz := fun _ => rfl) (l := l) (by decide) hS (by repeat (first | exact List.Mem.head _ | apply List.Mem.tail))) (by omega) h1) rfl rfl rfl ?_; rintro v w rfl hS; rw [hkq])
          | (refine WL.callG rfl rfl (rrelYes_c kq (St.ownSl (enc := encOne) (hsz := fun _ => rfl) (l := l) (by decide) hS (by repeat (first | exact List.Mem.head _ | apply List.Mem.tail))) hok (by omega) hln hf) rfl rfl rfl ?_; rintro v w ⟨hu, AL2, cl2, rfl, hn⟩; replace hS := hS.new hu hn; clear hu hn)
          | (refine WL.callL (D := [bchC B (some ⟨Tp, 0, none⟩) m fb, tabC Tp q ⟨sysP, [], ⟨sysL, [], false⟩⟩ fp]) hS (by repeat (first | exact Pulls.nil | (apply Pulls.cons; focus (repeat (first | exact Pull.here | apply Pull.there))))) rfl rfl (fun hI => blrel_c (l := l) (K := i) kq hI hb (by omega) (by omega)) rfl rfl rfl ?_; rintro v w ⟨rfl, fb1, hmu⟩ hS; rw [hre]; replace hS := hS _ hmu; clear hmu)
          | (refine WL.callL (D := [bchC B (some ⟨Tp, 0, none⟩) (relM m l kq) fb1, tabC Tp q ⟨sysP, [], ⟨sysL, [], false⟩⟩ fp]) hS (by repeat (first | exact Pulls.nil | (apply Pulls.cons; focus (repeat (first | exact Pull.here | apply Pull.there))))) rfl rfl (fun hI => lalike_c (l := (relB l kq)) (K := i + 1) hI (St.ownSlX (enc := encOne) (hsz := fun _ => rfl) (l := (relB l kq)) (by decide) (hS.pulls (by repeat (first | exact Pulls.nil | (apply Pulls.cons; focus (repeat (first | exact Pull.here | apply Pull.there)))))) (by repeat (first | exact List.Mem.head _ | apply List.Mem.tail))) hbr (by omega) (by omega) hzz2) rfl rfl rfl ?_; rintro v w ⟨rfl, hmu⟩ hS; replace hS := hS _ hmu; clear hmu)
          | (refine WL.store hS rfl rfl rfl (by repeat (first | exact StB.here rfl | apply StB.there)) rfl rfl rfl ?_; intro w hS)
          | (refine WL.alloc hS rfl rfl rfl rfl rfl rfl ?_; intro w b hS)
          | refine WL.index rfl rfl rfl rfl (by first | with_reducible assumption | omega) rfl rfl rfl rfl ?_
          | refine WL.skip rfl rfl rfl ?_
          | ((fail_if_success (refine WL.wanted rfl ?_)); refine WL.guard rfl rfl rfl (fun h => ?_) (fun h => ?_) <;> (try simp only [Classical.not_not, Bool.not_eq_true', Bool.not_eq_false', Bool.not_eq_eq_eq_not, Bool.not_true, Bool.not_false, beq_iff_eq, beq_eq_false_iff_ne, ne_eq, decide_eq_decide, decide_eq_true_eq, decide_eq_false_iff_not, Bool.and_eq_true, Bool.or_eq_true, Bool.and_eq_false_iff, Bool.or_eq_false_iff] at h) <;> (try (exfalso; first | omega | contradiction))))
        | (show WC _ _ _ _ _ _; first
          | refine WC.seq ?_
          | refine WC.region ?_
          | refine WC.block ?_
          | refine WC.skip ?_
          | refine WC.condT rfl (by decide) ?_
          | refine WC.condF rfl (by decide) ?_
          | refine WC.condT rfl (decide_eq_true (by first | with_reducible assumption | omega)) ?_)
        | refine seqQ_n ?_
        | refine blkQ_n ?_)
      exact rndQ_n (i + 1, (relB l kq), (relM m l kq), fb1, AL2, cl2) ⟨⟨by omega, hbr, by omega, hfrr⟩, hS.droplast2 (D := [.own (.slice AL2 (relB l kq).length cl2) 50 4 (relB l kq).length (ones (relB l kq)), bchC B (some ⟨Tp, 0, none⟩) (relM m l kq) fb1, tabC Tp q ⟨sysP, [], ⟨sysL, [], false⟩⟩ fp]) (by repeat (first | exact Pulls.nil | (apply Pulls.cons; focus (repeat (first | exact Pull.here | apply Pull.there)))))⟩ (by show steps.length - (i + 1) < steps.length - i; omega) ⟨rfl, vint (by omega), trivial⟩ ⟨rfl, rfl, trivial⟩
  have hb2 := hb.up (K' := i + 1) (by omega)
  by_cases k4 : kind = 4
  · subst k4
    repeat' (first
      | (show WL _ _ _ _ _ _ _; first
        | refine WL.pure rfl rfl rfl rfl ?_
        | refine WL.nil ?_
        | refine WL.load hS rfl rfl (LdOk.box (by repeat (first | exact List.Mem.head _ | apply List.Mem.tail)) rfl) rfl rfl rfl ?_
        | (refine WL.load hS rfl rfl (LdOk.snap0 hF hr (by repeat (first | exact List.Mem.head _ | apply List.Mem.tail)) rfl) rfl rfl rfl ?_)
        | (refine WL.calls hS rfl rfl (lkey_c l text (St.ownSl (enc := encOne) (hsz := fun _ => rfl) (l := l) (by decide) hS (by repeat (first | exact List.Mem.head _ | apply List.Mem.tail))) (by omega) h1) rfl rfl rfl ?_; rintro v w rfl hS; rw [hkq])
        | (refine WL.store hS rfl rfl rfl (by repeat (first | exact StB.here rfl | apply StB.there)) rfl rfl rfl ?_; intro w hS)
        | (refine WL.alloc hS rfl rfl rfl rfl rfl rfl ?_; intro w b hS)
        | refine WL.index rfl rfl rfl rfl (by first | with_reducible assumption | omega) rfl rfl rfl rfl ?_
        | ((fail_if_success (refine WL.wanted rfl ?_)); refine WL.guard rfl rfl rfl (fun h => ?_) (fun h => ?_) <;> (try simp only [Classical.not_not, Bool.not_eq_true', Bool.not_eq_false', Bool.not_eq_eq_eq_not, Bool.not_true, Bool.not_false, beq_iff_eq, beq_eq_false_iff_ne, ne_eq, decide_eq_decide, decide_eq_true_eq, decide_eq_false_iff_not, Bool.and_eq_true, Bool.or_eq_true, Bool.and_eq_false_iff, Bool.or_eq_false_iff] at h) <;> (try (exfalso; first | omega | contradiction))))
      | (show WC _ _ _ _ _ _; first
        | refine WC.seq ?_
        | refine WC.region ?_
        | refine WC.block ?_
        | refine WC.skip ?_
        | refine WC.condT rfl (by decide) ?_
        | refine WC.condF rfl (by decide) ?_
        | refine WC.condT rfl (decide_eq_true (by first | with_reducible assumption | omega)) ?_)
      | refine seqQ_n ?_)
    obtain ⟨sb, hsb⟩ : ∃ sb, sb = b := ⟨_, rfl⟩
    subst hsb
    replace hS := hS.nilRow 9 1
    refine WC.loop (σ := Nat × List (List UInt8) × Option Addr × Nat) [0, 3, 4, 5, 6] (fun (n, held, HA, hc) => [(12, .slice HA held.length hc), (13, .int .i64 (n : Int))])
      (fun (n, held, HA, hc) w => (n ≤ l.length ∧ held = heldB (l.take n) text) ∧ St w0 [] w [.own (.slice HA held.length hc) 9 1 held.length (strs held), .box sb 43 [.int .i64 4, str text], .own (.slice AL l.length cl) 50 4 l.length (ones l), bchC B (some ⟨Tp, 0, none⟩) m fb, tabC Tp q ⟨sysP, [], ⟨sysL, [], false⟩⟩ fp] [⟨w0, Old w0⟩])
      (fun (n, _) => l.length - n) (0, [], none, 0) ⟨⟨Nat.zero_le _, rfl⟩, hS.droplast2 (D := [.own (.slice none 0 0) 9 1 0 [], .box sb 43 [.int .i64 4, str text], .own (.slice AL l.length cl) 50 4 l.length (ones l), bchC B (some ⟨Tp, 0, none⟩) m fb, tabC Tp q ⟨sysP, [], ⟨sysL, [], false⟩⟩ fp]) (by repeat (first | exact Pulls.nil | (apply Pulls.cons; focus (repeat (first | exact Pull.here | apply Pull.there)))))⟩ ⟨rfl, rfl, trivial⟩ ?_
    clear hS
    rintro ⟨n, held, HA, hc⟩ g2 w ⟨⟨hn, hh⟩, hS⟩
    show WC _ _ _ (lf _ [(12, .slice HA held.length hc), (13, .int .i64 (n : Int))] _ _) _ _
    have hhl : held.length ≤ n := by rw [hh]; have := heldB_len (l.take n) text; rw [List.length_take] at this; omega
    by_cases hnl : n < l.length
    · obtain ⟨kg, ko, rfl⟩ := hS.own_addr (A := AL) (n := l.length) (by repeat (first | exact List.Mem.head _ | apply List.Mem.tail)) (by omega)
      have h3 : (ones l)[n * 4 + 3]? = some (str l[n].data) := ones_at hnl (by decide)
      have hsn := heldB_snoc hnl text
      rw [← hh] at hsn
      obtain ⟨e1, e2⟩ := h1 _ (List.getElem_mem hnl)
      have hkc := fun w0 => rkey_c l[n] w0 e1 e2
      have hcap2 := (hS.own_len (List.Mem.head _)).2.2
      generalize l[n].key = key at *
      generalize l[n].data = dx at *
      clear hh hkq
      by_cases c1 : text.length ≤ dx.length
      · by_cases c2 : dx.take text.length = text
        · rw [if_pos (show begB text dx = true from decide_eq_true c2)] at hsn
          repeat' (first
            | (show WL _ _ _ _ _ _ _; first
              | refine WL.pure rfl rfl rfl rfl ?_
              | refine WL.nil ?_
              | refine WL.add rfl rfl rfl (by omega) rfl rfl rfl ?_
              | (refine WL.load hS rfl rfl (LdOk.ownElem (enc := encOne) (l := l) (fun _ => rfl) (by repeat (first | exact List.Mem.head _ | apply List.Mem.tail)) hnl rfl rfl) rfl rfl rfl ?_)
              | (refine WL.calls hS rfl rfl (hkc _) rfl rfl rfl ?_; rintro v w rfl hS)
              | (refine WL.app (m := 1) hS rfl rfl rfl rfl (RdOk.box (by repeat (first | exact List.Mem.head _ | apply List.Mem.tail))) rfl rfl (fun A cap => by repeat (first | exact Repl.here | apply Repl.there)) (by omega) rfl rfl rfl ?_; intro A3 cap3 w hS)
              | refine WL.index rfl rfl rfl rfl (by first | with_reducible assumption | omega) rfl rfl rfl rfl ?_
              | (refine WL.slit hS rfl rfl rfl rfl rfl ?_; intro w b hS))
            | (show WC _ _ _ _ _ _; first
              | refine WC.seq ?_
              | refine WC.region ?_
              | refine WC.block ?_
              | refine WC.skip ?_
              | (show WC _ _ (Code.region _ (List.toArray [_, _, _, _, _, _, _, _, _, _, _, _, _, _, _, _, _, _, _, _, _, _, _, _]) true) _ _ _; refine WC.drawS hS [0, 1, 2, 3, 4, 5, 6, 7, 8, 9, 10, 11, 12, 13, 14, 15, 16, 17, 18, 19, 20, 21, 22, 23] [0, 1, 2, 3, 4, 5, 6, 7, 8, 9, 10, 11, 12, 13, 14, 15, 16, 17, 18, 19, 20, 21, 22, 23] (by kernel_rfl) (by kernel_rfl) ?_; clear hS; intro w hS hM)
              | refine WC.condT rfl (decide_eq_true (by first | with_reducible assumption | omega)) ?_
              | refine WC.condT rfl (by first | (simp; done) | (simp; omega)) ?_)
            | (show WD _ _ _ _ _ _ _ _ _; first
              | refine WD.pure rfl rfl rfl rfl rfl ?_
              | refine WD.nil ?_
              | refine WD.load rfl rfl (LdOk.box (by repeat (first | exact List.Mem.head _ | apply List.Mem.tail)) rfl) rfl rfl rfl rfl ?_
              | (refine WD.load rfl rfl (LdOk.ownAt (off := n * 4 + 3) (by repeat (first | exact List.Mem.head _ | apply List.Mem.tail)) rfl ⟨_, rfl⟩ h3 rfl) rfl rfl rfl rfl ?_)
              | (refine WD.highS rfl rfl rfl rfl (by omega) rfl rfl rfl rfl ?_; rw [c2])
              | refine WD.index rfl rfl rfl rfl (by first | with_reducible assumption | omega) rfl rfl rfl rfl rfl ?_
              | ((fail_if_success (refine WD.wanted rfl ?_)); refine WD.guard rfl rfl rfl (fun h => ?_) (fun h => ?_) <;> (try simp only [Classical.not_not, Bool.not_eq_true', Bool.not_eq_false', Bool.not_eq_eq_eq_not, Bool.not_true, Bool.not_false, beq_iff_eq, beq_eq_false_iff_ne, ne_eq, decide_eq_decide, decide_eq_true_eq, decide_eq_false_iff_not, Bool.and_eq_true, Bool.or_eq_true, Bool.and_eq_false_iff, Bool.or_eq_false_iff] at h) <;> (try (exfalso; first | omega | contradiction))))
            | refine seqQ_n ?_
            | refine blkQ_n ?_)
          replace hS := hS.droplast2 (D := [.own (.slice A3 (held.length + 1) cap3) 9 1 (held.length + 1) (strs held ++ [str key]), .box sb 43 [.int .i64 4, str text], .own (.slice (some ⟨kg, ko, none⟩) l.length cl) 50 4 l.length (ones l), bchC B (some ⟨Tp, 0, none⟩) m fb, tabC Tp q ⟨sysP, [], ⟨sysL, [], false⟩⟩ fp]) (by repeat (first | exact Pulls.nil | (apply Pulls.cons; focus (repeat (first | exact Pull.here | apply Pull.there)))))
          exact rndQ_n (n + 1, held ++ [key], A3, cap3) ⟨⟨by omega, hsn.symm⟩, by
            rw [List.length_append, ← strs_snoc]
            exact hS⟩ (by show l.length - (n + 1) < l.length - n; omega) ⟨by rw [List.length_append]; rfl, vint (by omega), trivial⟩ ⟨rfl, rfl, rfl, rfl, rfl, trivial⟩
        · rw [if_neg (show ¬ begB text dx = true from fun h => c2 (of_decide_eq_true h)), List.append_nil] at hsn
          repeat' (first
            | (show WL _ _ _ _ _ _ _; first
              | refine WL.pure rfl rfl rfl rfl ?_
              | refine WL.nil ?_
              | refine WL.add rfl rfl rfl (by omega) rfl rfl rfl ?_)
            | (show WC _ _ _ _ _ _; first
              | refine WC.seq ?_
              | refine WC.region ?_
              | refine WC.block ?_
              | refine WC.skip ?_
              | (show WC _ _ (Code.region _ (List.toArray [_, _, _, _, _, _, _, _, _, _, _, _, _, _, _, _, _, _, _, _, _, _, _, _]) true) _ _ _; refine WC.drawS hS [0, 1, 2, 3, 4, 5, 6, 7, 8, 9, 10, 11, 12, 13, 14, 15, 16, 17, 18, 19, 20, 21, 22, 23] [0, 1, 2, 3, 4, 5, 6, 7, 8, 9, 10, 11, 12, 13, 14, 15, 16, 17, 18, 19, 20, 21, 22, 23] (by kernel_rfl) (by kernel_rfl) ?_; clear hS; intro w hS hM)
              | refine WC.condT rfl (decide_eq_true (by first | with_reducible assumption | omega)) ?_
              | refine WC.condF rfl (decide_eq_false (by first | with_reducible assumption | omega)) ?_)
            | (show WD _ _ _ _ _ _ _ _ _; first
              | refine WD.pure rfl rfl rfl rfl rfl ?_
              | refine WD.nil ?_
              | refine WD.load rfl rfl (LdOk.box (by repeat (first | exact List.Mem.head _ | apply List.Mem.tail)) rfl) rfl rfl rfl rfl ?_
              | (refine WD.load rfl rfl (LdOk.ownAt (off := n * 4 + 3) (by repeat (first | exact List.Mem.head _ | apply List.Mem.tail)) rfl ⟨_, rfl⟩ h3 rfl) rfl rfl rfl rfl ?_)
              | (refine WD.highS rfl rfl rfl rfl (by omega) rfl rfl rfl rfl ?_)
              | refine WD.index rfl rfl rfl rfl (by first | with_reducible assumption | omega) rfl rfl rfl rfl rfl ?_
              | ((fail_if_success (refine WD.wanted rfl ?_)); refine WD.guard rfl rfl rfl (fun h => ?_) (fun h => ?_) <;> (try simp only [Classical.not_not, Bool.not_eq_true', Bool.not_eq_false', Bool.not_eq_eq_eq_not, Bool.not_true, Bool.not_false, beq_iff_eq, beq_eq_false_iff_ne, ne_eq, decide_eq_decide, decide_eq_true_eq, decide_eq_false_iff_not, Bool.and_eq_true, Bool.or_eq_true, Bool.and_eq_false_iff, Bool.or_eq_false_iff] at h) <;> (try (exfalso; first | omega | contradiction))))
            | refine seqQ_n ?_
            | refine blkQ_n ?_)
          exact rndQ_n (n + 1, held, HA, hc) ⟨⟨by omega, hsn.symm⟩, hS⟩ (by show l.length - (n + 1) < l.length - n; omega) ⟨rfl, vint (by omega), trivial⟩ ⟨rfl, rfl, rfl, rfl, rfl, trivial⟩
      · have c2 : ¬ dx.take text.length = text := fun e => by
          have := congrArg List.length e
          rw [List.length_take] at this
          omega
        rw [if_neg (show ¬ begB text dx = true from fun h => c2 (of_decide_eq_true h)), List.append_nil] at hsn
        repeat' (first
          | (show WL _ _ _ _ _ _ _; first
            | refine WL.pure rfl rfl rfl rfl ?_
            | refine WL.nil ?_
            | refine WL.add rfl rfl rfl (by omega) rfl rfl rfl ?_)
          | (show WC _ _ _ _ _ _; first
            | refine WC.seq ?_
            | refine WC.region ?_
            | refine WC.block ?_
            | refine WC.skip ?_
            | (show WC _ _ (Code.region _ (List.toArray [_, _, _, _, _, _, _, _, _, _, _, _, _, _, _, _, _, _, _, _, _, _, _, _]) true) _ _ _; refine WC.drawS hS [0, 1, 2, 3, 4, 5, 6, 7, 8, 9, 10, 11, 12, 13, 14, 15, 16, 17, 18, 19, 20, 21, 22, 23] [0, 1, 2, 3, 4, 5, 6, 7, 8, 9, 10, 11, 12, 13, 14, 15, 16, 17, 18, 19, 20, 21, 22, 23] (by kernel_rfl) (by kernel_rfl) ?_; clear hS; intro w hS hM)
            | refine WC.condF rfl (by with_reducible rfl) ?_
            | refine WC.condT rfl (decide_eq_true (by first | with_reducible assumption | omega)) ?_)
          | (show WD _ _ _ _ _ _ _ _ _; first
            | refine WD.pure rfl rfl rfl rfl rfl ?_
            | refine WD.nil ?_
            | refine WD.load rfl rfl (LdOk.box (by repeat (first | exact List.Mem.head _ | apply List.Mem.tail)) rfl) rfl rfl rfl rfl ?_
            | (refine WD.load rfl rfl (LdOk.ownAt (off := n * 4 + 3) (by repeat (first | exact List.Mem.head _ | apply List.Mem.tail)) rfl ⟨_, rfl⟩ h3 rfl) rfl rfl rfl rfl ?_)
            | refine WD.index rfl rfl rfl rfl (by first | with_reducible assumption | omega) rfl rfl rfl rfl rfl ?_
            | refine WD.pass rfl rfl rfl rfl ?_
            | ((fail_if_success (refine WD.wanted rfl ?_)); refine WD.guard rfl rfl rfl (fun h => ?_) (fun h => ?_) <;> (try simp only [Classical.not_not, Bool.not_eq_true', Bool.not_eq_false', Bool.not_eq_eq_eq_not, Bool.not_true, Bool.not_false, beq_iff_eq, beq_eq_false_iff_ne, ne_eq, decide_eq_decide, decide_eq_true_eq, decide_eq_false_iff_not, Bool.and_eq_true, Bool.or_eq_true, Bool.and_eq_false_iff, Bool.or_eq_false_iff] at h) <;> (try (exfalso; first | omega | contradiction))))
          | refine seqQ_n ?_
          | refine blkQ_n ?_)
        exact rndQ_n (n + 1, held, HA, hc) ⟨⟨by omega, hsn.symm⟩, hS⟩ (by show l.length - (n + 1) < l.length - n; omega) ⟨rfl, vint (by omega), trivial⟩ ⟨rfl, rfl, rfl, rfl, rfl, trivial⟩
    · have hne : n = l.length := by omega
      subst hne
      rw [List.take_length] at hh
      have hnd := heldB_nodup hb.knd text
      rw [← hh] at hnd
      clear hh hkq
      have hsl2 : (sweepB l held).length ≤ l.length := List.length_filterMap_le _ _
      repeat' (first
        | (show WL _ _ _ _ _ _ _; first
          | refine WL.pure rfl rfl rfl rfl ?_
          | refine WL.nil ?_
          | refine WL.add rfl rfl rfl (by omega) rfl rfl rfl ?_
          | (refine WL.callG rfl rfl (rsweep_c (l := l) held (St.ownSl (enc := encOne) (hsz := fun _ => rfl) (l := l) (by decide) hS (by repeat (first | exact List.Mem.head _ | apply List.Mem.tail))) (St.ownSl (l := held) (enc := fun s => [str s]) (hsz := fun _ => rfl) (by decide) hS (by repeat (first | exact List.Mem.head _ | apply List.Mem.tail))) hok (by omega) hln (by omega)) rfl rfl rfl ?_; rintro v w ⟨hu, AL2, cl2, rfl, hn⟩; replace hS := hS.new hu hn; clear hu hn)
          | (refine WL.callL (D := [bchC B (some ⟨Tp, 0, none⟩) m fb, tabC Tp q ⟨sysP, [], ⟨sysL, [], false⟩⟩ fp]) hS (by repeat (first | exact Pulls.nil | (apply Pulls.cons; focus (repeat (first | exact Pull.here | apply Pull.there))))) rfl rfl (fun hI => blsweep_c (l := l) (K := i) held hI (St.ownSlX (l := held) (enc := fun s => [str s]) (hsz := fun _ => rfl) (by decide) (hS.pulls (by repeat (first | exact Pulls.nil | (apply Pulls.cons; focus (repeat (first | exact Pull.here | apply Pull.there)))))) (by repeat (first | exact List.Mem.head _ | apply List.Mem.tail))) hb (by omega) (by omega) (by omega) (Nat.zero_le _)) rfl rfl rfl ?_; rintro v w ⟨rfl, m2, fb2, hb3, hml3, hfr3, hmu⟩ hS; replace hS := hS _ hmu; clear hmu; have hb4 := hb2.swept hb3 hnd (by omega); have hfr4 : ∀ kk, kk.take 2 ≠ [98, 47] → bgetE [] m2 kk = bgetE [] zzM kk := (fun kk hkk => (hfr3 kk hkk).trans (hfr kk hkk)); have hzz4 := zz_get hfr4)
          | (refine WL.callL (D := [bchC B (some ⟨Tp, 0, none⟩) m2 fb2, tabC Tp q ⟨sysP, [], ⟨sysL, [], false⟩⟩ fp]) hS (by repeat (first | exact Pulls.nil | (apply Pulls.cons; focus (repeat (first | exact Pull.here | apply Pull.there))))) rfl rfl (fun hI => lalike_c (l := (sweepB l held)) (K := i + 1) hI (St.ownSlX (enc := encOne) (hsz := fun _ => rfl) (l := (sweepB l held)) (by decide) (hS.pulls (by repeat (first | exact Pulls.nil | (apply Pulls.cons; focus (repeat (first | exact Pull.here | apply Pull.there)))))) (by repeat (first | exact List.Mem.head _ | apply List.Mem.tail))) hb4 (by omega) (by omega) hzz4) rfl rfl rfl ?_; rintro v w ⟨rfl, hmu⟩ hS; replace hS := hS _ hmu; clear hmu)
          | ((fail_if_success (refine WL.wanted rfl ?_)); refine WL.guard rfl rfl rfl (fun h => ?_) (fun h => ?_) <;> (try simp only [Classical.not_not, Bool.not_eq_true', Bool.not_eq_false', Bool.not_eq_eq_eq_not, Bool.not_true, Bool.not_false, beq_iff_eq, beq_eq_false_iff_ne, ne_eq, decide_eq_decide, decide_eq_true_eq, decide_eq_false_iff_not, Bool.and_eq_true, Bool.or_eq_true, Bool.and_eq_false_iff, Bool.or_eq_false_iff] at h) <;> (try (exfalso; first | omega | contradiction))))
        | (show WC _ _ _ _ _ _; first
          | refine WC.seq ?_
          | refine WC.region ?_
          | refine WC.skip ?_
          | refine WC.exit ?_
          | refine WC.condF rfl (by decide) ?_
          | refine WC.condF rfl (decide_eq_false (by first | with_reducible assumption | omega)) ?_)
        | refine seqQ_n ?_
        | refine blkQ_n ?_
        | refine seqQ_x ?_
        | refine blkQ_hit rfl ?_
        | refine rndQ_x ?_)
      exact rndQ_n (i + 1, (sweepB l held), m2, fb2, AL2, cl2) ⟨⟨by omega, hb4, by omega, hfr4⟩, hS.droplast2 (D := [.own (.slice AL2 (sweepB l held).length cl2) 50 4 (sweepB l held).length (ones (sweepB l held)), bchC B (some ⟨Tp, 0, none⟩) m2 fb2, tabC Tp q ⟨sysP, [], ⟨sysL, [], false⟩⟩ fp]) (by repeat (first | exact Pulls.nil | (apply Pulls.cons; focus (repeat (first | exact Pull.here | apply Pull.there)))))⟩ (by show steps.length - (i + 1) < steps.length - i; omega) ⟨rfl, vint (by omega), trivial⟩ ⟨rfl, rfl, trivial⟩
  have hzn := zz_none hb
  have hgz : blgetV l zzK = .tuple #[str [], .int .i64 11] := by unfold blgetV; rw [hzn]
  have hrz : refsB l zzK = 0 := by unfold refsB; rw [hzn]
  have hre : relEB l zzK = 11 := by unfold relEB; rw [hzn]
  have hm2 : relM m l zzK = m := by unfold relM; rw [hzn]
  by_cases k5 : kind = 5
  · subst k5
    repeat' (first
      | (show WL _ _ _ _ _ _ _; first
        | refine WL.pure rfl rfl rfl rfl ?_
        | refine WL.nil ?_
        | refine WL.load hS rfl rfl (LdOk.box (by repeat (first | exact List.Mem.head _ | apply List.Mem.tail)) rfl) rfl rfl rfl ?_
        | refine WL.add rfl rfl rfl (by omega) rfl rfl rfl ?_
        | (refine WL.load hS rfl rfl (LdOk.snap0 hF hr (by repeat (first | exact List.Mem.head _ | apply List.Mem.tail)) rfl) rfl rfl rfl ?_)
        | (refine WL.calls hS rfl rfl (lkey_c l text (St.ownSl (enc := encOne) (hsz := fun _ => rfl) (l := l) (by decide) hS (by repeat (first | exact List.Mem.head _ | apply List.Mem.tail))) (by omega) h1) rfl rfl rfl ?_; rintro v w rfl hS; rw [hkq])
        | (refine WL.callL (D := [bchC B (some ⟨Tp, 0, none⟩) m fb, tabC Tp q ⟨sysP, [], ⟨sysL, [], false⟩⟩ fp]) hS (by repeat (first | exact Pulls.nil | (apply Pulls.cons; focus (repeat (first | exact Pull.here | apply Pull.there))))) rfl rfl (fun hI => blget_c (l := l) (K := i) zzK hI hb (by omega)) rfl rfl rfl ?_; rintro v w ⟨rfl, hmu⟩ hS; rw [hgz]; replace hS := hS _ hmu; clear hmu)
        | (refine WL.callL (D := [bchC B (some ⟨Tp, 0, none⟩) m fb, tabC Tp q ⟨sysP, [], ⟨sysL, [], false⟩⟩ fp]) hS (by repeat (first | exact Pulls.nil | (apply Pulls.cons; focus (repeat (first | exact Pull.here | apply Pull.there))))) rfl rfl (fun hI => blrefs_c (l := l) (K := i) zzK hI hb (by omega)) rfl rfl rfl ?_; rintro v w ⟨rfl, hmu⟩ hS; rw [hrz]; replace hS := hS _ hmu; clear hmu)
        | (refine WL.callL (D := [bchC B (some ⟨Tp, 0, none⟩) m fb, tabC Tp q ⟨sysP, [], ⟨sysL, [], false⟩⟩ fp]) hS (by repeat (first | exact Pulls.nil | (apply Pulls.cons; focus (repeat (first | exact Pull.here | apply Pull.there))))) rfl rfl (fun hI => blrel_c (l := l) (K := i) zzK hI hb (by omega) (by omega)) rfl rfl rfl ?_; rintro v w ⟨rfl, fb1, hmu⟩ hS; rw [hm2] at hmu; rw [hre]; replace hS := hS _ hmu; clear hmu)
        | (refine WL.callL (D := [bchC B (some ⟨Tp, 0, none⟩) m fb1, tabC Tp q ⟨sysP, [], ⟨sysL, [], false⟩⟩ fp]) hS (by repeat (first | exact Pulls.nil | (apply Pulls.cons; focus (repeat (first | exact Pull.here | apply Pull.there))))) rfl rfl (fun hI => lalike_c (l := l) (K := i) hI (St.ownSlX (enc := encOne) (hsz := fun _ => rfl) (l := l) (by decide) (hS.pulls (by repeat (first | exact Pulls.nil | (apply Pulls.cons; focus (repeat (first | exact Pull.here | apply Pull.there)))))) (by repeat (first | exact List.Mem.head _ | apply List.Mem.tail))) hb (by omega) (by omega) hzz) rfl rfl rfl ?_; rintro v w ⟨rfl, hmu⟩ hS; replace hS := hS _ hmu; clear hmu)
        | (refine WL.store hS rfl rfl rfl (by repeat (first | exact StB.here rfl | apply StB.there)) rfl rfl rfl ?_; intro w hS)
        | (refine WL.alloc hS rfl rfl rfl rfl rfl rfl ?_; intro w b hS)
        | refine WL.index rfl rfl rfl rfl (by first | with_reducible assumption | omega) rfl rfl rfl rfl ?_
        | ((fail_if_success (refine WL.wanted rfl ?_)); refine WL.guard rfl rfl rfl (fun h => ?_) (fun h => ?_) <;> (try simp only [Classical.not_not, Bool.not_eq_true', Bool.not_eq_false', Bool.not_eq_eq_eq_not, Bool.not_true, Bool.not_false, beq_iff_eq, beq_eq_false_iff_ne, ne_eq, decide_eq_decide, decide_eq_true_eq, decide_eq_false_iff_not, Bool.and_eq_true, Bool.or_eq_true, Bool.and_eq_false_iff, Bool.or_eq_false_iff] at h) <;> (try (exfalso; first | omega | contradiction))))
      | (show WC _ _ _ _ _ _; first
        | refine WC.seq ?_
        | refine WC.region ?_
        | refine WC.block ?_
        | refine WC.skip ?_
        | refine WC.condT rfl (by decide) ?_
        | refine WC.condF rfl (by decide) ?_
        | refine WC.condT rfl (decide_eq_true (by first | with_reducible assumption | omega)) ?_)
      | refine seqQ_n ?_
      | refine blkQ_n ?_)
    exact rndQ_n (i + 1, l, m, fb1, AL, cl) ⟨⟨by omega, hb2, by omega, hfr⟩, hS.droplast2 (D := [.own (.slice AL l.length cl) 50 4 l.length (ones l), bchC B (some ⟨Tp, 0, none⟩) m fb1, tabC Tp q ⟨sysP, [], ⟨sysL, [], false⟩⟩ fp]) (by repeat (first | exact Pulls.nil | (apply Pulls.cons; focus (repeat (first | exact Pull.here | apply Pull.there)))))⟩ (by show steps.length - (i + 1) < steps.length - i; omega) ⟨rfl, vint (by omega), trivial⟩ ⟨rfl, rfl, trivial⟩
  · repeat' (first
      | (show WL _ _ _ _ _ _ _; first
        | refine WL.pure rfl rfl rfl rfl ?_
        | refine WL.nil ?_
        | refine WL.load hS rfl rfl (LdOk.box (by repeat (first | exact List.Mem.head _ | apply List.Mem.tail)) rfl) rfl rfl rfl ?_
        | refine WL.add rfl rfl rfl (by omega) rfl rfl rfl ?_
        | (refine WL.load hS rfl rfl (LdOk.snap0 hF hr (by repeat (first | exact List.Mem.head _ | apply List.Mem.tail)) rfl) rfl rfl rfl ?_)
        | (refine WL.calls hS rfl rfl (lkey_c l text (St.ownSl (enc := encOne) (hsz := fun _ => rfl) (l := l) (by decide) hS (by repeat (first | exact List.Mem.head _ | apply List.Mem.tail))) (by omega) h1) rfl rfl rfl ?_; rintro v w rfl hS; rw [hkq])
        | (refine WL.callL (D := [bchC B (some ⟨Tp, 0, none⟩) m fb, tabC Tp q ⟨sysP, [], ⟨sysL, [], false⟩⟩ fp]) hS (by repeat (first | exact Pulls.nil | (apply Pulls.cons; focus (repeat (first | exact Pull.here | apply Pull.there))))) rfl rfl (fun hI => lalike_c (l := l) (K := i) hI (St.ownSlX (enc := encOne) (hsz := fun _ => rfl) (l := l) (by decide) (hS.pulls (by repeat (first | exact Pulls.nil | (apply Pulls.cons; focus (repeat (first | exact Pull.here | apply Pull.there)))))) (by repeat (first | exact List.Mem.head _ | apply List.Mem.tail))) hb (by omega) (by omega) hzz) rfl rfl rfl ?_; rintro v w ⟨rfl, hmu⟩ hS; replace hS := hS _ hmu; clear hmu)
        | (refine WL.store hS rfl rfl rfl (by repeat (first | exact StB.here rfl | apply StB.there)) rfl rfl rfl ?_; intro w hS)
        | (refine WL.alloc hS rfl rfl rfl rfl rfl rfl ?_; intro w b hS)
        | refine WL.index rfl rfl rfl rfl (by first | with_reducible assumption | omega) rfl rfl rfl rfl ?_
        | ((fail_if_success (refine WL.wanted rfl ?_)); refine WL.guard rfl rfl rfl (fun h => ?_) (fun h => ?_) <;> (try simp only [Classical.not_not, Bool.not_eq_true', Bool.not_eq_false', Bool.not_eq_eq_eq_not, Bool.not_true, Bool.not_false, beq_iff_eq, beq_eq_false_iff_ne, ne_eq, decide_eq_decide, decide_eq_true_eq, decide_eq_false_iff_not, Bool.and_eq_true, Bool.or_eq_true, Bool.and_eq_false_iff, Bool.or_eq_false_iff] at h) <;> (try (exfalso; first | omega | contradiction))))
      | (show WC _ _ _ _ _ _; first
        | refine WC.seq ?_
        | refine WC.region ?_
        | refine WC.block ?_
        | refine WC.skip ?_
        | refine WC.condF rfl (by decide) ?_
        | refine WC.condT rfl (decide_eq_true (by first | with_reducible assumption | omega)) ?_
        | refine WC.condF rfl (decide_eq_false (by first | with_reducible assumption | omega)) ?_)
      | refine seqQ_n ?_
      | refine blkQ_n ?_)
    exact rndQ_n (i + 1, l, m, fb, AL, cl) ⟨⟨by omega, hb2, by omega, hfr⟩, hS.droplast2 (D := [.own (.slice AL l.length cl) 50 4 l.length (ones l), bchC B (some ⟨Tp, 0, none⟩) m fb, tabC Tp q ⟨sysP, [], ⟨sysL, [], false⟩⟩ fp]) (by repeat (first | exact Pulls.nil | (apply Pulls.cons; focus (repeat (first | exact Pull.here | apply Pull.there)))))⟩ (by show steps.length - (i + 1) < steps.length - i; omega) ⟨rfl, vint (by omega), trivial⟩ ⟨rfl, rfl, trivial⟩
end Go.Proofs.YtlddmenpafcaiaaGreatDoor

/- What is proved: the key of BlobPlays: with the table laid, the law answers true. Conditions: the statement's own bound on the bulk. -/
set_option linter.unusedSimpArgs false
set_option linter.unusedVariables false
namespace Go.Proofs.YtlddmenpafcaiaaGreatDoor
open Go Go.J Go.RowKit

def QStp (s : Stp) (b : Nat) : Prop := s.text.length + 2 ≤ b
theorem list2S {α : Type} {l : List α} (h : l.length = 2) : ∃ a b, l = [a, b] := by match l, h with | [a, b], _ => exact ⟨a, b, rfl⟩
set_option maxRecDepth 100000 in
theorem open_stp : Opens Tryz.prog 43 cStp QStp := by
  intro H enc W fuel cs x h
  obtain ⟨xs, n, _, rfl, hlen, hxl, hf⟩ := DataW.trod_struct Tryz.underlying43 h
  obtain ⟨x0, x1, rfl⟩ := list2S hxl
  obtain ⟨c0, c1, rfl⟩ := list2S (hlen.trans (by kernel_rfl))
  obtain ⟨s0, e0, q0⟩ := Opens.int Tryz.underlying3 enc W n [c0] x0 (hf 0 _ rfl)
  obtain ⟨s1, e1, q1⟩ := Opens.str Tryz.underlying9 enc W n [c1] x1 (hf 1 _ rfl)
  have e0 : [c0] = [.int .i64 s0] := e0
  have e1 : [c1] = [str s1] := e1
  simp only [List.cons.injEq, and_true] at e0 e1
  subst e0 e1
  refine ⟨⟨s0, s1⟩, rfl, ?_⟩
  unfold QStp
  simp [Rows.uptoBulk, Rows.uptoBulkAll] at *
  omega
instance : Inhabited Stp := ⟨⟨0, []⟩⟩
theorem arg_stps : Arg Tryz.prog 40 (ASl cStp) (QL QStp) := Arg.slice Tryz.underlying40 (Opens.slice Tryz.underlying40 (by kernel_rfl) (by decide) open_stp)
set_option maxRecDepth 100000 in
theorem pow_blobPlays (W : World) (h : laidMet Tryz.prog Rows.blobPlaysUptoRow.laid W) : powT W := by
  obtain ⟨a, b, r, he⟩ : ∃ a b r, Rows.blobPlaysUptoRow.laid = a :: b :: ("internal/strconv.uint64pow10", Lib.tabData .u64 Lib.pow10Tab) :: r := ⟨_, _, _, rfl⟩
  rw [he] at h
  have h1 := laidMet.tail (laidMet.tail h)
  exact Lib.tabIs_of_head (g := 2) (t := 195) (e := 140) (n := 20) (by kernel_rfl) (by kernel_rfl) (by kernel_rfl) (by kernel_rfl) (by kernel_rfl) (by kernel_rfl) h1
theorem blobPlays.key_blobPlays (W : World) (hL : laidMet Tryz.prog Rows.blobPlaysUptoRow.laid W) (v0 : Value) (y0 : List Stp) (b0 : Nat) (h0 : ASl cStp W v0 y0) (q0 : QL QStp y0 b0) (hb : b0 ≤ 1048576) :
    Cal Tryz.prog 6 [v0] W (fun v W' => Upd [] W W' ∧ v = .bool true) := by
  obtain ⟨A0, c0, rfl, _, h0⟩ := h0
  have h2 := QL_sum (f := fun s : Stp => s.text.length + 2) (fun a b h => h) q0
  have h3 : ∀ l : List Stp, (∀ s ∈ l, s.text.length ≤ (l.map fun s : Stp => s.text.length + 2).sum) ∧ l.length ≤ (l.map fun s : Stp => s.text.length + 2).sum := by
    intro l
    induction l with
    | nil => exact ⟨fun s h => (by cases h), Nat.zero_le _⟩
    | cons a l ih =>
      simp only [List.map_cons, List.sum_cons, List.length_cons]
      refine ⟨fun s hs => ?_, by omega⟩
      rcases List.mem_cons.1 hs with rfl | hs
      · omega
      · have := ih.1 s hs; omega
  have h4 := h3 y0
  exact blobPlays_c y0 h0 (fun s hs => by have := h4.1 s hs; omega) (by omega) (pow_blobPlays W hL)
end Go.Proofs.YtlddmenpafcaiaaGreatDoor
