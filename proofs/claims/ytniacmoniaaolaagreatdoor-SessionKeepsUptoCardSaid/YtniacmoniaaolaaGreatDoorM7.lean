/- What is proved: contracts and plain facts that the law leans on (texts put together). Conditions: as each names them. -/
import Derived.Test.YtniacmoniaaolaaGreatDoorM6
import Derived.Lib.LaidTab
import Derived.Stop.LaidErr
set_option linter.unusedSimpArgs false
set_option linter.unusedVariables false
/- What is proved: what Encode and Save of the package session write. Conditions: conflicts of bounded length; the library's table of powers laid. -/
set_option linter.unusedSimpArgs false
set_option linter.unusedVariables false
namespace Go.Proofs.YtniacmoniaaolaaGreatDoor
open Go Go.J Go.RowKit

variable {w0 : World}
set_option maxHeartbeats 16000000 in
set_option maxRecDepth 100000 in
theorem sents_c (t : List Ent) {A : Option Addr} {cap : Nat} (hA : SlAt cEnt (Old w0) w0 A t) (hk : ∀ e ∈ t, I64 e.kind) (hz : szEnts t ≤ 4294967296) :
    Cal Tryz.prog 58 [.slice A t.length cap] w0 (fun v w' => Upd [] w0 w' ∧ v = str (entsE t)) := by
  refine Cal.mk' (by kernel_rfl) Tryz.func58 rfl rfl fun hS => ?_
  have hn := szEnts_len t
  have hpl := putN_len10 (n := t.length) (by omega)
  repeat' (first
    | (show WL _ _ _ _ _ _ _; first
      | refine WL.pure rfl rfl rfl rfl ?_
      | refine WL.nil ?_
      | (refine WL.calls hS rfl rfl (wuint_c t.length _ (by omega)) rfl rfl rfl ?_; rintro v w rfl hS))
    | (show WC _ _ _ _ _ _; first
      | refine WC.seq ?_
      | refine WC.region ?_
      | refine WC.block ?_)
    | refine seqQ_n ?_)
  refine WC.loop (σ := Nat × List UInt8) [15, 16] (fun (k, S) => [(5, str S), (17, .int .i64 (k : Int))])
    (fun (k, S) w => (k ≤ t.length ∧ S = putN t.length ++ (t.take k).flatMap entE ∧ S.length ≤ 10 + szEnts (t.take k)) ∧ St w0 [] w [] [⟨w0, Old w0⟩]) (fun (k, _) => t.length - k) (0, putN t.length)
    ⟨⟨Nat.zero_le _, by simp, by omega⟩, hS⟩ ⟨rfl, rfl, trivial⟩ ?_
  clear hS
  rintro ⟨k, S⟩ g w ⟨⟨hkl, hSe, hSl⟩, hS⟩
  show WC _ _ _ (lf _ [(5, str S), (17, .int .i64 (k : Int))] _ _) _ _
  by_cases hlt : k < t.length
  · obtain ⟨rb, ro, es, rfl, hF, hr, hes⟩ := hA.at_ hlt
    have hes : es = encEnt t[k] := hes
    subst hes
    replace hr : w0.rangeAt rb (ro + k * 3) (encEnt t[k]) := hr
    have h1 := szEnts_take t hlt
    have h2 := szEnts_take_le t (k + 1)
    have h3 := flat_take entE t hlt
    have h4 := hk _ (List.getElem_mem hlt)
    generalize t[k] = e at *
    have h5 := entE_le (e := e) h4 (by omega)
    have hnx : S ++ entE e = putN t.length ++ (t.take (k + 1)).flatMap entE := by rw [h3, hSe, List.append_assoc]
    clear hSe h3 hA hk
    obtain ⟨ep, ek, ed⟩ := e
    unfold encEnt at hr
    dsimp only at hr h1 h4 h5
    have l1 := textE_le (s := ep) (by omega)
    have l2 := textE_le (s := ed) (by omega)
    have l3 := zig_len h4
    have hE : textE ep ++ putN (zigN ek) ++ textE ed = entE ⟨ep, ek, ed⟩ := rfl
    have hl : (textE ep ++ putN (zigN ek)).length ≤ ep.length + 20 := by rw [List.length_append]; omega
    unfold I64 at h4
    repeat' (first
      | (show WL _ _ _ _ _ _ _; first
        | refine WL.pure rfl rfl rfl rfl ?_
        | refine WL.nil ?_
        | refine WL.add rfl rfl rfl (by omega) rfl rfl rfl ?_
        | (refine WL.load hS rfl rfl (LdOk.snap0 hF hr (by repeat (first | exact List.Mem.head _ | apply List.Mem.tail)) rfl) rfl rfl rfl ?_)
        | (refine WL.store hS rfl rfl rfl (by repeat (first | exact StB.here rfl | apply StB.there)) rfl rfl rfl ?_; intro w hS)
        | (refine WL.alloc hS rfl rfl rfl rfl rfl rfl ?_; intro w b hS)
        | refine WL.index rfl rfl rfl rfl (by first | with_reducible assumption | omega) rfl rfl rfl rfl ?_)
      | (show WC _ _ _ _ _ _; first
        | refine WC.seq ?_
        | refine WC.region ?_
        | refine WC.block ?_
        | refine WC.skip ?_
        | (show WC _ _ (Code.region _ (List.toArray [_, _, _, _, _, _, _, _, _, _, _, _, _, _, _, _]) true) _ _ _; refine WC.drawS hS [0,1,2,4,5,6,8,9,10,11,13,14,15] [0,1,2,4,5,6,9,10,11,3,7,8,12,13,14,15] (by kernel_rfl) (by kernel_rfl) ?_; clear hS; intro w hS hM)
        | refine WC.condT rfl (decide_eq_true (by first | with_reducible assumption | omega)) ?_)
      | (show WD _ _ _ _ _ _ _ _ _; first
        | refine WD.pure rfl rfl rfl rfl rfl ?_
        | refine WD.nil ?_
        | refine WD.load rfl rfl (LdOk.box (by repeat (first | exact List.Mem.head _ | apply List.Mem.tail)) rfl) rfl rfl rfl rfl ?_
        | (refine WD.calls hS hM rfl rfl (wtext_c ep _ (by omega)) rfl rfl rfl rfl rfl ?_; clear hS; rintro v w rfl hS)
        | (refine WD.calls hS hM rfl rfl (wtext_c ed _ (by omega)) rfl rfl rfl rfl rfl ?_; clear hS; rintro v w rfl hS)
        | (refine WD.calls hS hM rfl rfl (wint_c ek h4 _) rfl rfl rfl rfl rfl ?_; clear hS; rintro v w rfl hS)
        | (refine WD.cat rfl rfl rfl (by omega) rfl rfl rfl rfl ?_; rw [hE])
        | (refine WD.cat rfl rfl rfl (by omega) rfl rfl rfl rfl ?_))
      | refine seqQ_n ?_
      | refine blkQ_n ?_)
    exact rndQ_n (k + 1, S ++ entE ⟨ep, ek, ed⟩) ⟨⟨by omega, hnx, by rw [List.length_append]; omega⟩, hS.droplast2 (by repeat (first | exact Pulls.nil | (apply Pulls.cons; focus (repeat (first | exact Pull.here | apply Pull.there)))))⟩ (by show t.length - (k + 1) < t.length - k; omega) ⟨rfl, vint (by omega), trivial⟩ ⟨rfl, rfl, trivial⟩
  · have hke : k = t.length := by omega
    subst hke
    rw [List.take_length] at hSe
    have hSe : S = entsE t := hSe
    subst hSe
    clear hk hkl hlt
    repeat' (first
      | (show WL _ _ _ _ _ _ _; first
        | refine WL.pure rfl rfl rfl rfl ?_
        | refine WL.nil ?_)
      | (show WC _ _ _ _ _ _; first
        | refine WC.seq ?_
        | refine WC.region ?_
        | refine WC.exit ?_
        | refine WC.ret ?_
        | refine WC.condF rfl (decide_eq_false (by first | with_reducible assumption | omega)) ?_)
      | refine seqQ_n ?_
      | refine seqQ_x ?_
      | refine blkQ_hit rfl ?_
      | refine rndQ_x ?_)
    exact fin1r rfl rfl ⟨hS.upd, rfl⟩
set_option maxHeartbeats 32000000 in
set_option maxRecDepth 100000 in
theorem sencode_c (l : List Cf) {A : Option Addr} {cap : Nat} (hA : SlAt cCf (Old w0) w0 A l) (hk : ∀ c ∈ l, CfI c) (hz : szCfs l ≤ 4294967296) :
    Cal Tryz.prog 27 [.slice A l.length cap] w0 (fun v w' => Upd [] w0 w' ∧ v = str (cfsE l)) := by
  refine Cal.mk' (by kernel_rfl) Tryz.func27 rfl rfl fun hS => ?_
  have hn := szCfs_len l
  have hpl := putN_len10 (n := l.length) (by omega)
  repeat' (first
    | (show WL _ _ _ _ _ _ _; first
      | refine WL.pure rfl rfl rfl rfl ?_
      | refine WL.nil ?_
      | (refine WL.calls hS rfl rfl (wuint_c l.length _ (by omega)) rfl rfl rfl ?_; rintro v w rfl hS))
    | (show WC _ _ _ _ _ _; first
      | refine WC.seq ?_
      | refine WC.region ?_
      | refine WC.block ?_)
    | refine seqQ_n ?_)
  refine WC.loop (σ := Nat × List UInt8) [16, 17] (fun (k, S) => [(5, str S), (18, .int .i64 (k : Int))])
    (fun (k, S) w => (k ≤ l.length ∧ S = putN l.length ++ (l.take k).flatMap cfE ∧ S.length ≤ 10 + szCfs (l.take k)) ∧ St w0 [] w [] [⟨w0, Old w0⟩]) (fun (k, _) => l.length - k) (0, putN l.length)
    ⟨⟨Nat.zero_le _, by simp, by omega⟩, hS⟩ ⟨rfl, rfl, trivial⟩ ?_
  clear hS
  rintro ⟨k, S⟩ g w ⟨⟨hkl, hSe, hSl⟩, hS⟩
  show WC _ _ _ (lf _ [(5, str S), (18, .int .i64 (k : Int))] _ _) _ _
  by_cases hlt : k < l.length
  · obtain ⟨rb, ro, es, rfl, hF, hr, X2, x2, Y2, y2, hes, _, _, hs1, hs2⟩ := hA.at_ hlt
    subst hes
    replace hr : w0.rangeAt rb (ro + k * 7) (encCp ⟨l[k], X2, x2, Y2, y2⟩) := hr
    have h1 := szCfs_take l hlt
    have h2 := szCfs_take_le l (k + 1)
    have h3 := flat_take cfE l hlt
    have h4 := hk _ (List.getElem_mem hlt)
    generalize l[k] = c at *
    have h5 := cfE_le (c := c) h4 (by omega)
    have hnx : S ++ cfE c = putN l.length ++ (l.take (k + 1)).flatMap cfE := by rw [h3, hSe, List.append_assoc]
    obtain ⟨hch, hhi, hsi⟩ := h4
    clear hSe h3 hA hk
    obtain ⟨ep, eh, es, em, et, ec, eg⟩ := c
    unfold encCp at hr
    unfold szCf at h1 h5
    dsimp only at hr hs1 hs2 h1 h5 hch hhi hsi
    have l1 := textE_le (s := ep) (by omega)
    have l2 := textE_le (s := em) (by omega)
    have l3 := textE_le (s := eg) (by omega)
    have l4 := entsE_le hhi (by omega)
    have l5 := entsE_le hsi (by omega)
    have l6 := zig_len (txtN_I et)
    have l7 := zig_len hch
    have z4 : szEnts eh ≤ 4294967296 := by omega
    have z5 : szEnts es ≤ 4294967296 := by omega
    have hE : textE ep ++ entsE eh ++ entsE es ++ textE em ++ putN (zigN (txtN et)) ++ putN (zigN ec) ++ textE eg = cfE ⟨ep, eh, es, em, et, ec, eg⟩ := rfl
    have hti := txtN_I et
    unfold I64 at hch hti
    have hfin : ∀ w, St w0 [] w [] [⟨w0, Old w0⟩] → (k + 1 ≤ l.length ∧ S ++ cfE ⟨ep, eh, es, em, et, ec, eg⟩ = putN l.length ++ (l.take (k + 1)).flatMap cfE ∧ (S ++ cfE ⟨ep, eh, es, em, et, ec, eg⟩).length ≤ 10 + szCfs (l.take (k + 1))) ∧ St w0 [] w [] [⟨w0, Old w0⟩] := fun w hS => ⟨⟨by omega, hnx, by rw [List.length_append]; omega⟩, hS⟩
    cases et
    case' true => have e1 : txtN true = 1 := rfl
    case' false => have e1 : txtN false = 0 := rfl
    all_goals
      rw [e1] at hE hti l6
      clear hnx e1
      repeat' (first
        | (show WL _ _ _ _ _ _ _; first
          | refine WL.pure rfl rfl rfl rfl ?_
          | refine WL.nil ?_
          | refine WL.load hS rfl rfl (LdOk.box (by repeat (first | exact List.Mem.head _ | apply List.Mem.tail)) rfl) rfl rfl rfl ?_
          | refine WL.add rfl rfl rfl (by omega) rfl rfl rfl ?_
          | (refine WL.load hS rfl rfl (LdOk.snap0 hF hr (by repeat (first | exact List.Mem.head _ | apply List.Mem.tail)) rfl) rfl rfl rfl ?_)
          | (refine WL.store hS rfl rfl rfl (by repeat (first | exact StB.here rfl | apply StB.there)) rfl rfl rfl ?_; intro w hS)
          | (refine WL.alloc hS rfl rfl rfl rfl rfl rfl ?_; intro w b hS)
          | refine WL.index rfl rfl rfl rfl (by first | with_reducible assumption | omega) rfl rfl rfl rfl ?_)
        | (show WC _ _ _ _ _ _; first
          | refine WC.seq ?_
          | refine WC.region ?_
          | refine WC.block ?_
          | refine WC.skip ?_
          | (show WC _ _ (Code.region _ (List.toArray [_, _, _, _, _, _, _, _, _, _, _, _, _, _, _, _, _, _, _, _, _, _, _, _, _, _, _, _, _]) true) _ _ _; refine WC.drawS hS [0,1,2,4,5,7,8,9,11,12,13,15,16,18,19,20,22,23,24,26,27,28] [0,1,2,4,5,8,9,12,13,16,19,20,23,24,3,6,7,10,11,14,15,17,18,21,22,25,26,27,28] (by kernel_rfl) (by kernel_rfl) ?_; clear hS; intro w hS hM)
          | refine WC.condT rfl (by with_reducible rfl) ?_
          | refine WC.condF rfl (by with_reducible rfl) ?_
          | refine WC.condT rfl (decide_eq_true (by first | with_reducible assumption | omega)) ?_)
        | (show WD _ _ _ _ _ _ _ _ _; first
          | refine WD.pure rfl rfl rfl rfl rfl ?_
          | refine WD.nil ?_
          | refine WD.load rfl rfl (LdOk.box (by repeat (first | exact List.Mem.head _ | apply List.Mem.tail)) rfl) rfl rfl rfl rfl ?_
          | (refine WD.calls hS hM rfl rfl (wtext_c ep _ (by omega)) rfl rfl rfl rfl rfl ?_; clear hS; rintro v w rfl hS)
          | (refine WD.calls hS hM rfl rfl (wtext_c em _ (by omega)) rfl rfl rfl rfl rfl ?_; clear hS; rintro v w rfl hS)
          | (refine WD.calls hS hM rfl rfl (wtext_c eg _ (by omega)) rfl rfl rfl rfl rfl ?_; clear hS; rintro v w rfl hS)
          | (refine WD.calls hS hM rfl rfl (sents_c eh (hS.slO (by repeat (first | exact List.Mem.head _ | apply List.Mem.tail)) hs1) hhi z4) rfl rfl rfl rfl rfl ?_; clear hS; rintro v w rfl hS)
          | (refine WD.calls hS hM rfl rfl (sents_c es (hS.slO (by repeat (first | exact List.Mem.head _ | apply List.Mem.tail)) hs2) hsi z5) rfl rfl rfl rfl rfl ?_; clear hS; rintro v w rfl hS)
          | (refine WD.calls hS hM rfl rfl (wint_c ec hch _) rfl rfl rfl rfl rfl ?_; clear hS; rintro v w rfl hS)
          | (refine WD.calls hS hM rfl rfl (wint_c 0 hti _) rfl rfl rfl rfl rfl ?_; clear hS; rintro v w rfl hS)
          | (refine WD.calls hS hM rfl rfl (wint_c 1 hti _) rfl rfl rfl rfl rfl ?_; clear hS; rintro v w rfl hS)
          | (refine WD.cat rfl rfl rfl (by (simp only [List.length_append]; omega)) rfl rfl rfl rfl ?_; rw [hE])
          | (refine WD.cat rfl rfl rfl (by first | omega | (simp only [List.length_append]; omega)) rfl rfl rfl rfl ?_))
        | refine seqQ_n ?_
        | refine blkQ_n ?_)
      exact rndQ_n (k + 1, S ++ cfE _) (hfin _ (hS.droplast2 (by repeat (first | exact Pulls.nil | (apply Pulls.cons; focus (repeat (first | exact Pull.here | apply Pull.there))))))) (by show l.length - (k + 1) < l.length - k; omega) ⟨rfl, vint (by omega), trivial⟩ ⟨rfl, rfl, trivial⟩
  · have hke : k = l.length := by omega
    subst hke
    rw [List.take_length] at hSe
    have hSe : S = cfsE l := hSe
    subst hSe
    clear hk hkl hlt
    repeat' (first
      | (show WL _ _ _ _ _ _ _; first
        | refine WL.pure rfl rfl rfl rfl ?_
        | refine WL.nil ?_)
      | (show WC _ _ _ _ _ _; first
        | refine WC.seq ?_
        | refine WC.region ?_
        | refine WC.exit ?_
        | refine WC.ret ?_
        | refine WC.condF rfl (decide_eq_false (by first | with_reducible assumption | omega)) ?_)
      | refine seqQ_n ?_
      | refine seqQ_x ?_
      | refine blkQ_hit rfl ?_
      | refine rndQ_x ?_)
    exact fin1r rfl rfl ⟨hS.upd, rfl⟩
def sK (n : Int) : List UInt8 := [115, 47] ++ Lib.itoa n
set_option maxHeartbeats 4000000 in
set_option maxRecDepth 100000 in
theorem skey_c (n : Int) (h0 : -9223372036854775808 ≤ n) (h1 : n ≤ 9223372036854775807) (w0 : World) (ht : powT w0) : Cal Tryz.prog 24 [.int .i64 n] w0 (fun v w' => Upd [] w0 w' ∧ v = str (sK n)) := by
  refine Cal.mk' (by kernel_rfl) Tryz.func24 rfl rfl fun hS => ?_
  have hp := PowI.of ht
  have hl := Lib.itoa_length_le n h0 h1
  repeat' (first
    | (show WL _ _ _ _ _ _ _; first
      | refine WL.pure rfl rfl rfl rfl ?_
      | refine WL.nil ?_
      | (refine WL.calls hS rfl rfl (itoa_c n h0 h1 _ (hp.at hS)) rfl rfl rfl ?_; rintro v w rfl hS)
      | (refine WL.cat rfl rfl rfl (by simp; omega) rfl rfl rfl ?_))
    | (show WC _ _ _ _ _ _; first
      | refine WC.seq ?_
      | refine WC.region ?_
      | refine WC.ret ?_)
    | refine seqQ_n ?_)
  exact fin1r rfl rfl ⟨hS.upd, rfl⟩
/-- what Save notes -/
def saveO (n : Int) (l : List Cf) : Chg := if l.length = 0 then ⟨sK n, [], true⟩ else ⟨sK n, packE (cfsE l), false⟩
set_option maxHeartbeats 4000000 in
set_option maxRecDepth 100000 in
theorem ssave_c {B : Nat} {tp : Option Addr} {m : Bch} {fb : List Nat} (n : Int) (l : List Cf) {A : Option Addr} {cap : Nat} (h0 : -9223372036854775808 ≤ n) (h1 : n ≤ 9223372036854775807) (hi : InL w0 [bchC B tp m fb]) (hp : PowI w0 (fps [bchC B tp m fb]))
    (hA : SlAt cCf (fun b => b < w0.heap.size ∧ b ∉ fps [bchC B tp m fb]) w0 A l) (hk : ∀ c ∈ l, CfI c) (hz : szCfs l ≤ 4294967296) (hm : m.length ≤ 1099511627) :
    Cal Tryz.prog 8 [.pointer (some ⟨B, 0, none⟩), .int .i64 n, .slice A l.length cap] w0 (fun v w' => v = .tuple #[] ∧ ∃ fb', MutL w0 w' [bchC B tp m fb] [bchC B tp (noteE m (saveO n l)) fb']) := by
  refine Cal.mkL hi (by kernel_rfl) Tryz.func8 rfl rfl fun hS => ?_
  have hll := szCfs_len l
  have hcl := cfsE_le hk hz
  by_cases hl : l.length = 0
  · have hsv : saveO n l = ⟨sK n, [], true⟩ := if_pos hl
    rw [hsv]
    repeat' (first
      | (show WL _ _ _ _ _ _ _; first
        | refine WL.pure rfl rfl rfl rfl ?_
        | refine WL.nil ?_
        | (refine WL.calls hS rfl rfl (skey_c n h0 h1 _ (hp.at hS)) rfl rfl rfl ?_; rintro v w rfl hS)
        | (refine WL.callL (D := [bchC B tp m fb]) hS (by repeat (first | exact Pulls.nil | (apply Pulls.cons; focus (repeat (first | exact Pull.here | apply Pull.there))))) rfl rfl (fun hI => bdrop_c (sK n) hI.head hI.headB hm) rfl rfl rfl ?_; rintro v w ⟨rfl, fb2, hmu⟩ hS; replace hS := hS _ (.of1 hmu); clear hmu))
      | (show WC _ _ _ _ _ _; first
        | refine WC.seq ?_
        | refine WC.region ?_
        | refine WC.condT rfl (decide_eq_true (by first | with_reducible assumption | omega)) ?_)
      | refine seqQ_n ?_)
    exact fin0n rfl ⟨rfl, fb2, hS.mutLp (by repeat (first | exact Pulls.nil | (apply Pulls.cons; focus (repeat (first | exact Pull.here | apply Pull.there)))))⟩
  · have hsv : saveO n l = ⟨sK n, packE (cfsE l), false⟩ := if_neg hl
    rw [hsv]
    repeat' (first
      | (show WL _ _ _ _ _ _ _; first
        | refine WL.pure rfl rfl rfl rfl ?_
        | refine WL.nil ?_
        | (refine WL.calls hS rfl rfl (skey_c n h0 h1 _ (hp.at hS)) rfl rfl rfl ?_; rintro v w rfl hS)
        | (refine WL.calls hS rfl rfl (sencode_c l (hS.slO (by repeat (first | exact List.Mem.head _ | apply List.Mem.tail)) hA) hk hz) rfl rfl rfl ?_; rintro v w rfl hS)
        | (refine WL.calls hS rfl rfl (pack_c (cfsE l) _ (by omega)) rfl rfl rfl ?_; rintro v w rfl hS)
        | (refine WL.callL (D := [bchC B tp m fb]) hS (by repeat (first | exact Pulls.nil | (apply Pulls.cons; focus (repeat (first | exact Pull.here | apply Pull.there))))) rfl rfl (fun hI => bput_c (sK n) (packE (cfsE l)) hI.head hI.headB hm) rfl rfl rfl ?_; rintro v w ⟨rfl, fb2, hmu⟩ hS; replace hS := hS _ (.of1 hmu); clear hmu))
      | (show WC _ _ _ _ _ _; first
        | refine WC.seq ?_
        | refine WC.region ?_
        | refine WC.condF rfl (decide_eq_false (by first | with_reducible assumption | omega)) ?_)
      | refine seqQ_n ?_)
    exact fin0n rfl ⟨rfl, fb2, hS.mutLp (by repeat (first | exact Pulls.nil | (apply Pulls.cons; focus (repeat (first | exact Pull.here | apply Pull.there)))))⟩
end Go.Proofs.YtniacmoniaaolaaGreatDoor

/- What is proved: what Decode and Load of the package session read back. Conditions: bytes that Encode wrote; the library's table of powers laid. -/
set_option linter.unusedSimpArgs false
set_option linter.unusedVariables false
namespace Go.Proofs.YtniacmoniaaolaaGreatDoor
open Go Go.J Go.RowKit

theorem dropS {s a t : List UInt8} {p : Nat} (h : s.drop p = a ++ t) (hp : p ≤ s.length) : s.drop (p + a.length) = t ∧ p + a.length ≤ s.length := by
  have h1 := congrArg List.length h
  rw [List.length_drop, List.length_append] at h1
  refine ⟨?_, by omega⟩
  rw [← List.drop_drop, h, List.drop_left]
variable {w0 : World} {tk r p : Nat} {s : List UInt8}
set_option maxHeartbeats 4000000 in
set_option maxRecDepth 100000 in
theorem takeU_c {n : Nat} {t : List UInt8} (hn : n < 9223372036854775808) (hd : s.drop p = putN n ++ t) (hp : p ≤ s.length) (hl : s.length ≤ 1099511627776) (hi : InL w0 [.box tk 133 [.pointer (some ⟨r, 0, none⟩), .int .i64 0], rdC r s p]) :
    Cal Tryz.prog 69 [.pointer (some ⟨tk, 0, none⟩), .func (.func 46) ⟨[.pointer (some ⟨r, 0, none⟩)]⟩ ⟨[]⟩] w0
      (fun v w' => v = .int .i64 (n : Int) ∧ MutL w0 w' [.box tk 133 [.pointer (some ⟨r, 0, none⟩), .int .i64 0], rdC r s p] [.box tk 133 [.pointer (some ⟨r, 0, none⟩), .int .i64 0], rdC r s (p + (putN n).length)]) := by
  refine Cal.mkL hi (by kernel_rfl) Tryz.func69 rfl rfl fun hS => ?_
  have h3 : uintE (s.drop p) = (n, (putN n).length, 0) := by rw [hd]; exact uintE_put n hn t
  repeat' (first
    | (show WL _ _ _ _ _ _ _; first
      | refine WL.pure rfl rfl rfl rfl ?_
      | refine WL.nil ?_
      | refine WL.load hS rfl rfl (LdOk.box (by repeat (first | exact List.Mem.head _ | apply List.Mem.tail)) rfl) rfl rfl rfl ?_
      | (refine WL.callFL (D := [rdC r s p]) hS (by repeat (first | exact Pulls.nil | (apply Pulls.cons; focus (repeat (first | exact Pull.here | apply Pull.there))))) rfl rfl rfl (fun hI => uint_e h3 hI.head hI.headB hp hl) rfl rfl rfl ?_; rintro v w ⟨rfl, hmu⟩ hS; replace hS := hS _ (.of1 hmu); clear hmu)
      | (refine WL.store hS rfl rfl rfl (by repeat (first | exact StB.here rfl | apply StB.there)) rfl rfl rfl ?_; intro w hS))
    | (show WC _ _ _ _ _ _; first
      | refine WC.seq ?_
      | refine WC.region ?_
      | refine WC.skip ?_
      | refine WC.ret ?_
      | refine WC.condF rfl (by decide) ?_)
    | refine seqQ_n ?_)
  exact fin1r rfl rfl ⟨rfl, hS.mutLp (by repeat (first | exact Pulls.nil | (apply Pulls.cons; focus (repeat (first | exact Pull.here | apply Pull.there)))))⟩
set_option maxHeartbeats 4000000 in
set_option maxRecDepth 100000 in
theorem takeI_c {n : Int} {t : List UInt8} (hn : -9223372036854775808 ≤ n ∧ n ≤ 9223372036854775807) (hd : s.drop p = putN (zigN n) ++ t) (hp : p ≤ s.length) (hl : s.length ≤ 1099511627776) (hi : InL w0 [.box tk 133 [.pointer (some ⟨r, 0, none⟩), .int .i64 0], rdC r s p]) :
    Cal Tryz.prog 69 [.pointer (some ⟨tk, 0, none⟩), .func (.func 72) ⟨[.pointer (some ⟨r, 0, none⟩)]⟩ ⟨[]⟩] w0
      (fun v w' => v = .int .i64 n ∧ MutL w0 w' [.box tk 133 [.pointer (some ⟨r, 0, none⟩), .int .i64 0], rdC r s p] [.box tk 133 [.pointer (some ⟨r, 0, none⟩), .int .i64 0], rdC r s (p + (putN (zigN n)).length)]) := by
  refine Cal.mkL hi (by kernel_rfl) Tryz.func69 rfl rfl fun hS => ?_
  repeat' (first
    | (show WL _ _ _ _ _ _ _; first
      | refine WL.pure rfl rfl rfl rfl ?_
      | refine WL.nil ?_
      | refine WL.load hS rfl rfl (LdOk.box (by repeat (first | exact List.Mem.head _ | apply List.Mem.tail)) rfl) rfl rfl rfl ?_
      | (refine WL.callFL (D := [rdC r s p]) hS (by repeat (first | exact Pulls.nil | (apply Pulls.cons; focus (repeat (first | exact Pull.here | apply Pull.there))))) rfl rfl rfl (fun hI => rintZ_e hn hd hI.head hI.headB hp hl) rfl rfl rfl ?_; rintro v w ⟨rfl, hmu⟩ hS; replace hS := hS _ (.of1 hmu); clear hmu)
      | (refine WL.store hS rfl rfl rfl (by repeat (first | exact StB.here rfl | apply StB.there)) rfl rfl rfl ?_; intro w hS))
    | (show WC _ _ _ _ _ _; first
      | refine WC.seq ?_
      | refine WC.region ?_
      | refine WC.skip ?_
      | refine WC.ret ?_
      | refine WC.condF rfl (by decide) ?_)
    | refine seqQ_n ?_)
  exact fin1r rfl rfl ⟨rfl, hS.mutLp (by repeat (first | exact Pulls.nil | (apply Pulls.cons; focus (repeat (first | exact Pull.here | apply Pull.there)))))⟩
set_option maxHeartbeats 4000000 in
set_option maxRecDepth 100000 in
theorem takeT_c {x t : List UInt8} (hx : x.length < 9223372036854775808) (hd : s.drop p = textE x ++ t) (hp : p ≤ s.length) (hl : s.length ≤ 1099511627776) (hi : InL w0 [.box tk 133 [.pointer (some ⟨r, 0, none⟩), .int .i64 0], rdC r s p]) :
    Cal Tryz.prog 70 [.pointer (some ⟨tk, 0, none⟩), .func (.func 47) ⟨[.pointer (some ⟨r, 0, none⟩)]⟩ ⟨[]⟩] w0
      (fun v w' => v = str x ∧ MutL w0 w' [.box tk 133 [.pointer (some ⟨r, 0, none⟩), .int .i64 0], rdC r s p] [.box tk 133 [.pointer (some ⟨r, 0, none⟩), .int .i64 0], rdC r s (p + (textE x).length)]) := by
  refine Cal.mkL hi (by kernel_rfl) Tryz.func70 rfl rfl fun hS => ?_
  have h1 := rtextE_text x t hx
  rw [← List.append_assoc] at h1
  have h2 : (textE x).length = x.length + (putN x.length).length := by unfold textE; rw [List.length_append, Nat.add_comm]
  rw [h2]
  have h3 : rtextE (s.drop p) = (x, x.length + (putN x.length).length, 0) := by rw [hd]; exact h1
  repeat' (first
    | (show WL _ _ _ _ _ _ _; first
      | refine WL.pure rfl rfl rfl rfl ?_
      | refine WL.nil ?_
      | refine WL.load hS rfl rfl (LdOk.box (by repeat (first | exact List.Mem.head _ | apply List.Mem.tail)) rfl) rfl rfl rfl ?_
      | (refine WL.callFL (D := [rdC r s p]) hS (by repeat (first | exact Pulls.nil | (apply Pulls.cons; focus (repeat (first | exact Pull.here | apply Pull.there))))) rfl rfl rfl (fun hI => rtext_e h3 hI.head hI.headB hp hl) rfl rfl rfl ?_; rintro v w ⟨rfl, hmu⟩ hS; replace hS := hS _ (.of1 hmu); clear hmu)
      | (refine WL.store hS rfl rfl rfl (by repeat (first | exact StB.here rfl | apply StB.there)) rfl rfl rfl ?_; intro w hS))
    | (show WC _ _ _ _ _ _; first
      | refine WC.seq ?_
      | refine WC.region ?_
      | refine WC.skip ?_
      | refine WC.ret ?_
      | refine WC.condF rfl (by decide) ?_)
    | refine seqQ_n ?_)
  exact fin1r rfl rfl ⟨rfl, hS.mutLp (by repeat (first | exact Pulls.nil | (apply Pulls.cons; focus (repeat (first | exact Pull.here | apply Pull.there)))))⟩
set_option maxHeartbeats 16000000 in
set_option maxRecDepth 100000 in
theorem tents_c (l : List Ent) {t : List UInt8} (hk : ∀ e ∈ l, I64 e.kind) (hz : szEnts l ≤ 4294967296) (hd : s.drop p = entsE l ++ t) (hp : p ≤ s.length) (hl : s.length ≤ 1099511627776) (hi : InL w0 [.box tk 133 [.pointer (some ⟨r, 0, none⟩), .int .i64 0], rdC r s p]) :
    Cal Tryz.prog 71 [.pointer (some ⟨tk, 0, none⟩)] w0
      (fun v w' => ∃ A cap, v = .slice A l.length cap ∧ MutL w0 w' [.box tk 133 [.pointer (some ⟨r, 0, none⟩), .int .i64 0], rdC r s p] [eC A cap l, .box tk 133 [.pointer (some ⟨r, 0, none⟩), .int .i64 0], rdC r s (p + (entsE l).length)]) := by
  refine Cal.mkL hi (by kernel_rfl) Tryz.func71 rfl rfl fun hS => ?_
  have hn := szEnts_len l
  have hd1 : s.drop p = putN l.length ++ (l.flatMap entE ++ t) := by rw [hd, entsE, List.append_assoc]
  obtain ⟨hd2, hp2⟩ := dropS hd1 hp
  have hlen : (entsE l).length = (putN l.length).length + (l.flatMap entE).length := List.length_append ..
  rw [hlen, ← Nat.add_assoc]
  clear hlen hd
  repeat' (first
    | (show WL _ _ _ _ _ _ _; first
      | (refine WL.mkF rfl rfl rfl rfl rfl rfl ?_)
      | refine WL.pure rfl rfl rfl rfl ?_
      | refine WL.nil ?_
      | refine WL.load hS rfl rfl (LdOk.box (by repeat (first | exact List.Mem.head _ | apply List.Mem.tail)) rfl) rfl rfl rfl ?_
      | (refine WL.callL (D := [.box tk 133 [.pointer (some ⟨r, 0, none⟩), .int .i64 0], rdC r s p]) hS (by repeat (first | exact Pulls.nil | (apply Pulls.cons; focus (repeat (first | exact Pull.here | apply Pull.there))))) rfl rfl (fun hI => takeU_c (n := l.length) (by omega) hd1 hp hl hI) rfl rfl rfl ?_; rintro v w ⟨rfl, hmu⟩ hS; replace hS := hS _ hmu; clear hmu)
      | (refine WL.slit (t := 61) hS rfl rfl rfl rfl rfl ?_; intro w xb hS; replace hS := hS.boxRow (n := 0) (size := 3) .here rfl (by decide)))
    | (show WC _ _ _ _ _ _; first
      | refine WC.seq ?_
      | refine WC.region ?_
      | refine WC.block ?_)
    | refine seqQ_n ?_)
  generalize p + (putN l.length).length = p1 at *
  clear hd1 hp
  refine WC.loop (σ := Nat × Option Addr × Nat) [0, 3] (fun (k, A, cap) => [(4, .slice A k cap), (5, .int .i64 (k : Int))])
    (fun (k, A, cap) w => k ≤ l.length ∧ St w0 (fps [.box tk 133 [.pointer (some ⟨r, 0, none⟩), .int .i64 0], rdC r s p]) w [.own (.slice A k cap) 60 3 k ((l.take k).flatMap encEnt), .box tk 133 [.pointer (some ⟨r, 0, none⟩), .int .i64 0], rdC r s (p1 + ((l.take k).flatMap entE).length)] (ZL w0 [.box tk 133 [.pointer (some ⟨r, 0, none⟩), .int .i64 0], rdC r s p])) (fun (k, _) => l.length - k) (0, some ⟨xb, 0, none⟩, 0)
    ⟨Nat.zero_le _, hS⟩ ⟨rfl, rfl, trivial⟩ ?_
  clear hS
  rintro ⟨k, A, cap⟩ g w ⟨hkl, hS⟩
  show WC _ _ _ (lf _ [(4, .slice A k cap), (5, .int .i64 (k : Int))] _ _) _ _
  by_cases hlt : k < l.length
  · have e1 := flat_take entE l hlt
    have e2 : (l.take (k + 1)).flatMap encEnt = (l.take k).flatMap encEnt ++ encEnt l[k] := by rw [List.take_succ_eq_append_getElem hlt, List.flatMap_append]; simp
    have e3 : l.flatMap entE = (l.take k).flatMap entE ++ (entE l[k] ++ (l.drop (k + 1)).flatMap entE) := by
      rw [← flat_drop entE l hlt, ← List.flatMap_append, List.take_append_drop]
    have h4 := hk _ (List.getElem_mem hlt)
    have h5 := szEnts_mem (List.getElem_mem hlt)
    rw [e3, List.append_assoc] at hd2
    obtain ⟨q1, q2⟩ := dropS hd2 hp2
    generalize (l.drop (k + 1)).flatMap entE = tl at *
    generalize (l.take k).flatMap entE = hd0 at *
    generalize l[k] = e at *
    obtain ⟨ep, ek, ed⟩ := e
    dsimp only at h4 h5
    have hE : entE ⟨ep, ek, ed⟩ = textE ep ++ putN (zigN ek) ++ textE ed := rfl
    have hEl : (entE ⟨ep, ek, ed⟩).length = (textE ep).length + (putN (zigN ek)).length + (textE ed).length := by rw [hE, List.length_append, List.length_append]
    rw [hE, List.append_assoc, List.append_assoc, List.append_assoc] at q1
    obtain ⟨q3, q4⟩ := dropS q1 q2
    obtain ⟨q5, q6⟩ := dropS q3 q4
    have hpe : p1 + hd0.length + (textE ep).length + (putN (zigN ek)).length + (textE ed).length = p1 + ((l.take (k + 1)).flatMap entE).length := by rw [e1, List.length_append, hEl]; omega
    clear hE hEl e3 hd2 hp2 hk e1
    unfold I64 at h4
    repeat' (first
      | (show WL _ _ _ _ _ _ _; first
        | (refine WL.mkF rfl rfl rfl rfl rfl rfl ?_)
        | refine WL.pure rfl rfl rfl rfl ?_
        | refine WL.nil ?_
        | refine WL.load hS rfl rfl (LdOk.box (by repeat (first | exact List.Mem.head _ | apply List.Mem.tail)) rfl) rfl rfl rfl ?_
        | refine WL.add rfl rfl rfl (by omega) rfl rfl rfl ?_
        | (refine WL.callL (D := [.box tk 133 [.pointer (some ⟨r, 0, none⟩), .int .i64 0], rdC r s (p1 + hd0.length)]) hS (by repeat (first | exact Pulls.nil | (apply Pulls.cons; focus (repeat (first | exact Pull.here | apply Pull.there))))) rfl rfl (fun hI => takeT_c (x := ep) (by omega) q1 q2 hl hI) rfl rfl rfl ?_; rintro v w ⟨rfl, hmu⟩ hS; replace hS := hS _ hmu; clear hmu)
        | (refine WL.callL (D := [.box tk 133 [.pointer (some ⟨r, 0, none⟩), .int .i64 0], rdC r s (p1 + hd0.length + (textE ep).length)]) hS (by repeat (first | exact Pulls.nil | (apply Pulls.cons; focus (repeat (first | exact Pull.here | apply Pull.there))))) rfl rfl (fun hI => takeI_c (n := ek) h4 q3 q4 hl hI) rfl rfl rfl ?_; rintro v w ⟨rfl, hmu⟩ hS; replace hS := hS _ hmu; clear hmu)
        | (refine WL.callL (D := [.box tk 133 [.pointer (some ⟨r, 0, none⟩), .int .i64 0], rdC r s (p1 + hd0.length + (textE ep).length + (putN (zigN ek)).length)]) hS (by repeat (first | exact Pulls.nil | (apply Pulls.cons; focus (repeat (first | exact Pull.here | apply Pull.there))))) rfl rfl (fun hI => takeT_c (x := ed) (by omega) q5 q6 hl hI) rfl rfl rfl ?_; rintro v w ⟨rfl, hmu⟩ hS; replace hS := hS _ hmu; clear hmu)
        | (refine WL.app hS rfl rfl rfl rfl (RdOk.box (by repeat (first | exact List.Mem.head _ | apply List.Mem.tail))) rfl rfl (fun A cap => by repeat (first | exact Repl.here | apply Repl.there)) (by omega) rfl rfl rfl ?_; intro A3 cap3 w hS)
        | (refine WL.store hS rfl rfl rfl (by repeat (first | exact StB.here rfl | apply StB.there)) rfl rfl rfl ?_; intro w hS)
        | (refine WL.alloc hS rfl rfl rfl rfl rfl rfl ?_; intro w b hS)
        | (refine WL.slit hS rfl rfl rfl rfl rfl ?_; intro w b hS)
        | ((fail_if_success (refine WL.wanted rfl ?_)); refine WL.guard rfl rfl rfl (fun h => ?_) (fun h => ?_) <;> (try simp only [Classical.not_not, Bool.not_eq_true', Bool.not_eq_false', Bool.not_eq_eq_eq_not, Bool.not_true, Bool.not_false, beq_iff_eq, beq_eq_false_iff_ne, ne_eq, decide_eq_decide, decide_eq_true_eq, decide_eq_false_iff_not, Bool.and_eq_true, Bool.or_eq_true, Bool.and_eq_false_iff, Bool.or_eq_false_iff] at h) <;> (try (exfalso; first | omega | contradiction))))
      | (show WC _ _ _ _ _ _; first
        | refine WC.seq ?_
        | refine WC.region ?_
        | refine WC.block ?_
        | refine WC.skip ?_
        | refine WC.condT rfl (by decide) ?_)
      | refine seqQ_n ?_
      | refine blkQ_n ?_)
    rw [hpe] at hS
    replace hS := hS.droplast2 (D := [.own (.slice A3 (k + 1) cap3) 60 3 (k + 1) ((l.take k).flatMap encEnt ++ encEnt ⟨ep, ek, ed⟩), .box tk 133 [.pointer (some ⟨r, 0, none⟩), .int .i64 0], rdC r s (p1 + ((l.take (k + 1)).flatMap entE).length)]) (by repeat (first | exact Pulls.nil | (apply Pulls.cons; focus (repeat (first | exact Pull.here | apply Pull.there)))))
    rw [← e2] at hS
    exact rndQ_n (k + 1, A3, cap3) ⟨by omega, hS⟩ (by show l.length - (k + 1) < l.length - k; omega) ⟨rfl, vint (by omega), trivial⟩ ⟨rfl, rfl, trivial⟩
  · have hke : k = l.length := by omega
    subst hke
    clear hk hkl hlt
    rw [List.take_length] at hS
    repeat' (first
      | (show WL _ _ _ _ _ _ _; first
        | refine WL.pure rfl rfl rfl rfl ?_
        | refine WL.nil ?_
        | refine WL.skip rfl rfl rfl ?_
        | ((fail_if_success (refine WL.wanted rfl ?_)); refine WL.guard rfl rfl rfl (fun h => ?_) (fun h => ?_) <;> (try simp only [Classical.not_not, Bool.not_eq_true', Bool.not_eq_false', Bool.not_eq_eq_eq_not, Bool.not_true, Bool.not_false, beq_iff_eq, beq_eq_false_iff_ne, ne_eq, decide_eq_decide, decide_eq_true_eq, decide_eq_false_iff_not, Bool.and_eq_true, Bool.or_eq_true, Bool.and_eq_false_iff, Bool.or_eq_false_iff] at h) <;> (try (exfalso; first | omega | contradiction))))
      | (show WC _ _ _ _ _ _; first
        | refine WC.seq ?_
        | refine WC.region ?_
        | refine WC.exit ?_
        | refine WC.ret ?_
        | refine WC.condF rfl (by with_reducible rfl) ?_)
      | refine seqQ_n ?_
      | refine seqQ_x ?_
      | refine blkQ_hit rfl ?_
      | refine rndQ_x ?_)
    exact fin1r rfl rfl ⟨A, cap, rfl, hS.mutLp (by repeat (first | exact Pulls.nil | (apply Pulls.cons; focus (repeat (first | exact Pull.here | apply Pull.there)))))⟩
set_option maxHeartbeats 32000000 in
set_option maxRecDepth 100000 in
theorem sdecode_c (l : List Cf) (hk : ∀ c ∈ l, CfI c) (hz : szCfs l ≤ 4294967296) (w0 : World) :
    Cal Tryz.prog 33 [str (cfsE l)] w0 (fun v w' => ∃ A cap ps fp, v = .tuple #[.slice A l.length cap, .int .i64 0] ∧ ps.map Cp.c = l ∧ MutL w0 w' [] [.own (.slice A l.length cap) 64 7 l.length (cps ps), innF ps fp]) := by
  refine Cal.mkL (D := []) (InL.none _) (by kernel_rfl) Tryz.func33 rfl rfl fun hS => ?_
  have hn := szCfs_len l
  have hcl := cfsE_le hk hz
  obtain ⟨s, hs⟩ : ∃ s, s = cfsE l := ⟨_, rfl⟩
  rw [← hs] at hcl ⊢
  have hl : s.length ≤ 1099511627776 := by omega
  have hd1 : s.drop 0 = putN l.length ++ l.flatMap cfE := hs
  obtain ⟨hd2, hp2⟩ := dropS hd1 (Nat.zero_le _)
  have hsl : s.length = 0 + (putN l.length).length + (l.flatMap cfE).length := by rw [hs, cfsE, List.length_append, Nat.zero_add]
  clear hcl hs
  repeat' (first
    | (show WL _ _ _ _ _ _ _; first
      | (refine WL.mkF rfl rfl rfl rfl rfl rfl ?_)
      | refine WL.pure rfl rfl rfl rfl ?_
      | refine WL.nil ?_
      | refine WL.load hS rfl rfl (LdOk.box (by repeat (first | exact List.Mem.head _ | apply List.Mem.tail)) rfl) rfl rfl rfl ?_
      | (refine WL.callG rfl rfl (wnew_c s _) rfl rfl rfl ?_; rintro v w ⟨hu, r, rfl, hn⟩; replace hS := hS.new hu hn; clear hu hn)
      | (refine WL.box (t := 133) hS rfl rfl rfl rfl rfl ?_; intro w tk hS)
      | (refine WL.callL (D := [.box tk 133 [.pointer (some ⟨r, 0, none⟩), .int .i64 0], rdC r s 0]) hS (by repeat (first | exact Pulls.nil | (apply Pulls.cons; focus (repeat (first | exact Pull.here | apply Pull.there))))) rfl rfl (fun hI => takeU_c (n := l.length) (by omega) hd1 (Nat.zero_le _) hl hI) rfl rfl rfl ?_; rintro v w ⟨rfl, hmu⟩ hS; replace hS := hS _ hmu; clear hmu)
      | (refine WL.slit (t := 22) hS rfl rfl rfl rfl rfl ?_; intro w xb hS; replace hS := hS.boxRow (n := 0) (size := 7) .here rfl (by decide))
      | refine WL.build rfl rfl rfl rfl rfl ?_)
    | (show WC _ _ _ _ _ _; first
      | refine WC.seq ?_
      | refine WC.region ?_
      | refine WC.block ?_)
    | refine seqQ_n ?_)
  generalize 0 + (putN l.length).length = p1 at *
  replace hS := hS.cfNil
  clear hd1
  refine WC.loop (σ := Nat × Option Addr × Nat × List Cp × List Nat) [4, 5] (fun (k, A, cap, ps, fp) => [(6, .slice A k cap), (7, .int .i64 (k : Int))])
    (fun (k, A, cap, ps, fp) w => (k ≤ l.length ∧ ps.map Cp.c = l.take k) ∧ St w0 (fps []) w [.own (.slice A k cap) 64 7 k (cps ps), innF ps fp, .box tk 133 [.pointer (some ⟨r, 0, none⟩), .int .i64 0], rdC r s (p1 + ((l.take k).flatMap cfE).length)] (ZL w0 [])) (fun (k, _) => l.length - k) (0, some ⟨xb, 0, none⟩, 0, [], [])
    ⟨⟨Nat.zero_le _, rfl⟩, hS.droplast2 (by repeat (first | exact Pulls.nil | (apply Pulls.cons; focus (repeat (first | exact Pull.here | apply Pull.there)))))⟩ ⟨rfl, rfl, trivial⟩ ?_
  clear hS
  rintro ⟨k, A, cap, ps, fp⟩ g w ⟨⟨hkl, hps⟩, hS⟩
  show WC _ _ _ (lf _ [(6, .slice A k cap), (7, .int .i64 (k : Int))] _ _) _ _
  by_cases hlt : k < l.length
  · have e1 := flat_take cfE l hlt
    have e3 : l.flatMap cfE = (l.take k).flatMap cfE ++ (cfE l[k] ++ (l.drop (k + 1)).flatMap cfE) := by
      rw [← flat_drop cfE l hlt, ← List.flatMap_append, List.take_append_drop]
    have hps2 : ∀ A5 c5 A6 c6, (ps ++ [(⟨l[k], A5, c5, A6, c6⟩ : Cp)]).map Cp.c = l.take (k + 1) := fun A5 c5 A6 c6 => by rw [List.map_append, hps, List.take_succ_eq_append_getElem hlt]; rfl
    have h4 := hk _ (List.getElem_mem hlt)
    have h5 := szCfs_mem (List.getElem_mem hlt)
    rw [e3] at hd2
    obtain ⟨q1, q2⟩ := dropS hd2 hp2
    clear hk hps hd2 hp2 e3 hsl
    generalize (l.drop (k + 1)).flatMap cfE = tl at *
    generalize (l.take k).flatMap cfE = hd0 at *
    generalize l[k] = c at *
    obtain ⟨hch, hhi, hsi⟩ := h4
    obtain ⟨ep, eh, es, em, et, ec, eg⟩ := c
    unfold szCf at h5
    dsimp only at h5 hch hhi hsi
    have hE : cfE ⟨ep, eh, es, em, et, ec, eg⟩ = textE ep ++ entsE eh ++ entsE es ++ textE em ++ putN (zigN (txtN et)) ++ putN (zigN ec) ++ textE eg := rfl
    have hEl : (cfE ⟨ep, eh, es, em, et, ec, eg⟩).length = (textE ep).length + (entsE eh).length + (entsE es).length + (textE em).length + (putN (zigN (txtN et))).length + (putN (zigN ec)).length + (textE eg).length := by rw [hE]; simp only [List.length_append]
    rw [hE] at q1
    simp only [List.append_assoc] at q1
    obtain ⟨q3, q4⟩ := dropS q1 q2
    obtain ⟨q5, q6⟩ := dropS q3 q4
    obtain ⟨q7, q8⟩ := dropS q5 q6
    obtain ⟨q9, q10⟩ := dropS q7 q8
    obtain ⟨q11, q12⟩ := dropS q9 q10
    obtain ⟨q13, q14⟩ := dropS q11 q12
    have hpe : p1 + hd0.length + (textE ep).length + (entsE eh).length + (entsE es).length + (textE em).length + (putN (zigN (txtN et))).length + (putN (zigN ec)).length + (textE eg).length = p1 + ((l.take (k + 1)).flatMap cfE).length := by rw [e1, List.length_append, hEl]; omega
    have z4 : szEnts eh ≤ 4294967296 := by omega
    have z5 : szEnts es ≤ 4294967296 := by omega
    have hti := txtN_I et
    clear hE hEl e1
    unfold I64 at hch hti
    obtain ⟨p2, hq2⟩ : ∃ x, x = p1 + hd0.length := ⟨_, rfl⟩
    obtain ⟨p3, hq3⟩ : ∃ x, x = p2 + (textE ep).length := ⟨_, rfl⟩
    obtain ⟨p4, hq4⟩ : ∃ x, x = p3 + (entsE eh).length := ⟨_, rfl⟩
    obtain ⟨p5, hq5⟩ : ∃ x, x = p4 + (entsE es).length := ⟨_, rfl⟩
    obtain ⟨p6, hq6⟩ : ∃ x, x = p5 + (textE em).length := ⟨_, rfl⟩
    obtain ⟨p7, hq7⟩ : ∃ x, x = p6 + (putN (zigN (txtN et))).length := ⟨_, rfl⟩
    obtain ⟨p8, hq8⟩ : ∃ x, x = p7 + (putN (zigN ec)).length := ⟨_, rfl⟩
    rw [← hq2] at q1 q2 q3 q4 q5 q6 q7 q8 q9 q10 q11 q12 q13 q14 hpe hS
    rw [← hq3] at q3 q4 q5 q6 q7 q8 q9 q10 q11 q12 q13 q14 hpe
    rw [← hq4] at q5 q6 q7 q8 q9 q10 q11 q12 q13 q14 hpe
    rw [← hq5] at q7 q8 q9 q10 q11 q12 q13 q14 hpe
    rw [← hq6] at q9 q10 q11 q12 q13 q14 hpe
    rw [← hq7] at q11 q12 q13 q14 hpe
    rw [← hq8] at q13 q14 hpe
    cases et
    case' true =>
      have et1 : txtN true = 1 := rfl
    case' false =>
      have et1 : txtN false = 0 := rfl
    all_goals
      rw [et1] at q9 hti hq7
      clear et1
      repeat' (first
        | (show WL _ _ _ _ _ _ _; first
          | (refine WL.mkF rfl rfl rfl rfl rfl rfl ?_)
          | refine WL.pure rfl rfl rfl rfl ?_
          | refine WL.nil ?_
          | refine WL.load hS rfl rfl (LdOk.box (by repeat (first | exact List.Mem.head _ | apply List.Mem.tail)) rfl) rfl rfl rfl ?_
          | refine WL.add rfl rfl rfl (by omega) rfl rfl rfl ?_
          | (refine WL.callL (D := [.box tk 133 [.pointer (some ⟨r, 0, none⟩), .int .i64 0], rdC r s p2]) hS (by repeat (first | exact Pulls.nil | (apply Pulls.cons; focus (repeat (first | exact Pull.here | apply Pull.there))))) rfl rfl (fun hI => takeT_c (x := ep) (by omega) q1 q2 hl hI) rfl rfl rfl ?_; rintro v w ⟨rfl, hmu⟩ hS; replace hS := hS _ hmu; clear hmu; rw [← hq3] at hS)
          | (refine WL.callL (D := [.box tk 133 [.pointer (some ⟨r, 0, none⟩), .int .i64 0], rdC r s p3]) hS (by repeat (first | exact Pulls.nil | (apply Pulls.cons; focus (repeat (first | exact Pull.here | apply Pull.there))))) rfl rfl (fun hI => tents_c eh hhi z4 q3 q4 hl hI) rfl rfl rfl ?_; rintro v w ⟨A5, c5, rfl, hmu⟩ hS; replace hS := hS _ hmu; clear hmu; rw [← hq4] at hS)
          | (refine WL.callL (D := [.box tk 133 [.pointer (some ⟨r, 0, none⟩), .int .i64 0], rdC r s p4]) hS (by repeat (first | exact Pulls.nil | (apply Pulls.cons; focus (repeat (first | exact Pull.here | apply Pull.there))))) rfl rfl (fun hI => tents_c es hsi z5 q5 q6 hl hI) rfl rfl rfl ?_; rintro v w ⟨A6, c6, rfl, hmu⟩ hS; replace hS := hS _ hmu; clear hmu; rw [← hq5] at hS)
          | (refine WL.callL (D := [.box tk 133 [.pointer (some ⟨r, 0, none⟩), .int .i64 0], rdC r s p5]) hS (by repeat (first | exact Pulls.nil | (apply Pulls.cons; focus (repeat (first | exact Pull.here | apply Pull.there))))) rfl rfl (fun hI => takeT_c (x := em) (by omega) q7 q8 hl hI) rfl rfl rfl ?_; rintro v w ⟨rfl, hmu⟩ hS; replace hS := hS _ hmu; clear hmu; rw [← hq6] at hS)
          | (refine WL.callL (D := [.box tk 133 [.pointer (some ⟨r, 0, none⟩), .int .i64 0], rdC r s p6]) hS (by repeat (first | exact Pulls.nil | (apply Pulls.cons; focus (repeat (first | exact Pull.here | apply Pull.there))))) rfl rfl (fun hI => takeI_c hti q9 q10 hl hI) rfl rfl rfl ?_; rintro v w ⟨rfl, hmu⟩ hS; replace hS := hS _ hmu; clear hmu; rw [← hq7] at hS)
          | (refine WL.callL (D := [.box tk 133 [.pointer (some ⟨r, 0, none⟩), .int .i64 0], rdC r s p7]) hS (by repeat (first | exact Pulls.nil | (apply Pulls.cons; focus (repeat (first | exact Pull.here | apply Pull.there))))) rfl rfl (fun hI => takeI_c (n := ec) hch q11 q12 hl hI) rfl rfl rfl ?_; rintro v w ⟨rfl, hmu⟩ hS; replace hS := hS _ hmu; clear hmu; rw [← hq8] at hS)
          | (refine WL.callL (D := [.box tk 133 [.pointer (some ⟨r, 0, none⟩), .int .i64 0], rdC r s p8]) hS (by repeat (first | exact Pulls.nil | (apply Pulls.cons; focus (repeat (first | exact Pull.here | apply Pull.there))))) rfl rfl (fun hI => takeT_c (x := eg) (by omega) q13 q14 hl hI) rfl rfl rfl ?_; rintro v w ⟨rfl, hmu⟩ hS; replace hS := hS _ hmu; clear hmu)
          | (refine WL.app hS rfl rfl rfl rfl (RdOk.box (by repeat (first | exact List.Mem.head _ | apply List.Mem.tail))) rfl rfl (fun A cap => by repeat (first | exact Repl.here | apply Repl.there)) (by omega) rfl rfl rfl ?_; intro A3 cap3 w hS)
          | (refine WL.store hS rfl rfl rfl (by repeat (first | exact StB.here rfl | apply StB.there)) rfl rfl rfl ?_; intro w hS)
          | (refine WL.alloc hS rfl rfl rfl rfl rfl rfl ?_; intro w b hS)
          | refine WL.skip rfl rfl rfl ?_
          | (refine WL.slit hS rfl rfl rfl rfl rfl ?_; intro w b hS)
          | ((fail_if_success (refine WL.wanted rfl ?_)); refine WL.guard rfl rfl rfl (fun h => ?_) (fun h => ?_) <;> (try simp only [Classical.not_not, Bool.not_eq_true', Bool.not_eq_false', Bool.not_eq_eq_eq_not, Bool.not_true, Bool.not_false, beq_iff_eq, beq_eq_false_iff_ne, ne_eq, decide_eq_decide, decide_eq_true_eq, decide_eq_false_iff_not, Bool.and_eq_true, Bool.or_eq_true, Bool.and_eq_false_iff, Bool.or_eq_false_iff] at h) <;> (try (exfalso; first | omega | contradiction))))
        | (show WC _ _ _ _ _ _; first
          | refine WC.seq ?_
          | refine WC.region ?_
          | refine WC.block ?_
          | refine WC.skip ?_
          | refine WC.condF rfl (by with_reducible rfl) ?_
          | refine WC.condT rfl (by decide) ?_
          | refine WC.condF rfl (by decide) ?_)
        | refine seqQ_n ?_
        | refine blkQ_n ?_)
      rw [hpe] at hS
      replace hS := hS.droplast2 (D := [innF ps fp, eC A5 c5 eh, eC A6 c6 es, .own (.slice A3 (k + 1) cap3) 64 7 (k + 1) (cps ps ++ encCp ⟨⟨ep, eh, es, em, _, ec, eg⟩, A5, c5, A6, c6⟩), .box tk 133 [.pointer (some ⟨r, 0, none⟩), .int .i64 0], rdC r s (p1 + ((l.take (k + 1)).flatMap cfE).length)]) (by repeat (first | exact Pulls.nil | (apply Pulls.cons; focus (repeat (first | exact Pull.here | apply Pull.there)))))
      rw [cps_snoc] at hS
      obtain ⟨fp2, hS2⟩ := St.cfPush (p := ⟨⟨ep, eh, es, em, _, ec, eg⟩, A5, c5, A6, c6⟩) hS
      exact rndQ_n (k + 1, A3, cap3, _, fp2) ⟨⟨by omega, hps2 _ _ _ _⟩, hS2.droplast2 (by repeat (first | exact Pulls.nil | (apply Pulls.cons; focus (repeat (first | exact Pull.here | apply Pull.there)))))⟩ (by show l.length - (k + 1) < l.length - k; omega) ⟨rfl, vint (by omega), trivial⟩ ⟨rfl, rfl, trivial⟩
  · have hke : k = l.length := by omega
    subst hke
    clear hk hkl hlt
    rw [List.take_length] at hS hps
    have hend : ¬ (p1 + (l.flatMap cfE).length < s.length) := by omega
    repeat' (first
      | (show WL _ _ _ _ _ _ _; first
        | refine WL.pure rfl rfl rfl rfl ?_
        | refine WL.nil ?_
        | refine WL.load hS rfl rfl (LdOk.box (by repeat (first | exact List.Mem.head _ | apply List.Mem.tail)) rfl) rfl rfl rfl ?_
        | (refine WL.calls hS rfl rfl (rdone_c r s (p1 + (l.flatMap cfE).length) _ (hS.holds (rdC r s (p1 + (l.flatMap cfE).length)) (by repeat (first | exact List.Mem.head _ | apply List.Mem.tail)))) rfl rfl rfl ?_; rintro v w rfl hS; rw [if_neg hend])
        | (refine WL.store hS rfl rfl rfl (by repeat (first | exact StB.here rfl | apply StB.there)) rfl rfl rfl ?_; intro w hS)
        | refine WL.skip rfl rfl rfl ?_
        | ((fail_if_success (refine WL.wanted rfl ?_)); refine WL.guard rfl rfl rfl (fun h => ?_) (fun h => ?_) <;> (try simp only [Classical.not_not, Bool.not_eq_true', Bool.not_eq_false', Bool.not_eq_eq_eq_not, Bool.not_true, Bool.not_false, beq_iff_eq, beq_eq_false_iff_ne, ne_eq, decide_eq_decide, decide_eq_true_eq, decide_eq_false_iff_not, Bool.and_eq_true, Bool.or_eq_true, Bool.and_eq_false_iff, Bool.or_eq_false_iff] at h) <;> (try (exfalso; first | omega | contradiction))))
      | (show WC _ _ _ _ _ _; first
        | refine WC.seq ?_
        | refine WC.region ?_
        | refine WC.skip ?_
        | refine WC.exit ?_
        | refine WC.ret ?_
        | refine WC.condF rfl (by with_reducible rfl) ?_
        | refine WC.condT rfl (by decide) ?_
        | refine WC.condF rfl (by decide) ?_)
      | refine seqQ_n ?_
      | refine seqQ_x ?_
      | refine blkQ_hit rfl ?_
      | refine rndQ_x ?_)
    exact fin2r rfl rfl rfl ⟨A, cap, ps, fp, rfl, hps, hS.mutLp (by repeat (first | exact Pulls.nil | (apply Pulls.cons; focus (repeat (first | exact Pull.here | apply Pull.there)))))⟩
def loadNo (rows : Rws) (m : Bch) (n : Int) : Prop := (bgetE rows m (sK n)).2 = false
section
variable {B Tp q : Nat} {T : Tb} {m : Bch} {fb fp : List Nat}
set_option maxHeartbeats 4000000 in
set_option maxRecDepth 100000 in
theorem sloadNo_c (n : Int) (h0 : -9223372036854775808 ≤ n) (h1 : n ≤ 9223372036854775807) (hi : InL w0 [bchC B (some ⟨Tp, 0, none⟩) m fb, tabC Tp q T fp]) (hp : PowI w0 (fps [bchC B (some ⟨Tp, 0, none⟩) m fb, tabC Tp q T fp])) (hg : (bgetE T.rows m (sK n)).2 = false) :
    Cal Tryz.prog 10 [.pointer (some ⟨B, 0, none⟩), .int .i64 n] w0 (fun v w' => v = .tuple #[.slice none 0 0, .int .i64 11] ∧ MutL w0 w' [bchC B (some ⟨Tp, 0, none⟩) m fb, tabC Tp q T fp] [bchC B (some ⟨Tp, 0, none⟩) m fb, tabC Tp q T fp, .own (.slice none 0 0) 64 7 0 (cps []), innF [] []]) := by
  refine Cal.mkL hi (by kernel_rfl) Tryz.func10 rfl rfl fun hS => ?_
  rcases hge : bgetE T.rows m (sK n) with ⟨x, y⟩
  rw [hge] at hg
  dsimp only at hg
  subst hg
  repeat' (first
    | (show WL _ _ _ _ _ _ _; first
      | refine WL.pure rfl rfl rfl rfl ?_
      | refine WL.nil ?_
      | (refine WL.calls hS rfl rfl (skey_c n h0 h1 _ (hp.at hS)) rfl rfl rfl ?_; rintro v w rfl hS)
      | (refine WL.callL (D := [bchC B (some ⟨Tp, 0, none⟩) m fb, tabC Tp q T fp]) hS (by repeat (first | exact Pulls.nil | (apply Pulls.cons; focus (repeat (first | exact Pull.here | apply Pull.there))))) rfl rfl (fun hI => bget_c (sK n) hI) rfl rfl rfl ?_; rintro v w ⟨rfl, hmu⟩ hS; rw [hge]; replace hS := hS _ hmu; clear hmu))
    | (show WC _ _ _ _ _ _; first
      | refine WC.seq ?_
      | refine WC.region ?_
      | refine WC.ret ?_
      | refine WC.condT rfl (by first | (simp; done) | (simp; omega)) ?_)
    | refine seqQ_n ?_
    | refine seqQ_r ?_)
  replace hS := (hS.nilRow 64 7).cfNil
  exact fin2r rfl rfl rfl ⟨rfl, hS.mutLp (by repeat (first | exact Pulls.nil | (apply Pulls.cons; focus (repeat (first | exact Pull.here | apply Pull.there)))))⟩
set_option maxHeartbeats 8000000 in
set_option maxRecDepth 100000 in
theorem sload_c (n : Int) (l : List Cf) (h0 : -9223372036854775808 ≤ n) (h1 : n ≤ 9223372036854775807) (hi : InL w0 [bchC B (some ⟨Tp, 0, none⟩) m fb, tabC Tp q T fp]) (hp : PowI w0 (fps [bchC B (some ⟨Tp, 0, none⟩) m fb, tabC Tp q T fp])) (hg : bgetE T.rows m (sK n) = (packE (cfsE l), true)) (hk : ∀ c ∈ l, CfI c) (hz : szCfs l ≤ 4294967296) :
    Cal Tryz.prog 10 [.pointer (some ⟨B, 0, none⟩), .int .i64 n] w0 (fun v w' => ∃ A cap ps fq, v = .tuple #[.slice A l.length cap, .int .i64 0] ∧ ps.map Cp.c = l ∧ MutL w0 w' [bchC B (some ⟨Tp, 0, none⟩) m fb, tabC Tp q T fp] [bchC B (some ⟨Tp, 0, none⟩) m fb, tabC Tp q T fp, .own (.slice A l.length cap) 64 7 l.length (cps ps), innF ps fq]) := by
  refine Cal.mkL hi (by kernel_rfl) Tryz.func10 rfl rfl fun hS => ?_
  have hcl := cfsE_le hk hz
  have hpl := packE_len (cfsE l)
  have hpn := putN_len10 (n := (cfsE l).length) (by omega)
  have hrd := readE_pack0 (cfsE l) (by omega)
  repeat' (first
    | (show WL _ _ _ _ _ _ _; first
      | refine WL.pure rfl rfl rfl rfl ?_
      | refine WL.nil ?_
      | (refine WL.calls hS rfl rfl (skey_c n h0 h1 _ (hp.at hS)) rfl rfl rfl ?_; rintro v w rfl hS)
      | (refine WL.callL (D := [bchC B (some ⟨Tp, 0, none⟩) m fb, tabC Tp q T fp]) hS (by repeat (first | exact Pulls.nil | (apply Pulls.cons; focus (repeat (first | exact Pull.here | apply Pull.there))))) rfl rfl (fun hI => bget_c (sK n) hI) rfl rfl rfl ?_; rintro v w ⟨rfl, hmu⟩ hS; rw [hg]; replace hS := hS _ hmu; clear hmu)
      | (refine WL.calls hS rfl rfl (fread_c (packE (cfsE l)) 0 _ (Nat.zero_le _) (by omega)) rfl rfl rfl ?_; rintro v w rfl hS; rw [List.drop_zero, hrd])
      | (refine WL.callL (D := []) hS .nil rfl rfl (fun hI => sdecode_c l hk hz _) rfl rfl rfl ?_; rintro v w ⟨A, cap, ps, fq, rfl, hps, hmu⟩ hS; replace hS := hS _ hmu; clear hmu))
    | (show WC _ _ _ _ _ _; first
      | refine WC.seq ?_
      | refine WC.region ?_
      | refine WC.skip ?_
      | refine WC.ret ?_
      | refine WC.condF rfl (by decide) ?_
      | refine WC.condF rfl (by first | (simp; done) | (simp; omega)) ?_)
    | refine seqQ_n ?_)
  exact fin2r rfl rfl rfl ⟨A, cap, ps, fq, rfl, hps, hS.mutLp (by repeat (first | exact Pulls.nil | (apply Pulls.cons; focus (repeat (first | exact Pull.here | apply Pull.there)))))⟩
end
end Go.Proofs.YtniacmoniaaolaaGreatDoor

/- What is proved: the law SessionKeeps answers true. Conditions: the statement's own bound on the bulk; the library's table of powers laid. -/
set_option linter.unusedSimpArgs false
set_option linter.unusedVariables false
namespace Go.Proofs.YtniacmoniaaolaaGreatDoor
open Go Go.J Go.RowKit
open Go.Lib (decDigits)

theorem sK_inj {a b : Nat} (h : sK (a : Int) = sK (b : Int)) : a = b := by
  unfold sK at h
  rw [itoa_nat, itoa_nat] at h
  exact dec_inj (List.append_cancel_left h)
theorem sK_ne {a b : Nat} (h : a ≠ b) : sK (a : Int) ≠ sK (b : Int) := fun e => h (sK_inj e)
theorem saveO_key (n : Int) (l : List Cf) : (saveO n l).key = sK n := by unfold saveO; split <;> rfl
theorem saveO_norm (n : Int) (l : List Cf) : normO (saveO n l) = saveO n l := by unfold saveO; split <;> rfl
theorem saveO_sz {n : Int} {l : List Cf} (h0 : -9223372036854775808 ≤ n) (h1 : n ≤ 9223372036854775807) (hk : ∀ c ∈ l, CfI c) (hz : szCfs l ≤ 268435456) : szO (saveO n l) ≤ 268435756 := by
  have hi := Lib.itoa_length_le n h0 h1
  have hkl : (sK n).length ≤ 23 := by unfold sK; rw [List.length_append, show ([115, 47] : List UInt8).length = 2 from rfl]; omega
  have hcl := cfsE_le hk (by omega)
  have hpl := packE_len (cfsE l)
  have hpn := putN_len10 (n := (cfsE l).length) (by omega)
  unfold szO saveO
  split
  · show (sK n).length + 0 + 32 ≤ _; omega
  · show (sK n).length + (packE (cfsE l)).length + 32 ≤ _; omega
/-- what Load answers of what Save kept -/
def loadE (l : List Cf) : Int := if l.length = 0 then 11 else 0
section
variable {w0 : World} {B Tp q : Nat} {T : Tb} {m : Bch} {fb fp : List Nat}
theorem sloadE_c (n : Int) (l : List Cf) (h0 : -9223372036854775808 ≤ n) (h1 : n ≤ 9223372036854775807) (hi : InL w0 [bchC B (some ⟨Tp, 0, none⟩) m fb, tabC Tp q T fp]) (hp : PowI w0 (fps [bchC B (some ⟨Tp, 0, none⟩) m fb, tabC Tp q T fp])) (hg : bgetE T.rows m (sK n) = ((saveO n l).val, !(saveO n l).gone)) (hk : ∀ c ∈ l, CfI c) (hz : szCfs l ≤ 4294967296) :
    Cal Tryz.prog 10 [.pointer (some ⟨B, 0, none⟩), .int .i64 n] w0 (fun v w' => ∃ A cap ps fq, v = .tuple #[.slice A l.length cap, .int .i64 (loadE l)] ∧ ps.map Cp.c = l ∧ MutL w0 w' [bchC B (some ⟨Tp, 0, none⟩) m fb, tabC Tp q T fp] [bchC B (some ⟨Tp, 0, none⟩) m fb, tabC Tp q T fp, .own (.slice A l.length cap) 64 7 l.length (cps ps), innF ps fq]) := by
  by_cases hl : l.length = 0
  · have e1 : saveO n l = ⟨sK n, [], true⟩ := if_pos hl
    rw [e1] at hg
    refine (sloadNo_c n h0 h1 hi hp (by rw [hg]; rfl)).mono fun v w' h => ?_
    obtain ⟨rfl, hmu⟩ := h
    have e2 : loadE l = 11 := if_pos hl
    rw [hl, e2]
    exact ⟨none, 0, [], [], rfl, (List.eq_nil_of_length_eq_zero hl).symm, hmu⟩
  · have e1 : saveO n l = ⟨sK n, packE (cfsE l), false⟩ := if_neg hl
    have e2 : loadE l = 0 := if_neg hl
    rw [e1] at hg
    rw [e2]
    exact sload_c n l h0 h1 hi hp hg hk hz
end
/-- the two notes -/
theorem keep_facts {n : Nat} {a b : List Cf} (hn : n ≤ 1000) (ha : ∀ c ∈ a, CfI c) (hb : ∀ c ∈ b, CfI c) (hza : szCfs a ≤ 268435456) (hzb : szCfs b ≤ 268435456) :
    ∃ m : Bch, m = noteE (noteE [] (saveO (n : Int) a)) (saveO ((n : Int) + 1) b) ∧ BchOk m ∧ m.length ≤ 2 ∧ szL (m.map Prod.snd) ≤ 536871512 ∧
      bgetE [] m (sK (n : Int)) = ((saveO (n : Int) a).val, !(saveO (n : Int) a).gone) ∧ bgetE [] m (sK ((n : Int) + 1)) = ((saveO ((n : Int) + 1) b).val, !(saveO ((n : Int) + 1) b).gone) ∧ (∀ k, k ≠ sK (n : Int) → k ≠ sK ((n : Int) + 1) → bgetE [] m k = ([], false)) := by
  refine ⟨_, rfl, ?_, ?_, ?_, ?_, ?_, ?_⟩
  · have h := (BchOk.nil.note (saveO (n : Int) a)).note (saveO ((n : Int) + 1) b)
    rw [saveO_norm, saveO_norm] at h
    exact h
  · have h1 := note_len (noteE [] (saveO (n : Int) a)) (saveO ((n : Int) + 1) b)
    have h2 := note_len [] (saveO (n : Int) a)
    have h3 : ([] : Bch).length = 0 := rfl
    omega
  · have h1 := (szB_note (noteE [] (saveO (n : Int) a)) (saveO ((n : Int) + 1) b)).1
    have h2 := (szB_note [] (saveO (n : Int) a)).1
    have h3 : szL (([] : Bch).map Prod.snd) = 0 := rfl
    have h4 := saveO_sz (n := (n : Int)) (by omega) (by omega) ha hza
    have h5 := saveO_sz (n := (n : Int) + 1) (by omega) (by omega) hb hzb
    omega
  · rw [bgetE_noted, saveO_key, if_neg (by have := sK_ne (a := n) (b := n + 1) (by omega); exact this), bgetE_noted, saveO_key, if_pos rfl]
  · rw [bgetE_noted, saveO_key, if_pos rfl]
  · intro k h1 h2
    rw [bgetE_noted, saveO_key, if_neg h2, bgetE_noted, saveO_key, if_neg h1]
    rfl
theorem keep_gone {n : Nat} {rows : Rws} (hg : ∀ k, k ≠ sK (n : Int) → k ≠ sK ((n : Int) + 1) → bgetE rows [] k = ([], false)) :
    ∃ m : Bch, m = noteE (noteE [] (saveO (n : Int) [])) (saveO ((n : Int) + 1) []) ∧ m.length ≤ 2 ∧ (bgetE rows m (sK (n : Int))).2 = false ∧ (bkeysP rows m [115, 47]).length = 0 := by
  have e1 : ∀ n, saveO n [] = ⟨sK n, [], true⟩ := fun n => rfl
  have hall : ∀ k, (bgetE rows (noteE (noteE [] (saveO (n : Int) [])) (saveO ((n : Int) + 1) [])) k).2 = false := fun k => by
    rw [bgetE_noted, e1]
    split
    · rfl
    · rename_i h2
      rw [bgetE_noted, e1]
      split
      · rfl
      · rename_i h1
        rw [hg k h1 h2]
  refine ⟨_, rfl, ?_, hall _, ?_⟩
  · have h1 := note_len (noteE [] (saveO (n : Int) [])) (saveO ((n : Int) + 1) [])
    have h2 := note_len [] (saveO (n : Int) [])
    have h3 : ([] : Bch).length = 0 := rfl
    omega
  · have hnd : ((noteE (noteE [] (saveO (n : Int) [])) (saveO ((n : Int) + 1) [])).map Prod.fst).Nodup := note_nd (note_nd (by simp) _) _
    refine List.length_eq_zero_iff.2 (List.eq_nil_iff_forall_not_mem.2 fun k hk => ?_)
    have := ((mem_bkeys hnd _ _).1 hk).1
    rw [hall k] at this
    cases this
set_option maxHeartbeats 64000000 in
set_option maxRecDepth 100000 in
theorem sessionKeeps_c (a b : List Cf) (spoke : Int) {A B0 : Option Addr} {ca cb : Nat} {w0 : World} (h0 : SlAt cCf (Old w0) w0 A a) (h1 : SlAt cCf (Old w0) w0 B0 b) (ha : ∀ c ∈ a, CfI c) (hb : ∀ c ∈ b, CfI c) (hza : szCfs a ≤ 268435456) (hzb : szCfs b ≤ 268435456)
    (hfa : ∀ c ∈ a, c.hub.length ≤ 1048576 ∧ c.side.length ≤ 1048576) (hfb : ∀ c ∈ b, c.hub.length ≤ 1048576 ∧ c.side.length ≤ 1048576) (hla : a.length ≤ 1048576) (hlb : b.length ≤ 1048576) (hs0 : -9223372036854775808 ≤ spoke ∧ spoke ≤ 9223372036854775807) (ht : powT w0) :
    Cal Tryz.prog 3 [.slice A a.length ca, .slice B0 b.length cb, .int .i64 spoke] w0 (fun v w' => Upd [] w0 w' ∧ v = .bool true) := by
  refine Cal.mk' (by kernel_rfl) Tryz.func3 rfl rfl fun hS => ?_
  have hp := PowI.of ht
  by_cases hsp : 0 ≤ spoke ∧ spoke ≤ 1000
  · obtain ⟨n, rfl⟩ : ∃ n : Nat, spoke = (n : Int) := ⟨spoke.toNat, by omega⟩
    have hn : n ≤ 1000 := by omega
    clear hs0 hsp
    obtain ⟨m, hm2, hbo, hml, hmz, hg0, hg1, hgo⟩ := keep_facts hn ha hb hza hzb
    obtain ⟨D1, ls1, hcm1, hst1, hwf1, hl1, hrow1⟩ := Dt0_st.commitAny wf0 [] (m.map Prod.snd) hbo.clean (by omega) (by decide)
    obtain ⟨rows1, hr1⟩ : ∃ r, r = applyE [] (m.map Prod.snd) := ⟨_, rfl⟩
    have a1 : RowsAre rows1 (applyF (fun _ => none) (m.map Prod.snd)) := by rw [hr1]; exact RowsAre.nil.apply
    have s1 : szR rows1 ≤ 536871512 := by have := szR_apply (m.map Prod.snd) []; rw [← hr1] at this; have h00 : szR ([] : Rws) = 0 := rfl; omega
    have n1 : rows1.length ≤ 2 := by have := applyE_len (m.map Prod.snd) []; rw [← hr1, List.length_map] at this; have : ([] : Rws).length = 0 := rfl; omega
    have hge := getE_commit RowsAre.nil hbo
    rw [← hr1] at hge
    have hge2 : ∀ k, bgetE rows1 [] k = bgetE [] m k := hge
    rw [← hge2] at hg0 hg1
    have hgo2 : ∀ k, k ≠ sK (n : Int) → k ≠ sK ((n : Int) + 1) → bgetE rows1 [] k = ([], false) := fun k h1 h2 => by rw [hge2]; exact hgo k h1 h2
    have hg2 : (bgetE rows1 [] (sK ((n : Int) + 2))).2 = false := by have := hgo2 (sK ((n : Int) + 2)) (fun e => sK_ne (a := n + 2) (b := n) (by omega) e) (fun e => sK_ne (a := n + 2) (b := n + 1) (by omega) e); rw [this]
    obtain ⟨m4, hm4, hml4, hg4, hk4⟩ := keep_gone hgo2
    have hrow : rowsOf none ls1 = rows1 := by rw [hrow1, hr1]; rfl
    obtain ⟨p1, p1'⟩ := pack_small a1.1 s1 (by omega)
    have rc1 := rec_small (l := m.map Prod.snd) (by omega)
    have hsm1 : D1.Sm 1173742000 := by
      have h := tabCommit_sm (T := ⟨sysP, [], ⟨sysL, [], false⟩⟩) (D := Dt0) (ops := m.map Prod.snd) (B := 100000000) Dt0_sm rc1 (by dsimp only; rw [← hr1]; omega)
      rw [show tabCommit ⟨sysP, [], ⟨sysL, [], false⟩⟩ Dt0 (m.map Prod.snd) = _ from hcm1] at h
      exact h
    rw [← hr1] at hcm1
    have hcm1 : tabCommit ⟨sysP, [], ⟨sysL, [], false⟩⟩ Dt0 (m.map Prod.snd) = (0, ⟨sysP, rows1, ⟨sysL, ls1.map recordE, false⟩⟩, D1) := hcm1
    have k1 : ∀ p ∈ rows1, p.1.length ≤ 1099511627776 := fun p hp => by have := szR_mem hp; omega
    have r1 : ∀ x y, applyE (Tb.rows ⟨x, [], y⟩) (m.map Prod.snd) = rows1 := fun _ _ => hr1.symm
    have hml1 : m.length ≤ 1048576 := by omega
    have hbk := fun (w0 : World) {B Tp q : Nat} {fb fp : List Nat} {T : Tb} (hT : T.rows = rows1) (hi : InL w0 [bchC B (some ⟨Tp, 0, none⟩) m4 fb, tabC Tp q T fp]) => bkeys_c [115, 47] hi (by rw [hT]; omega) (show m4.length ≤ 549755813888 by omega)
    clear hl1 hrow1 a1 p1' hr1 hge hge2 hgo hgo2 hbo hmz
    have hca : (a.length = 0 ∧ loadE a = 11) ∨ (0 < a.length ∧ loadE a = 0) := by
      unfold loadE
      by_cases h : a.length = 0
      · exact .inl ⟨h, if_pos h⟩
      · exact .inr ⟨by omega, if_neg h⟩
    have hcb : (b.length = 0 ∧ loadE b = 11) ∨ (0 < b.length ∧ loadE b = 0) := by
      unfold loadE
      by_cases h : b.length = 0
      · exact .inl ⟨h, if_pos h⟩
      · exact .inr ⟨by omega, if_neg h⟩
    repeat' (first
      | (show WL _ _ _ _ _ _ _; first
        | refine WL.pure rfl rfl rfl rfl ?_
        | refine WL.nil ?_
        | refine WL.add rfl rfl rfl (by omega) rfl rfl rfl ?_
        | (refine WL.callG rfl rfl (dnew_c _) rfl rfl rfl ?_; rintro v w ⟨hu, q, mb, lb, rfl, hn⟩; replace hS := hS.new hu hn; clear hu hn)
        | (refine WL.callL (D := [dkC q mb lb Dk0]) hS (by repeat (first | exact Pulls.nil | (apply Pulls.cons; focus (repeat (first | exact Pull.here | apply Pull.there))))) rfl rfl (fun hI => topenFirst_c hI) rfl rfl rfl ?_; rintro v w ⟨Tp, fp, rfl, hmu⟩ hS; replace hS := hS _ hmu; clear hmu)
        | (refine WL.calls hS rfl rfl (sawake_c _) rfl rfl rfl ?_; rintro v w rfl hS)
        | (refine WL.callG rfl rfl (begin_c _) rfl rfl rfl ?_; rintro v w ⟨hu, B, fb, rfl, hn⟩; replace hS := hS.new hu hn; clear hu hn)
        | (refine WL.callL (D := [bchC B (some ⟨Tp, 0, none⟩) [] fb]) hS (by repeat (first | exact Pulls.nil | (apply Pulls.cons; focus (repeat (first | exact Pull.here | apply Pull.there))))) rfl rfl (fun hI => ssave_c (n : Int) a (by omega) (by omega) hI (hp.pull hS (by repeat (first | exact Pulls.nil | (apply Pulls.cons; focus (repeat (first | exact Pull.here | apply Pull.there)))))) ((hS.pulls (D := [bchC B (some ⟨Tp, 0, none⟩) [] fb]) (by repeat (first | exact Pulls.nil | (apply Pulls.cons; focus (repeat (first | exact Pull.here | apply Pull.there)))))).slY (by repeat (first | exact List.Mem.head _ | apply List.Mem.tail)) h0) ha (by omega) (by decide)) rfl rfl rfl ?_; rintro v w ⟨rfl, fb1, hmu⟩ hS; replace hS := hS _ hmu; clear hmu)
        | (refine WL.callL (D := [bchC B (some ⟨Tp, 0, none⟩) (noteE [] (saveO (n : Int) a)) fb1]) hS (by repeat (first | exact Pulls.nil | (apply Pulls.cons; focus (repeat (first | exact Pull.here | apply Pull.there))))) rfl rfl (fun hI => ssave_c ((n : Int) + 1) b (by omega) (by omega) hI (hp.pull hS (by repeat (first | exact Pulls.nil | (apply Pulls.cons; focus (repeat (first | exact Pull.here | apply Pull.there)))))) ((hS.pulls (D := [bchC B (some ⟨Tp, 0, none⟩) (noteE [] (saveO (n : Int) a)) fb1]) (by repeat (first | exact Pulls.nil | (apply Pulls.cons; focus (repeat (first | exact Pull.here | apply Pull.there)))))).slY (by repeat (first | exact List.Mem.head _ | apply List.Mem.tail)) h1) hb (by omega) (by have := note_len [] (saveO (n : Int) a); simp at this; omega)) rfl rfl rfl ?_; rintro v w ⟨rfl, fb2, hmu⟩ hS; rw [← hm2] at hmu; replace hS := hS _ hmu; clear hmu)
        | (refine WL.callL (D := [bchC B (some ⟨Tp, 0, none⟩) m fb2, tabC Tp q ⟨sysP, [], ⟨sysL, [], false⟩⟩ fp, dkC q mb lb Dt0]) hS (by repeat (first | exact Pulls.nil | (apply Pulls.cons; focus (repeat (first | exact Pull.here | apply Pull.there))))) rfl rfl (fun hI => bcommit_c hI hcm1 (by decide) (by decide) Dt0_sm rc1 (by decide) hml1 (by rw [r1]; omega) (by rw [r1]; omega) (by rw [r1]; exact k1)) rfl rfl rfl ?_; rintro v w ⟨rfl, fb3, fp2, hmu⟩ hS; replace hS := hS _ hmu; clear hmu)
        | (refine WL.callL (D := [dkC q mb lb D1]) hS (by repeat (first | exact Pulls.nil | (apply Pulls.cons; focus (repeat (first | exact Pull.here | apply Pull.there))))) rfl rfl (fun hI => topenSt_c hI hst1 hwf1 (hsm1.up (by omega))) rfl rfl rfl ?_; rintro v w ⟨Tp2, fp4, rfl, hmu⟩ hS; rw [hrow] at hmu; replace hS := hS _ hmu; clear hmu))
      | (show WC _ _ _ _ _ _; first
        | refine WC.seq ?_
        | refine WC.region ?_
        | refine WC.skip ?_
        | refine WC.condF rfl (by decide) ?_
        | refine WC.condF rfl (decide_eq_false (by first | with_reducible assumption | omega)) ?_)
      | refine seqQ_n ?_)
    replace hS := hS.droplast2 (D := [bchC B (some ⟨Tp2, 0, none⟩) [] fb, tabC Tp2 q ⟨sysP, rows1, ⟨sysL, ls1.map recordE, false⟩⟩ fp4]) (by repeat (first | exact Pulls.nil | (apply Pulls.cons; focus (repeat (first | exact Pull.here | apply Pull.there)))))
    clear hcm1 hst1 hwf1 hsm1 hrow r1 rc1 p1 k1 hml hml1 hm2 s1
    have hnil : ∀ (F : Nat → Prop) (w : World), SlAt cCf F w none [] := fun F w k h => absurd h (Nat.not_lt_zero _)
    rcases hca with ⟨hz0, he0⟩ | ⟨hz0, he0⟩ <;> rcases hcb with ⟨hz1, he1⟩ | ⟨hz1, he1⟩
    all_goals
      repeat' (first
        | (show WL _ _ _ _ _ _ _; first
          | refine WL.pure rfl rfl rfl rfl ?_
          | refine WL.nil ?_
          | refine WL.add rfl rfl rfl (by omega) rfl rfl rfl ?_
          | (refine WL.callL (D := [bchC B (some ⟨Tp2, 0, none⟩) [] fb, tabC Tp2 q ⟨sysP, rows1, ⟨sysL, ls1.map recordE, false⟩⟩ fp4]) hS (by repeat (first | exact Pulls.nil | (apply Pulls.cons; focus (repeat (first | exact Pull.here | apply Pull.there))))) rfl rfl (fun hI => sloadE_c (n : Int) a (by omega) (by omega) hI (hp.pull hS (by repeat (first | exact Pulls.nil | (apply Pulls.cons; focus (repeat (first | exact Pull.here | apply Pull.there)))))) hg0 ha (by omega)) rfl rfl rfl ?_; rintro v w ⟨AL, cl, ps, fq, rfl, hps, hmu⟩ hS; rw [he0]; replace hS := hS _ hmu; clear hmu)
          | (refine WL.callL (D := [bchC B (some ⟨Tp2, 0, none⟩) [] fb, tabC Tp2 q ⟨sysP, rows1, ⟨sysL, ls1.map recordE, false⟩⟩ fp4]) hS (by repeat (first | exact Pulls.nil | (apply Pulls.cons; focus (repeat (first | exact Pull.here | apply Pull.there))))) rfl rfl (fun hI => sloadE_c ((n : Int) + 1) b (by omega) (by omega) hI (hp.pull hS (by repeat (first | exact Pulls.nil | (apply Pulls.cons; focus (repeat (first | exact Pull.here | apply Pull.there)))))) hg1 hb (by omega)) rfl rfl rfl ?_; rintro v w ⟨AM, cm, pt, fr, rfl, hpt, hmu⟩ hS; rw [he1]; replace hS := hS _ hmu; clear hmu)
          | (refine WL.callL (D := [bchC B (some ⟨Tp2, 0, none⟩) [] fb, tabC Tp2 q ⟨sysP, rows1, ⟨sysL, ls1.map recordE, false⟩⟩ fp4]) hS (by repeat (first | exact Pulls.nil | (apply Pulls.cons; focus (repeat (first | exact Pull.here | apply Pull.there))))) rfl rfl (fun hI => sloadNo_c ((n : Int) + 2) (by omega) (by omega) hI (hp.pull hS (by repeat (first | exact Pulls.nil | (apply Pulls.cons; focus (repeat (first | exact Pull.here | apply Pull.there)))))) hg2) rfl rfl rfl ?_; rintro v w ⟨rfl, hmu⟩ hS; replace hS := hS _ hmu; clear hmu)
          | (refine WL.calls hS rfl rfl (rsameCf_c a (hps ▸ hS.cfsSl (ps := ps) (fp := fq) (by repeat (first | exact List.Mem.head _ | apply List.Mem.tail)) (by repeat (first | exact List.Mem.head _ | apply List.Mem.tail))) (hS.slO (by repeat (first | exact List.Mem.head _ | apply List.Mem.tail)) h0) hla hfa) rfl rfl rfl ?_; rintro v w rfl hS)
          | (refine WL.calls hS rfl rfl (rsameCf_c b (hpt ▸ hS.cfsSl (ps := pt) (fp := fr) (by repeat (first | exact List.Mem.head _ | apply List.Mem.tail)) (by repeat (first | exact List.Mem.head _ | apply List.Mem.tail))) (hS.slO (by repeat (first | exact List.Mem.head _ | apply List.Mem.tail)) h1) hlb hfb) rfl rfl rfl ?_; rintro v w rfl hS)
          | (refine WL.callL (D := [bchC B (some ⟨Tp2, 0, none⟩) [] fb]) hS (by repeat (first | exact Pulls.nil | (apply Pulls.cons; focus (repeat (first | exact Pull.here | apply Pull.there))))) rfl rfl (fun hI => ssave_c (n : Int) [] (by omega) (by omega) hI (hp.pull hS (by repeat (first | exact Pulls.nil | (apply Pulls.cons; focus (repeat (first | exact Pull.here | apply Pull.there)))))) (hnil _ _) (fun c hc => by cases hc) (by decide) (by decide)) rfl rfl rfl ?_; rintro v w ⟨rfl, fb5, hmu⟩ hS; replace hS := hS _ hmu; clear hmu)
          | (refine WL.callL (D := [bchC B (some ⟨Tp2, 0, none⟩) (noteE [] (saveO (n : Int) [])) fb5]) hS (by repeat (first | exact Pulls.nil | (apply Pulls.cons; focus (repeat (first | exact Pull.here | apply Pull.there))))) rfl rfl (fun hI => ssave_c ((n : Int) + 1) [] (by omega) (by omega) hI (hp.pull hS (by repeat (first | exact Pulls.nil | (apply Pulls.cons; focus (repeat (first | exact Pull.here | apply Pull.there)))))) (hnil _ _) (fun c hc => by cases hc) (by decide) (show 1 ≤ 1099511627 by decide)) rfl rfl rfl ?_; rintro v w ⟨rfl, fb6, hmu⟩ hS; rw [← hm4] at hmu; replace hS := hS _ hmu; clear hmu)
          | (refine WL.callL (D := [bchC B (some ⟨Tp2, 0, none⟩) m4 fb6, tabC Tp2 q ⟨sysP, rows1, ⟨sysL, ls1.map recordE, false⟩⟩ fp4]) hS (by repeat (first | exact Pulls.nil | (apply Pulls.cons; focus (repeat (first | exact Pull.here | apply Pull.there))))) rfl rfl (fun hI => sloadNo_c (n : Int) (by omega) (by omega) hI (hp.pull hS (by repeat (first | exact Pulls.nil | (apply Pulls.cons; focus (repeat (first | exact Pull.here | apply Pull.there)))))) hg4) rfl rfl rfl ?_; rintro v w ⟨rfl, hmu⟩ hS; replace hS := hS _ hmu; clear hmu)
          | (refine WL.callL (D := [bchC B (some ⟨Tp2, 0, none⟩) m4 fb6, tabC Tp2 q ⟨sysP, rows1, ⟨sysL, ls1.map recordE, false⟩⟩ fp4]) hS (by repeat (first | exact Pulls.nil | (apply Pulls.cons; focus (repeat (first | exact Pull.here | apply Pull.there))))) rfl rfl (fun hI => hbk _ rfl hI) rfl rfl rfl ?_; rintro v w ⟨AK, ck, rfl, hmu⟩ hS; replace hS := hS _ hmu; clear hmu)
          | refine WL.skip rfl rfl rfl ?_
          | ((fail_if_success (refine WL.wanted rfl ?_)); refine WL.guard rfl rfl rfl (fun h => ?_) (fun h => ?_) <;> (try simp only [Classical.not_not, Bool.not_eq_true', Bool.not_eq_false', Bool.not_eq_eq_eq_not, Bool.not_true, Bool.not_false, beq_iff_eq, beq_eq_false_iff_ne, ne_eq, decide_eq_decide, decide_eq_true_eq, decide_eq_false_iff_not, Bool.and_eq_true, Bool.or_eq_true, Bool.and_eq_false_iff, Bool.or_eq_false_iff] at h) <;> (try (exfalso; first | omega | contradiction))))
        | (show WC _ _ _ _ _ _; first
          | refine WC.seq ?_
          | refine WC.region ?_
          | refine WC.skip ?_
          | refine WC.ret ?_
          | refine WC.condT rfl (by with_reducible rfl) ?_
          | refine WC.condF rfl (by decide) ?_)
        | refine seqQ_n ?_
        | refine seqQ_r ?_)
      all_goals first | exact fin1r rfl rfl ⟨hS.upd, vbool (by first | (simp [hk4]; done) | fail)⟩ | (exfalso; simp only [true_iff, false_iff] at *; omega)
  · have hout : spoke < 0 ∨ (0 ≤ spoke ∧ 1000 < spoke) := by omega
    clear hsp
    rcases hout with h | ⟨h, h2⟩
    all_goals
      repeat' (first
        | (show WL _ _ _ _ _ _ _; first
          | refine WL.pure rfl rfl rfl rfl ?_
          | refine WL.nil ?_
          | (refine WL.callG rfl rfl (dnew_c _) rfl rfl rfl ?_; rintro v w ⟨hu, q, mb, lb, rfl, hn⟩; replace hS := hS.new hu hn; clear hu hn)
          | (refine WL.callL (D := [dkC q mb lb Dk0]) hS (by repeat (first | exact Pulls.nil | (apply Pulls.cons; focus (repeat (first | exact Pull.here | apply Pull.there))))) rfl rfl (fun hI => topenFirst_c hI) rfl rfl rfl ?_; rintro v w ⟨Tp, fp, rfl, hmu⟩ hS; replace hS := hS _ hmu; clear hmu)
          | (refine WL.calls hS rfl rfl (sawake_c _) rfl rfl rfl ?_; rintro v w rfl hS)
          | refine WL.skip rfl rfl rfl ?_
          | ((fail_if_success (refine WL.wanted rfl ?_)); refine WL.guard rfl rfl rfl (fun h => ?_) (fun h => ?_) <;> (try simp only [Classical.not_not, Bool.not_eq_true', Bool.not_eq_false', Bool.not_eq_eq_eq_not, Bool.not_true, Bool.not_false, beq_iff_eq, beq_eq_false_iff_ne, ne_eq, decide_eq_decide, decide_eq_true_eq, decide_eq_false_iff_not, Bool.and_eq_true, Bool.or_eq_true, Bool.and_eq_false_iff, Bool.or_eq_false_iff] at h) <;> (try (exfalso; first | omega | contradiction))))
        | (show WC _ _ _ _ _ _; first
          | refine WC.seq ?_
          | refine WC.region ?_
          | refine WC.ret ?_
          | refine WC.condT rfl (by with_reducible rfl) ?_
          | refine WC.condT rfl (decide_eq_true (by first | with_reducible assumption | omega)) ?_)
        | refine seqQ_n ?_
        | refine seqQ_r ?_)
      exact fin1r rfl rfl ⟨hS.upd, rfl⟩
end Go.Proofs.YtniacmoniaaolaaGreatDoor

/- What is proved: the key of SessionKeeps: with the table laid, the law answers true. Conditions: the statement's own bound on the bulk. -/
set_option linter.unusedSimpArgs false
set_option linter.unusedVariables false
namespace Go.Proofs.YtniacmoniaaolaaGreatDoor
open Go Go.J Go.RowKit

set_option maxRecDepth 100000 in
theorem pow_sessionKeeps (W : World) (h : laidMet Tryz.prog Rows.sessionKeepsUptoRow.laid W) : powT W := by
  obtain ⟨a, b, r, he⟩ : ∃ a b r, Rows.sessionKeepsUptoRow.laid = a :: b :: ("internal/strconv.uint64pow10", Lib.tabData .u64 Lib.pow10Tab) :: r := ⟨_, _, _, rfl⟩
  rw [he] at h
  have h1 := laidMet.tail (laidMet.tail h)
  exact Lib.tabIs_of_head (g := 1) (t := 203) (e := 143) (n := 20) (by kernel_rfl) (by kernel_rfl) (by kernel_rfl) (by kernel_rfl) (by kernel_rfl) (by kernel_rfl) h1
theorem szEnts_of {t : List Ent} {b : Nat} (q : QL QEn4 t b) : szEnts t ≤ 10 * b := by
  have h1 := QL_sum (f := fun e : Ent => e.path.length + e.data.length + 4) (fun a b h => h.1) q
  have h2 := sum_le (fun e : Ent => e.path.length + e.data.length + 40) (fun e : Ent => e.path.length + e.data.length + 4) 10 (fun a => by omega) t
  unfold szEnts
  omega
theorem szCf_of {c : Cf} {b : Nat} (q : QCf c b) : szCf c ≤ 25 * b := by
  obtain ⟨_, b1, b2, q1, q2, h⟩ := q
  have h1 := szEnts_of q1
  have h2 := szEnts_of q2
  unfold szCf
  omega
theorem szCfs_of {l : List Cf} {b : Nat} (q : QL QCf l b) : szCfs l ≤ 25 * b := by
  have : ∀ {l : List Cf} {bs : List Nat}, bs.length = l.length → (∀ i (h : i < l.length) (h' : i < bs.length), QCf l[i] bs[i]) → szCfs l ≤ 25 * bs.sum := by
    intro l
    induction l with
    | nil => intro bs _ _; exact Nat.zero_le _
    | cons c cs ih =>
      intro bs hl hq
      match bs, hl with
      | b0 :: bs, hl =>
        have h0 := szCf_of (hq 0 (by simp) (by simp))
        simp only [List.getElem_cons_zero] at h0
        have h1 := ih (bs := bs) (by simpa using hl) fun i h h' => by have := hq (i + 1) (by simpa using h) (by simpa using h'); simpa using this
        have e : szCfs (c :: cs) = szCf c + szCfs cs := rfl
        rw [e, List.sum_cons]
        omega
  obtain ⟨bs, hl, hq, hs⟩ := q
  have := this hl hq
  omega
theorem cfI_of {l : List Cf} {b : Nat} (q : QL QCf l b) : ∀ c ∈ l, CfI c := by
  obtain ⟨bs, hl, hq, hs⟩ := q
  intro c hc
  obtain ⟨i, hi, rfl⟩ := List.getElem_of_mem hc
  obtain ⟨h0, b1, b2, q1, q2, _⟩ := hq i hi (by omega)
  exact ⟨h0, kinds_of q1, kinds_of q2⟩
theorem sessionKeeps.key_sessionKeeps (W : World) (hL : laidMet Tryz.prog Rows.sessionKeepsUptoRow.laid W) (v0 v1 v2 : Value) (y0 y1 : List Cf) (y2 : Int) (b0 b1 b2 : Nat) (h0 : ASl cCf W v0 y0) (h1 : ASl cCf W v1 y1) (h2 : AInt W v2 y2) (q0 : QL QCf y0 b0) (q1 : QL QCf y1 b1) (q2 : QInt y2 b2) (hb : b0 + b1 + b2 ≤ 1048576) :
    Cal Tryz.prog 3 [v0, v1, v2] W (fun v W' => Upd [] W W' ∧ v = .bool true) := by
  obtain ⟨A0, c0, rfl, k0, h0⟩ := h0
  obtain ⟨A1, c1, rfl, k1, h1⟩ := h1
  unfold AInt at h2
  subst h2
  obtain ⟨z1, z2⟩ := cfs_fit q0 (by omega)
  obtain ⟨z3, z4⟩ := cfs_fit q1 (by omega)
  have s0 := szCfs_of q0
  have s1 := szCfs_of q1
  exact sessionKeeps_c y0 y1 y2 h0 h1 (cfI_of q0) (cfI_of q1) (by omega) (by omega) (fun c hc => ⟨by have := (z1 c hc).1.hub.len; omega, by have := (z1 c hc).1.side.len; omega⟩) (fun c hc => ⟨by have := (z3 c hc).1.hub.len; omega, by have := (z3 c hc).1.side.len; omega⟩) (by omega) (by omega) ⟨q2.1, q2.2.1⟩ (pow_sessionKeeps W hL)
end Go.Proofs.YtniacmoniaaolaaGreatDoor
