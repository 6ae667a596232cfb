/- What is proved: contracts and plain facts that the law leans on (texts put together). Conditions: as each names them. -/
import Derived.Test.YtccfiohagbneaaaGreatDoorM6
import Derived.Lib.LaidTab
import Derived.Stop.LaidErr
set_option linter.unusedSimpArgs false
set_option linter.unusedVariables false
set_option linter.unusedSectionVars false
set_option maxHeartbeats 64000000
set_option maxRecDepth 100000
namespace Go.Proofs.YtccfiohagbneaaaGreatDoor
open Go Go.J Go.RowKit
def encA1 (a : Ac) : List UInt8 := putN (zigN a.root) ++ textE a.path ++ putN (zigN a.kind) ++ textE a.data
def encAs (l : List Ac) : List UInt8 := putN l.length ++ l.flatMap encA1
structure AcEn (a : Ac) : Prop where
 root : -9223372036854775808 ≤ a.root ∧ a.root ≤ 9223372036854775807
 kind : -9223372036854775808 ≤ a.kind ∧ a.kind ≤ 9223372036854775807
 path : a.path.length ≤ 1000000
 data : a.data.length ≤ 1000000
theorem rtextE_t (s t : List UInt8) (h : s.length < 9223372036854775808) : rtextE (textE s ++ t) = (s, (textE s).length, 0) := by
 have e := rtextE_text s t h
 unfold textE
 rw [List.append_assoc, e, List.length_append, Nat.add_comm]
theorem encA1_len {a : Ac} (h : AcEn a) : (encA1 a).length = (putN (zigN a.root)).length + (textE a.path).length + (putN (zigN a.kind)).length + (textE a.data).length ∧ (putN (zigN a.root)).length ≤ 10 ∧ (putN (zigN a.kind)).length ≤ 10 ∧ (textE a.path).length ≤ 10 + a.path.length ∧ (textE a.data).length ≤ 10 + a.data.length := by
 have h1 := putN_len10 (zig_lt h.root)
 have h2 := putN_len10 (zig_lt h.kind)
 have h3 := putN_len10 (n := a.path.length) (by have := h.path; omega)
 have h4 := putN_len10 (n := a.data.length) (by have := h.data; omega)
 refine ⟨by unfold encA1; simp only [List.length_append], h1, h2, ?_, ?_⟩
 ·unfold textE; rw [List.length_append]; omega
 ·unfold textE; rw [List.length_append]; omega
theorem encAs_flat {l : List Ac} (h : ∀ a ∈ l, AcEn a) {B : Nat} (hb : ∀ a ∈ l, a.path.length + a.data.length ≤ B) : (l.flatMap encA1).length ≤ l.length * (B + 40) := by
 induction l with
 |nil => simp
 |cons a l ih =>
  have h1 := encA1_len (h a (List.mem_cons_self ..))
  have h2 := hb a (List.mem_cons_self ..)
  have h3 := ih (fun b hb => h b (List.mem_cons_of_mem _ hb)) fun b hb' => hb b (List.mem_cons_of_mem _ hb')
  rw [List.flatMap_cons, List.length_append, List.length_cons, Nat.succ_mul]
  omega
theorem aencode_c (l : List Ac) {A : Option Addr} {cap : Nat} {w0 : World} (h : SlAt cAc (Old w0) w0 A l) (hk : ∀ a ∈ l, AcEn a) (hb : (encAs l).length ≤ 1000000000) (hl : l.length ≤ 1000000) :
  Cal Tryz.prog 119 [.slice A l.length cap] w0 (fun v w' => Upd [] w0 w' ∧ v = str (encAs l)) := by
 refine Cal.mk' Zk Tryz.func119 rfl rfl fun hS => ?_
 have hpl := putN_len10 (n := l.length) Zo
 have h0 : ([] : List UInt8).length = 0 := rfl
 repeat' (first | (show WL _ _ _ _ _ _ _; first | refine WL.pure rfl rfl rfl rfl ?_ | refine WL.nil ?_ | (refine WL.calls hS rfl rfl (wuint_c l.length _ Zo) rfl rfl rfl ?_; rintro v w rfl hS) | (refine WL.alloc (t := 199) hS rfl rfl rfl rfl rfl rfl ?_; intro w q hS; have hS := (hS.nilRow 5 1).perm (.swap _ _ _); have hS := St.objClose (H := []) (φ := sbφ q []) (D := sbD q none none 0 0 []) hS (.inl ⟨rfl, rfl⟩)) | (refine WL.callG rfl rfl (bwrites_c q [] (putN l.length) _ _ (hS.holds _ Zh) (hS.inB_of Zh) Zo) rfl rfl rfl ?_; rintro v w ⟨rfl, fp', hmut⟩; have hS := hS.mut hmut .here; clear hmut)) | (show WC _ _ _ _ _ _; first | refine WC.seq ?_ | refine WC.region ?_ | refine WC.block ?_) | refine seqQ_n ?_)
 refine WC.loop (σ := Nat × List UInt8 × List Nat) [5, 16, 17] (fun (k, acc, fp) => [(18, .int .i64 (k : Int))]) (fun (k, acc, fp) w => k ≤ l.length ∧ acc ++ (l.drop k).flatMap encA1 = encAs l ∧ St w0 [] w [sbC q acc fp] [⟨w0, Old w0⟩]) (fun (k, _) => l.length - k) (0, putN l.length, fp') ⟨Nat.zero_le _, rfl, hS⟩ ⟨rfl, trivial⟩ ?_
 clear hS
 rintro ⟨k, acc, fp⟩ g w ⟨hkl, hacc, hS⟩
 show WC _ _ _ (lf _ [(18, .int .i64 (k : Int))] _ _) _ _
 by_cases hlt : k < l.length
 ·obtain ⟨rb, ro, es, rfl, hF, hr, hes⟩ := h.at_ hlt
  have hes : es = encAc l[k] := hes
  subst hes
  have hr : w0.rangeAt rb (ro + k * 4) (encAc l[k]) := hr
  rw [List.drop_eq_getElem_cons hlt, List.flatMap_cons] at hacc
  have hka := hk _ (List.getElem_mem hlt)
  have hln := encA1_len hka
  generalize l[k] = a at *
  obtain ⟨ar, ap, ak, ad⟩ := a
  have hr1 := hka.root
  have hr2 := hka.kind
  have hr3 := hka.path
  have hr4 := hka.data
  have hlen := congrArg List.length hacc
  rw [List.length_append, List.length_append] at hlen
  have hrec : encA1 ⟨ar, ap, ak, ad⟩ = putN (zigN ar) ++ textE ap ++ putN (zigN ak) ++ textE ad := rfl
  rw [hrec] at hacc hlen hln
  obtain ⟨n1, n2, n3, n4, n5⟩ := hln
  dsimp only at hr1 hr2 hr3 hr4 n1 n2 n3 n4 n5
  have e2 : (putN (zigN ar) ++ textE ap).length = (putN (zigN ar)).length + (textE ap).length := List.length_append
  have e3 : (putN (zigN ar) ++ textE ap ++ putN (zigN ak)).length = (putN (zigN ar)).length + (textE ap).length + (putN (zigN ak)).length := by rw [List.length_append, e2]
  repeat' (first | (show WL _ _ _ _ _ _ _; first | refine WL.pure rfl rfl rfl rfl ?_ | refine WL.nil ?_ | refine WL.add rfl rfl rfl Zo rfl rfl rfl ?_ | (refine WL.load hS rfl rfl (LdOk.snap0 hF hr (by repeat (first | exact Zh | apply List.Mem.tail)) rfl) rfl rfl rfl ?_) | (refine WL.alloc (t := 167) hS rfl rfl rfl rfl rfl rfl ?_; intro w ob hS) | (refine WL.store hS rfl rfl rfl Sb rfl rfl rfl ?_; intro w hS) | refine WL.index rfl rfl rfl rfl Zw rfl rfl rfl rfl ?_) | (show WC _ _ _ _ _ _; first | refine WC.seq ?_ | refine WC.region ?_ | refine WC.block ?_ | refine WC.skip ?_ | (show WC _ _ (Code.region _ (List.toArray [_, _, _, _, _, _, _, _, _, _, _, _, _, _, _, _, _, _]) true) _ _ _; refine WC.drawL [sbC q acc fp] hS Pu [0,1,3,4,6,7,8,9,11,12,13,14,16] [0,1,3,4,7,8,9,12,13,14,2,5,6,10,11,15,16,17] Zk Zk ?_; clear hS; intro w hS hM) | refine WC.condT rfl (decide_eq_true Zw) ?_) | (show WD _ _ _ _ _ _ _ _ _; first | refine WD.pure rfl rfl rfl rfl rfl ?_ | refine WD.nil ?_ | refine WD.load rfl rfl (LdOk.box (by repeat (first | exact Zh | apply List.Mem.tail)) rfl) rfl rfl rfl rfl ?_ | (refine WD.cat rfl rfl rfl Zo rfl rfl rfl rfl ?_) | (refine WD.calls hS hM rfl rfl (wint_c ar hr1 _) rfl rfl rfl rfl rfl ?_; clear hS; rintro v w rfl hS) | (refine WD.calls hS hM rfl rfl (wint_c ak hr2 _) rfl rfl rfl rfl rfl ?_; clear hS; rintro v w rfl hS) | (refine WD.calls hS hM rfl rfl (wtext_c ap _ Zo) rfl rfl rfl rfl rfl ?_; clear hS; rintro v w rfl hS) | (refine WD.calls hS hM rfl rfl (wtext_c ad _ Zo) rfl rfl rfl rfl rfl ?_; clear hS; rintro v w rfl hS) | (refine WD.callL (D := [sbC q acc fp]) hS Pu (.refl _ _) rfl rfl (fun hI => bwrites_c q acc (putN (zigN ar) ++ textE ap ++ putN (zigN ak) ++ textE ad) fp _ hI.head hI.headB Zo) rfl rfl rfl rfl rfl ?_; rintro v w ⟨rfl, fp', hm⟩; refine ⟨_, .of1 hm, fun hS hM => ?_⟩; clear hm)) | refine seqQ_n ?_ | refine blkQ_n ?_)
  exact rndQ_n (k + 1, acc ++ (putN (zigN ar) ++ textE ap ++ putN (zigN ak) ++ textE ad), fp') ⟨Zo, by rw [← hacc]; simp, hS.droplast2 Pu⟩ (by show l.length - (k + 1) < l.length - k; omega) ⟨vint Zo, trivial⟩ ⟨rfl, rfl, rfl, trivial⟩
 ·have hke : k = l.length := Zo
  subst hke
  have hacc : acc = encAs l := by simpa using hacc
  subst hacc
  repeat' (first | (show WL _ _ _ _ _ _ _; first | refine WL.pure rfl rfl rfl rfl ?_ | refine WL.nil ?_ | (refine WL.callG rfl rfl (bstring_c q (encAs l) fp _ (hS.holds _ Zh) (hS.inB_of Zh) Zo) rfl rfl rfl ?_; rintro v w ⟨rfl, hu⟩; have hS := hS.lose hu)) | (show WC _ _ _ _ _ _; first | refine WC.seq ?_ | refine WC.region ?_ | refine WC.exit ?_ | refine WC.ret ?_ | refine WC.condF rfl (decide_eq_false Zw) ?_) | refine seqQ_n ?_ | refine seqQ_x ?_ | refine blkQ_hit rfl ?_ | refine rndQ_x ?_)
  exact fin1r rfl rfl ⟨hS.upd, rfl⟩
theorem adecode_c (l : List Ac) (w0 : World) (hk : ∀ a ∈ l, AcEn a) (hb : (encAs l).length ≤ 1000000000) (hl : l.length ≤ 1000000) :
  Cal Tryz.prog 121 [str (encAs l)] w0 (fun v w' => Upd [] w0 w' ∧ ∃ A cap, v = .tuple #[.slice A l.length cap, .int .i64 0] ∧ New w0 w' (aC A cap l)) := by
 refine Cal.mk' Zk Tryz.func121 rfl rfl fun hS => ?_
 obtain ⟨s, hs⟩ : ∃ s, s = encAs l := ⟨_, rfl⟩
 rw [← hs] at hb ⊢
 have hu0 : uintE (s.drop 0) = (l.length, (putN l.length).length, 0) := by rw [hs]; exact uintE_put _ Zo _
 have hsl : (putN l.length).length ≤ s.length := by rw [hs]; unfold encAs; rw [List.length_append]; omega
 have hsd : s.drop (putN l.length).length = (l.drop 0).flatMap encA1 := by rw [hs]; unfold encAs; simp
 repeat' (first | (show WL _ _ _ _ _ _ _; first | refine WL.pure rfl rfl rfl rfl ?_ | refine WL.nil ?_ | (refine WL.callG rfl rfl (wnew_c s _) rfl rfl rfl ?_; rintro v w ⟨hup, r, rfl, hnew⟩; replace hS := hS.new hup hnew; clear hup hnew) | (refine WL.callG rfl rfl (uint_e hu0 (hS.holds _ Zh) (hS.inB_of Zh) Zo Zo) rfl rfl rfl ?_; rintro v w ⟨rfl, hmut⟩; replace hS := hS.mut hmut .here; clear hmut) | (refine WL.slit (t := 88) hS rfl rfl rfl rfl rfl ?_; intro w ob hS; replace hS := hS.boxRow (n := 0) (size := 4) .here rfl (Nat.zero_le _))) | (show WC _ _ _ _ _ _; first | refine WC.seq ?_ | refine WC.region ?_ | refine WC.block ?_ | refine WC.skip ?_ | refine WC.condF rfl Zd ?_) | refine seqQ_n ?_)
 refine WC.loop (σ := Nat × List Ac × Nat × Option Addr × Nat) [4, 21] (fun (k, t, p, A, cap) => [(7, .slice A t.length cap), (22, .int .i64 (k : Int))])
  (fun (k, t, p, A, cap) w => (k ≤ l.length ∧ t = l.take k ∧ p ≤ s.length ∧ s.drop p = (l.drop k).flatMap encA1) ∧ St w0 [] w [aC A cap t, rdC r s p] [⟨w0, Old w0⟩])
  (fun (k, _) => l.length - k) (0, [], (putN l.length).length, some ⟨ob, 0, none⟩, 0) ⟨⟨Nat.zero_le _, rfl, hsl, hsd⟩, by rw [Nat.zero_add] at hS; exact hS⟩ ⟨rfl, rfl, trivial⟩ ?_
 clear hS hsl hsd hu0
 rintro ⟨k, t, p, A, cap⟩ g w ⟨⟨hkl, ht, hp, hd⟩, hS⟩
 show WC _ _ _ (lf _ [(7, .slice A t.length cap), (22, .int .i64 (k : Int))] _ _) _ _
 by_cases hlt : k < l.length
 ·rw [List.drop_eq_getElem_cons hlt, List.flatMap_cons] at hd
  have hka := hk _ (List.getElem_mem hlt)
  have htl : t.length = k := by rw [ht, List.length_take]; omega
  have ht2 : l.take (k + 1) = t ++ [l[k]] := by rw [List.take_succ_eq_append_getElem hlt, ht]
  generalize l[k] = a at *
  generalize hrest : (l.drop (k + 1)).flatMap encA1 = rest at *
  obtain ⟨ar, ap, ak, ad⟩ := a
  have hr1 := hka.root
  have hr2 := hka.kind
  have hr3 := hka.path
  have hr4 := hka.data
  dsimp only at hr1 hr2 hr3 hr4
  have hcap := hS.own_len Zh
  have hlen := congrArg List.length hd
  rw [List.length_drop] at hlen
  have hd0 : s.drop p = putN (zigN ar) ++ (textE ap ++ (putN (zigN ak) ++ (textE ad ++ rest))) := by rw [hd]; unfold encA1; simp
  have hlen0 := congrArg List.length hd0
  simp only [List.length_append] at hlen0
  rw [List.length_drop] at hlen0
  have d0 := hd0
  obtain ⟨p1, hp1⟩ : ∃ p1, p1 = p + (putN (zigN ar)).length := ⟨_, rfl⟩
  have g1 : s.drop p1 = textE ap ++ (putN (zigN ak) ++ (textE ad ++ rest)) := by rw [hp1, ← List.drop_drop, hd0]; simp
  have d1 : rtextE (s.drop p1) = (ap, (textE ap).length, 0) := by rw [g1]; exact rtextE_t _ _ Zo
  obtain ⟨p2, hp2⟩ : ∃ p2, p2 = p1 + (textE ap).length := ⟨_, rfl⟩
  have d2 : s.drop p2 = putN (zigN ak) ++ (textE ad ++ rest) := by rw [hp2, ← List.drop_drop, g1]; simp
  obtain ⟨p3, hp3⟩ : ∃ p3, p3 = p2 + (putN (zigN ak)).length := ⟨_, rfl⟩
  have g3 : s.drop p3 = textE ad ++ rest := by rw [hp3, ← List.drop_drop, d2]; simp
  have d3 : rtextE (s.drop p3) = (ad, (textE ad).length, 0) := by rw [g3]; exact rtextE_t _ _ Zo
  obtain ⟨p4, hp4⟩ : ∃ p4, p4 = p3 + (textE ad).length := ⟨_, rfl⟩
  have d4 : s.drop p4 = rest := by rw [hp4, ← List.drop_drop, g3]; simp
  clear hd hd0 g1 g3 hlen
  repeat' (first | (show WL _ _ _ _ _ _ _; first | refine WL.pure rfl rfl rfl rfl ?_ | refine WL.nil ?_ | refine WL.load hS rfl rfl (LdOk.box (by repeat (first | exact Zh | apply List.Mem.tail)) rfl) rfl rfl rfl ?_ | refine WL.add rfl rfl rfl Zo rfl rfl rfl ?_ | (refine WL.callL (D := [rdC r s p]) hS Pu rfl rfl (fun hI => rintZ_e hr1 d0 hI.head hI.headB Zo Zo) rfl rfl rfl ?_; rintro v w ⟨rfl, hm⟩ hS; rw [← hp1] at hm; replace hS := hS _ (.of1 hm); clear hm) | (refine WL.callL (D := [rdC r s p1]) hS Pu rfl rfl (fun hI => rtext_e d1 hI.head hI.headB Zo Zo) rfl rfl rfl ?_; rintro v w ⟨rfl, hm⟩ hS; rw [← hp2] at hm; replace hS := hS _ (.of1 hm); clear hm) | (refine WL.callL (D := [rdC r s p2]) hS Pu rfl rfl (fun hI => rintZ_e hr2 d2 hI.head hI.headB Zo Zo) rfl rfl rfl ?_; rintro v w ⟨rfl, hm⟩ hS; rw [← hp3] at hm; replace hS := hS _ (.of1 hm); clear hm) | (refine WL.callL (D := [rdC r s p3]) hS Pu rfl rfl (fun hI => rtext_e d3 hI.head hI.headB Zo Zo) rfl rfl rfl ?_; rintro v w ⟨rfl, hm⟩ hS; rw [← hp4] at hm; replace hS := hS _ (.of1 hm); clear hm) | (refine WL.app hS rfl rfl rfl rfl (RdOk.box (by repeat (first | exact Zh | apply List.Mem.tail))) rfl rfl (fun A cap => Rp) Zo rfl rfl rfl ?_; intro A2 cap2 w hS) | (refine WL.store hS rfl rfl rfl Sb rfl rfl rfl ?_; intro w hS) | (refine WL.alloc hS rfl rfl rfl rfl rfl rfl ?_; intro w b hS) | (refine WL.slit hS rfl rfl rfl rfl rfl ?_; intro w b hS)) | (show WC _ _ _ _ _ _; first | refine WC.seq ?_ | refine WC.region ?_ | refine WC.block ?_ | refine WC.skip ?_ | refine WC.condF rfl Zd ?_ | refine WC.condT rfl (decide_eq_true Zw) ?_) | refine seqQ_n ?_ | refine blkQ_n ?_)
  replace hS := hS.droplast2 (D := [.own (.slice A2 (t.length + 1) cap2) 167 4 (t.length + 1) (t.flatMap encAc ++ encAc ⟨ar, ap, ak, ad⟩), rdC r s p4]) Pu
  rw [aC_snoc] at hS
  exact rndQ_n (k + 1, t ++ [⟨ar, ap, ak, ad⟩], p4, A2, cap2) ⟨⟨Zo, ht2.symm, Zo, d4.trans hrest.symm⟩, hS⟩ (by show l.length - (k + 1) < l.length - k; omega) ⟨by rw [List.length_append]; rfl, vint Zo, trivial⟩ ⟨rfl, rfl, trivial⟩
 ·have hke : k = l.length := Zo
  subst hke
  rw [List.take_length] at ht
  rw [ht] at hS ⊢
  clear ht
  have hps : ¬ p < s.length := by
   have := congrArg List.length hd
   simp only [List.drop_length, List.flatMap_nil, List.length_nil, List.length_drop] at this
   omega
  repeat' (first | (show WL _ _ _ _ _ _ _; first | refine WL.pure rfl rfl rfl rfl ?_ | refine WL.nil ?_ | (refine WL.calls hS rfl rfl (rdone_c r s p _ (hS.holds (rdC r s p) (by repeat (first | exact Zh | apply List.Mem.tail)))) rfl rfl rfl ?_; rintro v w rfl hS; rw [if_neg hps])) | (show WC _ _ _ _ _ _; first | refine WC.seq ?_ | refine WC.region ?_ | refine WC.skip ?_ | refine WC.exit ?_ | refine WC.ret ?_ | refine WC.condF rfl Zd ?_ | refine WC.condF rfl (decide_eq_false Zw) ?_) | refine seqQ_n ?_ | refine seqQ_x ?_ | refine blkQ_hit rfl ?_ | refine rndQ_x ?_)
  exact fin2r rfl rfl rfl ⟨hS.upd, _, _, rfl, hS.newOf Zh⟩
open Go Go.J Go.RowKit
theorem final_idem {l : List Ac} (h : RiseG keyA ltA l) : finalE l = l := by
 refine rise_ext actO (final_rise l) h fun x => ⟨fun hx => final_mem hx, fun hx => ?_⟩
 have h1 := final_find l (keyA x)
 rw [lastA_uniq (fun a ha e => by
  have h2 := findG_mem actO h ha
  rw [e, findG_mem actO h hx] at h2
  exact (Option.some.inj h2).symm) hx] at h1
 exact (findG_some h1).1
section
variable {D D' : Dk} {n m k : Nat} {f : Fn} {T : Tb} {bs : Option (List Chg)} {ls : List (List Chg)}
theorem SysC.arm (h : SysC D) (a : Int) : SysC (D.arm a) := ⟨h.lim, h.nd, h.dir, h.has, h.files, h.kp, h.firm⟩
theorem TabC.arm (h : TabC D bs ls) (a : Int) : TabC (D.arm a) bs ls := ⟨h.c.arm a, h.log, by have := h.base; cases bs <;> exact this⟩
theorem Post.arm (h : Post D bs ls) (a : Int) : Post (D.arm a) bs ls := ⟨h.c.arm a, h.log, by have := h.base; cases bs <;> exact this⟩
theorem TabH.arm (h : TabH n D f) (a : Int) : TabH n (D.arm a) f := by obtain ⟨bs, ls, hp, hv⟩ := h; exact ⟨bs, ls, hp.arm a, hv⟩
theorem TabL.arm (h : TabL n T D f) (a : Int) : TabL n T (D.arm a) f := by obtain ⟨bs, ls, rows, h1, h2, h3, h4, hv⟩ := h; exact ⟨bs, ls, rows, h1, h2, h3.arm a, h4, hv⟩
theorem DkW.arm (h : DkW D) (a : Int) : DkW (D.arm a) := h.same rfl rfl
theorem Firm.arm (h : Firm D) (a : Int) : Firm (D.arm a) := h
theorem Kl.arm (h : Kl n D) (a : Int) : Kl n (D.arm a) := h
theorem SysC.sm (h : SysC D) : D.Sm 1000000000 := ⟨h.lim, fun x hx => (h.kp x hx).1⟩
theorem TabH.hlog (h : TabH n D f) (hn : n ≤ 100) (hu : D.down = false) : ∀ e G D'', walOpen (tabMk D sysP).2 (logP sysP) = (e, some G, D'') → G.recs.length ≤ 4194304 ∧ ∀ r ∈ G.recs, r.length ≤ 1099511627776 := by
 obtain ⟨bs, ls, h, hv⟩ := h
 have hw := hv.wf hn
 intro e G D'' hh
 have hmk : (tabMk D sysP).2 = D := by unfold tabMk; rw [h.c.kindP, if_neg Zd]
 rw [hmk, show logP sysP = sysL from rfl] at hh
 obtain ⟨D', ⟨h1, _⟩ | ⟨h1, _⟩⟩ := h.wopen hu hw
 ·rw [h1] at hh
  cases hh
  refine ⟨?_, fun r hr => ?_⟩
  ·show (ls.map recordE).length ≤ _
   rw [List.length_map]; have := hv.few; omega
  ·have := hw.recs r hr; omega
 ·rw [h1] at hh
  cases hh
theorem open_new (hc : SysC D) (hu : D.down = false) (ha : D.armed < 0) (h1 : D.get sysL = none) (h2 : D.get sysB = none) :
  ∃ D', tabOpen D sysP = (0, some ⟨sysP, [], ⟨sysL, [], false⟩⟩, D') ∧ TabL 0 ⟨sysP, [], ⟨sysL, [], false⟩⟩ D' (fun _ => none) ∧ OpF sysF 3 D (0, D') ∧ (∀ e G D'', walOpen (tabMk D sysP).2 (logP sysP) = (e, some G, D'') → G.recs.length ≤ 4194304 ∧ ∀ r ∈ G.recs, r.length ≤ 1099511627776) := by
 have hk : ∀ p, D.get p = none → D.kind p = 0 := fun p hp => by unfold Dk.kind; rw [Dk.has_get, hp]; rfl
 have hmk : tabMk D sysP = (0, D) := by unfold tabMk; rw [hc.kindP, if_neg Zd]
 have hF := opF_L (D := D) (s := [])
 rcases SysU.fill (p := sysL) (s := []) ⟨hc, hu⟩ sysF_L sysF_LT Zd (Nat.zero_le _) with ⟨f1, _⟩ | ⟨f1, f2, f3, f4⟩
 ·have := hF.dn f1
  rw [(hF.calm ha hu).2] at this; cases this
 have hwo : walOpen D sysL = (0, some ⟨sysL, [], false⟩, (D.fill sysL []).2) := by
  unfold walOpen
  rw [hk _ h1, if_pos rfl, if_neg (fun hh => hh f1)]
 have hpr : D.fill sysL [] = (0, (D.fill sysL []).2) := Prod.ext f1 rfl
 refine ⟨(D.fill sysL []).2, ?_, ⟨none, [], [], rfl, RowsAre.nil, ⟨f2.c, f3, ?_⟩, f2.up, ⟨Nat.zero_le _, fun l hl => (by cases hl), fun o ho => (by cases ho), Nat.zero_le _, rfl⟩⟩, by rw [← hpr]; exact hF, fun e G D'' hh => ?_⟩
 ·unfold tabOpen
  rw [hmk]
  dsimp only
  have hb : tabBase D sysP = (0, []) := by unfold tabBase; rw [show baseP sysP = sysB from rfl, if_pos (hk _ h2)]
  rw [if_neg (fun h => h rfl), hb]
  dsimp only
  rw [if_neg (fun h => h rfl), show logP sysP = sysL from rfl, hwo]
  rfl
 ·exact (f4 sysB Zd Zd).trans h2
 ·rw [hmk, show logP sysP = sysL from rfl] at hh
  dsimp only at hh
  rw [hwo] at hh
  cases hh
  exact ⟨Nat.zero_le _, fun r hr => by cases hr⟩
end
theorem szR_few (C : Nat) : ∀ rows : Rws, (∀ p ∈ rows, p.1.length + p.2.length + 32 ≤ C) → szR rows ≤ rows.length * C
 |[], _ => Nat.zero_le _
 |p :: rows, h => by
  have h2 := szR_few C rows fun q hq => h q (List.mem_cons_of_mem _ hq)
  have h3 := h p (List.mem_cons_self ..)
  simp only [szR, List.map_cons, List.sum_cons, List.length_cons, Nat.add_mul] at h2 ⊢
  omega
theorem fit_few {f : Fn} (ks : List (List UInt8)) (C : Nat) (h : ∀ k v, f k = some v → k ∈ ks ∧ k.length + v.length + 32 ≤ C) (hC : ks.length * C ≤ 33000000) : FitF f := fun rows hr => by
 have h1 : (rows.map Prod.fst).Subset ks := fun k hk => by
  obtain ⟨p, hp, rfl⟩ := List.mem_map.1 hk
  exact (h p.1 p.2 (by rw [← hr.2]; exact mget_of_mem hr.1 hp)).1
 have h2 := hr.1.length_le_of_subset h1
 rw [List.length_map] at h2
 have h3 := szR_few C rows fun p hp => (h p.1 p.2 (by rw [← hr.2]; exact mget_of_mem hr.1 hp)).2
 have h4 : rows.length * C ≤ ks.length * C := Nat.mul_le_mul_right _ h2
 omega
abbrev kK : List UInt8 := [107]
abbrev doneV : List UInt8 := [100, 111, 110, 101]
abbrev todoK : List UInt8 := [116, 111, 100, 111]
def recE (T : Tb) (D : Dk) (l : List Ac) : Int × Tb × Dk :=
 if (applyA D l).1 ≠ 0 then ((applyA D l).1, T, (applyA D l).2) else tabCommit T (applyA D l).2 [⟨todoK, [], true⟩]
abbrev ops2 : List Chg := [⟨todoK, [], true⟩]
structure CmOk (T : Tb) (l : List Chg) : Prop where
 dir : T.dir.length ≤ 1099511000
 log : T.log.p.length ≤ 1099511620
 recs : T.log.recs.length ≤ 4194303
 reco : (recordE l).length ≤ 1073741824
 pack : (recordE (packL (applyE T.rows l))).length ≤ 549755813888
 few : (applyE T.rows l).length ≤ 1048576
 keys : ∀ p ∈ applyE T.rows l, p.1.length ≤ 1099511627776
theorem TabL.cmOk {T : Tb} {D : Dk} {f : Fn} {l : List Chg} {n : Nat} (h : TabL n T D f) (hn : n ≤ 100) (hl : OpsOk l) (hz : FitF (applyF f l)) : CmOk T l := by
 obtain ⟨bs, ls, rows, rfl, hr, hc, hu, hv⟩ := h
 have hra : RowsAre (applyE rows l) (applyF f l) := hr.apply
 have h1 := hz _ hra
 have h2 := szR_len (applyE rows l)
 have h3 := ops_rec hl
 have h4 := pack_rec hra hz
 exact ⟨by show sysP.length ≤ _; decide, by show sysL.length ≤ _; decide, by show (ls.map recordE).length ≤ _; rw [List.length_map]; have := hv.few; omega, Zo, by show (recordE (packL (applyE rows l))).length ≤ _; omega, by show (applyE rows l).length ≤ _; omega, fun p hp => by have h5 : p.1.length + p.2.length + 32 ≤ szR (applyE rows l) := szR_mem hp; omega⟩
def RecIs (T : Tb) (D : Dk) (r : Int × Tb × Dk) : Prop := (getE T.rows todoK = ([], false) ∧ r = (0, T, D)) ∨ ∃ l, getE T.rows todoK = (encAs l, true) ∧ (∀ a ∈ l, AcEn a ∧ AcOk a) ∧ l.length ≤ 1000 ∧ (encAs l).length ≤ 7000000 ∧ ((applyA D l).1 = 0 → CmOk T ops2 ∧ (applyA D l).2.Sm 549755813888) ∧ r = recE T D l
theorem DkS.sm {D : Dk} {n : Nat} (h : DkS n D) : D.Sm 549755813888 := ⟨h.b.lim, fun x hx => Nat.le_trans (h.k x hx).1 Zd⟩
theorem ok_ops2 : OpsOk ops2 := ⟨fun o ho hg => (by simp only [List.mem_cons, List.not_mem_nil, or_false] at ho; subst ho; rfl), Zd⟩
section
variable (D0 : Dk) (o1 o2 n1 n2 : List Ent)
abbrev twA : List Ac := twoA 0 1 o1 o2 n1 n2
abbrev twX : List UInt8 := encAs (finalE (twA o1 o2 n1 n2))
def ops1 : List Chg := ⟨kK, doneV, false⟩ :: if twA o1 o2 n1 n2 = [] then [] else [⟨todoK, twX o1 o2 n1 n2, false⟩]
def fn0 : Fn := fun _ => none
def fn1 : Fn := applyF fn0 (ops1 o1 o2 n1 n2)
def fn2 : Fn := if twA o1 o2 n1 n2 = [] then fn1 o1 o2 n1 n2 else applyF (fn1 o1 o2 n1 n2) ops2
def Ph (D : Dk) (f : Fn) : Prop :=
 (f = fn0 ∧ ∀ q, q ≠ stgP → ¬ sysF q → ndE (D.get q) = ndE (D0.get q)) ∨ (f = fn1 o1 o2 n1 n2 ∧ Betw D0 (twoF 0 1 o1 o2 n1 n2) D) ∨ (f = fn2 o1 o2 n1 n2 ∧ ∀ q, q ≠ stgP → ¬ sysF q → ndE (D.get q) = newN D0 (twoF 0 1 o1 o2 n1 n2) q)
structure Ba (m : Nat) (D : Dk) : Prop where
 w : DkW D
 firm : Firm D
 kl : Kl m D
structure Rn (n m : Nat) (D : Dk) (f : Fn) : Prop where
 b : Ba m D
 t : TabH n D f
 p : Ph D0 o1 o2 n1 n2 D f
structure De (n m : Nat) (D : Dk) : Prop where
 b : Ba m D
 c : SysC D
 t : ∀ loss, ∃ f, TabH n (D.restart loss) f ∧ Ph D0 o1 o2 n1 n2 D f
end
section
variable {D0 D D' : Dk} {o1 o2 n1 n2 : List Ent} {n m k : Nat} {f : Fn} {T : Tb}
theorem Ph.of (h : Ph D0 o1 o2 n1 n2 D f) (hw : DkW D') (hg : ∀ q, q ≠ stgP → ¬ sysF q → ndE (D'.get q) = ndE (D.get q)) : Ph D0 o1 o2 n1 n2 D' f := by
 rcases h with ⟨h1, h2⟩ | ⟨h1, h2⟩ | ⟨h1, h2⟩
 ·exact .inl ⟨h1, fun q a b => (hg q a b).trans (h2 q a b)⟩
 ·exact .inr (.inl ⟨h1, hw, fun q a b => by rw [hg q a b]; exact h2.node q a b⟩)
 ·exact .inr (.inr ⟨h1, fun q a b => (hg q a b).trans (h2 q a b)⟩)
theorem Ba.again (h : Ba m D) (loss : Int) : Ba m (D.restart loss) ∧ ∀ q, q ≠ stgP → ¬ sysF q → (D.restart loss).get q = D.get q := by
 have ha := restart_again h.w.nd loss
 refine ⟨⟨ha.w h.w, ha.firm h.firm, ?_, fun x hx => ?_⟩, fun q a b => ha.node h.firm b a⟩
 ·have := congrArg List.length ha.keys
  rw [List.length_map, List.length_map] at this
  rw [this]; exact h.kl.1
 ·have : x.1 ∈ D.items.map Prod.fst := by rw [← ha.keys]; exact List.mem_map_of_mem hx
  obtain ⟨y, hy, e⟩ := List.mem_map.1 this
  rw [← e]; exact h.kl.2 y hy
theorem Ba.arm (h : Ba m D) (a : Int) : Ba m (D.arm a) := ⟨h.w.arm a, h.firm.arm a, h.kl.arm a⟩
theorem Ba.mono (h : Ba m D) (hk : m ≤ k) : Ba k D := ⟨h.w, h.firm, h.kl.mono hk⟩
theorem Ba.sys {r : Int × Dk} (h : Ba m D) (hr : OpF sysF k D r) (hc : SysC r.2) : Ba (m + k) r.2 := ⟨h.w.sys hr hc, h.firm.sys h.w.nd hr, hr.key m h.kl⟩
theorem Rn.dead (h : Rn D0 o1 o2 n1 n2 n m D f) : De D0 o1 o2 n1 n2 n m D := ⟨h.b, h.t.sysC, fun loss => ⟨f, (h.t.restart loss).2, h.p⟩⟩
theorem De.again (h : De D0 o1 o2 n1 n2 n m D) (loss : Int) : ∃ f, Rn D0 o1 o2 n1 n2 n m (D.restart loss) f := by
 obtain ⟨f, h1, h2⟩ := h.t loss
 obtain ⟨b1, b2⟩ := h.b.again loss
 exact ⟨f, b1, h1, h2.of b1.w fun q a b => by rw [b2 q a b]⟩
theorem Rn.arm (h : Rn D0 o1 o2 n1 n2 n m D f) (a : Int) : Rn D0 o1 o2 n1 n2 n m (D.arm a) f := ⟨h.b.arm a, h.t.arm a, h.p.of (h.b.w.arm a) fun _ _ _ => rfl⟩
theorem Ph.sys {r : Int × Dk} (h : Ph D0 o1 o2 n1 n2 D f) (hn : (D.items.map Prod.fst).Nodup) (hr : OpF sysF k D r) (hw : DkW r.2) : Ph D0 o1 o2 n1 n2 r.2 f := h.of hw fun q _ b => by rw [hr.fr hn q b]
theorem Rn.open (h : Rn D0 o1 o2 n1 n2 n m D f) (hn : n ≤ 100) (hu : D.down = false) :
  ∃ D', (D.armed < 0 → D'.armed < 0) ∧ Ba (m + 3) D' ∧ Ph D0 o1 o2 n1 n2 D' f ∧ ((∃ T, tabOpen D sysP = (0, some T, D') ∧ TabL n T D' f) ∨ tabOpen D sysP = (14, none, D') ∧ ¬ D.armed < 0 ∧ D'.down = true ∧ De D0 o1 o2 n1 n2 n (m + 3) D') := by
 obtain ⟨D', hF, hc, hor⟩ := h.t.open hn hu
 have hb : Ba (m + 3) D' := h.b.sys hF hc
 have hp : Ph D0 o1 o2 n1 n2 D' f := h.p.sys h.b.w.nd hF hb.w
 refine ⟨D', fun ha => (hF.calm ha hu).1, hb, hp, ?_⟩
 rcases hor with ⟨T, h1, h2⟩ | ⟨h1, h2, h3⟩
 ·exact .inl ⟨T, h1, h2⟩
 ·exact .inr ⟨h1, fun ha => (by rw [(hF.calm ha hu).2] at h2; cases h2), h2, Rn.dead ⟨hb, h3, hp⟩⟩
theorem kK_todo : kK ≠ todoK := Zd
theorem fn1_get (o1 o2 n1 n2 : List Ent) (y : List UInt8) : fn1 o1 o2 n1 n2 y = if y = todoK ∧ twA o1 o2 n1 n2 ≠ [] then some (twX o1 o2 n1 n2) else if y = kK then some doneV else none := by
 unfold fn1 ops1 fn0
 by_cases h : twA o1 o2 n1 n2 = []
 ·rw [if_pos h, if_neg (fun hh => hh.2 h)]
  show (if y = kK then _ else _) = _
  rfl
 ·rw [if_neg h]
  show (if y = todoK then some _ else if y = kK then some doneV else none) = _
  by_cases e : y = todoK
  ·rw [if_pos e, if_pos ⟨e, h⟩]
  ·rw [if_neg e, if_neg (c := y = todoK ∧ _) (fun hh => e hh.1)]
theorem fn2_get (o1 o2 n1 n2 : List Ent) (y : List UInt8) : fn2 o1 o2 n1 n2 y = if y = kK then some doneV else none := by
 unfold fn2
 by_cases h : twA o1 o2 n1 n2 = []
 ·rw [if_pos h, fn1_get, if_neg (fun hh => hh.2 h)]
 ·rw [if_neg h]
  show (if y = todoK then none else fn1 o1 o2 n1 n2 y) = _
  rw [fn1_get]
  by_cases e : y = todoK
  ·rw [if_pos e, if_neg (by rw [e]; decide)]
  ·rw [if_neg e, if_neg (fun hh => e hh.1)]
end
section
variable {D0 D : Dk} {o1 o2 n1 n2 : List Ent} {n m : Nat} {f : Fn} {T : Tb}
theorem Two.few (h : Two D0 0 1 o1 o2 n1 n2) (l1 : o1.length ≤ 200) (l2 : o2.length ≤ 200) (l3 : n1.length ≤ 200) (l4 : n2.length ≤ 200) :
  (∀ a ∈ finalE (twA o1 o2 n1 n2), AcEn a) ∧ (finalE (twA o1 o2 n1 n2)).length ≤ 800 ∧ (twX o1 o2 n1 n2).length ≤ 4000000 := by
 have hlen : (finalE (twA o1 o2 n1 n2)).length ≤ 800 := by
  have h1 := final_len (twA o1 o2 n1 n2)
  have h2 : (twA o1 o2 n1 n2).length ≤ _ := twoA_len 0 1 o1 o2 n1 n2
  omega
 have hsm : ∀ a ∈ finalE (twA o1 o2 n1 n2), a.path.length ≤ 65 ∧ a.data.length ≤ 4096 ∧ 0 ≤ a.root ∧ a.root ≤ 6 ∧ (a.kind = 0 ∨ a.kind = 1 ∨ a.kind = 2) := fun a ha => by
  have hr := h.rootIn ha
  have hkd : (a.kind = 0 ∨ a.kind = 1 ∨ a.kind = 2) := (h.plan.kinds (fsA a) (List.mem_map_of_mem ha)).1
  have hm := final_mem ha
  rcases List.mem_append.1 hm with hm | hm
  ·rcases List.mem_append.1 hm with hm | hm
   ·obtain ⟨x, hx, _, rfl⟩ := mem_rem.1 hm
    exact ⟨(tree_small h.t1 hx).1, Nat.zero_le _, hr.1, hr.2, hkd⟩
   ·obtain ⟨x, hx, _, rfl⟩ := mem_put.1 hm
    exact ⟨(tree_small h.u1 hx).1, (tree_small h.u1 hx).2, hr.1, hr.2, hkd⟩
  ·rcases List.mem_append.1 hm with hm | hm
   ·obtain ⟨x, hx, _, rfl⟩ := mem_rem.1 hm
    exact ⟨(tree_small h.t2 hx).1, Nat.zero_le _, hr.1, hr.2, hkd⟩
   ·obtain ⟨x, hx, _, rfl⟩ := mem_put.1 hm
    exact ⟨(tree_small h.u2 hx).1, (tree_small h.u2 hx).2, hr.1, hr.2, hkd⟩
 have hen : ∀ a ∈ finalE (twA o1 o2 n1 n2), AcEn a := fun a ha => by
  obtain ⟨s1, s2, s3, s4, s5⟩ := hsm a ha
  exact ⟨Zo, Zo, Zo, Zo⟩
 refine ⟨hen, hlen, ?_⟩
 have h1 := encAs_flat hen (B := 4161) fun a ha => by have := hsm a ha; omega
 have h2 := putN_len10 (n := (finalE (twA o1 o2 n1 n2)).length) Zo
 have h3 : (finalE (twA o1 o2 n1 n2)).length * (4161 + 40) ≤ 800 * (4161 + 40) := Nat.mul_le_mul_right _ hlen
 show (encAs _).length ≤ _
 unfold encAs
 rw [List.length_append]
 omega
theorem fit1 (hX : (twX o1 o2 n1 n2).length ≤ 4000000) : FitF (fn1 o1 o2 n1 n2) := fit_few [kK, todoK] 4000100 (fun k v h => by
 rw [fn1_get] at h
 split at h
 ·rename_i e
  cases h
  rw [e.1]
  exact ⟨by simp, by simp; omega⟩
 ·split at h
  ·rename_i e
   cases h
   rw [e]
   exact ⟨by simp, Zd⟩
  ·cases h) Zd
theorem fit2 (o1 o2 n1 n2 : List Ent) : FitF (fn2 o1 o2 n1 n2) := fit_few [kK] 100 (fun k v h => by
 rw [fn2_get] at h
 split at h
 ·rename_i e
  cases h
  rw [e]
  exact ⟨by simp, Zd⟩
 ·cases h) Zd
theorem ok_ops1 (hX : (twX o1 o2 n1 n2).length ≤ 4000000) : OpsOk (ops1 o1 o2 n1 n2) := by
 unfold ops1
 split
 ·exact ⟨fun o ho hg => (by simp only [List.mem_cons, List.not_mem_nil, or_false] at ho; subst ho; cases hg), Zd⟩
 ·refine ⟨fun o ho hg => (by simp only [List.mem_cons, List.not_mem_nil, or_false] at ho; rcases ho with rfl | rfl <;> cases hg), ?_⟩
  simp only [szL, szO, List.map_cons, List.map_nil, List.sum_cons, List.sum_nil, List.length_cons, List.length_nil]
  omega
theorem recover_is (hp : Two D0 0 1 o1 o2 n1 n2) (l1 : o1.length ≤ 200) (l2 : o2.length ≤ 200) (l3 : n1.length ≤ 200) (l4 : n2.length ≤ 200)
  (ht : TabL n T D f) (hb : Ba m D) (hph : Ph D0 o1 o2 n1 n2 D f) (hn : n ≤ 99) (h15 : 15 ≤ n) :
  ∃ e T' D', RecIs T D (e, T', D') ∧ (e = 0 ∧ (D.armed < 0 → D'.armed < 0) ∧ (∃ f', TabL n T' D' f' ∧ Rn D0 o1 o2 n1 n2 n (m + 3000) D' f' ∧ (f = fn0 ∧ f' = fn0 ∨ f ≠ fn0 ∧ f' = fn2 o1 o2 n1 n2)) ∨ e = 14 ∧ ¬ D.armed < 0 ∧ D'.down = true ∧ De D0 o1 o2 n1 n2 (n + 1) (m + 3000) D') := by
 have hu := ht.up
 have h10 : fn1 o1 o2 n1 n2 ≠ fn0 := fun e => by
  have := congrFun e kK
  rw [fn1_get, if_neg (fun hh => kK_todo hh.1), if_pos rfl] at this
  cases this
 have h20 : fn2 o1 o2 n1 n2 ≠ fn0 := fun e => by
  have := congrFun e kK
  rw [fn2_get, if_pos rfl] at this
  cases this
 obtain ⟨hen, hlen, hX⟩ := hp.few l1 l2 l3 l4
 have none_ : (f = fn0 ∨ f = fn2 o1 o2 n1 n2) → ∃ e T' D', RecIs T D (e, T', D') ∧ (e = 0 ∧ (D.armed < 0 → D'.armed < 0) ∧ (∃ f', TabL n T' D' f' ∧ Rn D0 o1 o2 n1 n2 n (m + 3000) D' f' ∧ (f = fn0 ∧ f' = fn0 ∨ f ≠ fn0 ∧ f' = fn2 o1 o2 n1 n2)) ∨ e = 14 ∧ ¬ D.armed < 0 ∧ D'.down = true ∧ De D0 o1 o2 n1 n2 (n + 1) (m + 3000) D') := fun hf => by
  refine ⟨0, T, D, .inl ⟨?_, rfl⟩, .inl ⟨rfl, id, f, ht, ⟨hb.mono Zo, ht.held, hph⟩, ?_⟩⟩
  ·rw [getE_of ht.are]
   rcases hf with rfl | rfl
   ·rfl
   ·rw [fn2_get, if_neg (fun e => kK_todo e.symm)]; rfl
  ·rcases hf with rfl | rfl
   ·exact .inl ⟨rfl, rfl⟩
   ·exact .inr ⟨h20, rfl⟩
 rcases hph with ⟨rfl, hq⟩ | ⟨rfl, hbt⟩ | ⟨rfl, hq⟩
 ·exact none_ (.inl rfl)
 rotate_left
 ·exact none_ (.inr rfl)
 by_cases hA : twA o1 o2 n1 n2 = []
 ·have h12 : fn1 o1 o2 n1 n2 = fn2 o1 o2 n1 n2 := by unfold fn2; rw [if_pos hA]
  exact none_ (.inr h12)
 -- the steps
 have hget : getE T.rows todoK = (encAs (finalE (twA o1 o2 n1 n2)), true) := by
  rw [getE_of ht.are, fn1_get, if_pos ⟨rfl, hA⟩]; rfl
 have hidem : finalE (finalE (twA o1 o2 n1 n2)) = finalE (twA o1 o2 n1 n2) := final_idem (final_rise _)
 have happ : applyA D (finalE (twA o1 o2 n1 n2)) = runF D (twoF 0 1 o1 o2 n1 n2) := by
  unfold applyA
  rw [hidem, if_pos hp.roots]; rfl
 have hplan := hp.plan
 have hrun := hplan.run hbt hu
 have hds : DkS m D := .of_sys ht.held.sysC hb.kl
 have hdr := hds.runF hp.sizes
 have hfl : (twoF 0 1 o1 o2 n1 n2).length ≤ 800 := by unfold twoF; rw [List.length_map]; exact hlen
 have hfr : ∀ y, (∀ a ∈ twoF 0 1 o1 o2 n1 n2, y ≠ a.p) → y ≠ stgP → (runF D (twoF 0 1 o1 o2 n1 n2)).2.get y = D.get y := fun y => runF_fr hds hp.sizes
 have hnsys : ∀ p, sysF p → (runF D (twoF 0 1 o1 o2 n1 n2)).2.get p = D.get p := fun p hs => hfr p (fun a ha e => (hplan.ok a ha).2.2.2 (e ▸ hs)) (fun e => stg_nf (e ▸ hs))
 have hsysP : (runF D (twoF 0 1 o1 o2 n1 n2)).2.get sysP = D.get sysP := hfr sysP (fun a ha e => by
  have := (hplan.ok a ha).2.1
  rw [← e] at this
  exact absurd this Zd) Zd
 have hf2 : applyF (fn1 o1 o2 n1 n2) ops2 = fn2 o1 o2 n1 n2 := by unfold fn2; rw [if_neg hA]
 have hcm0 : CmOk T ops2 := ht.cmOk Zo ok_ops2 (by rw [hf2]; exact fit2 o1 o2 n1 n2)
 have hrec : ∀ r, r = recE T D (finalE (twA o1 o2 n1 n2)) → RecIs T D r := fun r hr => .inr ⟨_, hget, fun a ha => ⟨hen a ha, hp.acts a (final_mem ha)⟩, Zo, Nat.le_trans hX Zd, fun _ => ⟨hcm0, by rw [happ]; exact hdr.sm⟩, hr⟩
 unfold recE at hrec
 rw [happ] at hrec
 have hfirm := hrun.firm hb.firm
 obtain ⟨hor, hcalm, _⟩ := hrun
 generalize runF D (twoF 0 1 o1 o2 n1 n2) = r at *
 obtain ⟨e, D1⟩ := r
 dsimp only at *
 have hc1 : DkW D1 → SysC D1 := fun hw => SysC.of hw hdr (by rw [Dk.at_get, hsysP, ← Dk.at_get]; exact ht.held.sysC.firm)
 rcases hor with ⟨rfl, hdn, hb1⟩ | ⟨rfl, hup, hb1, hnew⟩
 ·rw [if_pos Zd] at hrec
  refine ⟨_, _, _, hrec _ rfl, .inr ⟨rfl, fun ha => absurd (hcalm ha).1 Zd, hdn, ⟨⟨hb1.w, hfirm, hdr.kl.mono Zo⟩, hc1 hb1.w, fun loss => ⟨fn1 o1 o2 n1 n2, ?_, .inr (.inl ⟨rfl, hb1⟩)⟩⟩⟩⟩
  exact (((ht.held.same (hc1 hb1.w) hnsys).restart loss).2).mono (Nat.le_succ _)
 ·rw [if_neg (fun h => h rfl)] at hrec
  have hba : Ba (m + 2400) D1 := ⟨hb1.w, hfirm, hdr.kl.mono Zo⟩
  have ht1 := ht.same (hc1 hb1.w) hup hnsys
  obtain ⟨e, T', D2, hcm, hF, hc2, hor⟩ := ht1.commit hn h15 Zd ok_ops2 (by rw [hf2]; exact fit2 o1 o2 n1 n2)
  rw [hcm] at hrec
  rw [hf2] at hor
  have hba2 : Ba (m + 3000) D2 := (hba.sys hF hc2).mono Zo
  have hph1 : Ph D0 o1 o2 n1 n2 D2 (fn1 o1 o2 n1 n2) := Ph.sys (r := (e, D2)) (.inr (.inl ⟨rfl, hb1⟩)) hb1.w.nd hF hba2.w
  have hph2 : Ph D0 o1 o2 n1 n2 D2 (fn2 o1 o2 n1 n2) := Ph.sys (r := (e, D2)) (.inr (.inr ⟨rfl, hnew⟩)) hb1.w.nd hF hba2.w
  refine ⟨e, T', D2, hrec _ rfl, ?_⟩
  rcases hor with ⟨rfl, ht2⟩ | ⟨rfl, hdn, hcr⟩
  ·exact .inl ⟨rfl, fun ha => (hF.calm (hcalm ha).2 hup).1, _, ht2, ⟨hba2, ht2.held, hph2⟩, .inr ⟨h10, rfl⟩⟩
  ·refine .inr ⟨rfl, fun ha => ?_, hdn, hba2, hc2, fun loss => ?_⟩
   ·have := (hF.calm (hcalm ha).2 hup).2
    rw [hdn] at this; cases this
   ·rcases hcr loss with h | h
    ·exact ⟨_, h, hph1⟩
    ·exact ⟨_, h, hph2⟩
theorem run_is (hp : Two D0 0 1 o1 o2 n1 n2) (l1 : o1.length ≤ 200) (l2 : o2.length ≤ 200) (l3 : n1.length ≤ 200) (l4 : n2.length ≤ 200)
  (ht : TabL n T D fn0) (hb : Ba m D) (hph : Ph D0 o1 o2 n1 n2 D fn0) (hn : n ≤ 98) (h15 : 15 ≤ n) :
  ∃ e1 T1 D1, tabCommit T D (ops1 o1 o2 n1 n2) = (e1, T1, D1) ∧ ((e1 = 14 ∧ D1.down = true ∧ De D0 o1 o2 n1 n2 (n + 1) (m + 4000) D1) ∨
   e1 = 0 ∧ TabL n T1 D1 (fn1 o1 o2 n1 n2) ∧ Ba (m + 8) D1 ∧ ∃ e T' D', RecIs T1 D1 (e, T', D') ∧ (e = 0 ∧ D'.down = false ∧ Rn D0 o1 o2 n1 n2 n (m + 4000) D' (fn2 o1 o2 n1 n2) ∨ e = 14 ∧ D'.down = true ∧ De D0 o1 o2 n1 n2 (n + 1) (m + 4000) D')) := by
 obtain ⟨hen, hlen, hX⟩ := hp.few l1 l2 l3 l4
 have h10 : fn1 o1 o2 n1 n2 ≠ fn0 := fun e => by
  have := congrFun e kK
  rw [fn1_get, if_neg (fun hh => kK_todo hh.1), if_pos rfl] at this
  cases this
 have hne : ops1 o1 o2 n1 n2 ≠ [] := by unfold ops1; exact List.cons_ne_nil _ _
 obtain ⟨e, T1, D1, hcm, hF, hc1, hor⟩ := ht.commit Zo h15 hne (ok_ops1 hX) (fit1 hX)
 have hb1 := hb.sys hF hc1
 have hq : ∀ q, q ≠ stgP → ¬ sysF q → ndE (D.get q) = ndE (D0.get q) := by
  rcases hph with ⟨_, h⟩ | ⟨h, _⟩ | ⟨h, _⟩
  ·exact h
  ·exact absurd h.symm h10
  ·have := congrFun h kK
   rw [fn2_get, if_pos rfl] at this
   cases this
 have hbt : Betw D0 (twoF 0 1 o1 o2 n1 n2) D := ⟨hb.w, fun q a b => .inl (hq q a b)⟩
 have hph1 : Ph D0 o1 o2 n1 n2 D1 (fn1 o1 o2 n1 n2) := Ph.sys (r := (e, D1)) (.inr (.inl ⟨rfl, hbt⟩)) hb.w.nd hF hb1.w
 have hph0 : Ph D0 o1 o2 n1 n2 D1 fn0 := hph.sys (r := (e, D1)) hb.w.nd hF hb1.w
 refine ⟨e, T1, D1, hcm, ?_⟩
 rcases hor with ⟨rfl, ht1⟩ | ⟨rfl, hdn, hcr⟩
 ·have ht1 : TabL n T1 D1 (fn1 o1 o2 n1 n2) := ht1
  refine .inr ⟨rfl, ht1, hb1, ?_⟩
  obtain ⟨e2, T2, D2, hr, hor⟩ := recover_is hp l1 l2 l3 l4 ht1 hb1 hph1 Zo h15
  refine ⟨e2, T2, D2, hr, ?_⟩
  rcases hor with ⟨rfl, _, f', ht2, hrn, hf⟩ | ⟨rfl, _, hdn, hde⟩
  ·rcases hf with ⟨h, _⟩ | ⟨_, rfl⟩
   ·exact absurd h h10
   ·exact .inl ⟨rfl, ht2.up, hrn.b.mono Zo, hrn.t, hrn.p⟩
  ·exact .inr ⟨rfl, hdn, hde.b.mono Zo, hde.c, hde.t⟩
 ·refine .inl ⟨rfl, hdn, hb1.mono Zo, hc1, fun loss => ?_⟩
  rcases hcr loss with h | h
  ·exact ⟨_, h, hph0⟩
  ·exact ⟨_, h, hph1⟩
end
open Go Go.J Go.RowKit
theorem avrec_ret {rb : Nat} {e0 : Int} {w0 : World} (hI : InL w0 [.box rb 30 [.int .i64 e0]]) : CallsD Tryz.prog 120 #[.pointer (some ⟨rb, 0, none⟩)] .returning w0 (fun e u' w' => u' = .returning ∧ (∃ x, e = .returned x) ∧ MutL w0 w' [.box rb 30 [.int .i64 e0]] [.box rb 30 [.int .i64 e0]]) := by
 refine CallsD.mono (callsD_rec (args := [.pointer (some ⟨rb, 0, none⟩)]) (R := fun _ w' => MutL w0 w' [.box rb 30 [.int .i64 e0]] [.box rb 30 [.int .i64 e0]]) Tryz.func120 rfl rfl rfl rfl rfl rfl (.inl ⟨rfl, rfl, rfl⟩) ?_) ?_
 ·have hS := St.initL hI
  repeat' (first | (show WL _ _ _ _ _ _ _; first | refine WL.pure rfl rfl rfl rfl ?_ | refine WL.nil ?_ | (refine WL.neNil0 rfl rfl rfl rfl rfl rfl ?_)) | (show WC _ _ _ _ _ _; first | refine WC.seq ?_ | refine WC.region ?_ | refine WC.skip ?_ | refine WC.condF rfl Zr ?_) | refine seqQ_n ?_)
  exact fin0n rfl (hS.mutLp Pu)
 ·rintro e u' w' ⟨rfl, v, rfl, h⟩
  exact ⟨rfl, ⟨_, rfl⟩, h⟩
theorem avrec_pan {rb : Nat} {e0 e : Int} {w0 : World} (hI : InL w0 [.box rb 30 [.int .i64 e0]]) : CallsD Tryz.prog 120 #[.pointer (some ⟨rb, 0, none⟩)] (.panicking (haltE e)) w0 (fun en u' w' => u' = .panicking [⟨.iface 220 (.agg ⟨[.int .i64 e]⟩), true, false⟩] ∧ (∃ x, en = .returned x) ∧ MutL w0 w' [.box rb 30 [.int .i64 e0]] [.box rb 30 [.int .i64 e]]) := by
 refine CallsD.mono (callsD_rec (args := [.pointer (some ⟨rb, 0, none⟩)]) (R := fun _ w' => MutL w0 w' [.box rb 30 [.int .i64 e0]] [.box rb 30 [.int .i64 e]]) Tryz.func120 rfl rfl rfl rfl rfl rfl (.inr ⟨rfl, rfl⟩) ?_) ?_
 ·have hS := St.initL hI
  repeat' (first | (show WL _ _ _ _ _ _ _; first | refine WL.pure rfl rfl rfl rfl ?_ | refine WL.nil ?_ | (refine WL.neNil1 rfl rfl rfl rfl rfl rfl ?_) | (refine WL.calls hS rfl rfl (caught_c e _) rfl rfl rfl ?_; rintro v w rfl hS) | (refine WL.store hS rfl rfl rfl Sb rfl rfl rfl ?_; intro w hS)) | (show WC _ _ _ _ _ _; first | refine WC.seq ?_ | refine WC.region ?_ | refine WC.condT rfl Zr ?_) | refine seqQ_n ?_)
  exact fin0n rfl (hS.mutLp Pu)
 ·rintro en u' w' ⟨rfl, v, rfl, h⟩
  exact ⟨rfl, ⟨_, rfl⟩, h⟩
section
variable {w w0 : World} {M : List Nat} {H : List Chunk} {Z : List Snap} {rb : Nat} {e0 e : Int} {R : Ending → World → Prop} {tmps : Array Value}
theorem av_res {e0 : Int} (hS : St w0 M w (.box rb 30 [.int .i64 e0] :: H) Z) (ht : tmps.getD 4 undef = .pointer (some ⟨rb, 0, none⟩)) : (results Tryz.f58 tmps).run Tryz.prog w = .ok (.int .i64 e0) w := by
 have h2 := hS.loads (P := Tryz.prog) (ty := 30) (a := ⟨rb, 0, none⟩) (v := .int .i64 e0) (LdOk.box (.head _) rfl)
 have h3 : Tryz.f58.results = #[.cell 4 30] := rfl
 simp only [Array.getD_eq_getD_getElem?] at ht
 simp [results, h3, ht, h2, asAddr, Sem.run_bind]
theorem av_inv : (invoke (.fn (.func 120) ⟨[.pointer (some ⟨rb, 0, none⟩)]⟩) #[]).run Tryz.prog w = .ok (.enter 120 ([.pointer (some ⟨rb, 0, none⟩)] : List Value).toArray) w :=
 run_callFunc Zk _
theorem av_ret (hS : St w0 M w (.box rb 30 [.int .i64 e0] :: H) Z) (ht : tmps.getD 4 undef = .pointer (some ⟨rb, 0, none⟩)) (hR : ∀ w', St w0 M w' (.box rb 30 [.int .i64 e0] :: H) Z → R (.returned (.int .i64 e0)) w') :
  Leaves Tryz.prog Tryz.f58 tmps R [⟨.fn (.func 120) ⟨[.pointer (some ⟨rb, 0, none⟩)]⟩, #[]⟩] .returning w := by
 have hS' : St w0 M w ([.box rb 30 [.int .i64 e0]] ++ H) Z := hS
 exact leaves_ret av_inv (avrec_ret hS'.inL) fun w' hm => ⟨_, av_res (hS'.mutL hm) ht, hR w' (hS'.mutL hm)⟩
theorem av_pan (hS : St w0 M w (.box rb 30 [.int .i64 e0] :: H) Z) (ht : tmps.getD 4 undef = .pointer (some ⟨rb, 0, none⟩)) (hR : ∀ w', St w0 M w' (.box rb 30 [.int .i64 e] :: H) Z → R (.returned (.int .i64 e)) w') :
  Leaves Tryz.prog Tryz.f58 tmps R [⟨.fn (.func 120) ⟨[.pointer (some ⟨rb, 0, none⟩)]⟩, #[]⟩] (.panicking (haltE e)) w := by
 have hS' : St w0 M w ([.box rb 30 [.int .i64 e0]] ++ H) Z := hS
 exact leaves_pan av_inv (avrec_pan hS'.inL) fun w' hm => ⟨_, av_res (hS'.mutL hm) ht, hR w' (hS'.mutL hm)⟩
end
theorem aurec_ret {rb : Nat} {e0 : Int} {w0 : World} (hI : InL w0 [.box rb 30 [.int .i64 e0]]) : CallsD Tryz.prog 118 #[.pointer (some ⟨rb, 0, none⟩)] .returning w0 (fun e u' w' => u' = .returning ∧ (∃ x, e = .returned x) ∧ MutL w0 w' [.box rb 30 [.int .i64 e0]] [.box rb 30 [.int .i64 e0]]) := by
 refine CallsD.mono (callsD_rec (args := [.pointer (some ⟨rb, 0, none⟩)]) (R := fun _ w' => MutL w0 w' [.box rb 30 [.int .i64 e0]] [.box rb 30 [.int .i64 e0]]) Tryz.func118 rfl rfl rfl rfl rfl rfl (.inl ⟨rfl, rfl, rfl⟩) ?_) ?_
 ·have hS := St.initL hI
  repeat' (first | (show WL _ _ _ _ _ _ _; first | refine WL.pure rfl rfl rfl rfl ?_ | refine WL.nil ?_ | (refine WL.neNil0 rfl rfl rfl rfl rfl rfl ?_)) | (show WC _ _ _ _ _ _; first | refine WC.seq ?_ | refine WC.region ?_ | refine WC.skip ?_ | refine WC.condF rfl Zr ?_) | refine seqQ_n ?_)
  exact fin0n rfl (hS.mutLp Pu)
 ·rintro e u' w' ⟨rfl, v, rfl, h⟩
  exact ⟨rfl, ⟨_, rfl⟩, h⟩
theorem aurec_pan {rb : Nat} {e0 e : Int} {w0 : World} (hI : InL w0 [.box rb 30 [.int .i64 e0]]) : CallsD Tryz.prog 118 #[.pointer (some ⟨rb, 0, none⟩)] (.panicking (haltE e)) w0 (fun en u' w' => u' = .panicking [⟨.iface 220 (.agg ⟨[.int .i64 e]⟩), true, false⟩] ∧ (∃ x, en = .returned x) ∧ MutL w0 w' [.box rb 30 [.int .i64 e0]] [.box rb 30 [.int .i64 e]]) := by
 refine CallsD.mono (callsD_rec (args := [.pointer (some ⟨rb, 0, none⟩)]) (R := fun _ w' => MutL w0 w' [.box rb 30 [.int .i64 e0]] [.box rb 30 [.int .i64 e]]) Tryz.func118 rfl rfl rfl rfl rfl rfl (.inr ⟨rfl, rfl⟩) ?_) ?_
 ·have hS := St.initL hI
  repeat' (first | (show WL _ _ _ _ _ _ _; first | refine WL.pure rfl rfl rfl rfl ?_ | refine WL.nil ?_ | (refine WL.neNil1 rfl rfl rfl rfl rfl rfl ?_) | (refine WL.calls hS rfl rfl (caught_c e _) rfl rfl rfl ?_; rintro v w rfl hS) | (refine WL.store hS rfl rfl rfl Sb rfl rfl rfl ?_; intro w hS)) | (show WC _ _ _ _ _ _; first | refine WC.seq ?_ | refine WC.region ?_ | refine WC.condT rfl Zr ?_) | refine seqQ_n ?_)
  exact fin0n rfl (hS.mutLp Pu)
 ·rintro en u' w' ⟨rfl, v, rfl, h⟩
  exact ⟨rfl, ⟨_, rfl⟩, h⟩
section
variable {w w0 : World} {M : List Nat} {H : List Chunk} {Z : List Snap} {rb : Nat} {e0 e : Int} {R : Ending → World → Prop} {tmps : Array Value}
theorem au_res {e0 : Int} (hS : St w0 M w (.box rb 30 [.int .i64 e0] :: H) Z) (ht : tmps.getD 8 undef = .pointer (some ⟨rb, 0, none⟩)) : (results Tryz.f57 tmps).run Tryz.prog w = .ok (.int .i64 e0) w := by
 have h2 := hS.loads (P := Tryz.prog) (ty := 30) (a := ⟨rb, 0, none⟩) (v := .int .i64 e0) (LdOk.box (.head _) rfl)
 have h3 : Tryz.f57.results = #[.cell 8 30] := rfl
 simp only [Array.getD_eq_getD_getElem?] at ht
 simp [results, h3, ht, h2, asAddr, Sem.run_bind]
theorem au_inv : (invoke (.fn (.func 118) ⟨[.pointer (some ⟨rb, 0, none⟩)]⟩) #[]).run Tryz.prog w = .ok (.enter 118 ([.pointer (some ⟨rb, 0, none⟩)] : List Value).toArray) w :=
 run_callFunc Zk _
theorem au_ret (hS : St w0 M w (.box rb 30 [.int .i64 e0] :: H) Z) (ht : tmps.getD 8 undef = .pointer (some ⟨rb, 0, none⟩)) (hR : ∀ w', St w0 M w' (.box rb 30 [.int .i64 e0] :: H) Z → R (.returned (.int .i64 e0)) w') :
  Leaves Tryz.prog Tryz.f57 tmps R [⟨.fn (.func 118) ⟨[.pointer (some ⟨rb, 0, none⟩)]⟩, #[]⟩] .returning w := by
 have hS' : St w0 M w ([.box rb 30 [.int .i64 e0]] ++ H) Z := hS
 exact leaves_ret au_inv (aurec_ret hS'.inL) fun w' hm => ⟨_, au_res (hS'.mutL hm) ht, hR w' (hS'.mutL hm)⟩
theorem au_pan (hS : St w0 M w (.box rb 30 [.int .i64 e0] :: H) Z) (ht : tmps.getD 8 undef = .pointer (some ⟨rb, 0, none⟩)) (hR : ∀ w', St w0 M w' (.box rb 30 [.int .i64 e] :: H) Z → R (.returned (.int .i64 e)) w') :
  Leaves Tryz.prog Tryz.f57 tmps R [⟨.fn (.func 118) ⟨[.pointer (some ⟨rb, 0, none⟩)]⟩, #[]⟩] (.panicking (haltE e)) w := by
 have hS' : St w0 M w ([.box rb 30 [.int .i64 e0]] ++ H) Z := hS
 exact leaves_pan au_inv (aurec_pan hS'.inL) fun w' hm => ⟨_, au_res (hS'.mutL hm) ht, hR w' (hS'.mutL hm)⟩
end
theorem arecover_c {Tp q mb lb n : Nat} {D : Dk} {T : Tb} {r : Int × Tb × Dk} {fp : List Nat} {w0 : World} (hI : InL w0 [tabC Tp q T fp, dkC q mb lb D]) (hr : RecIs T D r) (hB : DkB n D) (hn : n ≤ 300000) (hp : PowI w0 (fps [tabC Tp q T fp, dkC q mb lb D])) :
  Cal Tryz.prog 58 [.pointer (some ⟨Tp, 0, none⟩), .pointer (some ⟨q, 0, none⟩)] w0 (fun v w' => v = .int .i64 r.1 ∧ ∃ fp', MutL w0 w' [tabC Tp q T fp, dkC q mb lb D] [tabC Tp q r.2.1 fp', dkC q mb lb r.2.2]) := by
 refine ⟨Zk, callsR (args := [.pointer (some ⟨Tp, 0, none⟩), .pointer (some ⟨q, 0, none⟩)]) Tryz.func58 rfl rfl ?_⟩
 have hS := St.initL hI
 refine WR.seq (Q0 := noQ) rfl noQ_ok ?_
 repeat' (first | (show WL _ _ _ _ _ _ _; first | refine WL.nil ?_ | (refine WL.alloc hS rfl rfl rfl rfl rfl rfl ?_; intro w b hS)) | (show WC _ _ _ _ _ _; first | refine WC.region ?_) | fail)
 show WR _ _ _ _ _ _
 obtain ⟨rb, hrb⟩ : ∃ rb, rb = b := ⟨_, rfl⟩
 subst hrb
 refine WR.defer (n := 1) (z := .tmp 10) 5 rfl rfl rfl rfl rfl ?_
 show WL _ _ _ [_] _ _ _
 repeat' (first | (show WL _ _ _ _ _ _ _; first | refine WL.pure rfl rfl rfl rfl ?_ | refine WL.nil ?_) | fail)
 refine ⟨.func 120, ⟨[.pointer (some ⟨rb, 0, none⟩)]⟩, rfl, ?_⟩
 refine WR.ofC (Q0 := endQ0 _ _ _ [] [⟨.fn (.func 120) ⟨[.pointer (some ⟨rb, 0, none⟩)]⟩, #[]⟩] _) rfl ?_ (endQ0_ok rfl)
 rcases hr with ⟨hgt, rfl⟩ | ⟨l, hgt, hea, hll, hxl, hc, rfl⟩
 ·repeat' (first | (show WL _ _ _ _ _ _ _; first | refine WL.pure rfl rfl rfl rfl ?_ | refine WL.nil ?_ | (refine WL.callL (D := [tabC Tp q T fp]) hS Pu rfl rfl (fun hI => tget_c todoK hI) rfl rfl rfl ?_; rintro v w ⟨rfl, hmu⟩ hS; dsimp only; rw [hgt]; replace hS := hS _ hmu; clear hmu) | (refine WL.store hS rfl rfl rfl Sb rfl rfl rfl ?_; intro w hS)) | (show WC _ _ _ _ _ _; first | refine WC.seq ?_ | refine WC.region ?_ | refine WC.skip ?_ | refine WC.ret ?_ | refine WC.condF rfl Zr ?_ | refine WC.condT rfl Zd ?_) | refine seqQ_n ?_ | refine seqQ_r ?_)
  intro a ha
  exact av_ret (e0 := 0) (hS.pulls (D := [.box rb 30 [.int .i64 0]]) Pu) (ha.get 4) fun w' hS' => ⟨_, rfl, rfl, _, hS'.mutLp Pu⟩
 have hen : ∀ a ∈ l, AcEn a := fun a ha => (hea a ha).1
 have hac : ∀ a ∈ l, AcOk a := fun a ha => (hea a ha).2
 have hap := fun q mb lb A cap (w : World) (hI : InL w [dkC q mb lb D]) (hA : SlAt cAc (fun b => b < w.heap.size ∧ b ∉ fps [dkC q mb lb D]) w A l) (hp : PowI w (fps [dkC q mb lb D])) => aapply_c (cap := cap) l hI hA Zo hac hB Zo hp
 unfold recE
 generalize applyA D l = s at *
 obtain ⟨e, D1⟩ := s
 dsimp only at hc hap ⊢
 by_cases he : e = 0
 ·subst he
  obtain ⟨hcm, hsm⟩ := hc rfl
  rw [if_neg (fun h => h rfl)]
  rcases hct : tabCommit T D1 ops2 with ⟨e2, T2, D2⟩
  repeat' (first | (show WL _ _ _ _ _ _ _; first | refine WL.pure rfl rfl rfl rfl ?_ | refine WL.nil ?_ | (refine WL.callL (D := [tabC Tp q T fp]) hS Pu rfl rfl (fun hI => tget_c todoK hI) rfl rfl rfl ?_; rintro v w ⟨rfl, hmu⟩ hS; dsimp only; rw [hgt]; replace hS := hS _ hmu; clear hmu) | (refine WL.callG rfl rfl (adecode_c l _ hen Zo Zo) rfl rfl rfl ?_; rintro v w ⟨hu, A1, c1, rfl, hn⟩; replace hS := hS.new hu hn; clear hu hn) | (refine WL.callL (D := [dkC q mb lb D]) hS Pu rfl rfl (fun hI => hap _ _ _ _ _ _ hI (St.ownSlY (enc := encAc) (hsz := encAc_len) (l := l) Zd (hS.pulls Pu) (by repeat (first | exact Zh | apply List.Mem.tail))) (hp.pull hS Pu)) rfl rfl rfl ?_; rintro v w ⟨rfl, hm⟩ hS; replace hS := hS _ hm; clear hm) | (refine WL.callP0 hS rfl rfl (must_c _ _) rfl rfl rfl (fun v w _ hS => ?_) (fun c w hz hS => absurd rfl hz.2)) | (refine WL.callG rfl rfl (begin_c _) rfl rfl rfl ?_; rintro v w ⟨hu, B, fb, rfl, hn⟩; replace hS := hS.new hu hn; clear hu hn) | (refine WL.callL (D := [bchC B (some ⟨Tp, 0, none⟩) [] _]) hS Pu rfl rfl (fun hI => bdrop_c todoK hI.head hI.headB (by show 0 ≤ 1099511627; omega)) rfl rfl rfl ?_; rintro v w ⟨rfl, fb, hmu⟩ hS; replace hS : St _ _ w (bchC B (some ⟨Tp, 0, none⟩) [(todoK, ⟨todoK, [], true⟩)] fb :: _) _ := hS _ (.of1 hmu); clear hmu) | (refine WL.callL (D := [bchC B (some ⟨Tp, 0, none⟩) [(todoK, ⟨todoK, [], true⟩)] fb, tabC Tp q T fp, dkC q mb lb D1]) hS Pu rfl rfl (fun hI => bcommit_c hI hct hcm.dir hcm.log hsm hcm.reco hcm.recs (show 1 ≤ _ by decide) hcm.pack hcm.few hcm.keys) rfl rfl rfl ?_; rintro v w ⟨rfl, fb2, fp2, hmu⟩ hS; replace hS := hS _ hmu; clear hmu) | (refine WL.store hS rfl rfl rfl Sb rfl rfl rfl ?_; intro w hS)) | (show WC _ _ _ _ _ _; first | refine WC.seq ?_ | refine WC.region ?_ | refine WC.skip ?_ | refine WC.ret ?_ | refine WC.condF rfl Zr ?_ | refine WC.condF rfl Zs ?_) | refine seqQ_n ?_)
  intro a ha
  exact av_ret (e0 := e2) (hS.pulls (D := [.box rb 30 [.int .i64 e2]]) Pu) (ha.get 4) fun w' hS' => ⟨_, rfl, rfl, _, hS'.mutLp Pu⟩
 ·rw [if_pos he]
  clear hc
  repeat' (first | (show WL _ _ _ _ _ _ _; first | refine WL.pure rfl rfl rfl rfl ?_ | refine WL.nil ?_ | (refine WL.callL (D := [tabC Tp q T fp]) hS Pu rfl rfl (fun hI => tget_c todoK hI) rfl rfl rfl ?_; rintro v w ⟨rfl, hmu⟩ hS; dsimp only; rw [hgt]; replace hS := hS _ hmu; clear hmu) | (refine WL.callG rfl rfl (adecode_c l _ hen Zo Zo) rfl rfl rfl ?_; rintro v w ⟨hu, A1, c1, rfl, hn⟩; replace hS := hS.new hu hn; clear hu hn) | (refine WL.callL (D := [dkC q mb lb D]) hS Pu rfl rfl (fun hI => hap _ _ _ _ _ _ hI (St.ownSlY (enc := encAc) (hsz := encAc_len) (l := l) Zd (hS.pulls Pu) (by repeat (first | exact Zh | apply List.Mem.tail))) (hp.pull hS Pu)) rfl rfl rfl ?_; rintro v w ⟨rfl, hm⟩ hS; replace hS := hS _ hm; clear hm) | (refine WL.callP0 hS rfl rfl (must_c 0 _) rfl rfl rfl (fun v w _ hS => ?_) (fun c w hz hS => absurd rfl hz.2)) | (refine WL.callP0 hS rfl rfl (must_c e _) rfl rfl rfl (fun v w hz hS => absurd hz he) (fun c w hz hS => ?_))) | (show WC _ _ _ _ _ _; first | refine WC.seq ?_ | refine WC.region ?_ | refine WC.skip ?_ | refine WC.condF rfl Zr ?_ | refine WC.condF rfl Zs ?_) | refine seqQ_n ?_)
  repeat (first | refine blkQ_p ?_ | refine seqQ_p ?_ | refine rndQ_p ?_)
  intro tmps hpin
  obtain ⟨rfl, _⟩ := hz
  exact av_pan (e0 := 0) (hS.pulls (D := [.box rb 30 [.int .i64 0]]) Pu) (hpin 4 (show 4 < 5 by decide)) fun w' hS' => ⟨_, rfl, rfl, _, hS'.mutLp Pu⟩
theorem arun_c {B Tp q mb lb n : Nat} {D D1 : Dk} {T T1 : Tb} {m : Bch} {l : List Ac} {A : Option Addr} {cap : Nat} {e1 : Int} {r : Int × Tb × Dk} {fb fp : List Nat} {w0 : World} (hI : InL w0 [bchC B (some ⟨Tp, 0, none⟩) m fb, tabC Tp q T fp, dkC q mb lb D]) (hA : SlAt cAc (fun b => b < w0.heap.size ∧ b ∉ fps [bchC B (some ⟨Tp, 0, none⟩) m fb, tabC Tp q T fp, dkC q mb lb D]) w0 A l) (hl : l.length ≤ 1000)
  (hen : ∀ a ∈ finalE l, AcEn a) (hxl : (encAs (finalE l)).length ≤ 7000000) (hml : m.length ≤ 1000) (hct : tabCommit T D ((if l = [] then m else noteE m ⟨todoK, encAs (finalE l), false⟩).map Prod.snd) = (e1, T1, D1)) (hcm : CmOk T ((if l = [] then m else noteE m ⟨todoK, encAs (finalE l), false⟩).map Prod.snd)) (hsm : D.Sm 549755813888)
  (hr : (e1 ≠ 0 ∧ r = (e1, T1, D1)) ∨ (e1 = 0 ∧ RecIs T1 D1 r ∧ DkB n D1 ∧ n ≤ 300000))
  (hp : PowI w0 (fps [bchC B (some ⟨Tp, 0, none⟩) m fb, tabC Tp q T fp, dkC q mb lb D])) :
  Cal Tryz.prog 57 [.pointer (some ⟨Tp, 0, none⟩), .pointer (some ⟨q, 0, none⟩), .pointer (some ⟨B, 0, none⟩), .slice A l.length cap] w0 (fun v w' => v = .int .i64 r.1 ∧ ∃ m' fb' fp', MutL w0 w' [bchC B (some ⟨Tp, 0, none⟩) m fb, tabC Tp q T fp, dkC q mb lb D] [bchC B (some ⟨Tp, 0, none⟩) m' fb', tabC Tp q r.2.1 fp', dkC q mb lb r.2.2]) := by
 refine ⟨Zk, callsR (args := [.pointer (some ⟨Tp, 0, none⟩), .pointer (some ⟨q, 0, none⟩), .pointer (some ⟨B, 0, none⟩), .slice A l.length cap]) Tryz.func57 rfl rfl ?_⟩
 have hS := St.initL hI
 have hfl := final_len l
 have hnl := mset_leA m todoK (⟨todoK, encAs (finalE l), false⟩ : Chg)
 refine WR.seq (Q0 := noQ) rfl noQ_ok ?_
 repeat' (first | (show WL _ _ _ _ _ _ _; first | refine WL.nil ?_ | (refine WL.alloc hS rfl rfl rfl rfl rfl rfl ?_; intro w b hS)) | (show WC _ _ _ _ _ _; first | refine WC.region ?_) | fail)
 show WR _ _ _ _ _ _
 obtain ⟨rb, hrb⟩ : ∃ rb, rb = b := ⟨_, rfl⟩
 subst hrb
 refine WR.defer (n := 1) (z := .tmp 9) 9 rfl rfl rfl rfl rfl ?_
 show WL _ _ _ [_] _ _ _
 repeat' (first | (show WL _ _ _ _ _ _ _; first | refine WL.pure rfl rfl rfl rfl ?_ | refine WL.nil ?_) | fail)
 refine ⟨.func 118, ⟨[.pointer (some ⟨rb, 0, none⟩)]⟩, rfl, ?_⟩
 refine WR.ofC (Q0 := endQ0 _ _ _ [] [⟨.fn (.func 118) ⟨[.pointer (some ⟨rb, 0, none⟩)]⟩, #[]⟩] _) rfl ?_ (endQ0_ok rfl)
 by_cases hl0 : l = []
 ·subst hl0
  rw [if_pos rfl] at hct hcm
  rcases hr with ⟨he, rfl⟩ | ⟨rfl, hri, hb, hnb⟩
  ·repeat' (first | (show WL _ _ _ _ _ _ _; first | refine WL.pure rfl rfl rfl rfl ?_ | refine WL.nil ?_ | (refine WL.callL (D := [bchC B (some ⟨Tp, 0, none⟩) m fb, tabC Tp q T fp, dkC q mb lb D]) hS Pu rfl rfl (fun hI => bcommit_c hI hct hcm.dir hcm.log hsm hcm.reco hcm.recs (by first | omega | (show (mset m todoK _).length ≤ _; omega)) hcm.pack hcm.few hcm.keys) rfl rfl rfl ?_; rintro v w ⟨rfl, fb2, fp2, hmu⟩ hS; replace hS := hS _ hmu; clear hmu) | (refine WL.callP0 hS rfl rfl (must_c e1 _) rfl rfl rfl (fun v w hz hS => absurd hz he) (fun c w hz hS => ?_))) | (show WC _ _ _ _ _ _; first | refine WC.seq ?_ | refine WC.region ?_ | refine WC.skip ?_ | refine WC.condF rfl Zr ?_ | refine WC.condF rfl Zd ?_) | refine seqQ_n ?_)
   repeat (first | refine blkQ_p ?_ | refine seqQ_p ?_ | refine rndQ_p ?_)
   intro tmps hpin
   obtain ⟨rfl, _⟩ := hz
   exact au_pan (e0 := 0) (hS.pulls (D := [.box rb 30 [.int .i64 0]]) Pu) (hpin 8 (show 8 < 9 by decide)) fun w' hS' => ⟨_, rfl, rfl, _, _, _, hS'.mutLp Pu⟩
  ·repeat' (first | (show WL _ _ _ _ _ _ _; first | refine WL.pure rfl rfl rfl rfl ?_ | refine WL.nil ?_ | (refine WL.callL (D := [bchC B (some ⟨Tp, 0, none⟩) m fb, tabC Tp q T fp, dkC q mb lb D]) hS Pu rfl rfl (fun hI => bcommit_c hI hct hcm.dir hcm.log hsm hcm.reco hcm.recs (by first | omega | (show (mset m todoK _).length ≤ _; omega)) hcm.pack hcm.few hcm.keys) rfl rfl rfl ?_; rintro v w ⟨rfl, fb2, fp2, hmu⟩ hS; replace hS := hS _ hmu; clear hmu) | (refine WL.callP0 hS rfl rfl (must_c 0 _) rfl rfl rfl (fun v w hz hS => ?_) (fun c w hz hS => absurd rfl hz.2)) | (refine WL.callL (D := [tabC Tp q T1 fp2, dkC q mb lb D1]) hS Pu rfl rfl (fun hI => arecover_c hI hri hb hnb (hp.pull hS Pu)) rfl rfl rfl ?_; rintro v w ⟨rfl, fp3, hmu⟩ hS; replace hS := hS _ hmu; clear hmu) | (refine WL.store hS rfl rfl rfl Sb rfl rfl rfl ?_; intro w hS)) | (show WC _ _ _ _ _ _; first | refine WC.seq ?_ | refine WC.region ?_ | refine WC.skip ?_ | refine WC.ret ?_ | refine WC.condF rfl Zr ?_ | refine WC.condF rfl Zd ?_) | refine seqQ_n ?_)
   intro a ha
   exact au_ret (e0 := r.1) (hS.pulls (D := [.box rb 30 [.int .i64 r.1]]) Pu) (ha.get 8) fun w' hS' => ⟨_, rfl, rfl, _, _, _, hS'.mutLp Pu⟩
 ·rw [if_neg hl0] at hct hcm
  have hlp : 0 < l.length := List.length_pos_iff.2 hl0
  obtain ⟨m1, hm1⟩ : ∃ m1, m1 = noteE m ⟨todoK, encAs (finalE l), false⟩ := ⟨_, rfl⟩
  rcases hr with ⟨he, rfl⟩ | ⟨rfl, hri, hb, hnb⟩
  ·repeat' (first | (show WL _ _ _ _ _ _ _; first | refine WL.pure rfl rfl rfl rfl ?_ | refine WL.nil ?_ | (refine WL.callL (D := []) hS Pu rfl rfl (fun hI => final_c l (hS.slO (by repeat (first | exact Zh | apply List.Mem.tail)) hA) Zo) rfl rfl rfl ?_; rintro v w ⟨A2, c2, rfl, hm⟩ hS; replace hS := hS _ hm; clear hm) | (refine WL.calls hS rfl rfl (aencode_c (finalE l) (St.ownSl (enc := encAc) (hsz := encAc_len) (l := finalE l) Zd hS (by repeat (first | exact Zh | apply List.Mem.tail))) hen Zo Zo) rfl rfl rfl ?_; rintro v w rfl hS) | (refine WL.callL (D := [bchC B (some ⟨Tp, 0, none⟩) m fb]) hS Pu rfl rfl (fun hI => bput_c todoK (encAs (finalE l)) hI.head hI.headB Zo) rfl rfl rfl ?_; rintro v w ⟨rfl, fb1, hmu⟩ hS; replace hS : St _ _ w (bchC B (some ⟨Tp, 0, none⟩) (noteE m ⟨todoK, encAs (finalE l), false⟩) fb1 :: _) _ := hS _ (.of1 hmu); clear hmu) | (refine WL.callL (D := [bchC B (some ⟨Tp, 0, none⟩) (noteE m ⟨todoK, encAs (finalE l), false⟩) fb1, tabC Tp q T fp, dkC q mb lb D]) hS Pu rfl rfl (fun hI => bcommit_c hI hct hcm.dir hcm.log hsm hcm.reco hcm.recs (by first | omega | (show (mset m todoK _).length ≤ _; omega)) hcm.pack hcm.few hcm.keys) rfl rfl rfl ?_; rintro v w ⟨rfl, fb2, fp2, hmu⟩ hS; replace hS := hS _ hmu; clear hmu) | (refine WL.callP0 hS rfl rfl (must_c e1 _) rfl rfl rfl (fun v w hz hS => absurd hz he) (fun c w hz hS => ?_))) | (show WC _ _ _ _ _ _; first | refine WC.seq ?_ | refine WC.region ?_ | refine WC.skip ?_ | refine WC.condF rfl Zr ?_ | refine WC.condT rfl (decide_eq_true Zw) ?_) | refine seqQ_n ?_)
   repeat (first | refine blkQ_p ?_ | refine seqQ_p ?_ | refine rndQ_p ?_)
   intro tmps hpin
   obtain ⟨rfl, _⟩ := hz
   exact au_pan (e0 := 0) (hS.pulls (D := [.box rb 30 [.int .i64 0]]) Pu) (hpin 8 (show 8 < 9 by decide)) fun w' hS' => ⟨_, rfl, rfl, _, _, _, hS'.mutLp Pu⟩
  ·repeat' (first | (show WL _ _ _ _ _ _ _; first | refine WL.pure rfl rfl rfl rfl ?_ | refine WL.nil ?_ | (refine WL.callL (D := []) hS Pu rfl rfl (fun hI => final_c l (hS.slO (by repeat (first | exact Zh | apply List.Mem.tail)) hA) Zo) rfl rfl rfl ?_; rintro v w ⟨A2, c2, rfl, hm⟩ hS; replace hS := hS _ hm; clear hm) | (refine WL.calls hS rfl rfl (aencode_c (finalE l) (St.ownSl (enc := encAc) (hsz := encAc_len) (l := finalE l) Zd hS (by repeat (first | exact Zh | apply List.Mem.tail))) hen Zo Zo) rfl rfl rfl ?_; rintro v w rfl hS) | (refine WL.callL (D := [bchC B (some ⟨Tp, 0, none⟩) m fb]) hS Pu rfl rfl (fun hI => bput_c todoK (encAs (finalE l)) hI.head hI.headB Zo) rfl rfl rfl ?_; rintro v w ⟨rfl, fb1, hmu⟩ hS; replace hS : St _ _ w (bchC B (some ⟨Tp, 0, none⟩) (noteE m ⟨todoK, encAs (finalE l), false⟩) fb1 :: _) _ := hS _ (.of1 hmu); clear hmu) | (refine WL.callL (D := [bchC B (some ⟨Tp, 0, none⟩) (noteE m ⟨todoK, encAs (finalE l), false⟩) fb1, tabC Tp q T fp, dkC q mb lb D]) hS Pu rfl rfl (fun hI => bcommit_c hI hct hcm.dir hcm.log hsm hcm.reco hcm.recs (by first | omega | (show (mset m todoK _).length ≤ _; omega)) hcm.pack hcm.few hcm.keys) rfl rfl rfl ?_; rintro v w ⟨rfl, fb2, fp2, hmu⟩ hS; replace hS := hS _ hmu; clear hmu) | (refine WL.callP0 hS rfl rfl (must_c 0 _) rfl rfl rfl (fun v w hz hS => ?_) (fun c w hz hS => absurd rfl hz.2)) | (refine WL.callL (D := [tabC Tp q T1 fp2, dkC q mb lb D1]) hS Pu rfl rfl (fun hI => arecover_c hI hri hb hnb (hp.pull hS Pu)) rfl rfl rfl ?_; rintro v w ⟨rfl, fp3, hmu⟩ hS; replace hS := hS _ hmu; clear hmu) | (refine WL.store hS rfl rfl rfl Sb rfl rfl rfl ?_; intro w hS)) | (show WC _ _ _ _ _ _; first | refine WC.seq ?_ | refine WC.region ?_ | refine WC.skip ?_ | refine WC.ret ?_ | refine WC.condF rfl Zr ?_ | refine WC.condT rfl (decide_eq_true Zw) ?_) | refine seqQ_n ?_)
   intro a ha
   exact au_ret (e0 := r.1) (hS.pulls (D := [.box rb 30 [.int .i64 r.1]]) Pu) (ha.get 8) fun w' hS' => ⟨_, rfl, rfl, _, _, _, hS'.mutLp Pu⟩
open Go Go.J Go.RowKit
theorem Two.applyE {D : Dk} {r1 r2 : Int} {o1 o2 n1 n2 : List Ent} (h : Two D r1 r2 o1 o2 n1 n2) (E : Dk) : applyA E (twoA r1 r2 o1 o2 n1 n2) = runF E (twoF r1 r2 o1 o2 n1 n2) := by
 unfold applyA
 rw [if_pos h.roots]; rfl
theorem Kp.up {D : Dk} {B C : Nat} (h : D.Kp B) (hc : B ≤ C) : D.Kp C := fun x hx => ⟨Nat.le_trans (h x hx).1 hc, Nat.le_trans (h x hx).2.1 hc, (h x hx).2.2⟩
open Go Go.J Go.RowKit
theorem laid_two_other {hub side : List Ent} (hh : TreeOk hub) (hs : TreeOk side) {y : List UInt8} (b1 : belB hubP y = false) (b2 : belB s1P y = false) : (laidE hub side).get y = Dv3.get y := by
 have h1 := layT_ok (v := hubP) hub_vol Dv3_q Zk (Dv3_bel _) hh
 unfold laidE
 obtain ⟨_, _, _, _, q1, ds1, _⟩ := laid_two hh hs
 generalize layT Dv3 hubP hub = r1 at *
 obtain ⟨e1, D1⟩ := r1
 have empty : ∀ y, D1.has y = true → belB s1P y = false := fun y hy => by
  cases hb : belB s1P y with
  |false => rfl
  |true =>
   obtain ⟨q, rfl⟩ := bel_iff.1 hb
   have hne : belB hubP (s1P ++ 47 :: q) = false := by
    cases hb : belB hubP (s1P ++ 47 :: q) with
    |false => rfl
    |true =>
     obtain ⟨r, hr⟩ := bel_iff.1 hb
     exact absurd (split47 Zd Zd hr).1 Zd
   have : D1.get (s1P ++ 47 :: q) = Dv3.get (s1P ++ 47 :: q) := h1.other _ hne
   rw [Dk.has_get, this, ← Dk.has_get] at hy
   rw [Dv3_bel _ _ hy] at hb; cases hb
 have h2 := layT_ok (v := s1P) s1_vol q1 ds1 empty hs
 exact (h2.other _ b2).trans (h1.other _ b1)
def Any (D0 : Dk) (o1 o2 n1 n2 : List Ent) (n m : Nat) (e : Int) (D : Dk) : Prop :=
 (D.down = true ∧ e = 14 ∧ De D0 o1 o2 n1 n2 n m D) ∨ (D.down = false ∧ ∃ f, Rn D0 o1 o2 n1 n2 n m D f ∧ (e = 14 ∨ e = 0 ∧ f = fn2 o1 o2 n1 n2))
section
variable {D0 D : Dk} {hub side h s : List Ent} {n m : Nat} {e : Int} {f : Fn}
theorem De.rst (hd : De D0 hub side h s n m D) (hm : m ≤ 1000000) : D.Kp 1099511627776 ∧ D.items.length ≤ 1048576 ∧ ∀ x ∈ D.items, x.1.length ≤ 1099511627 :=
 ⟨Kp.up hd.c.kp Zd, by have := hd.b.kl.1; omega, hd.b.kl.2⟩
theorem Rn.wants (hr : Rn D0 hub side h s n m D f) (hn : n ≤ 100) (hu : D.down = false) : D.Sm 1099511627776 ∧ ∀ e G D'', walOpen (tabMk D sysP).2 (logP sysP) = (e, some G, D'') → G.recs.length ≤ 4194304 ∧ ∀ r ∈ G.recs, r.length ≤ 1099511627776 :=
 ⟨(hr.t.sysC.sm).up Zd, hr.t.hlog hn hu⟩
theorem Ba.dkb (hb : Ba m D) (hc : SysC D) : DkB m D := (DkS.of_sys hc hb.kl).b
theorem TabL.sysC {T : Tb} (ht : TabL n T D f) : SysC D := ht.held.sysC
theorem once (hp : Two D0 0 1 hub side h s) (l1 : hub.length ≤ 200) (l2 : side.length ≤ 200) (l3 : h.length ≤ 200) (l4 : s.length ≤ 200) (hd : De D0 hub side h s n m D) (hn : n ≤ 90) (h15 : 15 ≤ n) (hm : m ≤ 100000) (loss a : Int) :
  ((D.restart loss).arm a).Sm 1099511627776 ∧ (∀ e G D'', walOpen (tabMk ((D.restart loss).arm a) sysP).2 (logP sysP) = (e, some G, D'') → G.recs.length ≤ 4194304 ∧ ∀ r ∈ G.recs, r.length ≤ 1099511627776) ∧
  ∃ D', (∃ T, tabOpen ((D.restart loss).arm a) sysP = (0, some T, D') ∧ DkB 200000 D' ∧ ∃ r, RecIs T D' r ∧ Any D0 hub side h s (n + 1) (m + 4000) 14 r.2.2) ∨ (tabOpen ((D.restart loss).arm a) sysP = (14, none, D') ∧ Any D0 hub side h s (n + 1) (m + 4000) 14 D') := by
 obtain ⟨f, hr⟩ := hd.again loss
 have hu : ((D.restart loss).arm a).down = false := rfl
 have hr := hr.arm a
 generalize (D.restart loss).arm a = E at *
 obtain ⟨w1, w2⟩ := hr.wants Zo hu
 refine ⟨w1, w2, ?_⟩
 obtain ⟨D', _, hb, hph, ⟨T, ho, ht⟩ | ⟨ho, _, hdn, hde⟩⟩ := hr.open Zo hu
 ·obtain ⟨e, T', D'', hri, hor⟩ := recover_is hp l1 l2 l3 l4 ht hb hph Zo h15
  refine ⟨D', .inl ⟨T, ho, (hb.dkb ht.sysC).mono Zo, _, hri, ?_⟩⟩
  rcases hor with ⟨rfl, _, f', ht', hr', _⟩ | ⟨rfl, _, hdn, hde⟩
  ·exact .inr ⟨ht'.up, f', ⟨hr'.b.mono Zo, hr'.t.mono Zo, hr'.p⟩, .inl rfl⟩
  ·exact .inl ⟨hdn, rfl, hde.b.mono Zo, hde.c, hde.t⟩
 ·exact ⟨D', .inr ⟨ho, .inl ⟨hdn, rfl, hde.b.mono Zo, hde.c, fun loss => by
   obtain ⟨f, h1, h2⟩ := hde.t loss
   exact ⟨f, h1.mono Zo, h2⟩⟩⟩⟩
theorem Any.mono {n' m' : Nat} (hx : Any D0 hub side h s n m e D) (hn : n ≤ n') (hm : m ≤ m') : Any D0 hub side h s n' m' e D := by
 rcases hx with ⟨h1, h2, h3⟩ | ⟨h1, f, h2, h3⟩
 ·exact .inl ⟨h1, h2, h3.b.mono hm, h3.c, fun loss => by obtain ⟨f, k1, k2⟩ := h3.t loss; exact ⟨f, k1.mono hn, k2⟩⟩
 ·exact .inr ⟨h1, f, ⟨h2.b.mono hm, h2.t.mono hn, h2.p⟩, h3⟩
theorem last (hp : Two D0 0 1 hub side h s) (l1 : hub.length ≤ 200) (l2 : side.length ≤ 200) (l3 : h.length ≤ 200) (l4 : s.length ≤ 200) (hr : Rn D0 hub side h s n m D f) (hu : D.down = false) (he : e = 14 ∨ e = 0 ∧ f = fn2 hub side h s) (hn : n ≤ 90) (h15 : 15 ≤ n) (hm : m ≤ 100000) :
  (D.arm (-1)).Sm 1099511627776 ∧ (∀ e G D'', walOpen (tabMk (D.arm (-1)) sysP).2 (logP sysP) = (e, some G, D'') → G.recs.length ≤ 4194304 ∧ ∀ r ∈ G.recs, r.length ≤ 1099511627776) ∧
  ∃ T D', tabOpen (D.arm (-1)) sysP = (0, some T, D') ∧ DkB 200000 D' ∧ ∃ T' D'', RecIs T D' (0, T', D'') ∧ getE T'.rows todoK = ([], false) ∧ DkW D'' ∧ D''.down = false ∧ DkB 200000 D'' ∧ (D''.at hubP).dir = true ∧ (D''.at s1P).dir = true ∧
   ((e = 14 ∧ getE T'.rows kK = ([], false) ∧ walkE D'' hubP = hub ∧ walkE D'' s1P = side) ∨ (getE T'.rows kK = (doneV, true) ∧ walkE D'' hubP = h ∧ walkE D'' s1P = s)) := by
 have hr := hr.arm (-1)
 have hu : (D.arm (-1)).down = false := hu
 have ha : (D.arm (-1)).armed < 0 := by show max (-1) (-1) < (0 : Int); decide
 generalize D.arm (-1) = E at *
 obtain ⟨w1, w2⟩ := hr.wants Zo hu
 refine ⟨w1, w2, ?_⟩
 obtain ⟨D', ha', hb, hph, ⟨T, ho, ht⟩ | ⟨ho, hna, _⟩⟩ := hr.open Zo hu
 rotate_left
 ·exact absurd ha hna
 obtain ⟨e2, T', D'', hri, ⟨rfl, _, f', ht', hr', hf⟩ | ⟨_, hna, _⟩⟩ := recover_is hp l1 l2 l3 l4 ht hb hph Zo h15
 rotate_left
 ·exact absurd (ha' ha) hna
 have hB := (hr'.b.dkb ht'.sysC).mono (m := 200000) Zo
 have h12 : ¬ sysF hubP ∧ hubP ≠ stgP ∧ ¬ sysF s1P ∧ s1P ≠ stgP := by
  refine ⟨?_, Zd, ?_, Zd⟩
  ·rintro (h | h | h | h) <;> exact absurd h Zd
  ·rintro (h | h | h | h) <;> exact absurd h Zd
 have hrt := ht'.are
 have hphf := hr'.p
 have bt : Betw D0 (twoF 0 1 hub side h s) D'' := ⟨hr'.b.w, fun q a b => by
  rcases hphf with ⟨_, h1⟩ | ⟨_, h1⟩ | ⟨_, h1⟩
  ·exact .inl (h1 q a b)
  ·exact h1.node q a b
  ·exact .inr (.inl (h1 q a b))⟩
 have d1 : (D''.at hubP).dir = true := by have := hp.dir1 bt; rwa [root0] at this
 have d2 : (D''.at s1P).dir = true := by have := hp.dir2 bt; rwa [root1] at this
 refine ⟨T, D', ho, (hb.dkb ht.sysC).mono Zo, T', D'', hri, ?_, hr'.b.w, ht'.up, hB, d1, d2, ?_⟩
 ·rw [getE_of hrt]
  rcases hf with ⟨_, rfl⟩ | ⟨_, rfl⟩
  ·rfl
  ·rw [fn2_get, if_neg (fun e => kK_todo e.symm)]; rfl
 ·have f20 : fn2 hub side h s ≠ fn0 := fun e => by
   have := congrFun e kK
   rw [fn2_get, if_pos rfl] at this
   cases this
  have f10 : fn1 hub side h s ≠ fn0 := fun e => by
   have := congrFun e kK
   rw [fn1_get, if_neg (fun hh => kK_todo hh.1), if_pos rfl] at this
   cases this
  have vn : ∀ (v q : List UInt8), VolOk v → ¬ sysF (v ++ 47 :: q) ∧ v ++ 47 :: q ≠ stgP := fun v q hv => ⟨(vol_nsys (q := q) hv).2.2, (vol_nsys (q := q) hv).2.1⟩
  have n1 := hp.h1
  have n2 := hp.h2
  have m1 := hp.new1
  have m2 := hp.new2
  rw [root0] at n1 m1
  rw [root1] at n2 m2
  rcases hf with ⟨hf0, rfl⟩ | ⟨_, rfl⟩
  ·refine .inl ⟨?_, ?_, ?_, ?_⟩
   ·rcases he with h | ⟨_, h⟩
    ·exact h
    ·exact absurd (h.symm.trans hf0) f20
   ·rw [getE_of hrt]; rfl
   ·refine walk_tree hr'.b.w hp.t1 fun q => ?_
    obtain ⟨a, b⟩ := vn _ q hub_vol
    rcases hphf with ⟨_, h1⟩ | ⟨h, _⟩ | ⟨h, _⟩
    ·exact (h1 _ b a).trans (n1 q)
    ·exact absurd h.symm f10
    ·exact absurd h.symm f20
   ·refine walk_tree hr'.b.w hp.t2 fun q => ?_
    obtain ⟨a, b⟩ := vn _ q s1_vol
    rcases hphf with ⟨_, h1⟩ | ⟨h, _⟩ | ⟨h, _⟩
    ·exact (h1 _ b a).trans (n2 q)
    ·exact absurd h.symm f10
    ·exact absurd h.symm f20
  ·have key : ∀ q, q ≠ stgP → ¬ sysF q → ndE (D''.get q) = newN D0 (twoF 0 1 hub side h s) q := fun q a b => by
    rcases hphf with ⟨h, _⟩ | ⟨h0, h1⟩ | ⟨_, h1⟩
    ·exact absurd h f20
    ·have hA : twA hub side h s = [] := by
      rcases Classical.em (twA hub side h s = []) with h | h
      ·exact h
      ·have := congrFun h0 todoK
       rw [fn2_get, if_neg (fun e => kK_todo e.symm), fn1_get, if_pos ⟨rfl, h⟩] at this
       cases this
     have hF : twoF 0 1 hub side h s = [] := by
      have e : twoF 0 1 hub side h s = (finalE (twA hub side h s)).map fsA := rfl
      rw [e, hA]; rfl
     rcases h1.node q a b with h | h | h
     ·rw [h, hF]; rfl
     ·exact h
     ·exact absurd (by rw [hF]; rfl) h.2
    ·exact h1 q a b
   refine .inr ⟨?_, ?_, ?_⟩
   ·rw [getE_of hrt, fn2_get, if_pos rfl]; rfl
   ·refine walk_tree hr'.b.w hp.u1 fun q => ?_
    obtain ⟨a, b⟩ := vn _ q hub_vol
    exact (key _ b a).trans (m1 q)
   ·refine walk_tree hr'.b.w hp.u2 fun q => ?_
    obtain ⟨a, b⟩ := vn _ q s1_vol
    exact (key _ b a).trans (m2 q)
theorem first (h1 : TreeOk hub) (h2 : TreeOk side) (h3 : TreeOk h) (h4 : TreeOk s) (l1 : hub.length ≤ 200) (l2 : side.length ≤ 200) (l3 : h.length ≤ 200) (l4 : s.length ≤ 200) (a : Int) :
  ∃ T D1, tabOpen (laidE hub side) sysP = (0, some T, D1) ∧ (laidE hub side).Sm 1099511627776 ∧ (∀ e G D'', walOpen (tabMk (laidE hub side) sysP).2 (logP sysP) = (e, some G, D'') → G.recs.length ≤ 4194304 ∧ ∀ r ∈ G.recs, r.length ≤ 1099511627776) ∧
   Two (laidE hub side) 0 1 hub side h s ∧ (∀ x ∈ finalE (twA hub side h s), AcEn x) ∧ (twX hub side h s).length ≤ 4000000 ∧ CmOk T (ops1 hub side h s) ∧ (D1.arm a).Sm 549755813888 ∧
   ∃ e1 T1 D2, tabCommit T (D1.arm a) (ops1 hub side h s) = (e1, T1, D2) ∧ ∃ r, ((e1 ≠ 0 ∧ r = (e1, T1, D2)) ∨ (e1 = 0 ∧ RecIs T1 D2 r ∧ DkB 10000 D2 ∧ 10000 ≤ 300000)) ∧ Any (laidE hub side) hub side h s 16 8000 r.1 r.2.2 := by
 have hl := laidE_ok h1 h2
 have hp := hl.two h1 h2 h3 h4
 have hds : DkS 803 (laidE hub side) := hl.s.mono Zo
 have hsy : (laidE hub side).get sysP = Dv3.get sysP ∧ (laidE hub side).get sysL = none ∧ (laidE hub side).get sysB = none := by
  have q1 := layT_ok (v := hubP) hub_vol Dv3_q Zk (Dv3_bel _) h1
  have key : ∀ y, belB hubP y = false → belB s1P y = false → (laidE hub side).get y = Dv3.get y := fun y b1 b2 => (laid_two_other h1 h2 b1 b2)
  exact ⟨key _ (by decide +kernel) (by decide +kernel), (key _ (by decide +kernel) (by decide +kernel)).trans Zk, (key _ (by decide +kernel) (by decide +kernel)).trans Zk⟩
 have hc : SysC (laidE hub side) := SysC.of hl.q.w hds (by rw [Dk.at_get, hsy.1]; kernel_rfl)
 obtain ⟨D1, ho, ht, hF, hlog⟩ := open_new hc hl.q.up hl.q.calm hsy.2.1 hsy.2.2
 have hb0 : Ba 803 (laidE hub side) := ⟨hl.q.w, hl.firm, hds.kl⟩
 have hb1 : Ba 806 D1 := hb0.sys hF ht.sysC
 have hph0 : Ph (laidE hub side) hub side h s (laidE hub side) fn0 := .inl ⟨rfl, fun _ _ _ => rfl⟩
 have hph1 : Ph (laidE hub side) hub side h s D1 fn0 := Ph.sys (r := (0, D1)) hph0 hl.q.w.nd hF hb1.w
 obtain ⟨hen, hlen, hX⟩ := hp.few l1 l2 l3 l4
 have ht2 : TabL 15 ⟨sysP, [], ⟨sysL, [], false⟩⟩ (D1.arm a) fn0 := (ht.arm a).mono Zo
 have hb2 := hb1.arm a
 have hph2 : Ph (laidE hub side) hub side h s (D1.arm a) fn0 := hph1.of hb2.w fun _ _ _ => rfl
 have hsm2 := (DkS.of_sys ht2.sysC hb2.kl).sm
 obtain ⟨e1, T1, D2, hcm, hor⟩ := run_is hp l1 l2 l3 l4 ht2 hb2 hph2 Zo Zo
 refine ⟨_, D1, ho, hc.sm.up Zd, hlog, hp, hen, hX, ht2.cmOk Zo (ok_ops1 hX) (fit1 hX), hsm2, e1, T1, D2, hcm, ?_⟩
 rcases hor with ⟨rfl, hdn, hde⟩ | ⟨rfl, ht3, hb3, e, T', D', hri, ⟨rfl, hup, hrn⟩ | ⟨rfl, hdn, hde⟩⟩
 ·exact ⟨_, .inl ⟨Zd, rfl⟩, .inl ⟨hdn, rfl, hde.b.mono Zo, hde.c, hde.t⟩⟩
 ·exact ⟨_, .inr ⟨rfl, hri, (hb3.dkb ht3.sysC).mono Zo, Zo⟩, .inr ⟨hup, _, ⟨hrn.b.mono Zo, hrn.t.mono Zo, hrn.p⟩, .inr ⟨rfl, rfl⟩⟩⟩
 ·exact ⟨_, .inr ⟨rfl, hri, (hb3.dkb ht3.sysC).mono Zo, Zo⟩, .inl ⟨hdn, rfl, hde.b.mono Zo, hde.c, hde.t⟩⟩
end
abbrev m0 : Bch := [(kK, ⟨kK, doneV, false⟩)]
theorem applyWhole_c (hub side h s : List Ent) (a0 a1 a2 loss : Int) {A B C E : Option Addr} {ca cb cc ce : Nat} {w0 : World} (hA : SlAt cEnt (Old w0) w0 A hub) (hB : SlAt cEnt (Old w0) w0 B side) (hC : SlAt cEnt (Old w0) w0 C h) (hE : SlAt cEnt (Old w0) w0 E s)
  (ka : hub.length ≤ ca) (kb : side.length ≤ cb) (kc : h.length ≤ cc) (ke : s.length ≤ ce) (la : hub.length ≤ 1048576) (lb' : side.length ≤ 1048576) (lc : h.length ≤ 1048576) (le : s.length ≤ 1048576)
  (za : ∀ e ∈ hub, e.path.length ≤ 1048576) (zb : ∀ e ∈ side, e.path.length ≤ 1048576) (zc : ∀ e ∈ h, e.path.length ≤ 1048576) (ze : ∀ e ∈ s, e.path.length ≤ 1048576) (ht : powT w0) :
  Cal Tryz.prog 8 [.slice A hub.length ca, .slice B side.length cb, .slice C h.length cc, .slice E s.length ce, .agg ⟨[.int .i64 a0, .int .i64 a1, .int .i64 a2]⟩, .int .i64 loss] w0 (fun v w' => Upd [] w0 w' ∧ v = .bool true) := by
 refine Cal.mk' Zk Tryz.func8 rfl rfl fun hS => ?_
 have hp := PowI.of ht
 have htr := fun (w : World) (h1 : SlAt cEnt (Old w) w A hub) (h2 : SlAt cEnt (Old w) w B side) (h3 : SlAt cEnt (Old w) w C h) (h4 : SlAt cEnt (Old w) w E s) => trees_c hub side h s (ca := ca) (cb := cb) (cc := cc) (cd := ce) h1 h2 h3 h4 ka kb kc ke la lb' lc le za zb zc ze
 by_cases hT : checkT hub = 0 ∧ checkT side = 0 ∧ checkT h = 0 ∧ checkT s = 0
 rotate_left
 ·replace htr := fun w h1 h2 h3 h4 => (htr w h1 h2 h3 h4).says_no hT
  repeat' (first | (show WL _ _ _ _ _ _ _; first | refine WL.pure rfl rfl rfl rfl ?_ | refine WL.nil ?_ | (refine WL.calls hS rfl rfl (apawake_c _ (hp.at hS)) rfl rfl rfl ?_; rintro v w rfl hS) | (refine WL.calls hS rfl rfl (htr _ (hS.slO (by repeat (first | exact Zh | apply List.Mem.tail)) hA) (hS.slO (by repeat (first | exact Zh | apply List.Mem.tail)) hB) (hS.slO (by repeat (first | exact Zh | apply List.Mem.tail)) hC) (hS.slO (by repeat (first | exact Zh | apply List.Mem.tail)) hE)) rfl rfl rfl ?_; rintro v w rfl hS) | (refine WL.box hS rfl rfl rfl rfl rfl ?_; intro w b hS)) | (show WC _ _ _ _ _ _; first | refine WC.seq ?_ | refine WC.region ?_ | refine WC.ret ?_ | refine WC.condT rfl Zd ?_) | refine seqQ_n ?_ | refine seqQ_r ?_)
  exact fin1r rfl rfl ⟨hS.upd, rfl⟩
 replace htr := fun w h1 h2 h3 h4 => (htr w h1 h2 h3 h4).says_yes hT
 obtain ⟨l1, t1⟩ := tree_of hT.1
 obtain ⟨l2, t2⟩ := tree_of hT.2.1
 obtain ⟨l3, t3⟩ := tree_of hT.2.2.1
 obtain ⟨l4, t4⟩ := tree_of hT.2.2.2
 have hlaid := fun (w : World) (h1 : SlAt cEnt (Old w) w A hub) (h2 : SlAt cEnt (Old w) w B side) => laid_c (ca := ca) (cb := cb) hub side h1 h2 l1 l2 t1 t2
 have htwo := fun (w : World) (h1 : SlAt cEnt (Old w) w A hub) (h2 : SlAt cEnt (Old w) w B side) (h3 : SlAt cEnt (Old w) w C h) (h4 : SlAt cEnt (Old w) w E s) => two_c (ca := ca) (cb := cb) (cc := cc) (cd := ce) hub side h s h1 h2 h3 h4 l1 l2 l3 l4
 have hll : (twA hub side h s).length ≤ _ := twoA_len 0 1 hub side h s
 obtain ⟨T, D1, ho, hsm, hlog, htw, hen, hX, hcm, hsm2, e1, T1, D2, hct, r, hr, hany⟩ := first t1 t2 t3 t4 l1 l2 l3 l4 a0
 have hone := fun n m D hd hn h15 hm => once htw l1 l2 l3 l4 (n := n) (m := m) (D := D) hd hn h15 hm loss
 have hlast := fun n m D e f hr hu he hn h15 hm => last htw l1 l2 l3 l4 (n := n) (m := m) (D := D) (e := e) (f := f) hr hu he hn h15 hm
 have hop0 := fun q mb lb (w : World) (hI : InL w [dkC q mb lb (laidE hub side)]) => topen_c sysP hI Zd hsm hlog
 rw [ho] at hop0
 have hop1 : (if twA hub side h s = [] then m0 else noteE m0 ⟨todoK, encAs (finalE (twA hub side h s)), false⟩).map Prod.snd = ops1 hub side h s := by
  unfold ops1
  by_cases hA : twA hub side h s = []
  ·rw [if_pos hA, if_pos hA]; rfl
  ·rw [if_neg hA, if_neg hA]; rfl
 rw [← hop1] at hcm hct
 have hrn := fun Bt Tp q mb lb fb fp A cap (w : World) (hI : InL w [bchC Bt (some ⟨Tp, 0, none⟩) m0 fb, tabC Tp q T fp, dkC q mb lb (D1.arm a0)]) (hA : SlAt cAc (fun b => b < w.heap.size ∧ b ∉ fps [bchC Bt (some ⟨Tp, 0, none⟩) m0 fb, tabC Tp q T fp, dkC q mb lb (D1.arm a0)]) w A (twA hub side h s)) (hp : PowI w (fps [bchC Bt (some ⟨Tp, 0, none⟩) m0 fb, tabC Tp q T fp, dkC q mb lb (D1.arm a0)])) =>
  arun_c (cap := cap) hI hA Zo hen (Nat.le_trans hX Zd) Zd hct hcm hsm2 hr hp
 clear hop1 hcm hct hsm hlog hsm2 hr ho hen hX
 unfold twA at hrn hll
 generalize twoA 0 1 hub side h s = L at htwo hrn hll
 generalize laidE hub side = D0 at *
 obtain ⟨e, T', D'⟩ := r
 dsimp only at hany hrn
 repeat' (first | (show WL _ _ _ _ _ _ _; first | refine WL.pure rfl rfl rfl rfl ?_ | refine WL.nil ?_ | refine WL.load hS rfl rfl (LdOk.box (by repeat (first | exact Zh | apply List.Mem.tail)) rfl) rfl rfl rfl ?_ | (refine WL.calls hS rfl rfl (apawake_c _ (hp.at hS)) rfl rfl rfl ?_; rintro v w rfl hS) | (refine WL.calls hS rfl rfl (htr _ (hS.slO (by repeat (first | exact Zh | apply List.Mem.tail)) hA) (hS.slO (by repeat (first | exact Zh | apply List.Mem.tail)) hB) (hS.slO (by repeat (first | exact Zh | apply List.Mem.tail)) hC) (hS.slO (by repeat (first | exact Zh | apply List.Mem.tail)) hE)) rfl rfl rfl ?_; rintro v w rfl hS) | (refine WL.callG rfl rfl (hlaid _ (hS.slO (by repeat (first | exact Zh | apply List.Mem.tail)) hA) (hS.slO (by repeat (first | exact Zh | apply List.Mem.tail)) hB)) rfl rfl rfl ?_; rintro v w ⟨hu, q, mb, lb, rfl, hn⟩; replace hS := hS.new hu hn; clear hu hn) | (refine WL.callL (D := [dkC q mb lb D0]) hS Pu rfl rfl (fun hI => hop0 _ _ _ _ hI) rfl rfl rfl ?_; rintro v w ⟨Tp, fp, rfl, hm⟩ hS; replace hS := hS _ hm; clear hm) | (refine WL.callG rfl rfl (begin_c _) rfl rfl rfl ?_; rintro v w ⟨hu, Bt, fb, rfl, hn⟩; replace hS := hS.new hu hn; clear hu hn) | (refine WL.callL (D := [bchC Bt (some ⟨Tp, 0, none⟩) [] _]) hS Pu rfl rfl (fun hI => bput_c kK doneV hI.head hI.headB (by show 0 ≤ 1099511627; omega)) rfl rfl rfl ?_; rintro v w ⟨rfl, fb, hmu⟩ hS; replace hS : St _ _ w (bchC Bt (some ⟨Tp, 0, none⟩) m0 fb :: _) _ := hS _ (.of1 hmu); clear hmu) | (refine WL.callL (D := [dkC q mb lb D1]) hS Pu rfl rfl (fun hI => arm_c a0 hI.head hI.headB) rfl rfl rfl ?_; rintro v w ⟨rfl, hm⟩ hS; replace hS := hS _ (.of1 hm); clear hm) | (refine WL.callG rfl rfl (htwo _ (hS.slO (by repeat (first | exact Zh | apply List.Mem.tail)) hA) (hS.slO (by repeat (first | exact Zh | apply List.Mem.tail)) hB) (hS.slO (by repeat (first | exact Zh | apply List.Mem.tail)) hC) (hS.slO (by repeat (first | exact Zh | apply List.Mem.tail)) hE)) rfl rfl rfl ?_; rintro v w ⟨hu, AA, ac, rfl, hn⟩; replace hS := hS.new hu hn; clear hu hn) | (refine WL.callL (D := [bchC Bt (some ⟨Tp, 0, none⟩) m0 fb, tabC Tp q T fp, dkC q mb lb (D1.arm a0)]) hS Pu rfl rfl (fun hI => hrn _ _ _ _ _ _ _ _ _ _ hI (St.ownSlY (enc := encAc) (hsz := encAc_len) (l := L) Zd (hS.pulls Pu) (by repeat (first | exact Zh | apply List.Mem.tail))) (hp.pull hS Pu)) rfl rfl rfl ?_; rintro v w ⟨rfl, m', fb', fp', hm⟩ hS; replace hS := hS _ hm; clear hm) | (refine WL.box hS rfl rfl rfl rfl rfl ?_; intro w sb hS) | refine WL.indexArr rfl rfl rfl rfl Zd rfl rfl rfl ?_) | (show WC _ _ _ _ _ _; first | (show WC _ _ (Code.seq (Code.seq (Code.region 13 _ _) _) _) _ _ _; refine WC.cutS (σ := Dk) [0, 1, 2, 3, 5, 13, 17] (fun _ => []) (fun D w => (∃ n m, (15 ≤ n ∧ n ≤ 30 ∧ m ≤ 50000) ∧ Any D0 hub side h s n m e D) ∧ St w0 [] w [dkC q mb lb D] [⟨w0, Old w0⟩]) ?_ ?_) | refine WC.seq ?_ | refine WC.region ?_ | refine WC.block ?_ | refine WC.skip ?_ | refine WC.condF rfl Zr ?_ | refine WC.condF rfl Zd ?_) | refine seqQ_n ?_)
 ·replace hS := hS.droplast2 (D := [dkC q mb lb D', .box sb 101 [.int .i64 a0, .int .i64 a1, .int .i64 a2]]) Pu
  refine WC.loop (σ := Nat × Dk) [0, 1, 2, 3, 5, 10, 13, 17] (fun (k, _) => [(18, .int .i64 (k : Int))])
   (fun (k, D) w => ((1 ≤ k ∧ k ≤ 3) ∧ Any D0 hub side h s (15 + k) (8000 * k) e D) ∧ St w0 [] w [dkC q mb lb D, .box sb 101 [.int .i64 a0, .int .i64 a1, .int .i64 a2]] [⟨w0, Old w0⟩])
   (fun (k, _) => 3 - k) (1, D') ⟨⟨⟨Zo, Zo⟩, hany⟩, hS⟩ ⟨rfl, trivial⟩ ?_
  clear hS hrn hlaid htwo htr hop0 hlast hany
  rintro ⟨k, D⟩ g w ⟨⟨⟨hk1, hk3⟩, hany⟩, hS⟩
  show WC _ _ _ (lf _ [(18, .int .i64 (k : Int))] _ _) _ _
  by_cases hlt : k < 3
  ·have hany' := hany
   rcases hany with ⟨hdn, he14, hde⟩ | ⟨hup, _⟩
   ·subst he14
    obtain ⟨r1, r2, r3⟩ := hde.rst Zo
    have hone1 := hone _ _ _ hde Zo Zo Zo
    clear hone hde hany'
    have hk12 : k = 1 ∨ k = 2 := Zo
    rcases hk12 with rfl | rfl
    case' inl => obtain ⟨a, rfl⟩ : ∃ a, a = a1 := ⟨_, rfl⟩
    case' inr => obtain ⟨a, rfl⟩ : ∃ a, a = a2 := ⟨_, rfl⟩
    all_goals
     obtain ⟨sm, hlg, D2, ⟨T2, ho2, hb2, r2', hri, hany2⟩ | ⟨ho2, hany2⟩⟩ := hone1 a
     ·clear hone1
      have hopn := fun q mb lb (w : World) (hI : InL w [dkC q mb lb ((D.restart loss).arm a)]) => topen_c sysP hI Zd sm hlg
      rw [ho2] at hopn
      clear sm hlg ho2
      repeat' (first | (show WL _ _ _ _ _ _ _; first | refine WL.pure rfl rfl rfl rfl ?_ | refine WL.nil ?_ | refine WL.load hS rfl rfl (LdOk.box (by repeat (first | exact Zh | apply List.Mem.tail)) rfl) rfl rfl rfl ?_ | refine WL.add rfl rfl rfl Zo rfl rfl rfl ?_ | (refine WL.calls hS rfl rfl (ddown_c (hS.holds (dkC q mb lb D) (by repeat (first | exact Zh | apply List.Mem.tail))).1) rfl rfl rfl ?_; rintro v w rfl hS; rw [hdn]) | (refine WL.callL (D := [dkC q mb lb D]) hS Pu rfl rfl (fun hI => restart_c loss hI.head hI.headB r1 r2 r3) rfl rfl rfl ?_; rintro v w ⟨rfl, hm⟩ hS; replace hS := hS _ (.of1 hm); clear hm) | (refine WL.callL (D := [dkC q mb lb (D.restart loss)]) hS Pu rfl rfl (fun hI => arm_c a hI.head hI.headB) rfl rfl rfl ?_; rintro v w ⟨rfl, hm⟩ hS; replace hS := hS _ (.of1 hm); clear hm) | (refine WL.callL (D := [dkC q mb lb ((D.restart loss).arm a)]) hS Pu rfl rfl (fun hI => hopn _ _ _ _ hI) rfl rfl rfl ?_; rintro v w ⟨Tp2, fp2, rfl, hm⟩ hS; replace hS := hS _ hm; clear hm) | (refine WL.callL (D := [tabC Tp2 q T2 fp2, dkC q mb lb D2]) hS Pu rfl rfl (fun hI => arecover_c hI hri hb2 Zd (hp.pull hS Pu)) rfl rfl rfl ?_; rintro v w ⟨rfl, fp3, hm⟩ hS; replace hS := hS _ hm; clear hm) | refine WL.indexArr rfl rfl rfl rfl Zd rfl rfl rfl ?_) | (show WC _ _ _ _ _ _; first | refine WC.seq ?_ | refine WC.region ?_ | refine WC.block ?_ | refine WC.skip ?_ | refine WC.condT rfl Zr ?_ | refine WC.condT rfl Zd ?_ | refine WC.condF rfl Zd ?_) | refine seqQ_n ?_ | refine blkQ_n ?_)
      first
       |exact rndQ_n (2, r2'.2.2) ⟨⟨⟨Zo, Zo⟩, hany2.mono Zo Zo⟩, hS.droplast2 Pu⟩ (by show 3 - 2 < 3 - 1; decide) ⟨rfl, trivial⟩ ⟨rfl, rfl, rfl, rfl, rfl, rfl, rfl, rfl, trivial⟩
       |exact rndQ_n (3, r2'.2.2) ⟨⟨⟨Zo, Zo⟩, hany2.mono Zo Zo⟩, hS.droplast2 Pu⟩ (by show 3 - 3 < 3 - 2; decide) ⟨rfl, trivial⟩ ⟨rfl, rfl, rfl, rfl, rfl, rfl, rfl, rfl, trivial⟩
     ·clear hone1
      have hopn := fun q mb lb (w : World) (hI : InL w [dkC q mb lb ((D.restart loss).arm a)]) => topen_c sysP hI Zd sm hlg
      rw [ho2] at hopn
      clear sm hlg ho2
      repeat' (first | (show WL _ _ _ _ _ _ _; first | refine WL.pure rfl rfl rfl rfl ?_ | refine WL.nil ?_ | refine WL.load hS rfl rfl (LdOk.box (by repeat (first | exact Zh | apply List.Mem.tail)) rfl) rfl rfl rfl ?_ | refine WL.add rfl rfl rfl Zo rfl rfl rfl ?_ | (refine WL.calls hS rfl rfl (ddown_c (hS.holds (dkC q mb lb D) (by repeat (first | exact Zh | apply List.Mem.tail))).1) rfl rfl rfl ?_; rintro v w rfl hS; rw [hdn]) | (refine WL.callL (D := [dkC q mb lb D]) hS Pu rfl rfl (fun hI => restart_c loss hI.head hI.headB r1 r2 r3) rfl rfl rfl ?_; rintro v w ⟨rfl, hm⟩ hS; replace hS := hS _ (.of1 hm); clear hm) | (refine WL.callL (D := [dkC q mb lb (D.restart loss)]) hS Pu rfl rfl (fun hI => arm_c a hI.head hI.headB) rfl rfl rfl ?_; rintro v w ⟨rfl, hm⟩ hS; replace hS := hS _ (.of1 hm); clear hm) | (refine WL.callL (D := [dkC q mb lb ((D.restart loss).arm a)]) hS Pu rfl rfl (fun hI => hopn _ _ _ _ hI) rfl rfl rfl ?_; rintro v w ⟨rfl, hm⟩ hS; replace hS := hS _ hm; clear hm) | refine WL.indexArr rfl rfl rfl rfl Zd rfl rfl rfl ?_ | refine WL.skip rfl rfl rfl ?_) | (show WC _ _ _ _ _ _; first | refine WC.seq ?_ | refine WC.region ?_ | refine WC.block ?_ | refine WC.skip ?_ | refine WC.condT rfl Zr ?_ | refine WC.condF rfl Zr ?_ | refine WC.condF rfl Zd ?_) | refine seqQ_n ?_ | refine blkQ_n ?_)
      first
       |exact rndQ_n (2, D2) ⟨⟨⟨Zo, Zo⟩, hany2.mono Zo Zo⟩, hS.droplast2 Pu⟩ (by show 3 - 2 < 3 - 1; decide) ⟨rfl, trivial⟩ ⟨rfl, rfl, rfl, rfl, rfl, rfl, rfl, rfl, trivial⟩
       |exact rndQ_n (3, D2) ⟨⟨⟨Zo, Zo⟩, hany2.mono Zo Zo⟩, hS.droplast2 Pu⟩ (by show 3 - 3 < 3 - 2; decide) ⟨rfl, trivial⟩ ⟨rfl, rfl, rfl, rfl, rfl, rfl, rfl, rfl, trivial⟩
   ·clear hone
    repeat' (first | (show WL _ _ _ _ _ _ _; first | refine WL.pure rfl rfl rfl rfl ?_ | refine WL.nil ?_ | (refine WL.calls hS rfl rfl (ddown_c (hS.holds (dkC q mb lb D) (by repeat (first | exact Zh | apply List.Mem.tail))).1) rfl rfl rfl ?_; rintro v w rfl hS; rw [hup]) | ((fail_if_success (refine WL.wanted rfl ?_)); refine WL.guard rfl rfl rfl (fun h => ?_) (fun h => ?_) <;> (try simp only [Ya,Yb,Yc,Yd,Ye,Yf,Yg,Yh,Yi,Yj,Yk,Yl,Ym,Yn,Yo,Yp] at h) <;> (try exact Zx))) | (show WC _ _ _ _ _ _; first | refine WC.seq ?_ | refine WC.region ?_ | refine WC.exit ?_ | refine WC.condF rfl Zr ?_) | refine seqQ_n ?_ | refine seqQ_x ?_ | refine blkQ_hit rfl ?_ | refine rndQ_x ?_)
    exact endQ_n D ⟨⟨_, _, ⟨Zo, Zo, Zo⟩, hany'⟩, hS.droplast2 (D := [dkC q mb lb D]) Pu⟩ trivial ⟨rfl, rfl, rfl, rfl, rfl, rfl, rfl, trivial⟩
  ·clear hone
   repeat' (first | (show WL _ _ _ _ _ _ _; first | refine WL.pure rfl rfl rfl rfl ?_ | refine WL.nil ?_ | refine WL.skip rfl rfl rfl ?_ | ((fail_if_success (refine WL.wanted rfl ?_)); refine WL.guard rfl rfl rfl (fun h => ?_) (fun h => ?_) <;> (try simp only [Ya,Yb,Yc,Yd,Ye,Yf,Yg,Yh,Yi,Yj,Yk,Yl,Ym,Yn,Yo,Yp] at h) <;> (try exact Zx))) | (show WC _ _ _ _ _ _; first | refine WC.seq ?_ | refine WC.region ?_ | refine WC.exit ?_ | refine WC.condF rfl Zr ?_) | refine seqQ_n ?_ | refine seqQ_x ?_ | refine blkQ_hit rfl ?_ | refine rndQ_x ?_)
   exact endQ_n D ⟨⟨_, _, ⟨Zo, Zo, Zo⟩, hany⟩, hS.droplast2 (D := [dkC q mb lb D]) Pu⟩ trivial ⟨rfl, rfl, rfl, rfl, rfl, rfl, rfl, trivial⟩
 ·clear hS hrn hlaid htwo htr hop0 hone hany
  rintro D g w ⟨⟨n, m, ⟨hn1, hn2, hm⟩, hany⟩, hS⟩
  show WC _ _ _ (lf _ [] _ _) _ _
  refine WC.cutS (σ := Dk) [0, 1, 2, 3, 13, 17] (fun _ => []) (fun E w => (E.down = false ∧ ∃ f, Rn D0 hub side h s n m E f ∧ (e = 14 ∨ e = 0 ∧ f = fn2 hub side h s)) ∧ St w0 [] w [dkC q mb lb E] [⟨w0, Old w0⟩]) ?_ ?_
  ·clear hlast
   rcases hany with ⟨hdn, he14, hde⟩ | ⟨hup, f, hrn, he⟩
   ·subst he14
    obtain ⟨r1, r2, r3⟩ := hde.rst Zo
    obtain ⟨f, hrn⟩ := hde.again loss
    have hE : (D.restart loss).down = false := rfl
    clear hde
    generalize hEe : D.restart loss = E at *
    repeat' (first | (show WL _ _ _ _ _ _ _; first | refine WL.pure rfl rfl rfl rfl ?_ | refine WL.nil ?_ | (refine WL.calls hS rfl rfl (ddown_c (hS.holds (dkC q mb lb D) (by repeat (first | exact Zh | apply List.Mem.tail))).1) rfl rfl rfl ?_; rintro v w rfl hS; rw [hdn]) | (refine WL.callL (D := [dkC q mb lb D]) hS Pu rfl rfl (fun hI => restart_c loss hI.head hI.headB r1 r2 r3) rfl rfl rfl ?_; rintro v w ⟨rfl, hm⟩ hS; rw [hEe] at hm; replace hS := hS _ (.of1 hm); clear hm)) | (show WC _ _ _ _ _ _; first | refine WC.seq ?_ | refine WC.region ?_ | refine WC.skip ?_ | refine WC.condF rfl Zd ?_) | refine seqQ_n ?_)
    exact endQ_n E ⟨⟨hE, f, hrn, .inl rfl⟩, hS⟩ trivial ⟨rfl, rfl, rfl, rfl, rfl, rfl, trivial⟩
   ·repeat' (first | (show WL _ _ _ _ _ _ _; first | refine WL.pure rfl rfl rfl rfl ?_ | refine WL.nil ?_ | (refine WL.calls hS rfl rfl (ddown_c (hS.holds (dkC q mb lb D) (by repeat (first | exact Zh | apply List.Mem.tail))).1) rfl rfl rfl ?_; rintro v w rfl hS; rw [hup]) | refine WL.skip rfl rfl rfl ?_) | (show WC _ _ _ _ _ _; first | refine WC.seq ?_ | refine WC.region ?_ | refine WC.skip ?_ | refine WC.condF rfl Zr ?_) | refine seqQ_n ?_)
    exact endQ_n D ⟨⟨hup, f, hrn, he⟩, hS⟩ trivial ⟨rfl, rfl, rfl, rfl, rfl, rfl, trivial⟩
  ·clear hS hany
   rintro E2 g w ⟨⟨hup, f, hrn, he⟩, hS⟩
   show WC _ _ _ (lf _ [] _ _) _ _
   obtain ⟨sm, hlg, T3, D3, ho3, hb3, T4, D4, hri, htd, hw4, hu4, hb4, hd1, hd2, hend⟩ := hlast _ _ _ _ _ hrn hup he Zo Zo Zo
   clear hlast hrn he
   have hopn := fun q mb lb (w : World) (hI : InL w [dkC q mb lb (E2.arm (-1))]) => topen_c sysP hI Zd sm hlg
   rw [ho3] at hopn
   clear sm hlg ho3
   rcases hend with ⟨rfl, hk, e1, e2⟩ | ⟨hk, e1, e2⟩
   ·have hold := fun q mb lb (w : World) (hI : InL w [dkC q mb lb D4]) (hA : SlAt cEnt (fun b => b < w.heap.size ∧ b ∉ fps [dkC q mb lb D4]) w A hub) (hB : SlAt cEnt (fun b => b < w.heap.size ∧ b ∉ fps [dkC q mb lb D4]) w B side) => holds_c (ca := ca) (cb := cb) hI hA hB hw4 hu4 hb4 Zd hd1 hd2 e1 e2
    repeat' (first | (show WL _ _ _ _ _ _ _; first | refine WL.pure rfl rfl rfl rfl ?_ | refine WL.nil ?_ | (refine WL.callL (D := [dkC q mb lb E2]) hS Pu rfl rfl (fun hI => arm_c (-1) hI.head hI.headB) rfl rfl rfl ?_; rintro v w ⟨rfl, hm⟩ hS; replace hS := hS _ (.of1 hm); clear hm) | (refine WL.callL (D := [dkC q mb lb (E2.arm (-1))]) hS Pu rfl rfl (fun hI => hopn _ _ _ _ hI) rfl rfl rfl ?_; rintro v w ⟨Tp4, fp3, rfl, hm⟩ hS; replace hS := hS _ hm; clear hm) | (refine WL.callL (D := [tabC Tp4 q T3 fp3, dkC q mb lb D3]) hS Pu rfl rfl (fun hI => arecover_c hI hri hb3 Zd (hp.pull hS Pu)) rfl rfl rfl ?_; rintro v w ⟨rfl, fp4, hm⟩ hS; replace hS := hS _ hm; clear hm) | (refine WL.callL (D := [tabC Tp4 q T4 fp4]) hS Pu rfl rfl (fun hI => tget_c kK hI) rfl rfl rfl ?_; rintro v w ⟨rfl, hm⟩ hS; dsimp only; rw [hk]; replace hS := hS _ hm; clear hm) | (refine WL.callL (D := [tabC Tp4 q T4 fp4]) hS Pu rfl rfl (fun hI => tget_c todoK hI) rfl rfl rfl ?_; rintro v w ⟨rfl, hm⟩ hS; dsimp only; rw [htd]; replace hS := hS _ hm; clear hm) | (refine WL.callL (D := [dkC q mb lb D4]) hS Pu rfl rfl (fun hI => hold _ _ _ _ hI (St.slY (hS.pulls Pu) (by repeat (first | exact Zh | apply List.Mem.tail)) hA) (St.slY (hS.pulls Pu) (by repeat (first | exact Zh | apply List.Mem.tail)) hB)) rfl rfl rfl ?_; rintro v w ⟨rfl, hm⟩ hS; replace hS := hS _ hm; clear hm)) | (show WC _ _ _ _ _ _; first | refine WC.seq ?_ | refine WC.region ?_ | refine WC.skip ?_ | refine WC.ret ?_ | refine WC.condF rfl Zr ?_ | refine WC.condF rfl (decide_eq_false Zw) ?_) | refine seqQ_n ?_)
    exact fin1r rfl rfl ⟨hS.upd, rfl⟩
   ·have hold := fun q mb lb (w : World) (hI : InL w [dkC q mb lb D4]) (hA : SlAt cEnt (fun b => b < w.heap.size ∧ b ∉ fps [dkC q mb lb D4]) w C h) (hB : SlAt cEnt (fun b => b < w.heap.size ∧ b ∉ fps [dkC q mb lb D4]) w E s) => holds_c (ca := cc) (cb := ce) hI hA hB hw4 hu4 hb4 Zd hd1 hd2 e1 e2
    repeat' (first | (show WL _ _ _ _ _ _ _; first | refine WL.pure rfl rfl rfl rfl ?_ | refine WL.nil ?_ | (refine WL.callL (D := [dkC q mb lb E2]) hS Pu rfl rfl (fun hI => arm_c (-1) hI.head hI.headB) rfl rfl rfl ?_; rintro v w ⟨rfl, hm⟩ hS; replace hS := hS _ (.of1 hm); clear hm) | (refine WL.callL (D := [dkC q mb lb (E2.arm (-1))]) hS Pu rfl rfl (fun hI => hopn _ _ _ _ hI) rfl rfl rfl ?_; rintro v w ⟨Tp4, fp3, rfl, hm⟩ hS; replace hS := hS _ hm; clear hm) | (refine WL.callL (D := [tabC Tp4 q T3 fp3, dkC q mb lb D3]) hS Pu rfl rfl (fun hI => arecover_c hI hri hb3 Zd (hp.pull hS Pu)) rfl rfl rfl ?_; rintro v w ⟨rfl, fp4, hm⟩ hS; replace hS := hS _ hm; clear hm) | (refine WL.callL (D := [tabC Tp4 q T4 fp4]) hS Pu rfl rfl (fun hI => tget_c kK hI) rfl rfl rfl ?_; rintro v w ⟨rfl, hm⟩ hS; dsimp only; rw [hk]; replace hS := hS _ hm; clear hm) | (refine WL.callL (D := [tabC Tp4 q T4 fp4]) hS Pu rfl rfl (fun hI => tget_c todoK hI) rfl rfl rfl ?_; rintro v w ⟨rfl, hm⟩ hS; dsimp only; rw [htd]; replace hS := hS _ hm; clear hm) | (refine WL.callL (D := [dkC q mb lb D4]) hS Pu rfl rfl (fun hI => hold _ _ _ _ hI (St.slY (hS.pulls Pu) (by repeat (first | exact Zh | apply List.Mem.tail)) hC) (St.slY (hS.pulls Pu) (by repeat (first | exact Zh | apply List.Mem.tail)) hE)) rfl rfl rfl ?_; rintro v w ⟨rfl, hm⟩ hS; replace hS := hS _ hm; clear hm)) | (show WC _ _ _ _ _ _; first | refine WC.seq ?_ | refine WC.region ?_ | refine WC.skip ?_ | refine WC.ret ?_ | refine WC.condT rfl Zr ?_ | refine WC.condF rfl Zr ?_ | refine WC.condF rfl (decide_eq_false Zw) ?_) | refine seqQ_n ?_ | refine seqQ_r ?_)
    exact fin1r rfl rfl ⟨hS.upd, rfl⟩
open Go Go.J Go.RowKit
theorem pow_applyWhole (W : World) (h : laidMet Tryz.prog Rows.applyWholeUptoRow.laid W) : powT W := by
 obtain ⟨a, b, r, he⟩ : ∃ a b r, Rows.applyWholeUptoRow.laid = a :: b :: ("internal/strconv.uint64pow10", Lib.tabData .u64 Lib.pow10Tab) :: r := ⟨_, _, _, rfl⟩
 rw [he] at h
 have h1 := laidMet.tail (laidMet.tail h)
 exact Lib.tabIs_of_head (g := 1) (t := 292) (e := 129) (n := 20) Zk Zk Zk Zk Zk Zk h1
structure I3 where
 a : Int
 b : Int
 c : Int
instance : Inhabited I3 := ⟨⟨0, 0, 0⟩⟩
def cI3 : Cod I3 := .flat (fun t => [.int .i64 t.a, .int .i64 t.b, .int .i64 t.c]) 3 fun _ => rfl
def QI3 (t : I3) (b : Nat) : Prop := 1 ≤ b
theorem open_i3 : Opens Tryz.prog 101 cI3 QI3 := by
 intro H enc W fuel cs x h
 obtain ⟨xs, m, _, rfl, hlen, hxl, hf⟩ := DataW.trod_array Tryz.underlying101 h
 obtain ⟨x0, x1, x2, rfl⟩ := list3S hxl
 obtain ⟨d0, d1, d2, rfl⟩ := list3S (hlen.trans Zk)
 have h0 := hf 0 Zd
 have h1 := hf 1 Zd
 have h2 := hf 2 Zd
 change DataW.trod enc Tryz.prog W 0 _ true m 3 [d0] = some x0 at h0
 change DataW.trod enc Tryz.prog W 0 _ true m 3 [d1] = some x1 at h1
 change DataW.trod enc Tryz.prog W 0 _ true m 3 [d2] = some x2 at h2
 obtain ⟨s0, e0, q0⟩ := Opens.int Tryz.underlying3 enc W m [d0] x0 h0
 obtain ⟨s1, e1, q1⟩ := Opens.int Tryz.underlying3 enc W m [d1] x1 h1
 obtain ⟨s2, e2, q2⟩ := Opens.int Tryz.underlying3 enc W m [d2] x2 h2
 have e0 : [d0] = [.int .i64 s0] := e0
 have e1 : [d1] = [.int .i64 s1] := e1
 have e2 : [d2] = [.int .i64 s2] := e2
 simp only [List.cons.injEq, and_true] at e0 e1 e2
 subst e0 e1 e2
 refine ⟨⟨s0, s1, s2⟩, rfl, ?_⟩
 show 1 ≤ _
 have := q0.2.2
 simp only [Rows.uptoBulk, Rows.uptoBulkAll, List.map_cons, List.map_nil]
 omega
theorem okWide_arr {P : Program} {w : World} {r : Reach} {base : Nat} {t e : TypeId} {n : Nat} {v : Value} (ht : P.underlying t = some (.array n e)) (h : Value.okWide P w r base t v) : ∃ cs, v = .agg cs ∧ cs.size = P.cellsOf t := by
 simp only [Value.okWide, ht] at h
 obtain ⟨cs, h1, h2, _⟩ := h
 exact ⟨cs, h1, h2⟩
theorem Arg.arr {α : Type} {P : Program} {t e : TypeId} {n : Nat} {c : Cod α} {Q : α → Nat → Prop} (ht : P.underlying t = some (.array n e)) (ho : Opens P t c Q) : Arg P t (AAgg c) Q := by
 intro H enc W base v d p hk hd
 obtain ⟨cs, rfl, _⟩ := okWide_arr ht hk
 obtain ⟨fuel, hf⟩ := hd
 obtain ⟨y, hy, hq⟩ := ho enc W fuel _ _ hf
 exact ⟨y, ⟨cs.toList, by cases cs; rfl, hy⟩, hq⟩
theorem arg_i3 : Arg Tryz.prog 101 (AAgg cI3) QI3 := Arg.arr Tryz.underlying101 open_i3
theorem applyWhole.key_applyWhole (W : World) (hL : laidMet Tryz.prog Rows.applyWholeUptoRow.laid W) (v0 v1 v2 v3 v4 v5 : Value) (y0 y1 y2 y3 : List Ent) (y4 : I3) (y5 : Int) (b0 b1 b2 b3 b4 b5 : Nat) (h0 : ASl cEnt W v0 y0) (h1 : ASl cEnt W v1 y1) (h2 : ASl cEnt W v2 y2) (h3 : ASl cEnt W v3 y3) (h4 : AAgg cI3 W v4 y4) (h5 : AInt W v5 y5) (q0 : QL QEnt y0 b0) (q1 : QL QEnt y1 b1) (q2 : QL QEnt y2 b2) (q3 : QL QEnt y3 b3) (q4 : QI3 y4 b4) (q5 : QInt y5 b5) (hb : b0 + b1 + b2 + b3 + b4 + b5 ≤ 1048576) :
  Cal Tryz.prog 8 [v0, v1, v2, v3, v4, v5] W (fun v W' => Upd [] W W' ∧ v = .bool true) := by
 obtain ⟨A0, c0, rfl, k0, h0⟩ := h0
 obtain ⟨A1, c1, rfl, k1, h1⟩ := h1
 obtain ⟨A2, c2, rfl, k2, h2⟩ := h2
 obtain ⟨A3, c3, rfl, k3, h3⟩ := h3
 obtain ⟨cs, rfl, h4⟩ := h4
 obtain ⟨i0, i1, i2⟩ := y4
 have h4 : cs = [.int .i64 i0, .int .i64 i1, .int .i64 i2] := h4
 subst h4
 obtain rfl := h5
 obtain ⟨z0, l0⟩ := ents_each q0 Zo
 obtain ⟨z1, l1⟩ := ents_each q1 Zo
 obtain ⟨z2, l2⟩ := ents_each q2 Zo
 obtain ⟨z3, l3⟩ := ents_each q3 Zo
 exact applyWhole_c y0 y1 y2 y3 i0 i1 i2 y5 h0 h1 h2 h3 k0 k1 k2 k3 l0 l1 l2 l3 z0 z1 z2 z3 (pow_applyWhole W hL)
end Go.Proofs.YtccfiohagbneaaaGreatDoor
