/- What is proved: contracts and plain facts that the law leans on (texts put together). Conditions: as each names them. -/
import Derived.Test.YtniacmoniaaolaaGreatDoorM3
set_option linter.unusedSimpArgs false
set_option linter.unusedVariables false
/- What is proved: batches of a table: begun, changed, asked. Conditions: texts and lists of bounded length. -/
set_option linter.unusedSimpArgs false
set_option linter.unusedVariables false
namespace Go.Proofs.YtniacmoniaaolaaGreatDoor
open Go Go.J Go.RowKit

abbrev Bch := List (List UInt8 × Chg)
/-- a batch: the keys in the order of their coming, and the changes by key -/
def bchφ (B : Nat) (tp : Option Addr) (m : Bch) (D : List Chunk) : Prop := ∃ A cap mb, D = [.box B 72 [.pointer tp, .slice A m.length cap, .map (some mb)], .own (.slice A m.length cap) 9 1 m.length (strs (m.map Prod.fst)), mapC mb (mmap encChg m)]
abbrev bchC (B : Nat) (tp : Option Addr) (m : Bch) (fp : List Nat) : Chunk := objC (bchφ B tp m) fp
/-- a change noted -/
def noteE (m : Bch) (o : Chg) : Bch := mset m o.key o
theorem look_chg (m : Bch) (k : List UInt8) : lookV (encChg Chg0) (mmap encChg m) k true = .tuple #[encChg ((mget m k).getD Chg0), .bool (mget m k).isSome] := by
  unfold lookV
  rw [mget_map]
  cases mget m k <;> rfl
theorem look_chg1 (m : Bch) (k : List UInt8) : lookV (encChg Chg0) (mmap encChg m) k false = encChg ((mget m k).getD Chg0) := by
  unfold lookV
  rw [mget_map]
  cases mget m k <;> rfl
set_option maxHeartbeats 4000000 in
set_option maxRecDepth 100000 in
theorem begin_c {tp : Option Addr} (w0 : World) : Cal Tryz.prog 7 [.pointer tp] w0 (fun v w' => Upd [] w0 w' ∧ ∃ B fp, v = .pointer (some ⟨B, 0, none⟩) ∧ New w0 w' (bchC B tp [] fp)) := by
  refine Cal.mk' (by kernel_rfl) Tryz.func7 rfl rfl fun hS => ?_
  repeat' (first
    | (show WL _ _ _ _ _ _ _; first
      | refine WL.pure rfl rfl rfl rfl ?_
      | refine WL.nil ?_
      | (refine WL.mmake hS rfl rfl rfl rfl rfl ?_; intro w mb hS)
      | (refine WL.box hS rfl rfl rfl rfl rfl ?_; intro w b hS)
      | refine WL.build rfl rfl rfl rfl rfl ?_)
    | (show WC _ _ _ _ _ _; first
      | refine WC.seq ?_
      | refine WC.region ?_
      | refine WC.ret ?_)
    | refine seqQ_n ?_)
  have hS := St.objClose (φ := bchφ _ tp []) ((hS.nilRow 9 1).pulls (D := [.box _ 72 [.pointer tp, .slice none 0 0, .map (some mb)], .own (.slice none 0 0) 9 1 0 [], mapC mb []]) (by repeat (first | exact Pulls.nil | (apply Pulls.cons; focus (repeat (first | exact Pull.here | apply Pull.there)))))) ⟨none, 0, mb, rfl⟩
  exact fin1r rfl rfl ⟨hS.upd, _, _, rfl, hS.newOf (List.Mem.head _)⟩
set_option maxHeartbeats 4000000 in
set_option maxRecDepth 100000 in
theorem noteNil_c (o : Chg) (w0 : World) : Cal Tryz.prog 53 [.pointer none, encChg o] w0 (fun v w' => Upd [] w0 w' ∧ v = .tuple #[]) := by
  refine Cal.mk' (by kernel_rfl) Tryz.func53 rfl rfl fun hS => ?_
  repeat' (first
    | (show WL _ _ _ _ _ _ _; first
      | refine WL.pure rfl rfl rfl rfl ?_
      | refine WL.nil ?_
      | (refine WL.box hS rfl rfl rfl rfl rfl ?_; intro w b hS))
    | (show WC _ _ _ _ _ _; first
      | refine WC.seq ?_
      | refine WC.region ?_
      | refine WC.ret ?_
      | refine WC.condT rfl (by with_reducible rfl) ?_)
    | refine seqQ_n ?_
    | refine seqQ_r ?_)
  exact fin0r rfl ⟨hS.upd, rfl⟩
theorem mset_fst (m : Bch) (k : List UInt8) (o : Chg) : (mget m k).isSome = true → (mset m k o).map Prod.fst = m.map Prod.fst := by
  intro h
  rw [mset_keys, if_pos]
  apply Classical.byContradiction
  intro hn
  rw [mget_none.2 hn] at h
  cases h
theorem mset_fst2 (m : Bch) (k : List UInt8) (o : Chg) : (mget m k).isSome = false → (mset m k o).map Prod.fst = m.map Prod.fst ++ [k] := by
  intro h
  rw [mset_keys, if_neg]
  intro hn
  cases hg : mget m k with
  | none => exact mget_none.1 hg hn
  | some v => rw [hg] at h; cases h
theorem len_of_fst {m : Bch} {l : List (List UInt8)} (h : m.map Prod.fst = l) : m.length = l.length := by rw [← h, List.length_map]
set_option maxHeartbeats 8000000 in
set_option maxRecDepth 100000 in
theorem note_c {B : Nat} {tp : Option Addr} {m : Bch} {fp : List Nat} (o : Chg) {w0 : World} (hc : (bchC B tp m fp).holds w0) (hi : inB (bchC B tp m fp) w0) (hm : m.length ≤ 1099511627) :
    Cal Tryz.prog 53 [.pointer (some ⟨B, 0, none⟩), encChg o] w0 (fun v w' => v = .tuple #[] ∧ ∃ fp', Mut w0 w' (bchC B tp m fp) (bchC B tp (noteE m o) fp')) := by
  refine Cal.mkM hc hi (by kernel_rfl) Tryz.func53 rfl rfl fun hS => ?_
  obtain ⟨_, ⟨A, cap, mb, rfl⟩, hfp, hS⟩ := St.objOpen (H := []) hS
  replace hS : St w0 (bchC B tp m fp).fp w0 [.box B 72 [.pointer tp, .slice A m.length cap, .map (some mb)], .own (.slice A m.length cap) 9 1 m.length (strs (m.map Prod.fst)), mapC mb (mmap encChg m)] _ := hS
  obtain ⟨key, val, gone⟩ := o
  have hlk := look_chg m key
  have h1 := mset_fst m key ⟨key, val, gone⟩
  have h2 := mset_fst2 m key ⟨key, val, gone⟩
  generalize (mget m key).isSome = there at *
  generalize (mget m key).getD Chg0 = was at *
  obtain ⟨k0, v0, g0⟩ := was
  rcases there with _ | _
  · have h2 := h2 rfl
    clear h1
    repeat' (first
      | (show WL _ _ _ _ _ _ _; first
        | refine WL.pure rfl rfl rfl rfl ?_
        | refine WL.nil ?_
        | (refine WL.box hS rfl rfl rfl rfl rfl ?_; intro w b hS))
      | (show WC _ _ _ _ _ _; first
        | refine WC.seq ?_
        | refine WC.region ?_
        | refine WC.skip ?_
        | (show WC _ _ (Code.region _ (List.toArray [_, _, _, _, _, _, _, _, _, _, _, _, _]) true) _ _ _; refine WC.drawS hS [0,1,2,3,4,5,6,7,8,9,12] [0,1,2,3,4,5,6,7,8,9,10,11,12] (by kernel_rfl) (by kernel_rfl) ?_; clear hS; intro w hS hM)
        | (show WC _ _ (Code.region _ (List.toArray [_, _, _, _, _, _, _, _, _, _, _, _]) true) _ _ _; refine WC.drawLV [.own (.slice A m.length cap) 9 1 m.length (strs (m.map Prod.fst))] hS (by repeat (first | exact Pulls.nil | (apply Pulls.cons; focus (repeat (first | exact Pull.here | apply Pull.there))))) [0,1,2,3,4,5,6,9,10] [0,1,2,3,4,5,6,7,8,9,10] 11 [] (by kernel_rfl) (by kernel_rfl) ?_; clear hS; intro w hS hM)
        | (show WC _ _ (Code.region _ (List.toArray [_, _, _, _, _, _, _, _]) true) _ _ _; refine WC.drawL [mapC mb (mmap encChg m)] hS (by repeat (first | exact Pulls.nil | (apply Pulls.cons; focus (repeat (first | exact Pull.here | apply Pull.there))))) [0,1,2,3,4,5,6] [0,1,2,3,4,5,6,7] (by kernel_rfl) (by kernel_rfl) ?_; clear hS; intro w hS hM)
        | refine WC.condF rfl (by with_reducible rfl) ?_
        | refine WC.condT rfl (by decide) ?_)
      | (show WD _ _ _ _ _ _ _ _ _; first
        | refine WD.pure rfl rfl rfl rfl rfl ?_
        | refine WD.nil ?_
        | refine WD.load rfl rfl (LdOk.box (by repeat (first | exact List.Mem.head _ | apply List.Mem.tail)) rfl) rfl rfl rfl rfl ?_
        | (refine WD.mget rfl rfl rfl rfl (.mk' (by repeat (first | exact List.Mem.head _ | apply List.Mem.tail))) hlk rfl rfl rfl rfl ?_)
        | (refine WD.alloc (t := 79) hS hM rfl rfl rfl rfl rfl rfl rfl rfl ?_; clear hS; intro w xb hS hM)
        | (refine WD.store hS rfl rfl rfl (by repeat (first | exact StB.here rfl | apply StB.there)) rfl (More.chunk (.refl _ _) _) rfl rfl rfl rfl ?_; clear hS hM; intro w hS hM)
        | (refine WD.app hS (by repeat (first | exact Pull.here | apply Pull.there)) (More.chunk (.refl _ _) _) rfl rfl rfl rfl (RdOk.box (by repeat (first | exact List.Mem.head _ | apply List.Mem.tail))) rfl rfl (by omega) rfl rfl rfl rfl rfl ?_; clear hS hM; intro A2 cap2 w hS hM)
        | (refine WD.pivStore hS rfl rfl rfl (by repeat (first | exact StB.here rfl | apply StB.there)) rfl rfl rfl rfl ?_; clear hS; intro w hS hM)
        | (refine WD.msetC hS (More.refl _ _) (.inl rfl) rfl rfl rfl rfl rfl rfl rfl rfl ?_; clear hS; intro w hS)
        | (refine WD.slit hS hM rfl rfl rfl rfl rfl rfl rfl ?_; intro w b hS hM))
      | refine seqQ_n ?_)
    have e1 : (noteE m ⟨key, val, gone⟩).length = m.length + 1 := by have := len_of_fst h2; unfold noteE; simpa using this
    have e2 : strs ((noteE m ⟨key, val, gone⟩).map Prod.fst) = strs (m.map Prod.fst) ++ [str key] := by
      show strs ((mset m key ⟨key, val, gone⟩).map Prod.fst) = _
      rw [h2, strs_snoc]
    have e3 : mmap encChg (noteE m ⟨key, val, gone⟩) = mset (mmap encChg m) key (encChg ⟨key, val, gone⟩) := by unfold noteE; rw [← mset_map]
    have hS := St.objClose (φ := bchφ B tp (noteE m ⟨key, val, gone⟩)) (hS.pulls (D := [.box B 72 [.pointer tp, .slice A2 (m.length + 1) cap2, .map (some mb)], .own (.slice A2 (m.length + 1) cap2) 9 1 (m.length + 1) (strs (m.map Prod.fst) ++ [str key]), mapC mb (mset (mmap encChg m) key (encChg ⟨key, val, gone⟩))]) (by repeat (first | exact Pulls.nil | (apply Pulls.cons; focus (repeat (first | exact Pull.here | apply Pull.there)))))) ⟨A2, cap2, mb, by rw [e1, e2, e3]⟩
    exact fin0n rfl ⟨rfl, _, hS.mutOf (List.Mem.head _)⟩
  · have h1 := h1 rfl
    clear h2
    repeat' (first
      | (show WL _ _ _ _ _ _ _; first
        | refine WL.pure rfl rfl rfl rfl ?_
        | refine WL.nil ?_
        | (refine WL.box hS rfl rfl rfl rfl rfl ?_; intro w b hS))
      | (show WC _ _ _ _ _ _; first
        | refine WC.seq ?_
        | refine WC.region ?_
        | refine WC.skip ?_
        | (show WC _ _ (Code.region _ (List.toArray [_, _, _, _, _, _, _, _, _, _, _, _, _]) true) _ _ _; refine WC.drawS hS [0,1,2,3,4,5,6,7,8,9,12] [0,1,2,3,4,5,6,7,8,9,10,11,12] (by kernel_rfl) (by kernel_rfl) ?_; clear hS; intro w hS hM)
        | (show WC _ _ (Code.region _ (List.toArray [_, _, _, _, _, _, _, _]) true) _ _ _; refine WC.drawL [mapC mb (mmap encChg m)] hS (by repeat (first | exact Pulls.nil | (apply Pulls.cons; focus (repeat (first | exact Pull.here | apply Pull.there))))) [0,1,2,3,4,5,6] [0,1,2,3,4,5,6,7] (by kernel_rfl) (by kernel_rfl) ?_; clear hS; intro w hS hM)
        | refine WC.condF rfl (by with_reducible rfl) ?_
        | refine WC.condF rfl (by decide) ?_)
      | (show WD _ _ _ _ _ _ _ _ _; first
        | refine WD.pure rfl rfl rfl rfl rfl ?_
        | refine WD.nil ?_
        | refine WD.load rfl rfl (LdOk.box (by repeat (first | exact List.Mem.head _ | apply List.Mem.tail)) rfl) rfl rfl rfl rfl ?_
        | (refine WD.mget rfl rfl rfl rfl (.mk' (by repeat (first | exact List.Mem.head _ | apply List.Mem.tail))) hlk rfl rfl rfl rfl ?_)
        | (refine WD.alloc (t := 79) hS hM rfl rfl rfl rfl rfl rfl rfl rfl ?_; clear hS; intro w xb hS hM)
        | (refine WD.store hS rfl rfl rfl (by repeat (first | exact StB.here rfl | apply StB.there)) rfl (More.chunk (.refl _ _) _) rfl rfl rfl rfl ?_; clear hS hM; intro w hS hM)
        | (refine WD.msetC hS (More.refl _ _) (.inl rfl) rfl rfl rfl rfl rfl rfl rfl rfl ?_; clear hS; intro w hS))
      | refine seqQ_n ?_)
    have e1 : (noteE m ⟨key, val, gone⟩).length = m.length := by have := len_of_fst h1; unfold noteE; simpa using this
    have e2 : strs ((noteE m ⟨key, val, gone⟩).map Prod.fst) = strs (m.map Prod.fst) := by
      show strs ((mset m key ⟨key, val, gone⟩).map Prod.fst) = _
      rw [h1]
    have e3 : mmap encChg (noteE m ⟨key, val, gone⟩) = mset (mmap encChg m) key (encChg ⟨key, val, gone⟩) := by unfold noteE; rw [← mset_map]
    have hS := St.objClose (φ := bchφ B tp (noteE m ⟨key, val, gone⟩)) (hS.pulls (D := [.box B 72 [.pointer tp, .slice A m.length cap, .map (some mb)], .own (.slice A m.length cap) 9 1 m.length (strs (m.map Prod.fst)), mapC mb (mset (mmap encChg m) key (encChg ⟨key, val, gone⟩))]) (by repeat (first | exact Pulls.nil | (apply Pulls.cons; focus (repeat (first | exact Pull.here | apply Pull.there)))))) ⟨A, cap, mb, by rw [e1, e2, e3]⟩
    exact fin0n rfl ⟨rfl, _, hS.mutOf (List.Mem.head _)⟩
set_option maxHeartbeats 4000000 in
set_option maxRecDepth 100000 in
theorem bput_c {B : Nat} {tp : Option Addr} {m : Bch} {fp : List Nat} (key val : List UInt8) {w0 : World} (hc : (bchC B tp m fp).holds w0) (hi : inB (bchC B tp m fp) w0) (hm : m.length ≤ 1099511627) :
    Cal Tryz.prog 25 [.pointer (some ⟨B, 0, none⟩), str key, str val] w0 (fun v w' => v = .tuple #[] ∧ ∃ fp', Mut w0 w' (bchC B tp m fp) (bchC B tp (noteE m ⟨key, val, false⟩) fp')) := by
  refine Cal.mkM hc hi (by kernel_rfl) Tryz.func25 rfl rfl fun hS => ?_
  repeat' (first
    | (show WL _ _ _ _ _ _ _; first
      | refine WL.pure rfl rfl rfl rfl ?_
      | refine WL.nil ?_
      | (refine WL.callG rfl rfl (note_c ⟨key, val, false⟩ (hS.holds _ (List.Mem.head _)) (hS.inB_of (List.Mem.head _)) hm) rfl rfl rfl ?_; rintro v w ⟨rfl, fp', hmut⟩; have hS := hS.mut hmut .here; clear hmut)
      | refine WL.build rfl rfl rfl rfl rfl ?_)
    | (show WC _ _ _ _ _ _; first
      | refine WC.region ?_)
    | fail)
  exact fin0n rfl ⟨rfl, _, hS.mutOf (List.Mem.head _)⟩
set_option maxHeartbeats 4000000 in
set_option maxRecDepth 100000 in
theorem bdrop_c {B : Nat} {tp : Option Addr} {m : Bch} {fp : List Nat} (key : List UInt8) {w0 : World} (hc : (bchC B tp m fp).holds w0) (hi : inB (bchC B tp m fp) w0) (hm : m.length ≤ 1099511627) :
    Cal Tryz.prog 23 [.pointer (some ⟨B, 0, none⟩), str key] w0 (fun v w' => v = .tuple #[] ∧ ∃ fp', Mut w0 w' (bchC B tp m fp) (bchC B tp (noteE m ⟨key, [], true⟩) fp')) := by
  refine Cal.mkM hc hi (by kernel_rfl) Tryz.func23 rfl rfl fun hS => ?_
  repeat' (first
    | (show WL _ _ _ _ _ _ _; first
      | refine WL.pure rfl rfl rfl rfl ?_
      | refine WL.nil ?_
      | (refine WL.callG rfl rfl (note_c ⟨key, [], true⟩ (hS.holds _ (List.Mem.head _)) (hS.inB_of (List.Mem.head _)) hm) rfl rfl rfl ?_; rintro v w ⟨rfl, fp', hmut⟩; have hS := hS.mut hmut .here; clear hmut)
      | refine WL.build rfl rfl rfl rfl rfl ?_)
    | (show WC _ _ _ _ _ _; first
      | refine WC.region ?_)
    | fail)
  exact fin0n rfl ⟨rfl, _, hS.mutOf (List.Mem.head _)⟩
set_option maxHeartbeats 4000000 in
set_option maxRecDepth 100000 in
theorem bputNil_c (key val : List UInt8) (w0 : World) : Cal Tryz.prog 25 [.pointer none, str key, str val] w0 (fun v w' => Upd [] w0 w' ∧ v = .tuple #[]) := by
  refine Cal.mk' (by kernel_rfl) Tryz.func25 rfl rfl fun hS => ?_
  repeat' (first
    | (show WL _ _ _ _ _ _ _; first
      | refine WL.pure rfl rfl rfl rfl ?_
      | refine WL.nil ?_
      | (refine WL.calls hS rfl rfl (noteNil_c ⟨key, val, false⟩ _) rfl rfl rfl ?_; rintro v w rfl hS)
      | refine WL.build rfl rfl rfl rfl rfl ?_)
    | (show WC _ _ _ _ _ _; first
      | refine WC.region ?_)
    | fail)
  exact fin0n rfl ⟨hS.upd, rfl⟩
set_option maxHeartbeats 4000000 in
set_option maxRecDepth 100000 in
theorem bdropNil_c (key : List UInt8) (w0 : World) : Cal Tryz.prog 23 [.pointer none, str key] w0 (fun v w' => Upd [] w0 w' ∧ v = .tuple #[]) := by
  refine Cal.mk' (by kernel_rfl) Tryz.func23 rfl rfl fun hS => ?_
  repeat' (first
    | (show WL _ _ _ _ _ _ _; first
      | refine WL.pure rfl rfl rfl rfl ?_
      | refine WL.nil ?_
      | (refine WL.calls hS rfl rfl (noteNil_c ⟨key, [], true⟩ _) rfl rfl rfl ?_; rintro v w rfl hS)
      | refine WL.build rfl rfl rfl rfl rfl ?_)
    | (show WC _ _ _ _ _ _; first
      | refine WC.region ?_)
    | fail)
  exact fin0n rfl ⟨hS.upd, rfl⟩
end Go.Proofs.YtniacmoniaaolaaGreatDoor

/- What is proved: what a table and a batch answer of a key. Conditions: none. -/
set_option linter.unusedSimpArgs false
set_option linter.unusedVariables false
namespace Go.Proofs.YtniacmoniaaolaaGreatDoor
open Go Go.J Go.RowKit

theorem look_row (m : Rws) (k : List UInt8) : lookV (encRow []) (mmap encRow m) k true = .tuple #[encRow ((mget m k).getD []), .bool (mget m k).isSome] := by
  unfold lookV
  rw [mget_map]
  cases mget m k <;> rfl
theorem look_row1 (m : Rws) (k : List UInt8) : lookV (encRow []) (mmap encRow m) k false = encRow ((mget m k).getD []) := by
  unfold lookV
  rw [mget_map]
  cases mget m k <;> rfl
def getE (rows : Rws) (k : List UInt8) : List UInt8 × Bool := ((mget rows k).getD [], (mget rows k).isSome)
set_option maxHeartbeats 4000000 in
set_option maxRecDepth 100000 in
theorem tget_c {Tp q : Nat} {T : Tb} {fp : List Nat} (k : List UInt8) {w0 : World} (hi : InL w0 [tabC Tp q T fp]) :
    Cal Tryz.prog 35 [.pointer (some ⟨Tp, 0, none⟩), str k] w0 (fun v w' => v = .tuple #[str (getE T.rows k).1, .bool (getE T.rows k).2] ∧ MutL w0 w' [tabC Tp q T fp] [tabC Tp q T fp]) := by
  refine Cal.mkL hi (by kernel_rfl) Tryz.func35 rfl rfl fun hS => ?_
  obtain ⟨_, ⟨m, L, fpl, rfl⟩, hfp, hS⟩ := St.objOpen (H := []) hS
  replace hS : St w0 (fps [tabC Tp q T fp]) w0 [tbB Tp (some ⟨q, 0, none⟩) T.dir (some ⟨L, 0, none⟩) m, rowsC m T.rows, lgC L q T.log fpl] _ := hS
  have hlk := look_row T.rows k
  unfold getE
  dsimp only
  repeat' (first
    | (show WL _ _ _ _ _ _ _; first
      | refine WL.pure rfl rfl rfl rfl ?_
      | refine WL.nil ?_
      | refine WL.load hS rfl rfl (LdOk.box (by repeat (first | exact List.Mem.head _ | apply List.Mem.tail)) rfl) rfl rfl rfl ?_
      | (refine WL.mget hS rfl rfl rfl rfl (.mk' (by repeat (first | exact List.Mem.head _ | apply List.Mem.tail))) hlk rfl rfl rfl ?_)
      | (refine WL.alloc (t := 105) hS rfl rfl rfl rfl rfl rfl ?_; intro w xb hS)
      | (refine WL.store hS rfl rfl rfl (by repeat (first | exact StB.here rfl | apply StB.there)) rfl rfl rfl ?_; intro w hS))
    | (show WC _ _ _ _ _ _; first
      | refine WC.seq ?_
      | refine WC.region ?_
      | refine WC.skip ?_
      | refine WC.ret ?_
      | refine WC.condF rfl (by with_reducible rfl) ?_)
    | refine seqQ_n ?_)
  have hS := St.objClose (H := []) (φ := tabφ Tp q T) (D := [tbB Tp (some ⟨q, 0, none⟩) T.dir (some ⟨L, 0, none⟩) m, rowsC m T.rows, lgC L q T.log fpl]) hS.drop ⟨m, L, fpl, rfl⟩
  rw [← hfp] at hS
  exact fin2r rfl rfl rfl ⟨rfl, hS.mutLp (by repeat (first | exact Pulls.nil | (apply Pulls.cons; focus (repeat (first | exact Pull.here | apply Pull.there)))))⟩
set_option maxHeartbeats 4000000 in
set_option maxRecDepth 100000 in
theorem tgetNil_c (k : List UInt8) (w0 : World) : Cal Tryz.prog 35 [.pointer none, str k] w0 (fun v w' => Upd [] w0 w' ∧ v = .tuple #[str [], .bool false]) := by
  refine Cal.mk' (by kernel_rfl) Tryz.func35 rfl rfl fun hS => ?_
  repeat' (first
    | (show WL _ _ _ _ _ _ _; first
      | refine WL.pure rfl rfl rfl rfl ?_
      | refine WL.nil ?_)
    | (show WC _ _ _ _ _ _; first
      | refine WC.seq ?_
      | refine WC.region ?_
      | refine WC.ret ?_
      | refine WC.condT rfl (by with_reducible rfl) ?_)
    | refine seqQ_n ?_
    | refine seqQ_r ?_)
  exact fin2r rfl rfl rfl ⟨hS.upd, rfl⟩
set_option maxHeartbeats 4000000 in
set_option maxRecDepth 100000 in
theorem bgetNil_c (k : List UInt8) (w0 : World) : Cal Tryz.prog 31 [.pointer none, str k] w0 (fun v w' => Upd [] w0 w' ∧ v = .tuple #[str [], .bool false]) := by
  refine Cal.mk' (by kernel_rfl) Tryz.func31 rfl rfl fun hS => ?_
  repeat' (first
    | (show WL _ _ _ _ _ _ _; first
      | refine WL.pure rfl rfl rfl rfl ?_
      | refine WL.nil ?_)
    | (show WC _ _ _ _ _ _; first
      | refine WC.seq ?_
      | refine WC.region ?_
      | refine WC.ret ?_
      | refine WC.condT rfl (by with_reducible rfl) ?_)
    | refine seqQ_n ?_
    | refine seqQ_r ?_)
  exact fin2r rfl rfl rfl ⟨hS.upd, rfl⟩
/-- what a batch answers of a key -/
def bgetE (rows : Rws) (m : Bch) (k : List UInt8) : List UInt8 × Bool := match mget m k with
  | some o => (o.val, !o.gone)
  | none => getE rows k
set_option maxHeartbeats 4000000 in
set_option maxRecDepth 100000 in
theorem bget_c {B Tp q : Nat} {T : Tb} {m : Bch} {fb fp : List Nat} (k : List UInt8) {w0 : World} (hi : InL w0 [bchC B (some ⟨Tp, 0, none⟩) m fb, tabC Tp q T fp]) :
    Cal Tryz.prog 31 [.pointer (some ⟨B, 0, none⟩), str k] w0 (fun v w' => v = .tuple #[str (bgetE T.rows m k).1, .bool (bgetE T.rows m k).2] ∧ MutL w0 w' [bchC B (some ⟨Tp, 0, none⟩) m fb, tabC Tp q T fp] [bchC B (some ⟨Tp, 0, none⟩) m fb, tabC Tp q T fp]) := by
  refine Cal.mkL hi (by kernel_rfl) Tryz.func31 rfl rfl fun hS => ?_
  obtain ⟨_, ⟨A, cap, mb, rfl⟩, hfb, hS⟩ := St.objOpen hS
  replace hS : St w0 (fps [bchC B (some ⟨Tp, 0, none⟩) m fb, tabC Tp q T fp]) w0 [.box B 72 [.pointer (some ⟨Tp, 0, none⟩), .slice A m.length cap, .map (some mb)], .own (.slice A m.length cap) 9 1 m.length (strs (m.map Prod.fst)), mapC mb (mmap encChg m), tabC Tp q T fp] _ := hS
  have hlk := look_chg m k
  unfold bgetE
  cases hg : mget m k with
  | none =>
    rw [hg] at hlk
    replace hlk : lookV (encChg Chg0) (mmap encChg m) k true = .tuple #[encChg Chg0, .bool false] := hlk
    repeat' (first
      | (show WL _ _ _ _ _ _ _; first
        | refine WL.pure rfl rfl rfl rfl ?_
        | refine WL.nil ?_
        | refine WL.load hS rfl rfl (LdOk.box (by repeat (first | exact List.Mem.head _ | apply List.Mem.tail)) rfl) rfl rfl rfl ?_
        | (refine WL.mget hS rfl rfl rfl rfl (.mk' (by repeat (first | exact List.Mem.head _ | apply List.Mem.tail))) hlk rfl rfl rfl ?_)
        | (refine WL.alloc (t := 79) hS rfl rfl rfl rfl rfl rfl ?_; intro w xb hS)
        | (refine WL.callL (D := [tabC Tp q T fp]) hS (by repeat (first | exact Pulls.nil | (apply Pulls.cons; focus (repeat (first | exact Pull.here | apply Pull.there))))) rfl rfl (fun hI => tget_c k hI) rfl rfl rfl ?_; rintro v w ⟨rfl, hm⟩ hS; replace hS := hS _ hm; clear hm)
        | (refine WL.store hS rfl rfl rfl (by repeat (first | exact StB.here rfl | apply StB.there)) rfl rfl rfl ?_; intro w hS))
      | (show WC _ _ _ _ _ _; first
        | refine WC.seq ?_
        | refine WC.region ?_
        | refine WC.skip ?_
        | refine WC.ret ?_
        | refine WC.condF rfl (by with_reducible rfl) ?_)
      | refine seqQ_n ?_)
    have hS := St.objClose (φ := bchφ B (some ⟨Tp, 0, none⟩) m) (hS.pulls (D := [.box B 72 [.pointer (some ⟨Tp, 0, none⟩), .slice A m.length cap, .map (some mb)], .own (.slice A m.length cap) 9 1 m.length (strs (m.map Prod.fst)), mapC mb (mmap encChg m)]) (by repeat (first | exact Pulls.nil | (apply Pulls.cons; focus (repeat (first | exact Pull.here | apply Pull.there)))))) ⟨A, cap, mb, rfl⟩
    rw [← hfb] at hS
    exact fin2r rfl rfl rfl ⟨rfl, hS.mutLp (by repeat (first | exact Pulls.nil | (apply Pulls.cons; focus (repeat (first | exact Pull.here | apply Pull.there)))))⟩
  | some o =>
    rw [hg] at hlk
    obtain ⟨key, val, gone⟩ := o
    replace hlk : lookV (encChg Chg0) (mmap encChg m) k true = .tuple #[encChg ⟨key, val, gone⟩, .bool true] := hlk
    repeat' (first
      | (show WL _ _ _ _ _ _ _; first
        | refine WL.pure rfl rfl rfl rfl ?_
        | refine WL.nil ?_
        | refine WL.load hS rfl rfl (LdOk.box (by repeat (first | exact List.Mem.head _ | apply List.Mem.tail)) rfl) rfl rfl rfl ?_
        | (refine WL.mget hS rfl rfl rfl rfl (.mk' (by repeat (first | exact List.Mem.head _ | apply List.Mem.tail))) hlk rfl rfl rfl ?_)
        | (refine WL.alloc (t := 79) hS rfl rfl rfl rfl rfl rfl ?_; intro w xb hS)
        | (refine WL.store hS rfl rfl rfl (by repeat (first | exact StB.here rfl | apply StB.there)) rfl rfl rfl ?_; intro w hS))
      | (show WC _ _ _ _ _ _; first
        | refine WC.seq ?_
        | refine WC.region ?_
        | refine WC.skip ?_
        | refine WC.ret ?_
        | (show WC _ _ (Code.region _ (List.toArray [_, _, _, _, _, _, _]) true) _ _ _; refine WC.drawS hS [0, 1, 2, 3, 4, 5, 6] [0, 1, 2, 3, 4, 5, 6] (by kernel_rfl) (by kernel_rfl) ?_; clear hS; intro w hS hM)
        | refine WC.condT rfl (by with_reducible rfl) ?_
        | refine WC.condF rfl (by with_reducible rfl) ?_)
      | (show WD _ _ _ _ _ _ _ _ _; first
        | refine WD.pure rfl rfl rfl rfl rfl ?_
        | refine WD.nil ?_
        | refine WD.load rfl rfl (LdOk.box (by repeat (first | exact List.Mem.head _ | apply List.Mem.tail)) rfl) rfl rfl rfl rfl ?_)
      | refine seqQ_n ?_
      | refine seqQ_r ?_)
    have hS := St.objClose (φ := bchφ B (some ⟨Tp, 0, none⟩) m) (hS.pulls (D := [.box B 72 [.pointer (some ⟨Tp, 0, none⟩), .slice A m.length cap, .map (some mb)], .own (.slice A m.length cap) 9 1 m.length (strs (m.map Prod.fst)), mapC mb (mmap encChg m)]) (by repeat (first | exact Pulls.nil | (apply Pulls.cons; focus (repeat (first | exact Pull.here | apply Pull.there)))))) ⟨A, cap, mb, rfl⟩
    rw [← hfb] at hS
    exact fin2r rfl rfl rfl ⟨rfl, hS.mutLp (by repeat (first | exact Pulls.nil | (apply Pulls.cons; focus (repeat (first | exact Pull.here | apply Pull.there)))))⟩
end Go.Proofs.YtniacmoniaaolaaGreatDoor
