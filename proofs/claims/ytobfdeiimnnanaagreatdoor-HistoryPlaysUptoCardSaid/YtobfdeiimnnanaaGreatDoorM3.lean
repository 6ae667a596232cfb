/- What is proved: contracts and plain facts that the law leans on (texts put together). Conditions: as each names them. -/
import Derived.Test.YtobfdeiimnnanaaGreatDoorM2
set_option linter.unusedSimpArgs false
set_option linter.unusedVariables false
/- What is proved: what the journal does to its file and to itself. Conditions: no limit at the disk, texts of bounded length. -/
namespace Go.Proofs.YtobfdeiimnnanaaGreatDoor
open Go Go.J Go.RowKit
def Dk.Sm (D : Dk) (B : Nat) : Prop := D.limits = [] ∧ ∀ x ∈ D.items, x.2.data.length ≤ B
theorem mget_mem {β : Type} {m : List (List UInt8 × β)} {x : List UInt8} {v : β} (h : mget m x = some v) : (x, v) ∈ m := by
  induction m with
  | nil => simp [mget] at h
  | cons p r ih =>
    obtain ⟨k, u⟩ := p
    unfold mget at h
    by_cases e : x = k
    · rw [if_pos e] at h; simp only [Option.some.injEq] at h; subst e; subst h; exact List.mem_cons_self ..
    · rw [if_neg e] at h; exact List.mem_cons_of_mem _ (ih h)
theorem mem_mset {β : Type} {m : List (List UInt8 × β)} {x : List UInt8} {v : β} {y : List UInt8 × β} (h : y ∈ mset m x v) : y ∈ m ∨ y.2 = v := by
  induction m with
  | nil => simp [mset] at h; exact .inr (by rw [h])
  | cons p r ih =>
    obtain ⟨k, u⟩ := p
    unfold mset at h
    by_cases e : x = k
    · rw [if_pos e] at h
      rcases List.mem_cons.1 h with rfl | h
      · exact .inr rfl
      · exact .inl (List.mem_cons_of_mem _ h)
    · rw [if_neg e] at h
      rcases List.mem_cons.1 h with rfl | h
      · exact .inl (List.mem_cons_self ..)
      · rcases ih h with h | h
        · exact .inl (List.mem_cons_of_mem _ h)
        · exact .inr h
theorem Dk.Sm.at_ {D : Dk} {B : Nat} (h : D.Sm B) (p : List UInt8) : (D.at p).data.length ≤ B := by
  unfold Dk.at
  cases e : mget D.items p with
  | none => exact Nat.zero_le _
  | some x => exact h.2 _ (mget_mem e)
theorem Dk.Sm.no {D : Dk} {B : Nat} (h : D.Sm B) (p : List UInt8) : mget D.limits p = none := by rw [h.1]; rfl
theorem Dk.step_items (D : Dk) : D.step.items = D.items := by unfold Dk.step; split <;> rfl
theorem Dk.step_limits (D : Dk) : D.step.limits = D.limits := by unfold Dk.step; split <;> rfl
theorem Dk.step_at (D : Dk) (p : List UInt8) : D.step.at p = D.at p := by unfold Dk.at; rw [Dk.step_items]
theorem Dk.Sm.step {D : Dk} {B : Nat} (h : D.Sm B) : D.step.Sm B := ⟨by rw [Dk.step_limits]; exact h.1, by rw [Dk.step_items]; exact h.2⟩
theorem Dk.Sm.set {D : Dk} {B : Nat} (h : D.Sm B) {p : List UInt8} {x : It} (hx : x.data.length ≤ B) : (D.set p x).Sm B :=
  ⟨h.1, fun y hy => by
    rcases mem_mset hy with h1 | h1
    · exact h.2 y h1
    · rw [h1]; exact hx⟩
theorem Dk.Sm.put {D : Dk} {B : Nat} (h : D.Sm B) {p : List UInt8} {x : It} (hx : x.data.length ≤ B) : Dk.Sm { D with items := mset D.items p x } B :=
  ⟨h.1, fun y hy => by
    rcases mem_mset hy with h1 | h1
    · exact h.2 y h1
    · rw [h1]; exact hx⟩
theorem Dk.Sm.del {D : Dk} {B : Nat} (h : D.Sm B) {p : List UInt8} : (D.del p).Sm B := ⟨h.1, fun y hy => h.2 y ((mdel_sub _ _).mem hy)⟩
theorem Dk.Sm.write {D : Dk} {B : Nat} (h : D.Sm B) {p s : List UInt8} (hs : s.length ≤ B) : (D.write p s).2.Sm B := by
  unfold Dk.write
  repeat' split
  all_goals first | exact h | exact h.step | exact h.step.set hs
theorem Dk.Sm.sync {D : Dk} {B : Nat} (h : D.Sm B) {p : List UInt8} : (D.sync p).2.Sm B := by
  unfold Dk.sync
  repeat' split
  all_goals first | exact h | exact h.step | exact h.step.put (h.step.at_ p)
theorem Dk.Sm.rename {D : Dk} {B : Nat} (h : D.Sm B) {p r : List UInt8} : (D.rename p r).2.Sm B := by
  unfold Dk.rename
  repeat' split
  all_goals first | exact h | exact h.step | exact h.step.del.set (h.at_ p)
def Dk.fill (D : Dk) (p s : List UInt8) : Int × Dk :=
  if (D.write (p ++ [95, 116]) s).1 ≠ 0 then D.write (p ++ [95, 116]) s
  else if ((D.write (p ++ [95, 116]) s).2.sync (p ++ [95, 116])).1 ≠ 0 then (D.write (p ++ [95, 116]) s).2.sync (p ++ [95, 116])
  else ((D.write (p ++ [95, 116]) s).2.sync (p ++ [95, 116])).2.rename (p ++ [95, 116]) p
theorem Dk.Sm.fill {D : Dk} {B : Nat} (h : D.Sm B) {p s : List UInt8} (hs : s.length ≤ B) : (D.fill p s).2.Sm B := by
  unfold Dk.fill
  repeat' split
  all_goals first | exact h.write hs | exact (h.write hs).sync | exact (h.write hs).sync.rename
abbrev lgCells (q : Nat) (p : List UInt8) (A : Option Addr) (n cap : Nat) (dmg : Bool) : List Value := [.pointer (some ⟨q, 0, none⟩), str p, .slice A n cap, .bool dmg]
abbrev fillD (L q mb lb x1 x2 x3 : Nat) (D : Dk) (p t s : List UInt8) (A : Option Addr) (n cap : Nat) (dmg : Bool) : List Chunk :=
  [.box x1 100 [.pointer (some ⟨L, 0, none⟩)], .box x2 9 [str t], .box x3 9 [str s], .box L 167 [.pointer (some ⟨q, 0, none⟩), str p, .slice A n cap, .bool dmg], dkC q mb lb D]
section
variable {L q mb lb x1 x2 x3 : Nat} {D D' : Dk} {p t s : List UInt8} {A : Option Addr} {n cap : Nat} {dmg : Bool} {w0 : World} {e : Int}
set_option maxHeartbeats 4000000 in
set_option maxRecDepth 100000 in
theorem fill1_c (hi : InL w0 (fillD L q mb lb x1 x2 x3 D p t s A n cap dmg)) (hu : D.write t s = (e, D')) (hl : t.length ≤ 1099511627) (hno : D.Sm 1099511627776) (hdl : s.length ≤ 1099511627776) :
    Cal Tryz.prog 144 [.pointer (some ⟨x1, 0, none⟩), .pointer (some ⟨x2, 0, none⟩), .pointer (some ⟨x3, 0, none⟩)] w0
      (fun v w' => v = .int .i64 e ∧ MutL w0 w' (fillD L q mb lb x1 x2 x3 D p t s A n cap dmg) (fillD L q mb lb x1 x2 x3 D' p t s A n cap dmg)) := by
  refine Cal.mkL hi (by kernel_rfl) Tryz.func144 rfl rfl fun hS => ?_
  repeat' (first | (show WL _ _ _ _ _ _ _; first | refine WL.pure rfl rfl rfl rfl ?_ | refine WL.nil ?_) | (show WC _ _ _ _ _ _; first | refine WC.seq ?_ | refine WC.region ?_ | refine WC.ret ?_ | (show WC _ _ (Code.region _ (List.toArray [_, _, _, _, _, _, _, _]) true) _ _ _; refine WC.drawL [dkC q mb lb D] hS Pu [0,1,2,3,4,5,7] [0,1,2,3,4,5,6,7] (by kernel_rfl) (by kernel_rfl) ?_; clear hS; intro w hS hM)) | (show WD _ _ _ _ _ _ _ _ _; first | refine WD.pure rfl rfl rfl rfl rfl ?_ | refine WD.nil ?_ | refine WD.load rfl rfl (LdOk.box Mm rfl) rfl rfl rfl rfl ?_ | (refine WD.callL (D := [dkC q mb lb D]) hS Pu (.refl _ _) rfl rfl (fun hI => write_c t s hI.head hI.headB hl (hno.no _) hdl (hno.at_ _)) rfl rfl rfl rfl rfl ?_; rintro v w ⟨rfl, hm⟩; rw [hu] at hm ⊢; refine ⟨_, .of1 hm, fun hS hM => ?_⟩; clear hm)) | refine seqQ_n ?_)
  exact fin1r rfl rfl ⟨rfl, hS.mutLp Pu⟩
set_option maxHeartbeats 4000000 in
set_option maxRecDepth 100000 in
theorem fill2_c (hi : InL w0 (fillD L q mb lb x1 x2 x3 D p t s A n cap dmg)) (hu : D.sync t = (e, D')) (hl : t.length ≤ 1099511627) :
    Cal Tryz.prog 145 [.pointer (some ⟨x1, 0, none⟩), .pointer (some ⟨x2, 0, none⟩)] w0
      (fun v w' => v = .int .i64 e ∧ MutL w0 w' (fillD L q mb lb x1 x2 x3 D p t s A n cap dmg) (fillD L q mb lb x1 x2 x3 D' p t s A n cap dmg)) := by
  refine Cal.mkL hi (by kernel_rfl) Tryz.func145 rfl rfl fun hS => ?_
  repeat' (first | (show WL _ _ _ _ _ _ _; first | refine WL.pure rfl rfl rfl rfl ?_ | refine WL.nil ?_) | (show WC _ _ _ _ _ _; first | refine WC.seq ?_ | refine WC.region ?_ | refine WC.ret ?_ | (show WC _ _ (Code.region _ (List.toArray [_, _, _, _, _, _, _]) true) _ _ _; refine WC.drawL [dkC q mb lb D] hS Pu [0,1,2,3,4,6] [0,1,2,3,4,5,6] (by kernel_rfl) (by kernel_rfl) ?_; clear hS; intro w hS hM)) | (show WD _ _ _ _ _ _ _ _ _; first | refine WD.pure rfl rfl rfl rfl rfl ?_ | refine WD.nil ?_ | refine WD.load rfl rfl (LdOk.box Mm rfl) rfl rfl rfl rfl ?_ | (refine WD.callL (D := [dkC q mb lb D]) hS Pu (.refl _ _) rfl rfl (fun hI => sync_c t hI.head hI.headB hl) rfl rfl rfl rfl rfl ?_; rintro v w ⟨rfl, hm⟩; rw [hu] at hm ⊢; refine ⟨_, .of1 hm, fun hS hM => ?_⟩; clear hm)) | refine seqQ_n ?_)
  exact fin1r rfl rfl ⟨rfl, hS.mutLp Pu⟩
set_option maxHeartbeats 4000000 in
set_option maxRecDepth 100000 in
theorem fill3_c (hi : InL w0 (fillD L q mb lb x1 x2 x3 D p t s A n cap dmg)) (hu : D.rename t p = (e, D')) (hl : t.length ≤ 1099511627) (hl2 : p.length ≤ 1099511627) (hno : D.Sm 1099511627776) :
    Cal Tryz.prog 146 [.pointer (some ⟨x1, 0, none⟩), .pointer (some ⟨x2, 0, none⟩)] w0
      (fun v w' => v = .int .i64 e ∧ MutL w0 w' (fillD L q mb lb x1 x2 x3 D p t s A n cap dmg) (fillD L q mb lb x1 x2 x3 D' p t s A n cap dmg)) := by
  refine Cal.mkL hi (by kernel_rfl) Tryz.func146 rfl rfl fun hS => ?_
  repeat' (first | (show WL _ _ _ _ _ _ _; first | refine WL.pure rfl rfl rfl rfl ?_ | refine WL.nil ?_) | (show WC _ _ _ _ _ _; first | refine WC.seq ?_ | refine WC.region ?_ | refine WC.ret ?_ | (show WC _ _ (Code.region _ (List.toArray [_, _, _, _, _, _, _, _, _, _, _]) true) _ _ _; refine WC.drawL [dkC q mb lb D] hS Pu [0,1,2,3,4,5,6,7,8,10] [0,1,2,3,4,5,6,7,8,9,10] (by kernel_rfl) (by kernel_rfl) ?_; clear hS; intro w hS hM)) | (show WD _ _ _ _ _ _ _ _ _; first | refine WD.pure rfl rfl rfl rfl rfl ?_ | refine WD.nil ?_ | refine WD.load rfl rfl (LdOk.box Mm rfl) rfl rfl rfl rfl ?_ | (refine WD.callL (D := [dkC q mb lb D]) hS Pu (.refl _ _) rfl rfl (fun hI => rename_c t p hI.head hI.headB hl hl2 (hno.no _) (hno.at_ _) (hno.at_ _)) rfl rfl rfl rfl rfl ?_; rintro v w ⟨rfl, hm⟩; rw [hu] at hm ⊢; refine ⟨_, .of1 hm, fun hS hM => ?_⟩; clear hm)) | refine seqQ_n ?_)
  exact fin1r rfl rfl ⟨rfl, hS.mutLp Pu⟩
end
set_option maxHeartbeats 4000000 in
set_option maxRecDepth 100000 in
theorem fill_c {L q mb lb : Nat} {D D' : Dk} {p s : List UInt8} {A : Option Addr} {n cap : Nat} {dmg : Bool} {w0 : World} {e : Int}
    (hi : InL w0 [.box L 167 [.pointer (some ⟨q, 0, none⟩), str p, .slice A n cap, .bool dmg], dkC q mb lb D]) (hu : D.fill p s = (e, D')) (hl : p.length ≤ 1099511620) (hno : D.Sm 1099511627776) (hdl : s.length ≤ 1099511627776) :
    Cal Tryz.prog 101 [.pointer (some ⟨L, 0, none⟩), str s] w0
      (fun v w' => v = .int .i64 e ∧ MutL w0 w' [.box L 167 [.pointer (some ⟨q, 0, none⟩), str p, .slice A n cap, .bool dmg], dkC q mb lb D] [.box L 167 [.pointer (some ⟨q, 0, none⟩), str p, .slice A n cap, .bool dmg], dkC q mb lb D']) := by
  refine Cal.mkL hi (by kernel_rfl) Tryz.func101 rfl rfl fun hS => ?_
  obtain ⟨t, ht⟩ : ∃ t, t = p ++ [95, 116] := ⟨_, rfl⟩
  have htl : t.length ≤ 1099511627 := by rw [ht]; simp; omega
  rcases h1 : D.write t s with ⟨e1, D1⟩
  rcases h2 : D1.sync t with ⟨e2, D2⟩
  rcases h3 : D2.rename t p with ⟨e3, D3⟩
  have m1 : D1.Sm 1099511627776 := by have := hno.write (p := t) hdl; rwa [h1] at this
  have m2 : D2.Sm 1099511627776 := by have := m1.sync (p := t); rwa [h2] at this
  have hu : (if e1 ≠ 0 then (e1, D1) else if e2 ≠ 0 then (e2, D2) else (e3, D3)) = (e, D') := by
    rw [← hu]; unfold Dk.fill; rw [← ht, h1]; dsimp only; rw [h2]; dsimp only; rw [h3]
  repeat' (first | (show WL _ _ _ _ _ _ _; first | (refine WL.mkF rfl rfl rfl rfl rfl rfl ?_) | refine WL.pure rfl rfl rfl rfl ?_ | refine WL.nil ?_ | refine WL.load hS rfl rfl (LdOk.box Mm rfl) rfl rfl rfl ?_ | refine WL.add rfl rfl rfl (by omega) rfl rfl rfl ?_ | (refine WL.index (j := 1) rfl rfl rfl rfl (by omega) rfl rfl rfl rfl ?_) | (refine WL.index (j := 2) rfl rfl rfl rfl (by omega) rfl rfl rfl rfl ?_) | (refine WL.cat rfl rfl rfl (by simp; omega) rfl rfl rfl ?_; rw [← ht]) | (refine WL.callFL (D := fillD L q mb lb _ _ _ D p t s A n cap dmg) hS Pu rfl rfl rfl (fun hI => fill1_c hI h1 htl hno hdl) rfl rfl rfl ?_; rintro v w ⟨rfl, hm⟩ hS; replace hS := hS _ hm; clear hm) | (refine WL.callFL (D := fillD L q mb lb _ _ _ D1 p t s A n cap dmg) hS Pu rfl rfl rfl (fun hI => fill2_c hI h2 htl) rfl rfl rfl ?_; rintro v w ⟨rfl, hm⟩ hS; replace hS := hS _ hm; clear hm) | (refine WL.callFL (D := fillD L q mb lb _ _ _ D2 p t s A n cap dmg) hS Pu rfl rfl rfl (fun hI => fill3_c hI h3 htl (by omega) m2) rfl rfl rfl ?_; rintro v w ⟨rfl, hm⟩ hS; replace hS := hS _ hm; clear hm) | (refine WL.store hS rfl rfl rfl Sb rfl rfl rfl ?_; intro w hS) | (refine WL.box hS rfl rfl rfl rfl rfl ?_; intro w b hS) | (refine WL.alloc hS rfl rfl rfl rfl rfl rfl ?_; intro w b hS) | refine WL.index (j := 0) rfl rfl rfl rfl (by omega) rfl rfl rfl rfl ?_ | (refine WL.slit hS rfl rfl rfl rfl rfl ?_; intro w b hS)) | (show WC _ _ _ _ _ _; first | refine WC.seq ?_ | refine WC.region ?_ | refine WC.block ?_ | refine WC.skip ?_ | refine WC.exit ?_ | refine WC.ret ?_ | (refine WC.rounds 3 ?_) | refine WC.condT rfl (by decide) ?_ | refine WC.condF rfl (by decide) ?_ | (refine WC.cond rfl (fun h => ?_) (fun h => ?_) <;> (try simp only [ZZ0, ZZ1, ZZ2, ZZ3, ZZ4, ZZ5, ZZ6, ZZ7, ZZ8, ZZ9, ZZ10, ZZ11, ZZ12, ZZ13, ZZ14, ZZ15] at h) <;> (try (exfalso; first | omega | contradiction)))) | refine seqQ_n ?_ | refine blkQ_n ?_ | refine seqQ_x ?_ | refine seqQ_r ?_ | refine blkQ_r ?_ | refine blkQ_hit rfl ?_ | refine rdQ_n ?_ | refine rdQ_x ?_ | refine rdQ_r ?_)
  all_goals
    clear h1 h2 h3 m1 m2
    simp [*] at hu
    obtain ⟨hu1, hu2⟩ := hu
    subst hu2
    exact fin1r rfl rfl ⟨vint (by omega), hS.mutLp Pu⟩
structure Lg where
  p : List UInt8
  recs : List (List UInt8)
  dmg : Bool
def lgφ (L q : Nat) (G : Lg) (D : List Chunk) : Prop := ∃ A cap, D = [.box L 167 [.pointer (some ⟨q, 0, none⟩), str G.p, .slice A G.recs.length cap, .bool G.dmg], .own (.slice A G.recs.length cap) 9 1 G.recs.length (strs G.recs)]
abbrev lgC (L q : Nat) (G : Lg) (fp : List Nat) : Chunk := objC (lgφ L q G) fp
def Lg.reset (G : Lg) (e : Int) : Lg := if e = 0 then { G with recs := [] } else G
set_option maxHeartbeats 4000000 in
set_option maxRecDepth 100000 in
theorem reset_c {L q mb lb : Nat} {D D' : Dk} {G : Lg} {fp : List Nat} {w0 : World} {e : Int} (hi : InL w0 [lgC L q G fp, dkC q mb lb D]) (hu : D.fill G.p [] = (e, D')) (hl : G.p.length ≤ 1099511620) (hno : D.Sm 1099511627776) :
    Cal Tryz.prog 99 [.pointer (some ⟨L, 0, none⟩)] w0
      (fun v w' => v = .int .i64 e ∧ ∃ fp', MutL w0 w' [lgC L q G fp, dkC q mb lb D] [lgC L q (G.reset e) fp', dkC q mb lb D']) := by
  refine Cal.mkL hi (by kernel_rfl) Tryz.func99 rfl rfl fun hS => ?_
  obtain ⟨_, ⟨A, cap, rfl⟩, hfp, hS⟩ := St.objOpen hS
  replace hS : St w0 _ w0 [.box L 167 [.pointer (some ⟨q, 0, none⟩), str G.p, .slice A G.recs.length cap, .bool G.dmg], .own (.slice A G.recs.length cap) 9 1 G.recs.length (strs G.recs), dkC q mb lb D] _ := hS
  repeat' (first | (show WL _ _ _ _ _ _ _; first | refine WL.pure rfl rfl rfl rfl ?_ | refine WL.nil ?_ | (refine WL.callL (D := [.box L 167 [.pointer (some ⟨q, 0, none⟩), str G.p, .slice A G.recs.length cap, .bool G.dmg], dkC q mb lb D]) hS Pu rfl rfl (fun hI => fill_c hI hu hl hno (by simp)) rfl rfl rfl ?_; rintro v w ⟨rfl, hm⟩ hS; replace hS := hS _ hm; clear hm) | (refine WL.store hS rfl rfl rfl Sb rfl rfl rfl ?_; intro w hS)) | (show WC _ _ _ _ _ _; first | refine WC.seq ?_ | refine WC.region ?_ | refine WC.skip ?_ | refine WC.ret ?_ | refine WC.condF rfl (by with_reducible rfl) ?_ | (refine WC.cond rfl (fun h => ?_) (fun h => ?_) <;> (try simp only [ZZ0, ZZ1, ZZ2, ZZ3, ZZ4, ZZ5, ZZ6, ZZ7, ZZ8, ZZ9, ZZ10, ZZ11, ZZ12, ZZ13, ZZ14, ZZ15] at h) <;> (try (exfalso; first | omega | contradiction)))) | refine seqQ_n ?_ | refine seqQ_r ?_)
  · rw [show G.reset e = G from if_neg h]
    have hS := St.objClose (φ := lgφ L q G) (hS.pulls (D := [.box L 167 [.pointer (some ⟨q, 0, none⟩), str G.p, .slice A G.recs.length cap, .bool G.dmg], .own (.slice A G.recs.length cap) 9 1 G.recs.length (strs G.recs)]) Pu) ⟨A, cap, rfl⟩
    exact fin1r rfl rfl ⟨rfl, _, hS.mutLp Pu⟩
  · subst h
    have hS := hS.nilRow 9 1
    have hS := St.objClose (φ := lgφ L q (G.reset 0)) (hS.pulls (D := [.box L 167 [.pointer (some ⟨q, 0, none⟩), str G.p, .slice none 0 0, .bool G.dmg], .own (.slice none 0 0) 9 1 0 []]) Pu) ⟨none, 0, rfl⟩
    exact fin1r rfl rfl ⟨rfl, _, hS.mutLp Pu⟩
theorem strs_one (l : List (List UInt8)) : one (strs l) = true := by
  unfold one
  rw [List.all_eq_true]
  intro x hx
  obtain ⟨s, _, hx⟩ := List.mem_flatMap.1 hx
  rw [List.mem_singleton.1 hx]; rfl
def Lg.push (G : Lg) (r : List UInt8) : Lg := { G with recs := G.recs ++ [r] }
def walAdd (G : Lg) (D : Dk) (r : List UInt8) : Int × Lg × Dk :=
  if (D.append G.p (packE r)).1 ≠ 0 then ((D.append G.p (packE r)).1, G, (D.append G.p (packE r)).2)
  else if ((D.append G.p (packE r)).2.sync G.p).1 ≠ 0 then (((D.append G.p (packE r)).2.sync G.p).1, G, ((D.append G.p (packE r)).2.sync G.p).2)
  else (0, G.push r, ((D.append G.p (packE r)).2.sync G.p).2)
set_option maxHeartbeats 4000000 in
set_option maxRecDepth 100000 in
theorem add_c {L q mb lb : Nat} {D D' : Dk} {G G' : Lg} {fp : List Nat} {w0 : World} {e : Int} (r : List UInt8) (hi : InL w0 [lgC L q G fp, dkC q mb lb D]) (hu : walAdd G D r = (e, G', D')) (hl : G.p.length ≤ 1099511620) (hno : D.limits = [])
    (hr : r.length ≤ 1073741824) (hd : (D.step.at G.p).data.length ≤ 549755813888) (hn : G.recs.length ≤ 4194304) :
    Cal Tryz.prog 79 [.pointer (some ⟨L, 0, none⟩), str r] w0
      (fun v w' => v = .int .i64 e ∧ ∃ fp', MutL w0 w' [lgC L q G fp, dkC q mb lb D] [lgC L q G' fp', dkC q mb lb D']) := by
  refine Cal.mkL hi (by kernel_rfl) Tryz.func79 rfl rfl fun hS => ?_
  obtain ⟨_, ⟨A, cap, rfl⟩, hfp, hS⟩ := St.objOpen hS
  replace hS : St w0 _ w0 [.box L 167 [.pointer (some ⟨q, 0, none⟩), str G.p, .slice A G.recs.length cap, .bool G.dmg], .own (.slice A G.recs.length cap) 9 1 G.recs.length (strs G.recs), dkC q mb lb D] _ := hS
  have hpl := packE_len r
  have hpn := putN_len10 (n := r.length) (by omega)
  rcases h1 : D.append G.p (packE r) with ⟨e1, D1⟩
  rcases h2 : D1.sync G.p with ⟨e2, D2⟩
  have hu : (if e1 ≠ 0 then (e1, G, D1) else if e2 ≠ 0 then (e2, G, D2) else (0, G.push r, D2)) = (e, G', D') := by
    rw [← hu]; unfold walAdd; rw [h1]; dsimp only; rw [h2]
  repeat' (first | (show WL _ _ _ _ _ _ _; first | refine WL.pure rfl rfl rfl rfl ?_ | refine WL.nil ?_ | refine WL.load hS rfl rfl (LdOk.box Mm rfl) rfl rfl rfl ?_ | (refine WL.app hS rfl rfl rfl rfl (RdOk.box Mm) rfl rfl (fun A' cap' => Rp) (by omega) rfl rfl rfl ?_; intro A' cap' w hS) | (refine WL.store hS rfl rfl rfl Sb rfl rfl rfl ?_; intro w hS) | (refine WL.slit hS rfl rfl rfl rfl rfl ?_; intro w b hS)) | (show WC _ _ _ _ _ _; first | refine WC.seq ?_ | refine WC.region ?_ | refine WC.skip ?_ | refine WC.ret ?_ | (show WC _ _ (Code.region _ (List.toArray [_, _, _, _, _, _, _, _, _, _, _, _]) true) _ _ _; refine WC.drawL [dkC q mb lb D] hS Pu [0,1,2,3,4,5,6,7,8,11] [0,1,2,3,4,5,6,7,8,9,10,11] (by kernel_rfl) (by kernel_rfl) ?_; clear hS; intro w hS hM) | (show WC _ _ (Code.region _ (List.toArray [_, _, _, _, _, _, _, _, _, _]) true) _ _ _; refine WC.drawL [dkC q mb lb D1] hS Pu [0,1,2,3,4,5,6,7,9] [0,1,2,3,4,5,6,7,8,9] (by kernel_rfl) (by kernel_rfl) ?_; clear hS; intro w hS hM) | refine WC.condF rfl (by with_reducible rfl) ?_ | (refine WC.cond rfl (fun h => ?_) (fun h => ?_) <;> (try simp only [ZZ0, ZZ1, ZZ2, ZZ3, ZZ4, ZZ5, ZZ6, ZZ7, ZZ8, ZZ9, ZZ10, ZZ11, ZZ12, ZZ13, ZZ14, ZZ15] at h) <;> (try (exfalso; first | omega | contradiction)))) | (show WD _ _ _ _ _ _ _ _ _; first | refine WD.pure rfl rfl rfl rfl rfl ?_ | refine WD.nil ?_ | refine WD.load rfl rfl (LdOk.box Mm rfl) rfl rfl rfl rfl ?_ | (refine WD.calls hS hM rfl rfl (pack_c r _ (by omega)) rfl rfl rfl rfl rfl ?_; clear hS; rintro v w rfl hS) | (refine WD.callL (D := [dkC q mb lb D]) hS Pu (.refl _ _) rfl rfl (fun hI => append_c G.p (packE r) hI.head hI.headB (by omega) (by rw [hno]; rfl) (by omega)) rfl rfl rfl rfl rfl ?_; rintro v w ⟨rfl, hm⟩; rw [h1] at hm ⊢; refine ⟨_, .of1 hm, fun hS hM => ?_⟩; clear hm) | (refine WD.callL (D := [dkC q mb lb D1]) hS Pu (.refl _ _) rfl rfl (fun hI => sync_c G.p hI.head hI.headB (by omega)) rfl rfl rfl rfl rfl ?_; rintro v w ⟨rfl, hm⟩; rw [h2] at hm ⊢; refine ⟨_, .of1 hm, fun hS hM => ?_⟩; clear hm)) | refine seqQ_n ?_ | refine seqQ_r ?_)
  · rw [if_pos h] at hu
    cases hu
    have hS := St.objClose (φ := lgφ L q G) (hS.pulls (D := [.box L 167 [.pointer (some ⟨q, 0, none⟩), str G.p, .slice A G.recs.length cap, .bool G.dmg], .own (.slice A G.recs.length cap) 9 1 G.recs.length (strs G.recs)]) Pu) ⟨A, cap, rfl⟩
    exact fin1r rfl rfl ⟨rfl, _, hS.mutLp Pu⟩
  · rw [if_neg (fun hh => hh (by assumption)), if_pos h] at hu
    cases hu
    have hS := St.objClose (φ := lgφ L q G) (hS.pulls (D := [.box L 167 [.pointer (some ⟨q, 0, none⟩), str G.p, .slice A G.recs.length cap, .bool G.dmg], .own (.slice A G.recs.length cap) 9 1 G.recs.length (strs G.recs)]) Pu) ⟨A, cap, rfl⟩
    exact fin1r rfl rfl ⟨rfl, _, hS.mutLp Pu⟩
  · rw [if_neg (fun hh => hh (by assumption)), if_neg (fun hh => hh (by assumption))] at hu
    cases hu
    have hS := St.objClose (φ := lgφ L q (G.push r)) (hS.pulls (D := [.box L 167 [.pointer (some ⟨q, 0, none⟩), str G.p, .slice A' (G.recs.length + 1) cap', .bool G.dmg], .own (.slice A' (G.recs.length + 1) cap') 9 1 (G.recs.length + 1) (strs G.recs ++ [str r])]) Pu) ⟨A', cap', by simp [Lg.push, strs_snoc]⟩
    exact fin1r rfl rfl ⟨rfl, _, hS.mutLp Pu⟩
set_option maxHeartbeats 4000000 in
set_option maxRecDepth 100000 in
theorem records_c {L q : Nat} {G : Lg} {fp : List Nat} {w0 : World} (hi : InL w0 [lgC L q G fp]) (hn : G.recs.length ≤ 4194304) :
    Cal Tryz.prog 51 [.pointer (some ⟨L, 0, none⟩)] w0 (fun v w' => ∃ A cap, v = .slice A G.recs.length cap ∧ MutL w0 w' [lgC L q G fp] [lgC L q G fp, .own (.slice A G.recs.length cap) 9 1 G.recs.length (strs G.recs)]) := by
  refine Cal.mkL hi (by kernel_rfl) Tryz.func51 rfl rfl fun hS => ?_
  obtain ⟨_, ⟨A, cap, rfl⟩, hfp, hS⟩ := St.objOpen hS
  replace hS : St w0 _ w0 [.box L 167 [.pointer (some ⟨q, 0, none⟩), str G.p, .slice A G.recs.length cap, .bool G.dmg], .own (.slice A G.recs.length cap) 9 1 G.recs.length (strs G.recs)] _ := hS
  repeat' (first | (show WL _ _ _ _ _ _ _; first | refine WL.pure rfl rfl rfl rfl ?_ | refine WL.nil ?_ | refine WL.load hS rfl rfl (LdOk.box Mm rfl) rfl rfl rfl ?_ | (have hS := hS.boxRow (n := 0) (size := 1) Rp rfl (by decide); refine WL.appS (news := strs G.recs) hS rfl rfl rfl rfl (RdSl.own hS Mm) (by rw [strs_len, Nat.mul_one]) (strs_one _) (fun A' cap' => Rp) (by omega) rfl rfl rfl ?_; intro A' cap' w hS) | (refine WL.slit hS rfl rfl rfl rfl rfl ?_; intro w b hS)) | (show WC _ _ _ _ _ _; first | refine WC.seq ?_ | refine WC.region ?_ | refine WC.skip ?_ | refine WC.ret ?_ | refine WC.condF rfl (by with_reducible rfl) ?_) | refine seqQ_n ?_)
  simp only [repZ, List.nil_append, Nat.zero_add] at hS
  have hS := St.objClose (φ := lgφ L q G) (hS.pulls (D := [.box L 167 [.pointer (some ⟨q, 0, none⟩), str G.p, .slice A G.recs.length cap, .bool G.dmg], .own (.slice A G.recs.length cap) 9 1 G.recs.length (strs G.recs)]) Pu) ⟨A, cap, rfl⟩
  rw [← hfp] at hS
  exact fin1r rfl rfl ⟨_, _, by rw [Nat.zero_add], hS.mutLp Pu⟩
end Go.Proofs.YtobfdeiimnnanaaGreatDoor

/- What is proved: what opening a journal answers. Conditions: no limit at the disk, texts of bounded length. -/
namespace Go.Proofs.YtobfdeiimnnanaaGreatDoor
open Go Go.J Go.RowKit
def walOpen (D : Dk) (p : List UInt8) : Int × Option Lg × Dk :=
  if D.kind p = 0 then (if (D.fill p []).1 ≠ 0 then ((D.fill p []).1, none, (D.fill p []).2) else (0, some ⟨p, [], false⟩, (D.fill p []).2))
  else if (D.read p).2 ≠ 0 then ((D.read p).2, none, D)
  else if (scanE (D.read p).1).2.2 ≠ 0 then
    (if (D.fill p ((D.read p).1.take (scanE (D.read p).1).2.1)).1 ≠ 0 then ((D.fill p ((D.read p).1.take (scanE (D.read p).1).2.1)).1, none, (D.fill p ((D.read p).1.take (scanE (D.read p).1).2.1)).2)
      else (0, some ⟨p, (scanE (D.read p).1).1, decide ((scanE (D.read p).1).2.2 = 6 ∨ (scanE (D.read p).1).2.2 = 3)⟩, (D.fill p ((D.read p).1.take (scanE (D.read p).1).2.1)).2))
  else (0, some ⟨p, (scanE (D.read p).1).1, decide ((scanE (D.read p).1).2.2 = 6 ∨ (scanE (D.read p).1).2.2 = 3)⟩, D)
def openR (q mb lb : Nat) (D : Dk) (w0 : World) (r : Int × Option Lg × Dk) (v : Value) (w' : World) : Prop :=
  match r with
  | (e, none, D') => v = .tuple #[.pointer none, .int .i64 e] ∧ MutL w0 w' [dkC q mb lb D] [dkC q mb lb D']
  | (e, some G, D') => ∃ L fp, v = .tuple #[.pointer (some ⟨L, 0, none⟩), .int .i64 e] ∧ MutL w0 w' [dkC q mb lb D] [lgC L q G fp, dkC q mb lb D']
theorem scanF_le : ∀ (k : Nat) (t : List UInt8), (scanF k t).2.1 ≤ t.length
  | 0, t => by simp [scanF]
  | k + 1, t => by
    unfold scanF
    by_cases h0 : t = []
    · rw [if_pos h0]; exact Nat.zero_le _
    · rw [if_neg h0]
      by_cases he : (readE t).2.2 = 0
      · rw [if_pos he]
        have := scanF_le k (t.drop (readE t).2.1)
        rw [List.length_drop] at this
        have := readE_le t he
        show (readE t).2.1 + _ ≤ _
        omega
      · rw [if_neg he]; exact Nat.zero_le _
theorem scanE_le (t : List UInt8) : (scanE t).2.1 ≤ t.length := scanF_le _ _
set_option maxHeartbeats 8000000 in
set_option maxRecDepth 100000 in
theorem open_c {q mb lb : Nat} {D : Dk} (p : List UInt8) {w0 : World} (hi : InL w0 [dkC q mb lb D]) (hl : p.length ≤ 1099511620) (hno : D.Sm 1099511627776) :
    Cal Tryz.prog 50 [.pointer (some ⟨q, 0, none⟩), str p] w0 (openR q mb lb D w0 (walOpen D p)) := by
  refine Cal.mkL hi (by kernel_rfl) Tryz.func50 rfl rfl fun hS => ?_
  by_cases hk : D.kind p = 0
  · rcases hf : D.fill p [] with ⟨e, D'⟩
    have hu : walOpen D p = if e ≠ 0 then (e, none, D') else (0, some ⟨p, [], false⟩, D') := by unfold walOpen; rw [if_pos hk, hf]
    rw [hu]
    repeat' (first | (show WL _ _ _ _ _ _ _; first | refine WL.pure rfl rfl rfl rfl ?_ | refine WL.nil ?_ | (refine WL.calls hS rfl rfl (dkind_c p (hS.holds (dkC q mb lb D) Mm).1) rfl rfl rfl ?_; rintro v w rfl hS; rw [hk]) | (have hS := St.objClose (φ := lgφ _ q ⟨p, [], false⟩) ((hS.nilRow 9 1).pulls (D := [.box _ 167 [.pointer (some ⟨q, 0, none⟩), str p, .slice none 0 0, .bool false], .own (.slice none 0 0) 9 1 0 []]) Pu) ⟨none, 0, rfl⟩; refine WL.callL (D := [lgC _ q ⟨p, [], false⟩ _, dkC q mb lb D]) hS Pu rfl rfl (fun hI => reset_c hI hf hl hno) rfl rfl rfl ?_; rintro v w ⟨rfl, fp', hm⟩ hS; replace hS := hS _ hm; clear hm) | (refine WL.box hS rfl rfl rfl rfl rfl ?_; intro w b hS) | refine WL.build rfl rfl rfl rfl rfl ?_) | (show WC _ _ _ _ _ _; first | refine WC.seq ?_ | refine WC.region ?_ | refine WC.skip ?_ | refine WC.ret ?_ | refine WC.condF rfl (by with_reducible rfl) ?_ | refine WC.condT rfl (by decide) ?_ | (refine WC.cond rfl (fun h => ?_) (fun h => ?_) <;> (try simp only [ZZ0, ZZ1, ZZ2, ZZ3, ZZ4, ZZ5, ZZ6, ZZ7, ZZ8, ZZ9, ZZ10, ZZ11, ZZ12, ZZ13, ZZ14, ZZ15] at h) <;> (try (exfalso; first | omega | contradiction)))) | refine seqQ_n ?_ | refine seqQ_r ?_)
    · rw [if_pos h]
      exact fin2r rfl rfl rfl ⟨rfl, hS.mutLp Pu⟩
    · subst h
      rw [if_neg (by decide)]
      exact fin2r rfl rfl rfl ⟨_, _, rfl, hS.mutLp Pu⟩
  · rcases hr : D.read p with ⟨s, er⟩
    have hsl : s.length ≤ 1099511627776 := by
      have h2 := hno.at_ p
      have : s = (D.read p).1 := by rw [hr]
      rw [this]
      unfold Dk.read
      repeat' split
      all_goals first | exact Nat.zero_le _ | exact h2
    rcases hsc : scanE s with ⟨rs, g, e⟩
    have hg : g ≤ s.length := by have := scanE_le s; rwa [hsc] at this
    rcases hf : D.fill p (s.take g) with ⟨ef, D'⟩
    have hu : walOpen D p = if er ≠ 0 then (er, none, D) else if e ≠ 0 then (if ef ≠ 0 then (ef, none, D') else (0, some ⟨p, rs, decide (e = 6 ∨ e = 3)⟩, D')) else (0, some ⟨p, rs, decide (e = 6 ∨ e = 3)⟩, D) := by
      unfold walOpen; rw [if_neg hk, hr]; dsimp only; rw [hsc]; dsimp only; rw [hf]
    rw [hu]
    clear hu
    by_cases h0 : er = 0
    · subst h0
      rw [if_neg (by decide)]
      have hcases : (e = 6 ∧ decide (e = 6 ∨ e = 3) = true) ∨ (e = 3 ∧ decide (e = 6 ∨ e = 3) = true) ∨ (e = 0 ∧ decide (e = 6 ∨ e = 3) = false) ∨ (e ≠ 6 ∧ e ≠ 3 ∧ e ≠ 0 ∧ decide (e = 6 ∨ e = 3) = false) := by
        by_cases h6 : e = 6
        · exact .inl ⟨h6, by simp [h6]⟩
        · by_cases h3 : e = 3
          · exact .inr (.inl ⟨h3, by simp [h3]⟩)
          · by_cases hz : e = 0
            · exact .inr (.inr (.inl ⟨hz, by simp [hz]⟩))
            · exact .inr (.inr (.inr ⟨h6, h3, hz, by simp [h6, h3]⟩))
      have hfs := fun (w : World) => fscan_c s w hsl
      rw [hsc] at hfs
      dsimp only at hfs
      rcases hcases with ⟨rfl, hd⟩ | ⟨rfl, hd⟩ | ⟨rfl, hd⟩ | ⟨h6, h3, hz, hd⟩
      all_goals rw [hd]; clear hd
      all_goals
        repeat' (first | (show WL _ _ _ _ _ _ _; first | refine WL.pure rfl rfl rfl rfl ?_ | refine WL.nil ?_ | (refine WL.calls hS rfl rfl (dkind_c p (hS.holds (dkC q mb lb D) Mm).1) rfl rfl rfl ?_; rintro v w rfl hS) | (refine WL.calls hS rfl rfl (dread_c p (hS.holds (dkC q mb lb D) Mm).1) rfl rfl rfl ?_; rintro v w rfl hS; rw [hr]) | (refine WL.callG rfl rfl (hfs _) rfl rfl rfl ?_; rintro v w ⟨hupd, A, cap, rfl, hnew⟩; replace hS := hS.new hupd hnew; clear hnew hupd) | (refine WL.callL (D := [.box _ 167 [.pointer (some ⟨q, 0, none⟩), str p, .slice A rs.length cap, .bool _], dkC q mb lb D]) hS Pu rfl rfl (fun hI => fill_c hI hf hl hno (by rw [List.length_take]; omega)) rfl rfl rfl ?_; rintro v w ⟨rfl, hm⟩ hS; replace hS := hS _ hm; clear hm) | refine WL.highS rfl rfl rfl rfl (by omega) rfl rfl rfl ?_ | (refine WL.store hS rfl rfl rfl Sb rfl rfl rfl ?_; intro w hS) | (refine WL.box hS rfl rfl rfl rfl rfl ?_; intro w b hS) | refine WL.skip rfl rfl rfl ?_ | refine WL.build rfl rfl rfl rfl rfl ?_ | ((fail_if_success (refine WL.wanted rfl ?_)); refine WL.guard rfl rfl rfl (fun h => ?_) (fun h => ?_) <;> (try simp only [ZZ0, ZZ1, ZZ2, ZZ3, ZZ4, ZZ5, ZZ6, ZZ7, ZZ8, ZZ9, ZZ10, ZZ11, ZZ12, ZZ13, ZZ14, ZZ15] at h) <;> (try (exfalso; first | omega | contradiction)))) | (show WC _ _ _ _ _ _; first | refine WC.seq ?_ | refine WC.region ?_ | refine WC.skip ?_ | refine WC.ret ?_ | refine WC.condF rfl (by with_reducible rfl) ?_ | refine WC.condT rfl (by decide) ?_ | refine WC.condF rfl (by decide) ?_ | refine WC.condT rfl (decide_eq_true (by first | with_reducible assumption | omega)) ?_ | refine WC.condF rfl (decide_eq_false (by first | with_reducible assumption | omega)) ?_ | (refine WC.cond rfl (fun h => ?_) (fun h => ?_) <;> (try simp only [ZZ0, ZZ1, ZZ2, ZZ3, ZZ4, ZZ5, ZZ6, ZZ7, ZZ8, ZZ9, ZZ10, ZZ11, ZZ12, ZZ13, ZZ14, ZZ15] at h) <;> (try (exfalso; first | omega | contradiction)))) | refine seqQ_n ?_ | refine seqQ_r ?_)
      all_goals first
        | rw [if_pos (by first | decide | assumption), if_pos h]
          exact fin2r rfl rfl rfl ⟨rfl, hS.mutLp Pu⟩
        | (first | rw [if_pos (by first | decide | assumption), if_neg (fun hh => hh h)] | rw [if_neg (by decide)])
          try rw [decide_eq_false h3] at hS
          have hS := St.objClose (φ := lgφ _ q ⟨p, rs, _⟩) (hS.pulls (D := [.box _ 167 [.pointer (some ⟨q, 0, none⟩), str p, .slice A rs.length cap, .bool _], .own (.slice A rs.length cap) 9 1 rs.length (strs rs)]) Pu) ⟨A, cap, rfl⟩
          exact fin2r rfl rfl rfl ⟨_, _, rfl, hS.mutLp Pu⟩
    · rw [if_pos h0]
      repeat' (first | (show WL _ _ _ _ _ _ _; first | refine WL.pure rfl rfl rfl rfl ?_ | refine WL.nil ?_ | (refine WL.calls hS rfl rfl (dkind_c p (hS.holds (dkC q mb lb D) Mm).1) rfl rfl rfl ?_; rintro v w rfl hS) | (refine WL.calls hS rfl rfl (dread_c p (hS.holds (dkC q mb lb D) Mm).1) rfl rfl rfl ?_; rintro v w rfl hS; rw [hr]) | (refine WL.box hS rfl rfl rfl rfl rfl ?_; intro w b hS) | refine WL.build rfl rfl rfl rfl rfl ?_) | (show WC _ _ _ _ _ _; first | refine WC.seq ?_ | refine WC.region ?_ | refine WC.skip ?_ | refine WC.ret ?_ | refine WC.condF rfl (by with_reducible rfl) ?_ | refine WC.condT rfl (decide_eq_true (by first | with_reducible assumption | omega)) ?_ | refine WC.condF rfl (decide_eq_false (by first | with_reducible assumption | omega)) ?_) | refine seqQ_n ?_ | refine seqQ_r ?_)
      exact fin2r rfl rfl rfl ⟨rfl, hS.mutLp Pu⟩
end Go.Proofs.YtobfdeiimnnanaaGreatDoor

/- What is proved: plain facts on changes as bytes. Conditions: none. -/
namespace Go.Proofs.YtobfdeiimnnanaaGreatDoor
open Go Go.J Go.RowKit
structure Chg where
  key : List UInt8
  val : List UInt8
  gone : Bool
def Chg0 : Chg := ⟨[], [], false⟩
def cellsChg (o : Chg) : List Value := [str o.key, str o.val, .bool o.gone]
@[reducible] def encChg (o : Chg) : Value := .agg ⟨[str o.key, str o.val, .bool o.gone]⟩
def chgs (l : List Chg) : List Value := l.flatMap cellsChg
theorem chgs_snoc (l : List Chg) (o : Chg) : chgs l ++ cellsChg o = chgs (l ++ [o]) := by simp [chgs]
def recO (o : Chg) : List UInt8 := if o.gone then 0 :: textE o.key else 1 :: (textE o.key ++ textE o.val)
def recordE (l : List Chg) : List UInt8 := putN l.length ++ l.flatMap recO
def opE (t : List UInt8) : Chg × Nat × Int :=
  if (uintE t).2.2 ≠ 0 then (Chg0, 0, (uintE t).2.2)
  else if 1 < (uintE t).1 then (Chg0, 0, 3)
  else if (rtextE (t.drop (uintE t).2.1)).2.2 ≠ 0 then (Chg0, 0, (rtextE (t.drop (uintE t).2.1)).2.2)
  else if (uintE t).1 = 0 then (⟨(rtextE (t.drop (uintE t).2.1)).1, [], true⟩, (uintE t).2.1 + (rtextE (t.drop (uintE t).2.1)).2.1, 0)
  else if (rtextE (t.drop ((uintE t).2.1 + (rtextE (t.drop (uintE t).2.1)).2.1))).2.2 ≠ 0 then (Chg0, 0, (rtextE (t.drop ((uintE t).2.1 + (rtextE (t.drop (uintE t).2.1)).2.1))).2.2)
  else (⟨(rtextE (t.drop (uintE t).2.1)).1, (rtextE (t.drop ((uintE t).2.1 + (rtextE (t.drop (uintE t).2.1)).2.1))).1, false⟩, (uintE t).2.1 + (rtextE (t.drop (uintE t).2.1)).2.1 + (rtextE (t.drop ((uintE t).2.1 + (rtextE (t.drop (uintE t).2.1)).2.1))).2.1, 0)
def opsF : Nat → List UInt8 → List Chg × Nat × Int
  | 0, _ => ([], 0, 0)
  | n + 1, t => if (opE t).2.2 ≠ 0 then ([], 0, (opE t).2.2)
    else if (opsF n (t.drop (opE t).2.1)).2.2 ≠ 0 then ([], 0, (opsF n (t.drop (opE t).2.1)).2.2)
    else ((opE t).1 :: (opsF n (t.drop (opE t).2.1)).1, (opE t).2.1 + (opsF n (t.drop (opE t).2.1)).2.1, 0)
def opsE (s : List UInt8) : List Chg × Int :=
  if (uintE s).2.2 ≠ 0 then ([], (uintE s).2.2)
  else if (opsF (uintE s).1 (s.drop (uintE s).2.1)).2.2 ≠ 0 then ([], (opsF (uintE s).1 (s.drop (uintE s).2.1)).2.2)
  else if (uintE s).2.1 + (opsF (uintE s).1 (s.drop (uintE s).2.1)).2.1 < s.length then ([], 5)
  else ((opsF (uintE s).1 (s.drop (uintE s).2.1)).1, 0)
theorem uintE_le (t : List UInt8) : (uintE t).2.1 ≤ t.length := by
  by_cases h : (uintE t).2.2 = 0
  · exact (uintE_ok t h).2
  · unfold uintE at h ⊢
    split
    · rename_i h1
      rw [if_pos h1] at h
      split
      · rename_i h2
        rw [if_pos h2] at h
        exact absurd h1 h
      · exact Nat.zero_le _
    · exact Nat.zero_le _
theorem varE_pos : ∀ (t : List UInt8) (i x : Nat), (varE t i x).2.2 = 0 → 1 ≤ (varE t i x).2.1
  | [], i, x, h => by simp [varE] at h
  | c :: t, i, x, h => by
    unfold varE at h ⊢
    repeat' split
    all_goals simp_all
    rename_i h1 h2
    exact varE_pos t _ _ h
theorem uintE_pos (t : List UInt8) (h : (uintE t).2.2 = 0) : 1 ≤ (uintE t).2.1 := by
  unfold uintE at h ⊢
  split
  · rename_i h1
    rw [if_pos h1] at h
    split
    · exact varE_pos t 0 0 h1
    · rename_i h2
      rw [if_neg h2] at h
      cases h
  · rename_i h1
    rw [if_neg h1] at h
    exact absurd h h1
theorem rtextE_le' (t : List UInt8) : (rtextE t).2.1 ≤ t.length := by
  by_cases h : (rtextE t).2.2 = 0
  · exact (rtextE_le t h).1
  · unfold rtextE at h ⊢
    split
    · split
      · assumption
      · exact Nat.zero_le _
    · exact Nat.zero_le _
theorem opE_le (t : List UInt8) : (opE t).2.1 ≤ t.length := by
  have h1 := uintE_le t
  have h2 := rtextE_le' (t.drop (uintE t).2.1)
  have h3 := rtextE_le' (t.drop ((uintE t).2.1 + (rtextE (t.drop (uintE t).2.1)).2.1))
  rw [List.length_drop] at h2 h3
  unfold opE
  repeat' split
  all_goals first
    | exact Nat.zero_le _
    | (dsimp only; omega)
theorem opE_e {t : List UInt8} {n u : Nat} {e : Int} (h : uintE t = (n, u, e)) (he : e ≠ 0) : opE t = (Chg0, 0, e) := by unfold opE; rw [h, if_pos he]
theorem opE_big {t : List UInt8} {n u : Nat} (h : uintE t = (n, u, 0)) (hn : 1 < n) : opE t = (Chg0, 0, 3) := by unfold opE; rw [h, if_neg (fun h => h rfl), if_pos hn]
theorem opE_k {t x : List UInt8} {n u v : Nat} {e : Int} (h : uintE t = (n, u, 0)) (hn : ¬ 1 < n) (h2 : rtextE (t.drop u) = (x, v, e)) (he : e ≠ 0) : opE t = (Chg0, 0, e) := by
  unfold opE; rw [h, if_neg (fun h => h rfl), if_neg hn]; dsimp only; rw [h2, if_pos he]
theorem opE_gone {t x : List UInt8} {u v : Nat} (h : uintE t = (0, u, 0)) (h2 : rtextE (t.drop u) = (x, v, 0)) : opE t = (⟨x, [], true⟩, u + v, 0) := by
  unfold opE; rw [h, if_neg (fun h => h rfl), if_neg (show ¬ 1 < 0 by decide)]; dsimp only; rw [h2, if_neg (fun h => h rfl), if_pos rfl]
theorem opE_v {t x y : List UInt8} {u v z : Nat} {e : Int} (h : uintE t = (1, u, 0)) (h2 : rtextE (t.drop u) = (x, v, 0)) (h3 : rtextE (t.drop (u + v)) = (y, z, e)) (he : e ≠ 0) : opE t = (Chg0, 0, e) := by
  unfold opE; rw [h, if_neg (fun h => h rfl), if_neg (show ¬ 1 < 1 by decide)]; dsimp only; rw [h2, if_neg (fun h => h rfl), if_neg (show ¬ 1 = 0 by decide)]; dsimp only; rw [h3, if_pos he]
theorem opE_put {t x y : List UInt8} {u v z : Nat} (h : uintE t = (1, u, 0)) (h2 : rtextE (t.drop u) = (x, v, 0)) (h3 : rtextE (t.drop (u + v)) = (y, z, 0)) : opE t = (⟨x, y, false⟩, u + v + z, 0) := by
  unfold opE; rw [h, if_neg (fun h => h rfl), if_neg (show ¬ 1 < 1 by decide)]; dsimp only; rw [h2, if_neg (fun h => h rfl), if_neg (show ¬ 1 = 0 by decide)]; dsimp only; rw [h3, if_neg (fun h => h rfl)]
def opsFin (s : List UInt8) (l : List Chg) (p : Nat) (r : List Chg × Nat × Int) : List Chg × Int := if r.2.2 ≠ 0 then ([], r.2.2) else if p + r.2.1 < s.length then ([], 5) else (l ++ r.1, 0)
theorem opsF_s (n : Nat) (t : List UInt8) : opsF (n + 1) t = if (opE t).2.2 ≠ 0 then ([], 0, (opE t).2.2)
    else if (opsF n (t.drop (opE t).2.1)).2.2 ≠ 0 then ([], 0, (opsF n (t.drop (opE t).2.1)).2.2)
    else ((opE t).1 :: (opsF n (t.drop (opE t).2.1)).1, (opE t).2.1 + (opsF n (t.drop (opE t).2.1)).2.1, 0) := rfl
theorem opsFin_no {s t : List UInt8} {l : List Chg} {p m u : Nat} {o : Chg} {e : Int} (h : opE t = (o, u, e)) (he : e ≠ 0) : opsFin s l p (opsF (m + 1) t) = ([], e) := by
  rw [opsF_s, h, if_pos he]
  unfold opsFin
  rw [if_pos he]
theorem opsFin_ok {s t : List UInt8} {l : List Chg} {p m u : Nat} {o : Chg} (h : opE t = (o, u, 0)) : opsFin s l p (opsF (m + 1) t) = opsFin s (l ++ [o]) (p + u) (opsF m (t.drop u)) := by
  rw [opsF_s, h, if_neg (fun h => h rfl)]
  dsimp only
  generalize opsF m (t.drop u) = r
  obtain ⟨a, b, e⟩ := r
  dsimp only
  unfold opsFin
  by_cases he : e ≠ 0
  · rw [if_pos he, if_pos he, if_pos he]
  · rw [if_neg he, if_neg he]
    dsimp only
    rw [if_neg (fun h => h rfl), Nat.add_assoc]
    simp
theorem opsE_of {s : List UInt8} {n u : Nat} (h : uintE s = (n, u, 0)) : opsE s = opsFin s [] u (opsF n (s.drop u)) := by
  unfold opsE opsFin
  rw [h, if_neg (fun h => h rfl)]
  dsimp only
  rw [List.nil_append]
theorem opsE_e {s : List UInt8} {n u : Nat} {e : Int} (h : uintE s = (n, u, e)) (he : e ≠ 0) : opsE s = ([], e) := by
  unfold opsE
  rw [h, if_pos he]
theorem textE_len (s : List UInt8) : (textE s).length = (putN s.length).length + s.length := by unfold textE; simp
theorem opE_pos (t : List UInt8) (h : (opE t).2.2 = 0) : 1 ≤ (opE t).2.1 := by
  have h1 := uintE_pos t
  unfold opE at h ⊢
  by_cases hu : (uintE t).2.2 = 0
  · have h1 := h1 hu
    repeat' split
    all_goals first
      | (dsimp only; omega)
      | (simp_all; done)
      | (exfalso; simp_all; omega)
  · rw [if_pos hu] at h
    exact absurd h hu
theorem opsF_len : ∀ (n : Nat) (t : List UInt8), (opsF n t).1.length ≤ t.length
  | 0, t => Nat.zero_le _
  | n + 1, t => by
    have h1 := opE_le t
    have h2 := opsF_len n (t.drop (opE t).2.1)
    rw [List.length_drop] at h2
    rw [opsF_s]
    split
    · exact Nat.zero_le _
    · rename_i h
      have h3 := opE_pos t (Classical.not_not.1 h)
      split
      · exact Nat.zero_le _
      · simp only [List.length_cons]; omega
theorem opsE_len (s : List UInt8) : (opsE s).1.length ≤ s.length := by
  have h := opsF_len (uintE s).1 (s.drop (uintE s).2.1)
  rw [List.length_drop] at h
  unfold opsE
  repeat' split
  all_goals first
    | exact Nat.zero_le _
    | (dsimp only; omega)
def applyE (rows : List (List UInt8 × List UInt8)) (l : List Chg) : List (List UInt8 × List UInt8) := l.foldl (fun m o => if o.gone then mdel m o.key else mset m o.key o.val) rows
end Go.Proofs.YtobfdeiimnnanaaGreatDoor

/- What is proved: what Record and Ops of the package table answer. Conditions: texts of bounded length. -/
namespace Go.Proofs.YtobfdeiimnnanaaGreatDoor
open Go Go.J Go.RowKit
set_option maxHeartbeats 4000000 in
set_option maxRecDepth 100000 in
theorem wuint_c (n : Nat) (w0 : World) (hn : n < 9223372036854775808) : Cal Tryz.prog 61 [.int .i64 (n : Int)] w0 (fun v w' => Upd [] w0 w' ∧ v = .tuple #[str (putN n), .int .i64 0]) := by
  refine Cal.mk' (by kernel_rfl) Tryz.func61 rfl rfl fun hS => ?_
  have hw : IntKind.u64.wrap (n : Int) = (n : Int) := by
    simp only [IntKind.wrap, IntKind.bits, IntKind.signed, Bool.false_and, Bool.false_eq_true, if_false]; omega
  repeat' (first | (show WL _ _ _ _ _ _ _; first | refine WL.pure rfl rfl rfl rfl ?_ | refine WL.nil ?_ | (refine WL.calls hS rfl (congrArg (fun z => [Value.int .u64 z]) hw) (put_c n _ (by omega)) rfl rfl rfl ?_; rintro v w rfl hS)) | (show WC _ _ _ _ _ _; first | refine WC.seq ?_ | refine WC.region ?_ | refine WC.skip ?_ | refine WC.ret ?_ | refine WC.condF rfl (decide_eq_false (by first | with_reducible assumption | omega)) ?_) | refine seqQ_n ?_)
  exact fin2r rfl rfl rfl ⟨hS.upd, rfl⟩
set_option maxHeartbeats 4000000 in
set_option maxRecDepth 100000 in
theorem bwrites_c (q : Nat) (s r : List UInt8) (fp : List Nat) (w0 : World) (hc : (sbC q s fp).holds w0) (hi : inB (sbC q s fp) w0) (hl : s.length + r.length ≤ 1099511627776) : Cal Tryz.prog 126 [.pointer (some ⟨q, 0, none⟩), str r] w0
    (fun v w' => v = .tuple #[.int .i64 (r.length : Int), .nilIface] ∧ ∃ fp', Mut w0 w' (sbC q s fp) (sbC q (s ++ r) fp')) := by
  refine Cal.mkM hc hi (by kernel_rfl) Tryz.func126 rfl rfl fun hS => ?_
  repeat' (first | (show WL _ _ _ _ _ _ _; first | refine WL.pure rfl rfl rfl rfl ?_ | refine WL.nil ?_ | refine WL.load hS rfl rfl (LdOk.box Mm rfl) rfl rfl rfl ?_ | (refine WL.callG rfl rfl (bcheck_c q s fp _ (hS.holds _ (List.Mem.head _)) (hS.inB_of (List.Mem.head _))) rfl rfl rfl ?_; rintro v w ⟨rfl, fp', hmut⟩; have hS := hS.mut hmut .here; obtain ⟨D, ⟨A, n, cap, rfl, hA⟩, hfp, hS⟩ := hS.objOpen; replace hS : St w0 _ w [.box q 199 [.pointer (some ⟨q, 0, none⟩), .slice A n cap], .own (.slice A n cap) 5 1 n (byteC s)] _ := hS; have hlen := (hS.own_len (List.Mem.tail _ (List.Mem.head _))).1; rw [byteC_len, Nat.mul_one] at hlen) | (refine WL.appStr hS rfl rfl rfl rfl rfl (fun A' cap' => Rp) (by omega) rfl rfl rfl ?_; intro A2 cap2 w hA2 hS; have hA2 := hA2 hA) | (refine WL.store hS rfl rfl rfl Sb rfl rfl rfl ?_; intro w hS)) | (show WC _ _ _ _ _ _; first | refine WC.seq ?_ | refine WC.region ?_ | refine WC.ret ?_) | refine seqQ_n ?_)
  exact fin2r rfl rfl rfl ⟨rfl, _, (St.objClose (H := []) (φ := sbφ q (s ++ r)) (D := sbD q (some ⟨q, 0, none⟩) A2 (n + r.length) cap2 (s ++ r)) (by rw [sbD, byteC_app]; exact hS) (.inr ⟨_, _, _, rfl, hA2⟩)).mutOf (List.Mem.head _)⟩
set_option maxHeartbeats 4000000 in
set_option maxRecDepth 100000 in
theorem rdone_c (r : Nat) (s : List UInt8) (p : Nat) (w0 : World) (h : RdAt r s p w0) : Cal Tryz.prog 105 [.pointer (some ⟨r, 0, none⟩)] w0 (fun v w' => Upd [] w0 w' ∧ v = .int .i64 (if p < s.length then 5 else 0)) := by
  refine Cal.mk' (by kernel_rfl) Tryz.func105 rfl rfl fun hS => ?_
  unfold RdAt at h
  by_cases hp : p < s.length
  case' pos => rw [if_pos hp]
  case' neg => rw [if_neg hp]
  all_goals
    repeat' (first | (show WL _ _ _ _ _ _ _; first | refine WL.pure rfl rfl rfl rfl ?_ | refine WL.nil ?_) | (show WC _ _ _ _ _ _; first | refine WC.seq ?_ | refine WC.region ?_ | refine WC.block ?_ | refine WC.skip ?_ | refine WC.ret ?_ | (show WC _ _ (Code.region _ (List.toArray [_, _, _, _, _, _, _, _, _, _, _]) true) _ _ _; refine WC.drawS hS [0, 1, 2, 3, 4, 5, 6, 7, 8, 9, 10] [0, 1, 2, 3, 4, 5, 6, 7, 8, 9, 10] (by kernel_rfl) (by kernel_rfl) ?_; clear hS; intro w hS hM) | refine WC.condF rfl (by with_reducible rfl) ?_ | refine WC.condT rfl (decide_eq_true (by first | with_reducible assumption | omega)) ?_ | refine WC.condF rfl (decide_eq_false (by first | with_reducible assumption | omega)) ?_) | (show WD _ _ _ _ _ _ _ _ _; first | refine WD.pure rfl rfl rfl rfl rfl ?_ | refine WD.nil ?_ | refine WD.load rfl rfl (LdOk.old h Mm rfl) rfl rfl rfl rfl ?_) | refine seqQ_n ?_ | refine blkQ_n ?_ | refine seqQ_r ?_ | refine blkQ_r ?_)
    exact fin1r rfl rfl ⟨hS.upd, rfl⟩
def cChg : Cod Chg := .flat cellsChg 3 fun _ => rfl
set_option maxHeartbeats 8000000 in
set_option maxRecDepth 100000 in
theorem record_c (l : List Chg) {A : Option Addr} {cap : Nat} {w0 : World} (h : SlAt cChg (Old w0) w0 A l) (hb : (recordE l).length ≤ 1099511627776) (hl : l.length ≤ 1099511627776) :
    Cal Tryz.prog 80 [.slice A l.length cap] w0 (fun v w' => Upd [] w0 w' ∧ v = str (recordE l)) := by
  refine Cal.mk' (by kernel_rfl) Tryz.func80 rfl rfl fun hS => ?_
  have hpl := putN_len10 (n := l.length) (by omega)
  have h0 : ([] : List UInt8).length = 0 := rfl
  repeat' (first | (show WL _ _ _ _ _ _ _; first | refine WL.pure rfl rfl rfl rfl ?_ | refine WL.nil ?_ | (refine WL.calls hS rfl rfl (wuint_c l.length _ (by omega)) rfl rfl rfl ?_; rintro v w rfl hS) | (refine WL.alloc (t := 199) hS rfl rfl rfl rfl rfl rfl ?_; intro w q hS; have hS := (hS.nilRow 5 1).perm (.swap _ _ _); have hS := St.objClose (H := []) (φ := sbφ q []) (D := sbD q none none 0 0 []) hS (.inl ⟨rfl, rfl⟩)) | (refine WL.callG rfl rfl (bwrites_c q [] (putN l.length) _ _ (hS.holds _ (List.Mem.head _)) (hS.inB_of (List.Mem.head _)) (by omega)) rfl rfl rfl ?_; rintro v w ⟨rfl, fp', hmut⟩; have hS := hS.mut hmut .here; clear hmut)) | (show WC _ _ _ _ _ _; first | refine WC.seq ?_ | refine WC.region ?_ | refine WC.block ?_) | refine seqQ_n ?_)
  refine WC.loop (σ := Nat × List UInt8 × List Nat) [5, 16, 17] (fun (k, acc, fp) => [(18, .int .i64 (k : Int))]) (fun (k, acc, fp) w => k ≤ l.length ∧ acc ++ (l.drop k).flatMap recO = recordE l ∧ St w0 [] w [sbC q acc fp] _) (fun (k, _) => l.length - k) (0, putN l.length, fp') ⟨Nat.zero_le _, rfl, hS⟩ ⟨rfl, trivial⟩ ?_
  clear hS
  rintro ⟨k, acc, fp⟩ g w ⟨hk, hacc, hS⟩
  by_cases hlt : k < l.length
  · obtain ⟨rb, ro, es, rfl, hF, hr, hes⟩ := h.at_ hlt
    have hes : es = cellsChg l[k] := hes
    subst hes
    have hr : w0.rangeAt rb (ro + k * 3) (cellsChg l[k]) := hr
    rw [List.drop_eq_getElem_cons hlt, List.flatMap_cons] at hacc
    generalize l[k] = o at *
    obtain ⟨key, val, gone⟩ := o
    have hlen := congrArg List.length hacc
    rw [List.length_append, List.length_append] at hlen
    have e0 : ([0] : List UInt8).length = 1 := rfl
    have e1 : ([1] : List UInt8).length = 1 := rfl
    have ht := textE_len key
    have htv := textE_len val
    rcases gone with _ | _
    · have hrec : recO ⟨key, val, false⟩ = [1] ++ textE key ++ textE val := by simp [recO]
      rw [hrec] at hacc hlen
      have e2 : ([1] ++ textE key).length = 1 + (textE key).length := by simp; omega
      have e3 : ([1] ++ textE key ++ textE val).length = 1 + (textE key).length + (textE val).length := by simp; omega
      repeat' (first | (show WL _ _ _ _ _ _ _; first | refine WL.pure rfl rfl rfl rfl ?_ | refine WL.nil ?_ | refine WL.load hS rfl rfl (LdOk.box Mm rfl) rfl rfl rfl ?_ | refine WL.add rfl rfl rfl (by omega) rfl rfl rfl ?_ | (refine WL.load hS rfl rfl (LdOk.snap0 hF hr Mm rfl) rfl rfl rfl ?_) | (refine WL.alloc (t := 134) hS rfl rfl rfl rfl rfl rfl ?_; intro w ob hS) | (refine WL.store hS rfl rfl rfl Sb rfl rfl rfl ?_; intro w hS) | refine WL.index rfl rfl rfl rfl (by first | with_reducible assumption | omega) rfl rfl rfl rfl ?_) | (show WC _ _ _ _ _ _; first | refine WC.seq ?_ | refine WC.region ?_ | refine WC.block ?_ | refine WC.skip ?_ | (show WC _ _ (Code.region _ (List.toArray [_, _, _, _, _, _, _, _, _]) true) _ _ _; refine WC.drawL [sbC q acc fp] hS Pu [0,1,3,4,5,7] [0,1,4,5,2,3,6,7,8] (by kernel_rfl) (by kernel_rfl) ?_; clear hS; intro w hS hM) | refine WC.condF rfl (by with_reducible rfl) ?_ | refine WC.condT rfl (decide_eq_true (by first | with_reducible assumption | omega)) ?_) | (show WD _ _ _ _ _ _ _ _ _; first | refine WD.pure rfl rfl rfl rfl rfl ?_ | refine WD.nil ?_ | refine WD.load rfl rfl (LdOk.box Mm rfl) rfl rfl rfl rfl ?_ | (refine WD.cat rfl rfl rfl (by omega) rfl rfl rfl rfl ?_) | (refine WD.calls hS hM rfl rfl (wtext_c key _ (by omega)) rfl rfl rfl rfl rfl ?_; clear hS; rintro v w rfl hS) | (refine WD.calls hS hM rfl rfl (wtext_c val _ (by omega)) rfl rfl rfl rfl rfl ?_; clear hS; rintro v w rfl hS) | (refine WD.callL (D := [sbC q acc fp]) hS Pu (.refl _ _) rfl rfl (fun hI => bwrites_c q acc ([1] ++ textE key ++ textE val) fp _ hI.head hI.headB (by omega)) rfl rfl rfl rfl rfl ?_; rintro v w ⟨rfl, fp', hm⟩; refine ⟨_, .of1 hm, fun hS hM => ?_⟩; clear hm)) | refine seqQ_n ?_ | refine blkQ_n ?_)
      exact rndQ_n (k + 1, acc ++ ([1] ++ textE key ++ textE val), fp') ⟨by omega, by rw [← hacc]; simp, hS.droplast2 Pu⟩ (by show l.length - (k + 1) < l.length - k; omega) ⟨vint (by omega), trivial⟩ ⟨rfl, rfl, rfl, trivial⟩
    · have hrec : recO ⟨key, val, true⟩ = [0] ++ textE key := by simp [recO]
      rw [hrec] at hacc hlen
      have e2 : ([0] ++ textE key).length = 1 + (textE key).length := by simp; omega
      repeat' (first | (show WL _ _ _ _ _ _ _; first | refine WL.pure rfl rfl rfl rfl ?_ | refine WL.nil ?_ | refine WL.load hS rfl rfl (LdOk.box Mm rfl) rfl rfl rfl ?_ | refine WL.add rfl rfl rfl (by omega) rfl rfl rfl ?_ | (refine WL.load hS rfl rfl (LdOk.snap0 hF hr Mm rfl) rfl rfl rfl ?_) | (refine WL.alloc (t := 134) hS rfl rfl rfl rfl rfl rfl ?_; intro w ob hS) | (refine WL.calls hS rfl rfl (wtext_c key _ (by omega)) rfl rfl rfl ?_; rintro v w rfl hS) | (refine WL.callG rfl rfl (bwrites_c q acc ([0] ++ textE key) _ _ (hS.holds _ (List.Mem.tail _ (List.Mem.head _))) (hS.inB_of (List.Mem.tail _ (List.Mem.head _))) (by omega)) rfl rfl rfl ?_; rintro v w ⟨rfl, fp', hmut⟩; have hS := hS.mut hmut (.there .here); clear hmut) | refine WL.cat rfl rfl rfl (by omega) rfl rfl rfl ?_ | (refine WL.store hS rfl rfl rfl Sb rfl rfl rfl ?_; intro w hS) | refine WL.index rfl rfl rfl rfl (by first | with_reducible assumption | omega) rfl rfl rfl rfl ?_) | (show WC _ _ _ _ _ _; first | refine WC.seq ?_ | refine WC.region ?_ | refine WC.block ?_ | refine WC.skip ?_ | refine WC.condT rfl (by with_reducible rfl) ?_ | refine WC.condT rfl (decide_eq_true (by first | with_reducible assumption | omega)) ?_) | refine seqQ_n ?_ | refine blkQ_n ?_)
      exact rndQ_n (k + 1, acc ++ ([0] ++ textE key), fp') ⟨by omega, by rw [← hacc]; simp, hS.drop⟩ (by show l.length - (k + 1) < l.length - k; omega) ⟨vint (by omega), trivial⟩ ⟨rfl, rfl, rfl, trivial⟩
  · have hke : k = l.length := by omega
    subst hke
    have hacc : acc = recordE l := by simpa using hacc
    subst hacc
    repeat' (first | (show WL _ _ _ _ _ _ _; first | refine WL.pure rfl rfl rfl rfl ?_ | refine WL.nil ?_ | (refine WL.callG rfl rfl (bstring_c q (recordE l) fp _ (hS.holds _ (List.Mem.head _)) (hS.inB_of (List.Mem.head _)) (by omega)) rfl rfl rfl ?_; rintro v w ⟨rfl, hu⟩; have hS := hS.lose hu)) | (show WC _ _ _ _ _ _; first | refine WC.seq ?_ | refine WC.region ?_ | refine WC.exit ?_ | refine WC.ret ?_ | refine WC.condF rfl (decide_eq_false (by first | with_reducible assumption | omega)) ?_) | refine seqQ_n ?_ | refine seqQ_x ?_ | refine blkQ_hit rfl ?_ | refine rndQ_x ?_)
    exact fin1r rfl rfl ⟨hS.upd, rfl⟩
def opsR (w0 : World) (r : List Chg × Int) (v : Value) (w' : World) : Prop := Upd [] w0 w' ∧ ∃ A cap, v = .tuple #[.slice A r.1.length cap, .int .i64 r.2] ∧ New w0 w' (.own (.slice A r.1.length cap) 134 3 r.1.length (chgs r.1))
set_option maxHeartbeats 8000000 in
set_option maxRecDepth 100000 in
theorem ops_c (s : List UInt8) (w0 : World) (hl : s.length ≤ 1099511627776) : Cal Tryz.prog 52 [str s] w0 (opsR w0 (opsE s)) := by
  refine Cal.mk' (by kernel_rfl) Tryz.func52 rfl rfl fun hS => ?_
  rcases hu : uintE s with ⟨n, u, e⟩
  have hu0 : uintE (s.drop 0) = (n, u, e) := hu
  have hule := uintE_le s
  have hnok := uintE_ok s
  rw [hu] at hule hnok
  dsimp only at hule hnok
  by_cases he : e = 0
  rotate_left
  · rw [opsE_e hu he]
    clear hnok hu
    repeat' (first | (show WL _ _ _ _ _ _ _; first | refine WL.pure rfl rfl rfl rfl ?_ | refine WL.nil ?_ | (refine WL.callG rfl rfl (wnew_c s _) rfl rfl rfl ?_; rintro v w ⟨hup, r, rfl, hnew⟩; have hS := hS.new hup hnew; clear hup hnew) | (refine WL.callG rfl rfl (uint_e hu0 (hS.holds _ (List.Mem.head _)) (hS.inB_of (List.Mem.head _)) (by omega) (by omega)) rfl rfl rfl ?_; rintro v w ⟨rfl, hmut⟩; have hS := hS.mut hmut .here; clear hmut)) | (show WC _ _ _ _ _ _; first | refine WC.seq ?_ | refine WC.region ?_ | refine WC.ret ?_ | refine WC.condT rfl (decide_eq_true (by first | with_reducible assumption | omega)) ?_) | refine seqQ_n ?_ | refine seqQ_r ?_)
    have hS := hS.nilRow 134 3
    exact fin2r rfl rfl rfl ⟨hS.upd, _, _, rfl, hS.newOf (List.Mem.head _)⟩
  subst he
  obtain ⟨hn63, _⟩ := hnok rfl
  rw [opsE_of hu]
  clear hnok hu
  generalize hRES : opsFin s [] u (opsF n (s.drop u)) = RES
  repeat' (first | (show WL _ _ _ _ _ _ _; first | refine WL.pure rfl rfl rfl rfl ?_ | refine WL.nil ?_ | (refine WL.callG rfl rfl (wnew_c s _) rfl rfl rfl ?_; rintro v w ⟨hup, r, rfl, hnew⟩; have hS := hS.new hup hnew; clear hup hnew) | (refine WL.callG rfl rfl (uint_e hu0 (hS.holds _ (List.Mem.head _)) (hS.inB_of (List.Mem.head _)) (by omega) (by omega)) rfl rfl rfl ?_; rintro v w ⟨rfl, hmut⟩; have hS := hS.mut hmut .here; clear hmut) | (refine WL.slit (t := 106) hS rfl rfl rfl rfl rfl ?_; intro w ob hS; have hS := hS.boxRow (n := 0) (size := 3) .here rfl (Nat.zero_le _))) | (show WC _ _ _ _ _ _; first | refine WC.seq ?_ | refine WC.region ?_ | refine WC.block ?_ | refine WC.skip ?_ | refine WC.condF rfl (by decide) ?_) | refine seqQ_n ?_)
  refine WC.loop (σ := Nat × List Chg × Nat × Option Addr × Nat) [4, 23] (fun (k, l, p, A, cap) => [(7, .slice A l.length cap), (24, .int .i64 (k : Int))])
    (fun (k, l, p, A, cap) w => k ≤ n ∧ p ≤ s.length ∧ l.length ≤ p ∧ opsFin s l p (opsF (n - k) (s.drop p)) = RES ∧ St w0 [] w [.own (.slice A l.length cap) 134 3 l.length (chgs l), rdC r s p] _)
    (fun (k, _) => n - k) (0, [], u, _, 0) ⟨Nat.zero_le _, hule, Nat.zero_le _, hRES, by rw [Nat.zero_add] at hS; exact hS⟩ ⟨rfl, rfl, trivial⟩ ?_
  clear hS hRES hu0
  rintro ⟨k, l, p, A, cap⟩ g w ⟨hk, hp, hlp, hres, hS⟩
  show WC _ _ _ (lf _ [(7, .slice A l.length cap), (24, .int .i64 (k : Int))] _ _) _ _
  by_cases hlt : k < n
  · obtain ⟨m, hm⟩ : ∃ m, n - k = m + 1 := ⟨n - k - 1, by omega⟩
    have hm1 : n - (k + 1) = m := by omega
    rw [hm] at hres
    rcases hu1 : uintE (s.drop p) with ⟨kd, u1, e1⟩
    have hl1 := uintE_le (s.drop p)
    rw [hu1, List.length_drop] at hl1
    dsimp only at hl1
    by_cases he1 : e1 = 0
    rotate_left
    · rw [opsFin_no (opE_e hu1 he1) he1] at hres
      subst hres
      clear hm hm1
      repeat' (first | (show WL _ _ _ _ _ _ _; first | refine WL.pure rfl rfl rfl rfl ?_ | refine WL.nil ?_ | (refine WL.callG rfl rfl (uint_e hu1 (hS.holds _ (List.Mem.tail _ (List.Mem.head _))) (hS.inB_of (List.Mem.tail _ (List.Mem.head _))) (by omega) (by omega)) rfl rfl rfl ?_; rintro v w ⟨rfl, hmut⟩; have hS := hS.mut hmut (.there .here); clear hmut) | refine WL.skip rfl rfl rfl ?_ | ((fail_if_success (refine WL.wanted rfl ?_)); refine WL.guard rfl rfl rfl (fun h => ?_) (fun h => ?_) <;> (try simp only [ZZ0, ZZ1, ZZ2, ZZ3, ZZ4, ZZ5, ZZ6, ZZ7, ZZ8, ZZ9, ZZ10, ZZ11, ZZ12, ZZ13, ZZ14, ZZ15] at h) <;> (try (exfalso; first | omega | contradiction)))) | (show WC _ _ _ _ _ _; first | refine WC.seq ?_ | refine WC.region ?_ | refine WC.block ?_ | refine WC.skip ?_ | refine WC.ret ?_ | refine WC.condF rfl (by with_reducible rfl) ?_ | refine WC.condT rfl (decide_eq_true (by first | with_reducible assumption | omega)) ?_) | refine seqQ_n ?_ | refine seqQ_r ?_ | refine blkQ_r ?_ | refine rndQ_r ?_)
      have hS := hS.nilRow 134 3
      exact fin2r rfl rfl rfl ⟨hS.upd, _, _, rfl, hS.newOf (List.Mem.head _)⟩
    subst he1
    have hd1 : (s.drop p).drop u1 = s.drop (p + u1) := by rw [List.drop_drop]
    by_cases hk1 : 1 < kd
    · rw [opsFin_no (opE_big hu1 hk1) (by decide)] at hres
      subst hres
      clear hm hm1 hd1
      repeat' (first | (show WL _ _ _ _ _ _ _; first | refine WL.pure rfl rfl rfl rfl ?_ | refine WL.nil ?_ | (refine WL.callG rfl rfl (uint_e hu1 (hS.holds _ (List.Mem.tail _ (List.Mem.head _))) (hS.inB_of (List.Mem.tail _ (List.Mem.head _))) (by omega) (by omega)) rfl rfl rfl ?_; rintro v w ⟨rfl, hmut⟩; have hS := hS.mut hmut (.there .here); clear hmut)) | (show WC _ _ _ _ _ _; first | refine WC.seq ?_ | refine WC.region ?_ | refine WC.block ?_ | refine WC.skip ?_ | refine WC.ret ?_ | refine WC.condT rfl (by decide) ?_ | refine WC.condT rfl (decide_eq_true (by first | with_reducible assumption | omega)) ?_) | refine seqQ_n ?_ | refine seqQ_r ?_ | refine blkQ_r ?_ | refine rndQ_r ?_)
      have hS := hS.nilRow 134 3
      exact fin2r rfl rfl rfl ⟨hS.upd, _, _, rfl, hS.newOf (List.Mem.head _)⟩
    rcases hu2 : rtextE (s.drop (p + u1)) with ⟨x, v2, e2⟩
    have hl2 := rtextE_le' (s.drop (p + u1))
    rw [hu2, List.length_drop] at hl2
    dsimp only at hl2
    have hu2' := hu2
    rw [← hd1] at hu2'
    by_cases he2 : e2 = 0
    rotate_left
    · rw [opsFin_no (opE_k hu1 hk1 hu2' he2) he2] at hres
      subst hres
      clear hm hm1 hd1 hu2'
      repeat' (first | (show WL _ _ _ _ _ _ _; first | refine WL.pure rfl rfl rfl rfl ?_ | refine WL.nil ?_ | (refine WL.callG rfl rfl (uint_e hu1 (hS.holds _ (List.Mem.tail _ (List.Mem.head _))) (hS.inB_of (List.Mem.tail _ (List.Mem.head _))) (by omega) (by omega)) rfl rfl rfl ?_; rintro v w ⟨rfl, hmut⟩; have hS := hS.mut hmut (.there .here); clear hmut) | (refine WL.alloc (t := 134) hS rfl rfl rfl rfl rfl rfl ?_; intro w ob hS) | (refine WL.callG rfl rfl (rtext_e hu2 (hS.holds _ (List.Mem.tail _ (List.Mem.tail _ (List.Mem.head _)))) (hS.inB_of (List.Mem.tail _ (List.Mem.tail _ (List.Mem.head _)))) (by omega) (by omega)) rfl rfl rfl ?_; rintro v w ⟨rfl, hmut⟩; have hS := hS.mut hmut (.there (.there .here)); clear hmut) | (refine WL.store hS rfl rfl rfl Sb rfl rfl rfl ?_; intro w hS) | refine WL.build rfl rfl rfl rfl rfl ?_) | (show WC _ _ _ _ _ _; first | refine WC.seq ?_ | refine WC.region ?_ | refine WC.block ?_ | refine WC.skip ?_ | refine WC.ret ?_ | refine WC.condF rfl (by decide) ?_ | refine WC.condT rfl (decide_eq_true (by first | with_reducible assumption | omega)) ?_ | refine WC.condF rfl (decide_eq_false (by first | with_reducible assumption | omega)) ?_) | refine seqQ_n ?_ | refine seqQ_r ?_ | refine blkQ_r ?_ | refine rndQ_r ?_)
      have hS := hS.nilRow 134 3
      exact fin2r rfl rfl rfl ⟨hS.upd, _, _, rfl, hS.newOf (List.Mem.head _)⟩
    subst he2
    have hd2 : (s.drop p).drop (u1 + v2) = s.drop (p + u1 + v2) := by rw [List.drop_drop, Nat.add_assoc]
    have hcap := hS.own_len (List.Mem.head _)
    have hpos := uintE_pos (s.drop p)
    rw [hu1] at hpos
    have hpos : 1 ≤ u1 := hpos rfl
    by_cases hk0 : kd = 0
    · subst hk0
      rw [opsFin_ok (opE_gone hu1 hu2'), hd2, ← Nat.add_assoc, ← hm1] at hres
      clear hm hm1 hd1 hu2' hd2
      repeat' (first | (show WL _ _ _ _ _ _ _; first | refine WL.pure rfl rfl rfl rfl ?_ | refine WL.nil ?_ | refine WL.load hS rfl rfl (LdOk.box Mm rfl) rfl rfl rfl ?_ | refine WL.add rfl rfl rfl (by omega) rfl rfl rfl ?_ | (refine WL.callG rfl rfl (uint_e hu1 (hS.holds _ (List.Mem.tail _ (List.Mem.head _))) (hS.inB_of (List.Mem.tail _ (List.Mem.head _))) (by omega) (by omega)) rfl rfl rfl ?_; rintro v w ⟨rfl, hmut⟩; have hS := hS.mut hmut (.there .here); clear hmut) | (refine WL.alloc (t := 134) hS rfl rfl rfl rfl rfl rfl ?_; intro w ob hS) | (refine WL.callG rfl rfl (rtext_e hu2 (hS.holds _ (List.Mem.tail _ (List.Mem.tail _ (List.Mem.head _)))) (hS.inB_of (List.Mem.tail _ (List.Mem.tail _ (List.Mem.head _)))) (by omega) (by omega)) rfl rfl rfl ?_; rintro v w ⟨rfl, hmut⟩; have hS := hS.mut hmut (.there (.there .here)); clear hmut) | (refine WL.app hS rfl rfl rfl rfl (RdOk.box Mm) rfl rfl (fun A cap => Rp) (by omega) rfl rfl rfl ?_; intro A cap w hS) | (refine WL.store hS rfl rfl rfl Sb rfl rfl rfl ?_; intro w hS) | refine WL.build rfl rfl rfl rfl rfl ?_ | (refine WL.slit hS rfl rfl rfl rfl rfl ?_; intro w b hS)) | (show WC _ _ _ _ _ _; first | refine WC.seq ?_ | refine WC.region ?_ | refine WC.block ?_ | refine WC.skip ?_ | refine WC.condF rfl (by decide) ?_ | refine WC.condT rfl (decide_eq_true (by first | with_reducible assumption | omega)) ?_) | refine seqQ_n ?_ | refine blkQ_n ?_)
      exact rndQ_n (k + 1, l ++ [⟨x, [], true⟩], p + u1 + v2, _, _) ⟨by omega, by omega, by simp; omega, hres, by
        have hS := hS.drop.drop
        rw [List.length_append, ← chgs_snoc]
        exact hS⟩ (by show n - (k + 1) < n - k; omega) ⟨by rw [List.length_append]; rfl, vint (by omega), trivial⟩ ⟨rfl, rfl, trivial⟩
    obtain rfl : kd = 1 := by omega
    rcases hu3 : rtextE (s.drop (p + u1 + v2)) with ⟨y, v3, e3⟩
    have hl3 := rtextE_le' (s.drop (p + u1 + v2))
    rw [hu3, List.length_drop] at hl3
    dsimp only at hl3
    have hu3' := hu3
    rw [← hd2] at hu3'
    by_cases he3 : e3 = 0
    rotate_left
    · rw [opsFin_no (opE_v hu1 hu2' hu3' he3) he3] at hres
      subst hres
      clear hm hm1 hd1 hu2' hu3' hd2
      repeat' (first | (show WL _ _ _ _ _ _ _; first | refine WL.pure rfl rfl rfl rfl ?_ | refine WL.nil ?_ | refine WL.load hS rfl rfl (LdOk.box Mm rfl) rfl rfl rfl ?_ | (refine WL.callG rfl rfl (uint_e hu1 (hS.holds _ (List.Mem.tail _ (List.Mem.head _))) (hS.inB_of (List.Mem.tail _ (List.Mem.head _))) (by omega) (by omega)) rfl rfl rfl ?_; rintro v w ⟨rfl, hmut⟩; have hS := hS.mut hmut (.there .here); clear hmut) | (refine WL.alloc (t := 134) hS rfl rfl rfl rfl rfl rfl ?_; intro w ob hS) | (refine WL.callG rfl rfl (rtext_e hu2 (hS.holds _ (List.Mem.tail _ (List.Mem.tail _ (List.Mem.head _)))) (hS.inB_of (List.Mem.tail _ (List.Mem.tail _ (List.Mem.head _)))) (by omega) (by omega)) rfl rfl rfl ?_; rintro v w ⟨rfl, hmut⟩; have hS := hS.mut hmut (.there (.there .here)); clear hmut) | (refine WL.callG rfl rfl (rtext_e hu3 (hS.holds _ (List.Mem.tail _ (List.Mem.tail _ (List.Mem.head _)))) (hS.inB_of (List.Mem.tail _ (List.Mem.tail _ (List.Mem.head _)))) (by omega) (by omega)) rfl rfl rfl ?_; rintro v w ⟨rfl, hmut⟩; have hS := hS.mut hmut (.there (.there .here)); clear hmut) | (refine WL.store hS rfl rfl rfl Sb rfl rfl rfl ?_; intro w hS) | refine WL.build rfl rfl rfl rfl rfl ?_) | (show WC _ _ _ _ _ _; first | refine WC.seq ?_ | refine WC.region ?_ | refine WC.block ?_ | refine WC.skip ?_ | refine WC.ret ?_ | refine WC.condT rfl (by decide) ?_ | refine WC.condF rfl (by decide) ?_ | refine WC.condT rfl (decide_eq_true (by first | with_reducible assumption | omega)) ?_) | refine seqQ_n ?_ | refine seqQ_r ?_ | refine blkQ_r ?_ | refine rndQ_r ?_)
      have hS := hS.nilRow 134 3
      exact fin2r rfl rfl rfl ⟨hS.upd, _, _, rfl, hS.newOf (List.Mem.head _)⟩
    subst he3
    have hd3 : (s.drop p).drop (u1 + v2 + v3) = s.drop (p + u1 + v2 + v3) := by rw [List.drop_drop]; congr 1; omega
    rw [opsFin_ok (opE_put hu1 hu2' hu3'), hd3, show p + (u1 + v2 + v3) = p + u1 + v2 + v3 by omega, ← hm1] at hres
    clear hm hm1 hd1 hu2' hu3' hd2 hd3 hk0 hk1
    repeat' (first | (show WL _ _ _ _ _ _ _; first | refine WL.pure rfl rfl rfl rfl ?_ | refine WL.nil ?_ | refine WL.load hS rfl rfl (LdOk.box Mm rfl) rfl rfl rfl ?_ | refine WL.add rfl rfl rfl (by omega) rfl rfl rfl ?_ | (refine WL.callG rfl rfl (uint_e hu1 (hS.holds _ (List.Mem.tail _ (List.Mem.head _))) (hS.inB_of (List.Mem.tail _ (List.Mem.head _))) (by omega) (by omega)) rfl rfl rfl ?_; rintro v w ⟨rfl, hmut⟩; have hS := hS.mut hmut (.there .here); clear hmut) | (refine WL.alloc (t := 134) hS rfl rfl rfl rfl rfl rfl ?_; intro w ob hS) | (refine WL.callG rfl rfl (rtext_e hu2 (hS.holds _ (List.Mem.tail _ (List.Mem.tail _ (List.Mem.head _)))) (hS.inB_of (List.Mem.tail _ (List.Mem.tail _ (List.Mem.head _)))) (by omega) (by omega)) rfl rfl rfl ?_; rintro v w ⟨rfl, hmut⟩; have hS := hS.mut hmut (.there (.there .here)); clear hmut) | (refine WL.callG rfl rfl (rtext_e hu3 (hS.holds _ (List.Mem.tail _ (List.Mem.tail _ (List.Mem.head _)))) (hS.inB_of (List.Mem.tail _ (List.Mem.tail _ (List.Mem.head _)))) (by omega) (by omega)) rfl rfl rfl ?_; rintro v w ⟨rfl, hmut⟩; have hS := hS.mut hmut (.there (.there .here)); clear hmut) | (refine WL.app hS rfl rfl rfl rfl (RdOk.box Mm) rfl rfl (fun A cap => Rp) (by omega) rfl rfl rfl ?_; intro A cap w hS) | (refine WL.store hS rfl rfl rfl Sb rfl rfl rfl ?_; intro w hS) | refine WL.build rfl rfl rfl rfl rfl ?_ | (refine WL.slit hS rfl rfl rfl rfl rfl ?_; intro w b hS)) | (show WC _ _ _ _ _ _; first | refine WC.seq ?_ | refine WC.region ?_ | refine WC.block ?_ | refine WC.skip ?_ | refine WC.condT rfl (by decide) ?_ | refine WC.condF rfl (by decide) ?_ | refine WC.condT rfl (decide_eq_true (by first | with_reducible assumption | omega)) ?_) | refine seqQ_n ?_ | refine blkQ_n ?_)
    exact rndQ_n (k + 1, l ++ [⟨x, y, false⟩], p + u1 + v2 + v3, _, _) ⟨by omega, by omega, by simp; omega, hres, by
      have hS := hS.drop.drop
      rw [List.length_append, ← chgs_snoc]
      exact hS⟩ (by show n - (k + 1) < n - k; omega) ⟨by rw [List.length_append]; rfl, vint (by omega), trivial⟩ ⟨rfl, rfl, trivial⟩
  · have hke : n - k = 0 := by omega
    rw [hke] at hres
    have hres : (if p < s.length then (([], 5) : List Chg × Int) else (l, 0)) = RES := by rw [← hres]; unfold opsFin opsF; simp
    by_cases hps : p < s.length
    case' pos => rw [if_pos hps] at hres
    case' neg => rw [if_neg hps] at hres
    all_goals
      subst hres
      clear hke
      repeat' (first | (show WL _ _ _ _ _ _ _; first | refine WL.pure rfl rfl rfl rfl ?_ | refine WL.nil ?_ | (refine WL.calls hS rfl rfl (rdone_c r s p _ (hS.holds _ (List.Mem.tail _ (List.Mem.head _)))) rfl rfl rfl ?_; rintro v w rfl hS; first | rw [if_pos hps] | rw [if_neg hps])) | (show WC _ _ _ _ _ _; first | refine WC.seq ?_ | refine WC.region ?_ | refine WC.skip ?_ | refine WC.exit ?_ | refine WC.ret ?_ | refine WC.condT rfl (by decide) ?_ | refine WC.condF rfl (by decide) ?_ | refine WC.condF rfl (decide_eq_false (by first | with_reducible assumption | omega)) ?_) | refine seqQ_n ?_ | refine seqQ_x ?_ | refine seqQ_r ?_ | refine blkQ_hit rfl ?_ | refine rndQ_x ?_)
    all_goals first
      | exact fin2r rfl rfl rfl ⟨hS.upd, _, _, rfl, hS.newOf (List.Mem.head _)⟩
      | exact fin2r rfl rfl rfl ⟨hS.upd, _, _, rfl, (hS.nilRow 134 3).newOf (List.Mem.head _)⟩
end Go.Proofs.YtobfdeiimnnanaaGreatDoor

/- What is proved: a table: changes applied, the base read, the table opened. Conditions: no limit at the disk, texts of bounded length. -/
namespace Go.Proofs.YtobfdeiimnnanaaGreatDoor
open Go Go.J Go.RowKit
abbrev Rws := List (List UInt8 × List UInt8)
@[reducible] def encRow (s : List UInt8) : Value := .agg ⟨[str s]⟩
abbrev tbB (T : Nat) (dp : Option Addr) (dir : List UInt8) (lp : Option Addr) (m : Nat) : Chunk := .box T 102 [.pointer dp, str dir, .pointer lp, .map (some m)]
abbrev rowsC (m : Nat) (rows : Rws) : Chunk := mapC m (mmap encRow rows)
abbrev chgC (A : Option Addr) (cap : Nat) (l : List Chg) : Chunk := .own (.slice A l.length cap) 134 3 l.length (chgs l)
theorem rows_set (m : Nat) (rs : Rws) (key val : List UInt8) : mapC m (mset (mmap encRow rs) key (encRow val)) = rowsC m (mset rs key val) := by rw [mset_map]
theorem rows_del (m : Nat) (rs : Rws) (key : List UInt8) : mapC m (mdel (mmap encRow rs) key) = rowsC m (mdel rs key) := by rw [mdel_map]
theorem applyE_cons (rows : Rws) (o : Chg) (l : List Chg) : applyE rows (o :: l) = applyE (if o.gone then mdel rows o.key else mset rows o.key o.val) l := rfl
set_option maxHeartbeats 8000000 in
set_option maxRecDepth 100000 in
theorem apply_c {T m cap : Nat} {dp lp A : Option Addr} {dir : List UInt8} {rows : Rws} {l : List Chg} {w0 : World} (hi : InL w0 [tbB T dp dir lp m, rowsC m rows, chgC A cap l]) (hl : l.length ≤ 1099511627776) :
    Cal Tryz.prog 53 [.pointer (some ⟨T, 0, none⟩), .slice A l.length cap] w0
      (fun v w' => v = .tuple #[] ∧ MutL w0 w' [tbB T dp dir lp m, rowsC m rows, chgC A cap l] [tbB T dp dir lp m, rowsC m (applyE rows l), chgC A cap l]) := by
  refine Cal.mkL hi (by kernel_rfl) Tryz.func53 rfl rfl fun hS => ?_
  repeat' (first | (show WL _ _ _ _ _ _ _; first | refine WL.pure rfl rfl rfl rfl ?_ | refine WL.nil ?_) | (show WC _ _ _ _ _ _; first | refine WC.seq ?_ | refine WC.region ?_ | refine WC.block ?_) | refine seqQ_n ?_)
  refine WC.loop (σ := Nat × Rws) [0, 6, 7] (fun (k, rs) => [(8, .int .i64 (k : Int))]) (fun (k, rs) w => k ≤ l.length ∧ applyE rs (l.drop k) = applyE rows l ∧ St w0 (fps [tbB T dp dir lp m, rowsC m rows, chgC A cap l]) w [tbB T dp dir lp m, rowsC m rs, chgC A cap l] _) (fun (k, _) => l.length - k) (0, rows) ⟨Nat.zero_le _, rfl, hS⟩ ⟨rfl, trivial⟩ ?_
  clear hS
  rintro ⟨k, rs⟩ g w ⟨hk, hrs, hS⟩
  show WC _ _ _ (lf _ [(8, .int .i64 (k : Int))] _ _) _ _
  by_cases hlt : k < l.length
  · have hat : l[k]? = some l[k] := List.getElem?_eq_getElem hlt
    rw [List.drop_eq_getElem_cons hlt, applyE_cons] at hrs
    generalize l[k] = o at *
    obtain ⟨key, val, gone⟩ := o
    obtain ⟨rg, ro, rfl⟩ := hS.own_addr (List.Mem.tail _ (List.Mem.tail _ (List.Mem.head _))) (Nat.lt_of_le_of_lt (Nat.zero_le k) hlt)
    rcases gone with _ | _
    · replace hrs : applyE (mset rs key val) (l.drop (k + 1)) = applyE rows l := hrs
      repeat' (first | (show WL _ _ _ _ _ _ _; first | refine WL.pure rfl rfl rfl rfl ?_ | refine WL.nil ?_ | refine WL.load hS rfl rfl (LdOk.box Mm rfl) rfl rfl rfl ?_ | refine WL.add rfl rfl rfl (by omega) rfl rfl rfl ?_ | (refine WL.load hS rfl rfl (LdOk.ownElemE (fun _ => rfl) Mm hat rfl rfl) rfl rfl rfl ?_) | (refine WL.alloc (t := 134) hS rfl rfl rfl rfl rfl rfl ?_; intro w ob hS) | (refine WL.store hS rfl rfl rfl Sb rfl rfl rfl ?_; intro w hS) | refine WL.index rfl rfl rfl rfl (by first | with_reducible assumption | omega) rfl rfl rfl rfl ?_) | (show WC _ _ _ _ _ _; first | refine WC.seq ?_ | refine WC.region ?_ | refine WC.block ?_ | refine WC.skip ?_ | (show WC _ _ (Code.region _ (List.toArray [_, _, _, _, _, _, _, _, _, _]) true) _ _ _; refine WC.drawL [rowsC m rs] hS Pu [0,1,2,3,4,5,6,7,8] [0,1,2,3,4,5,6,7,8,9] (by kernel_rfl) (by kernel_rfl) ?_; clear hS; intro w hS hM) | refine WC.condF rfl (by with_reducible rfl) ?_ | refine WC.condT rfl (decide_eq_true (by first | with_reducible assumption | omega)) ?_) | (show WD _ _ _ _ _ _ _ _ _; first | refine WD.pure rfl rfl rfl rfl rfl ?_ | refine WD.nil ?_ | refine WD.load rfl rfl (LdOk.box Mm rfl) rfl rfl rfl rfl ?_ | (refine WD.msetC hS (More.refl _ _) (.inl rfl) rfl rfl rfl rfl rfl rfl rfl rfl ?_; clear hS; intro w hS) | refine WD.build rfl rfl rfl rfl rfl rfl ?_) | refine seqQ_n ?_ | refine blkQ_n ?_)
      exact rndQ_n (k + 1, mset rs key val) ⟨by omega, hrs, by rw [← rows_set]; exact hS.droplast2 Pu⟩ (by show l.length - (k + 1) < l.length - k; omega) ⟨vint (by omega), trivial⟩ ⟨rfl, rfl, rfl, trivial⟩
    · replace hrs : applyE (mdel rs key) (l.drop (k + 1)) = applyE rows l := hrs
      repeat' (first | (show WL _ _ _ _ _ _ _; first | refine WL.pure rfl rfl rfl rfl ?_ | refine WL.nil ?_ | refine WL.load hS rfl rfl (LdOk.box Mm rfl) rfl rfl rfl ?_ | refine WL.add rfl rfl rfl (by omega) rfl rfl rfl ?_ | (refine WL.load hS rfl rfl (LdOk.ownElemE (fun _ => rfl) Mm hat rfl rfl) rfl rfl rfl ?_) | (refine WL.alloc (t := 134) hS rfl rfl rfl rfl rfl rfl ?_; intro w ob hS) | (refine WL.store hS rfl rfl rfl Sb rfl rfl rfl ?_; intro w hS) | refine WL.index rfl rfl rfl rfl (by first | with_reducible assumption | omega) rfl rfl rfl rfl ?_) | (show WC _ _ _ _ _ _; first | refine WC.seq ?_ | refine WC.region ?_ | refine WC.block ?_ | refine WC.skip ?_ | (show WC _ _ (Code.region _ (List.toArray [_, _, _, _, _, _, _]) true) _ _ _; refine WC.drawL [rowsC m rs] hS Pu [0,1,2,3,4,5] [0,1,2,3,4,5,6] (by kernel_rfl) (by kernel_rfl) ?_; clear hS; intro w hS hM) | refine WC.condT rfl (by with_reducible rfl) ?_ | refine WC.condT rfl (decide_eq_true (by first | with_reducible assumption | omega)) ?_) | (show WD _ _ _ _ _ _ _ _ _; first | refine WD.pure rfl rfl rfl rfl rfl ?_ | refine WD.nil ?_ | refine WD.load rfl rfl (LdOk.box Mm rfl) rfl rfl rfl rfl ?_ | (refine WD.mdelC0 hS (More.refl _ _) rfl rfl rfl rfl rfl rfl rfl rfl ?_; clear hS; intro w hS)) | refine seqQ_n ?_ | refine blkQ_n ?_)
      exact rndQ_n (k + 1, mdel rs key) ⟨by omega, hrs, by rw [← rows_del]; exact hS.droplast2 Pu⟩ (by show l.length - (k + 1) < l.length - k; omega) ⟨vint (by omega), trivial⟩ ⟨rfl, rfl, rfl, trivial⟩
  · have hke : k = l.length := by omega
    subst hke
    rw [List.drop_length] at hrs
    have hrs : rs = applyE rows l := hrs
    subst hrs
    repeat' (first | (show WL _ _ _ _ _ _ _; first | refine WL.pure rfl rfl rfl rfl ?_ | refine WL.nil ?_) | (show WC _ _ _ _ _ _; first | refine WC.seq ?_ | refine WC.region ?_ | refine WC.exit ?_ | refine WC.condF rfl (decide_eq_false (by first | with_reducible assumption | omega)) ?_) | refine seqQ_n ?_ | refine seqQ_x ?_ | refine blkQ_hit rfl ?_ | refine rndQ_x ?_)
    exact fin0n rfl ⟨rfl, hS.mutLp Pu⟩
abbrev baseP (dir : List UInt8) : List UInt8 := dir ++ [47, 98, 97, 115, 101]
abbrev logP (dir : List UInt8) : List UInt8 := dir ++ [47, 108, 111, 103]
def tabLoad (D : Dk) (dir : List UInt8) : Int × Rws :=
  if (D.read (baseP dir)).2 ≠ 0 then ((D.read (baseP dir)).2, [])
  else if (readE (D.read (baseP dir)).1).2.2 ≠ 0 then ((readE (D.read (baseP dir)).1).2.2, [])
  else if (readE (D.read (baseP dir)).1).2.1 < (D.read (baseP dir)).1.length then (5, [])
  else if (opsE (readE (D.read (baseP dir)).1).1).2 ≠ 0 then ((opsE (readE (D.read (baseP dir)).1).1).2, [])
  else (0, applyE [] (opsE (readE (D.read (baseP dir)).1).1).1)
theorem readE_len (t : List UInt8) : (readE t).1.length ≤ t.length := by
  by_cases h : (readE t).2.2 = 0
  · exact (readE_le t h).2.2
  · unfold readE at h ⊢
    split
    · rename_i h1
      rw [if_pos h1] at h
      split
      · exact Nat.zero_le _
      · rename_i h2
        rw [if_neg h2] at h
        split
        · rename_i h3
          rw [if_pos h3] at h
          exact absurd rfl h
        · exact Nat.zero_le _
    · exact Nat.zero_le _
theorem frV_0 (x : List UInt8) (u : Nat) : frV 0 (x, u, 0) = .tuple #[str x, .int .i64 (u : Int), .int .i64 0] := by simp [frV]
theorem frV_e {x : List UInt8} {u : Nat} {e : Int} (h : e ≠ 0) : frV 0 (x, u, e) = .tuple #[str [], .int .i64 0, .int .i64 e] := by simp [frV, h]
theorem read_len {D : Dk} {B : Nat} (h : D.Sm B) (p : List UInt8) : (D.read p).1.length ≤ B := by
  have h2 := h.at_ p
  unfold Dk.read
  repeat' split
  all_goals first | exact Nat.zero_le _ | exact h2
set_option maxHeartbeats 8000000 in
set_option maxRecDepth 100000 in
theorem load_c {T q mb lb m : Nat} {lp : Option Addr} {dir : List UInt8} {D : Dk} {w0 : World} (hi : InL w0 [tbB T (some ⟨q, 0, none⟩) dir lp m, rowsC m [], dkC q mb lb D]) (hl : dir.length ≤ 1099511000) (hno : D.Sm 1099511627776) :
    Cal Tryz.prog 49 [.pointer (some ⟨T, 0, none⟩)] w0
      (fun v w' => v = .int .i64 (tabLoad D dir).1 ∧ MutL w0 w' [tbB T (some ⟨q, 0, none⟩) dir lp m, rowsC m [], dkC q mb lb D] [tbB T (some ⟨q, 0, none⟩) dir lp m, rowsC m (tabLoad D dir).2, dkC q mb lb D]) := by
  refine Cal.mkL hi (by kernel_rfl) Tryz.func49 rfl rfl fun hS => ?_
  have hk5 : ([47, 98, 97, 115, 101] : List UInt8).length = 5 := rfl
  have hsl := read_len hno (baseP dir)
  unfold tabLoad
  have hrd : ∀ w0, DkIs q mb lb D w0 → Cal Tryz.prog 97 [.pointer (some ⟨q, 0, none⟩), str (baseP dir)] w0 (fun v w' => Upd [] w0 w' ∧ v = .tuple #[str (D.read (baseP dir)).1, .int .i64 (D.read (baseP dir)).2]) := fun w0 h => dread_c _ h
  generalize (D.read (baseP dir)).1 = s at *
  generalize (D.read (baseP dir)).2 = e at *
  by_cases he : e = 0
  rotate_left
  · rw [if_pos he]
    repeat' (first | (show WL _ _ _ _ _ _ _; first | refine WL.pure rfl rfl rfl rfl ?_ | refine WL.nil ?_) | (show WC _ _ _ _ _ _; first | refine WC.seq ?_ | refine WC.region ?_ | refine WC.ret ?_ | (show WC _ _ (Code.region _ (List.toArray [_, _, _, _, _, _, _, _, _, _, _, _, _, _, _]) true) _ _ _; refine WC.drawS hS [0,1,2,3,4,5,6,7,8,10,11,12,13,14] [0,1,2,3,4,5,6,7,8,9,10,11,12,13,14] (by kernel_rfl) (by kernel_rfl) ?_; clear hS; intro w hS hM) | refine WC.condT rfl (decide_eq_true (by first | with_reducible assumption | omega)) ?_) | (show WD _ _ _ _ _ _ _ _ _; first | refine WD.pure rfl rfl rfl rfl rfl ?_ | refine WD.nil ?_ | refine WD.load rfl rfl (LdOk.box Mm rfl) rfl rfl rfl rfl ?_ | (refine WD.cat rfl rfl rfl (by omega) rfl rfl rfl rfl ?_) | (refine WD.calls hS hM rfl rfl (hrd _ (hS.holds (dkC q mb lb D) Mm).1) rfl rfl rfl rfl rfl ?_; clear hS; rintro v w rfl hS)) | refine seqQ_n ?_ | refine seqQ_r ?_)
    exact fin1r rfl rfl ⟨rfl, hS.mutLp Pu⟩
  subst he
  rw [if_neg (fun h => h rfl)]
  have hfr : ∀ w0, Cal Tryz.prog 98 [str s, .int .i64 0] w0 (fun v w' => Upd [] w0 w' ∧ v = frV 0 (readE s)) := fun w0 => fread_c s 0 w0 (Nat.zero_le _) hsl
  have hxl := readE_len s
  rcases hf : readE s with ⟨x, u, e⟩
  rw [hf] at hfr hxl
  dsimp only at hxl ⊢
  by_cases he : e = 0
  rotate_left
  · rw [if_pos he]
    rw [frV_e he] at hfr
    repeat' (first | (show WL _ _ _ _ _ _ _; first | refine WL.pure rfl rfl rfl rfl ?_ | refine WL.nil ?_ | (refine WL.calls hS rfl rfl (hfr _) rfl rfl rfl ?_; rintro v w rfl hS)) | (show WC _ _ _ _ _ _; first | refine WC.seq ?_ | refine WC.region ?_ | refine WC.skip ?_ | refine WC.ret ?_ | (show WC _ _ (Code.region _ (List.toArray [_, _, _, _, _, _, _, _, _, _, _, _, _, _, _]) true) _ _ _; refine WC.drawS hS [0,1,2,3,4,5,6,7,8,10,11,12,13,14] [0,1,2,3,4,5,6,7,8,9,10,11,12,13,14] (by kernel_rfl) (by kernel_rfl) ?_; clear hS; intro w hS hM) | refine WC.condF rfl (by decide) ?_ | refine WC.condT rfl (decide_eq_true (by first | with_reducible assumption | omega)) ?_) | (show WD _ _ _ _ _ _ _ _ _; first | refine WD.pure rfl rfl rfl rfl rfl ?_ | refine WD.nil ?_ | refine WD.load rfl rfl (LdOk.box Mm rfl) rfl rfl rfl rfl ?_ | (refine WD.cat rfl rfl rfl (by omega) rfl rfl rfl rfl ?_) | (refine WD.calls hS hM rfl rfl (hrd _ (hS.holds (dkC q mb lb D) Mm).1) rfl rfl rfl rfl rfl ?_; clear hS; rintro v w rfl hS)) | refine seqQ_n ?_ | refine seqQ_r ?_)
    exact fin1r rfl rfl ⟨rfl, hS.mutLp Pu⟩
  subst he
  rw [if_neg (fun h => h rfl)]
  rw [frV_0] at hfr
  by_cases hu : u < s.length
  · rw [if_pos hu]
    repeat' (first | (show WL _ _ _ _ _ _ _; first | refine WL.pure rfl rfl rfl rfl ?_ | refine WL.nil ?_ | (refine WL.calls hS rfl rfl (hfr _) rfl rfl rfl ?_; rintro v w rfl hS)) | (show WC _ _ _ _ _ _; first | refine WC.seq ?_ | refine WC.region ?_ | refine WC.skip ?_ | refine WC.ret ?_ | (show WC _ _ (Code.region _ (List.toArray [_, _, _, _, _, _, _, _, _, _, _, _, _, _, _]) true) _ _ _; refine WC.drawS hS [0,1,2,3,4,5,6,7,8,10,11,12,13,14] [0,1,2,3,4,5,6,7,8,9,10,11,12,13,14] (by kernel_rfl) (by kernel_rfl) ?_; clear hS; intro w hS hM) | refine WC.condF rfl (by decide) ?_ | refine WC.condT rfl (decide_eq_true (by first | with_reducible assumption | omega)) ?_) | (show WD _ _ _ _ _ _ _ _ _; first | refine WD.pure rfl rfl rfl rfl rfl ?_ | refine WD.nil ?_ | refine WD.load rfl rfl (LdOk.box Mm rfl) rfl rfl rfl rfl ?_ | (refine WD.cat rfl rfl rfl (by omega) rfl rfl rfl rfl ?_) | (refine WD.calls hS hM rfl rfl (hrd _ (hS.holds (dkC q mb lb D) Mm).1) rfl rfl rfl rfl rfl ?_; clear hS; rintro v w rfl hS)) | refine seqQ_n ?_ | refine seqQ_r ?_)
    exact fin1r rfl rfl ⟨rfl, hS.mutLp Pu⟩
  rw [if_neg hu]
  have hop := fun w0 => ops_c x w0 (by omega)
  rcases ho : opsE x with ⟨l, e⟩
  rw [ho] at hop
  unfold opsR at hop
  dsimp only at hop ⊢
  by_cases he : e = 0
  rotate_left
  · rw [if_pos he]
    repeat' (first | (show WL _ _ _ _ _ _ _; first | refine WL.pure rfl rfl rfl rfl ?_ | refine WL.nil ?_ | (refine WL.calls hS rfl rfl (hfr _) rfl rfl rfl ?_; rintro v w rfl hS) | (refine WL.callG rfl rfl (hop _) rfl rfl rfl ?_; rintro v w ⟨hup, A, cap, rfl, hn⟩; replace hS := hS.new hup hn; clear hup hn)) | (show WC _ _ _ _ _ _; first | refine WC.seq ?_ | refine WC.region ?_ | refine WC.skip ?_ | refine WC.ret ?_ | (show WC _ _ (Code.region _ (List.toArray [_, _, _, _, _, _, _, _, _, _, _, _, _, _, _]) true) _ _ _; refine WC.drawS hS [0,1,2,3,4,5,6,7,8,10,11,12,13,14] [0,1,2,3,4,5,6,7,8,9,10,11,12,13,14] (by kernel_rfl) (by kernel_rfl) ?_; clear hS; intro w hS hM) | refine WC.condF rfl (by decide) ?_ | refine WC.condT rfl (decide_eq_true (by first | with_reducible assumption | omega)) ?_ | refine WC.condF rfl (decide_eq_false (by first | with_reducible assumption | omega)) ?_) | (show WD _ _ _ _ _ _ _ _ _; first | refine WD.pure rfl rfl rfl rfl rfl ?_ | refine WD.nil ?_ | refine WD.load rfl rfl (LdOk.box Mm rfl) rfl rfl rfl rfl ?_ | (refine WD.cat rfl rfl rfl (by omega) rfl rfl rfl rfl ?_) | (refine WD.calls hS hM rfl rfl (hrd _ (hS.holds (dkC q mb lb D) Mm).1) rfl rfl rfl rfl rfl ?_; clear hS; rintro v w rfl hS)) | refine seqQ_n ?_ | refine seqQ_r ?_)
    exact fin1r rfl rfl ⟨rfl, hS.mutLp Pu⟩
  subst he
  rw [if_neg (fun h => h rfl)]
  have hll : l.length ≤ 1099511627776 := by
    have := opsE_len x
    rw [ho] at this
    exact Nat.le_trans this (by omega)
  repeat' (first | (show WL _ _ _ _ _ _ _; first | refine WL.pure rfl rfl rfl rfl ?_ | refine WL.nil ?_ | (refine WL.calls hS rfl rfl (hfr _) rfl rfl rfl ?_; rintro v w rfl hS) | (refine WL.callG rfl rfl (hop _) rfl rfl rfl ?_; rintro v w ⟨hup, A, cap, rfl, hn⟩; replace hS := hS.new hup hn; clear hup hn) | (refine WL.callL (D := [tbB T (some ⟨q, 0, none⟩) dir lp m, rowsC m [], chgC A cap l]) hS Pu rfl rfl (fun hI => apply_c hI hll) rfl rfl rfl ?_; rintro v w ⟨rfl, hm⟩ hS; replace hS := hS _ hm; clear hm)) | (show WC _ _ _ _ _ _; first | refine WC.seq ?_ | refine WC.region ?_ | refine WC.skip ?_ | refine WC.ret ?_ | (show WC _ _ (Code.region _ (List.toArray [_, _, _, _, _, _, _, _, _, _, _, _, _, _, _]) true) _ _ _; refine WC.drawS hS [0,1,2,3,4,5,6,7,8,10,11,12,13,14] [0,1,2,3,4,5,6,7,8,9,10,11,12,13,14] (by kernel_rfl) (by kernel_rfl) ?_; clear hS; intro w hS hM) | refine WC.condF rfl (by decide) ?_ | refine WC.condF rfl (decide_eq_false (by first | with_reducible assumption | omega)) ?_) | (show WD _ _ _ _ _ _ _ _ _; first | refine WD.pure rfl rfl rfl rfl rfl ?_ | refine WD.nil ?_ | refine WD.load rfl rfl (LdOk.box Mm rfl) rfl rfl rfl rfl ?_ | (refine WD.cat rfl rfl rfl (by omega) rfl rfl rfl rfl ?_) | (refine WD.calls hS hM rfl rfl (hrd _ (hS.holds (dkC q mb lb D) Mm).1) rfl rfl rfl rfl rfl ?_; clear hS; rintro v w rfl hS)) | refine seqQ_n ?_)
  exact fin1r rfl rfl ⟨rfl, hS.mutLp Pu⟩
end Go.Proofs.YtobfdeiimnnanaaGreatDoor

/- What is proved: what opening a table answers. Conditions: no limit at the disk, texts of bounded length. -/
namespace Go.Proofs.YtobfdeiimnnanaaGreatDoor
open Go Go.J Go.RowKit
structure Tb where
  dir : List UInt8
  rows : Rws
  log : Lg
def tabφ (Tp q : Nat) (T : Tb) (D : List Chunk) : Prop := ∃ m L fp, D = [tbB Tp (some ⟨q, 0, none⟩) T.dir (some ⟨L, 0, none⟩) m, rowsC m T.rows, lgC L q T.log fp]
abbrev tabC (Tp q : Nat) (T : Tb) (fp : List Nat) : Chunk := objC (tabφ Tp q T) fp
def replay : Rws → List (List UInt8) → Int × Rws
  | rows, [] => (0, rows)
  | rows, r :: rs => if (opsE r).2 ≠ 0 then ((opsE r).2, []) else replay (applyE rows (opsE r).1) rs
theorem replay_cons (rows : Rws) (r : List UInt8) (rs : List (List UInt8)) : replay rows (r :: rs) = if (opsE r).2 ≠ 0 then ((opsE r).2, []) else replay (applyE rows (opsE r).1) rs := rfl
def tabMk (D : Dk) (dir : List UInt8) : Int × Dk := if D.kind dir = 0 then D.mkdir dir else (0, D)
def tabBase (D : Dk) (dir : List UInt8) : Int × Rws := if D.kind (baseP dir) = 0 then (0, []) else tabLoad D dir
def tabLog (dir : List UInt8) (rows : Rws) : Int × Option Lg × Dk → Int × Option Tb × Dk
  | (e, none, D) => (e, none, D)
  | (_, some G, D) => if (replay rows G.recs).1 ≠ 0 then ((replay rows G.recs).1, none, D) else (0, some ⟨dir, (replay rows G.recs).2, G⟩, D)
def tabOpen (D : Dk) (dir : List UInt8) : Int × Option Tb × Dk :=
  if (tabMk D dir).1 ≠ 0 then ((tabMk D dir).1, none, (tabMk D dir).2)
  else if (tabBase (tabMk D dir).2 dir).1 ≠ 0 then ((tabBase (tabMk D dir).2 dir).1, none, (tabMk D dir).2)
  else tabLog dir (tabBase (tabMk D dir).2 dir).2 (walOpen (tabMk D dir).2 (logP dir))
def topenR (q mb lb : Nat) (D : Dk) (w0 : World) (r : Int × Option Tb × Dk) (v : Value) (w' : World) : Prop :=
  match r with
  | (e, none, D') => v = .tuple #[.pointer none, .int .i64 e] ∧ MutL w0 w' [dkC q mb lb D] [dkC q mb lb D']
  | (e, some T, D') => ∃ Tp fp, v = .tuple #[.pointer (some ⟨Tp, 0, none⟩), .int .i64 e] ∧ MutL w0 w' [dkC q mb lb D] [tabC Tp q T fp, dkC q mb lb D']
theorem Dk.Sm.mkdir {D : Dk} {B : Nat} (h : D.Sm B) {p : List UInt8} : (D.mkdir p).2.Sm B := by
  unfold Dk.mkdir
  repeat' split
  all_goals first | exact h | exact h.step | exact h.step.put (Nat.zero_le _)
theorem tabMk_sm {D : Dk} {B : Nat} (h : D.Sm B) (dir : List UInt8) : (tabMk D dir).2.Sm B := by
  unfold tabMk
  split
  · exact h.mkdir
  · exact h
theorem kind_ne (D : Dk) (p : List UInt8) : D.kind p = 0 ∨ D.kind p = 1 ∨ D.kind p = 2 := by
  unfold Dk.kind
  repeat' split
  · exact .inr (.inl rfl)
  · exact .inr (.inr rfl)
  · exact .inl rfl
theorem walOpen_e (D : Dk) (p : List UInt8) : ((walOpen D p).2.1 = none → (walOpen D p).1 ≠ 0) ∧ ∀ G, (walOpen D p).2.1 = some G → (walOpen D p).1 = 0 := by
  unfold walOpen
  repeat' split
  all_goals
    constructor
    · intro h
      first
        | assumption
        | cases h
    · intro G h
      first
        | rfl
        | cases h
set_option maxHeartbeats 16000000 in
set_option maxRecDepth 100000 in
theorem topen_c {q mb lb : Nat} {D : Dk} (dir : List UInt8) {w0 : World} (hi : InL w0 [dkC q mb lb D]) (hl : dir.length ≤ 1099511000) (hno : D.Sm 1099511627776)
    (hlog : ∀ e G D', walOpen (tabMk D dir).2 (logP dir) = (e, some G, D') → G.recs.length ≤ 4194304 ∧ ∀ r ∈ G.recs, r.length ≤ 1099511627776) :
    Cal Tryz.prog 13 [.pointer (some ⟨q, 0, none⟩), str dir] w0 (topenR q mb lb D w0 (tabOpen D dir)) := by
  refine Cal.mkL hi (by kernel_rfl) Tryz.func13 rfl rfl fun hS => ?_
  have k5 : ([47, 98, 97, 115, 101] : List UInt8).length = 5 := rfl
  have k4 : ([47, 108, 111, 103] : List UInt8).length = 4 := rfl
  have hno1 := tabMk_sm hno dir
  unfold tabOpen
  rcases hmk : tabMk D dir with ⟨e1, D1⟩
  rw [hmk] at hno1 hlog
  dsimp only at hno1 hlog ⊢
  generalize hRES : (if e1 ≠ 0 then (e1, none, D1) else if (tabBase D1 dir).1 ≠ 0 then ((tabBase D1 dir).1, none, D1) else tabLog dir (tabBase D1 dir).2 (walOpen D1 (logP dir))) = RES
  repeat' (first | (show WL _ _ _ _ _ _ _; first | refine WL.pure rfl rfl rfl rfl ?_ | refine WL.nil ?_) | (show WC _ _ _ _ _ _; first | (show WC _ _ (Code.seq (Code.seq (Code.region 3 _ _) _) _) _ _ _; refine WC.cutS (σ := Unit) [0, 1] (fun _ => []) (fun _ w => e1 = 0 ∧ St w0 (fps [dkC q mb lb D]) w [dkC q mb lb D1] (ZL w0 [dkC q mb lb D])) ?_ ?_) | refine WC.seq ?_ | refine WC.region ?_ | refine WC.skip ?_ | refine WC.condF rfl (by with_reducible rfl) ?_) | refine seqQ_n ?_)
  · -- the folder
    unfold tabMk at hmk
    by_cases hk : D.kind dir = 0
    · rw [if_pos hk] at hmk
      by_cases he : e1 = 0
      · subst he
        clear hRES hlog hno1
        repeat' (first | (show WL _ _ _ _ _ _ _; first | refine WL.pure rfl rfl rfl rfl ?_ | refine WL.nil ?_ | (refine WL.calls hS rfl rfl (dkind_c dir (hS.holds (dkC q mb lb D) Mm).1) rfl rfl rfl ?_; rintro v w rfl hS; rw [hk]) | (refine WL.callL (D := [dkC q mb lb D]) hS Pu rfl rfl (fun hI => mkdir_c dir hI.head hI.headB (by omega)) rfl rfl rfl ?_; rintro v w ⟨rfl, hm⟩ hS; rw [hmk] at hm ⊢; replace hS := hS _ (.of1 hm); clear hm)) | (show WC _ _ _ _ _ _; first | refine WC.seq ?_ | refine WC.region ?_ | refine WC.skip ?_ | refine WC.condT rfl (by decide) ?_ | refine WC.condF rfl (decide_eq_false (by first | with_reducible assumption | omega)) ?_) | refine seqQ_n ?_)
        exact endQ_n () ⟨rfl, hS⟩ trivial ⟨rfl, rfl, trivial⟩
      · rw [if_pos he] at hRES
        subst hRES
        clear hlog hno1
        repeat' (first | (show WL _ _ _ _ _ _ _; first | refine WL.pure rfl rfl rfl rfl ?_ | refine WL.nil ?_ | (refine WL.calls hS rfl rfl (dkind_c dir (hS.holds (dkC q mb lb D) Mm).1) rfl rfl rfl ?_; rintro v w rfl hS; rw [hk]) | (refine WL.callL (D := [dkC q mb lb D]) hS Pu rfl rfl (fun hI => mkdir_c dir hI.head hI.headB (by omega)) rfl rfl rfl ?_; rintro v w ⟨rfl, hm⟩ hS; rw [hmk] at hm ⊢; replace hS := hS _ (.of1 hm); clear hm)) | (show WC _ _ _ _ _ _; first | refine WC.seq ?_ | refine WC.region ?_ | refine WC.ret ?_ | refine WC.condT rfl (by decide) ?_ | refine WC.condT rfl (decide_eq_true (by first | with_reducible assumption | omega)) ?_) | refine seqQ_n ?_ | refine endQ_r ?_)
        exact fin2r rfl rfl rfl ⟨rfl, hS.mutLp Pu⟩
    · rw [if_neg hk] at hmk
      cases hmk
      clear hRES hlog hno1
      have hk' : ¬ D.kind dir = 0 := hk
      generalize hkv : D.kind dir = kv at *
      repeat' (first | (show WL _ _ _ _ _ _ _; first | refine WL.pure rfl rfl rfl rfl ?_ | refine WL.nil ?_ | (refine WL.calls hS rfl rfl (dkind_c dir (hS.holds (dkC q mb lb D) Mm).1) rfl rfl rfl ?_; rintro v w rfl hS; rw [hkv])) | (show WC _ _ _ _ _ _; first | refine WC.skip ?_ | refine WC.condF rfl (decide_eq_false (by first | with_reducible assumption | omega)) ?_) | refine seqQ_n ?_)
      exact endQ_n () ⟨rfl, hS⟩ trivial ⟨rfl, rfl, trivial⟩
  · rintro _ g w ⟨rfl, hS⟩
    clear hmk
    rw [if_neg (fun h => h rfl)] at hRES
    rcases hbs : tabBase D1 dir with ⟨e2, rows⟩
    rw [hbs] at hRES
    dsimp only at hRES
    repeat' (first | (show WL _ _ _ _ _ _ _; first | refine WL.pure rfl rfl rfl rfl ?_ | refine WL.nil ?_ | (refine WL.mmake hS rfl rfl rfl rfl rfl ?_; intro w m hS) | refine WL.cat rfl rfl rfl (by omega) rfl rfl rfl ?_ | (refine WL.box hS rfl rfl rfl rfl rfl ?_; intro w b hS) | refine WL.build rfl rfl rfl rfl rfl ?_) | (show WC _ _ _ _ _ _; first | (show WC _ _ (Code.seq (Code.seq (Code.region 8 _ _) _) _) _ _ _; refine WC.cutS (σ := Unit) [0, 1, 7] (fun _ => []) (fun _ w => e2 = 0 ∧ St w0 (fps [dkC q mb lb D]) w [tbB b (some ⟨q, 0, none⟩) dir none m, rowsC m rows, dkC q mb lb D1] (ZL w0 [dkC q mb lb D])) ?_ ?_) | refine WC.seq ?_ | refine WC.region ?_) | refine seqQ_n ?_)
    · -- the base
      unfold tabBase at hbs
      clear hlog
      have hkn := kind_ne D1 (baseP dir)
      by_cases hk : D1.kind (baseP dir) = 0
      · rw [if_pos hk] at hbs
        cases hbs
        clear hRES hkn
        repeat' (first | (show WL _ _ _ _ _ _ _; first | refine WL.pure rfl rfl rfl rfl ?_ | refine WL.nil ?_ | (refine WL.calls hS rfl rfl (dkind_c (baseP dir) (hS.holds (dkC q mb lb D1) Mm).1) rfl rfl rfl ?_; rintro v w rfl hS; rw [hk])) | (show WC _ _ _ _ _ _; first | refine WC.skip ?_ | refine WC.condF rfl (by decide) ?_) | refine seqQ_n ?_)
        exact endQ_n () ⟨rfl, hS.droplast2 Pu⟩ trivial ⟨rfl, rfl, rfl, trivial⟩
      · rw [if_neg hk] at hbs
        obtain ⟨kv, hkv, hkv0⟩ : ∃ kv, D1.kind (baseP dir) = kv ∧ kv ≠ 0 := ⟨_, rfl, hk⟩
        clear hkn hk
        have hld := fun (w0 : World) (hi : InL w0 [tbB b (some ⟨q, 0, none⟩) dir none m, rowsC m [], dkC q mb lb D1]) => load_c hi (by omega) hno1
        rw [hbs] at hld
        dsimp only at hld
        by_cases he : e2 = 0
        · subst he
          clear hRES
          repeat' (first | (show WL _ _ _ _ _ _ _; first | refine WL.pure rfl rfl rfl rfl ?_ | refine WL.nil ?_ | (refine WL.calls hS rfl rfl (dkind_c (baseP dir) (hS.holds (dkC q mb lb D1) Mm).1) rfl rfl rfl ?_; rintro v w rfl hS; rw [hkv]) | (refine WL.callL (D := [tbB b (some ⟨q, 0, none⟩) dir none m, rowsC m [], dkC q mb lb D1]) hS Pu rfl rfl (fun hI => hld _ hI) rfl rfl rfl ?_; rintro v w ⟨rfl, hm⟩ hS; replace hS := hS _ hm; clear hm)) | (show WC _ _ _ _ _ _; first | refine WC.seq ?_ | refine WC.region ?_ | refine WC.skip ?_ | refine WC.condF rfl (by decide) ?_ | refine WC.condT rfl (decide_eq_true (by first | with_reducible assumption | omega)) ?_) | refine seqQ_n ?_)
          exact endQ_n () ⟨rfl, hS.droplast2 Pu⟩ trivial ⟨rfl, rfl, rfl, trivial⟩
        · rw [if_pos he] at hRES
          subst hRES
          repeat' (first | (show WL _ _ _ _ _ _ _; first | refine WL.pure rfl rfl rfl rfl ?_ | refine WL.nil ?_ | (refine WL.calls hS rfl rfl (dkind_c (baseP dir) (hS.holds (dkC q mb lb D1) Mm).1) rfl rfl rfl ?_; rintro v w rfl hS; rw [hkv]) | (refine WL.callL (D := [tbB b (some ⟨q, 0, none⟩) dir none m, rowsC m [], dkC q mb lb D1]) hS Pu rfl rfl (fun hI => hld _ hI) rfl rfl rfl ?_; rintro v w ⟨rfl, hm⟩ hS; replace hS := hS _ hm; clear hm)) | (show WC _ _ _ _ _ _; first | refine WC.seq ?_ | refine WC.region ?_ | refine WC.ret ?_ | refine WC.condT rfl (decide_eq_true (by first | with_reducible assumption | omega)) ?_) | refine seqQ_n ?_ | refine endQ_r ?_)
          exact fin2r rfl rfl rfl ⟨rfl, hS.mutLp Pu⟩
    · rintro _ g2 w ⟨rfl, hS⟩
      rw [if_neg (fun h => h rfl)] at hRES
      clear hbs
      have hop := fun (w0 : World) (hi : InL w0 [dkC q mb lb D1]) => open_c (logP dir) hi (by simp; omega) hno1
      rcases hwo : walOpen D1 (logP dir) with ⟨e, G, D2⟩
      have hwe := walOpen_e D1 (logP dir)
      rw [hwo] at hop hRES hwe
      rcases G with _ | G
      · have hop : ∀ w0, InL w0 [dkC q mb lb D1] → Cal Tryz.prog 50 [.pointer (some ⟨q, 0, none⟩), str (logP dir)] w0 (fun v w' => v = .tuple #[.pointer none, .int .i64 e] ∧ MutL w0 w' [dkC q mb lb D1] [dkC q mb lb D2]) := hop
        replace hRES : (e, none, D2) = RES := hRES
        subst hRES
        have hwe : e ≠ 0 := hwe.1 rfl
        clear hlog
        repeat' (first | (show WL _ _ _ _ _ _ _; first | refine WL.pure rfl rfl rfl rfl ?_ | refine WL.nil ?_ | (refine WL.callL (D := [dkC q mb lb D1]) hS Pu rfl rfl (fun hI => hop _ hI) rfl rfl rfl ?_; rintro v w ⟨rfl, hm⟩ hS; replace hS := hS _ hm; clear hm) | refine WL.cat rfl rfl rfl (by omega) rfl rfl rfl ?_) | (show WC _ _ _ _ _ _; first | refine WC.seq ?_ | refine WC.region ?_ | refine WC.ret ?_ | refine WC.condT rfl (decide_eq_true (by first | with_reducible assumption | omega)) ?_) | refine seqQ_n ?_ | refine seqQ_r ?_)
        exact fin2r rfl rfl rfl ⟨rfl, hS.mutLp Pu⟩
      · have hop : ∀ w0, InL w0 [dkC q mb lb D1] → Cal Tryz.prog 50 [.pointer (some ⟨q, 0, none⟩), str (logP dir)] w0 (fun v w' => ∃ L fp, v = .tuple #[.pointer (some ⟨L, 0, none⟩), .int .i64 e] ∧ MutL w0 w' [dkC q mb lb D1] [lgC L q G fp, dkC q mb lb D2]) := hop
        replace hRES : (if (replay rows G.recs).1 ≠ 0 then ((replay rows G.recs).1, none, D2) else (0, some ⟨dir, (replay rows G.recs).2, G⟩, D2)) = RES := hRES
        obtain rfl : e = 0 := hwe.2 G rfl
        obtain ⟨hn, hrl⟩ := hlog 0 G D2 hwo
        clear hlog hwe
        repeat' (first | (show WL _ _ _ _ _ _ _; first | refine WL.pure rfl rfl rfl rfl ?_ | refine WL.nil ?_ | (refine WL.callL (D := [dkC q mb lb D1]) hS Pu rfl rfl (fun hI => hop _ hI) rfl rfl rfl ?_; rintro v w ⟨L, fp, rfl, hm⟩ hS; replace hS := hS _ hm; clear hm) | (refine WL.callL (D := [lgC L q G fp]) hS Pu rfl rfl (fun hI => records_c hI hn) rfl rfl rfl ?_; rintro v w ⟨A, cap, rfl, hm⟩ hS; replace hS := hS _ hm; clear hm) | refine WL.cat rfl rfl rfl (by omega) rfl rfl rfl ?_ | (refine WL.store hS rfl rfl rfl Sb rfl rfl rfl ?_; intro w hS)) | (show WC _ _ _ _ _ _; first | refine WC.seq ?_ | refine WC.region ?_ | refine WC.block ?_ | refine WC.skip ?_ | refine WC.condF rfl (by decide) ?_) | refine seqQ_n ?_)
        refine WC.loop (σ := Nat × Rws) [7, 57, 58] (fun (k, rs) => [(59, .int .i64 (k : Int))])
          (fun (k, rs) w => k ≤ G.recs.length ∧ replay rs (G.recs.drop k) = replay rows G.recs ∧ St w0 (fps [dkC q mb lb D]) w [tbB b (some ⟨q, 0, none⟩) dir (some ⟨L, 0, none⟩) m, rowsC m rs, lgC L q G fp, .own (.slice A G.recs.length cap) 9 1 G.recs.length (strs G.recs), dkC q mb lb D2] (ZL w0 [dkC q mb lb D]))
          (fun (k, _) => G.recs.length - k) (0, rows) ⟨Nat.zero_le _, rfl, hS.droplast2 Pu⟩ ⟨rfl, trivial⟩ ?_
        clear hS
        rintro ⟨k, rs⟩ g w ⟨hk, hrs, hS⟩
        show WC _ _ _ (lf _ [(59, .int .i64 (k : Int))] _ _) _ _
        by_cases hlt : k < G.recs.length
        · have hx : (strs G.recs)[k * 1]? = some (str G.recs[k]) := by rw [Nat.mul_one]; exact strs_at hlt
          have hxl := hrl _ (List.getElem_mem hlt)
          rw [List.drop_eq_getElem_cons hlt] at hrs
          generalize G.recs[k] = r at *
          obtain ⟨rg, ro, rfl⟩ := hS.own_addr (List.Mem.tail _ (List.Mem.tail _ (List.Mem.tail _ (List.Mem.head _)))) (Nat.lt_of_le_of_lt (Nat.zero_le k) hlt)
          have hop2 := fun w0 => ops_c r w0 hxl
          have hol := opsE_len r
          rw [replay_cons] at hrs
          rcases ho : opsE r with ⟨l, eo⟩
          rw [ho] at hop2 hrs hol
          dsimp only at hrs hol
          unfold opsR at hop2
          dsimp only at hop2
          by_cases heo : eo = 0
          · subst heo
            rw [if_neg (fun h => h rfl)] at hrs
            repeat' (first | (show WL _ _ _ _ _ _ _; first | refine WL.pure rfl rfl rfl rfl ?_ | refine WL.nil ?_ | refine WL.add rfl rfl rfl (by omega) rfl rfl rfl ?_ | (refine WL.load hS rfl rfl (LdOk.ownAt Mm rfl ⟨_, rfl⟩ hx rfl) rfl rfl rfl ?_) | (refine WL.callG rfl rfl (hop2 _) rfl rfl rfl ?_; rintro v w ⟨hup, A2, cap2, rfl, hnw⟩; replace hS := hS.new hup hnw; clear hup hnw) | (refine WL.callL (D := [tbB b (some ⟨q, 0, none⟩) dir (some ⟨L, 0, none⟩) m, rowsC m rs, chgC A2 cap2 l]) hS Pu rfl rfl (fun hI => apply_c hI (by omega)) rfl rfl rfl ?_; rintro v w ⟨rfl, hm⟩ hS; replace hS := hS _ hm; clear hm) | refine WL.index rfl rfl rfl rfl (by first | with_reducible assumption | omega) rfl rfl rfl rfl ?_) | (show WC _ _ _ _ _ _; first | refine WC.seq ?_ | refine WC.region ?_ | refine WC.block ?_ | refine WC.skip ?_ | refine WC.condF rfl (by decide) ?_ | refine WC.condT rfl (decide_eq_true (by first | with_reducible assumption | omega)) ?_) | refine seqQ_n ?_ | refine blkQ_n ?_)
            exact rndQ_n (k + 1, applyE rs l) ⟨by omega, hrs, hS.droplast2 Pu⟩ (by show G.recs.length - (k + 1) < G.recs.length - k; omega) ⟨vint (by omega), trivial⟩ ⟨rfl, rfl, rfl, trivial⟩
          · rw [if_pos heo] at hrs
            rw [← hrs, if_pos heo] at hRES
            dsimp only at hRES
            subst hRES
            repeat' (first | (show WL _ _ _ _ _ _ _; first | refine WL.pure rfl rfl rfl rfl ?_ | refine WL.nil ?_ | (refine WL.load hS rfl rfl (LdOk.ownAt Mm rfl ⟨_, rfl⟩ hx rfl) rfl rfl rfl ?_) | (refine WL.callG rfl rfl (hop2 _) rfl rfl rfl ?_; rintro v w ⟨hup, A2, cap2, rfl, hnw⟩; replace hS := hS.new hup hnw; clear hup hnw) | refine WL.index rfl rfl rfl rfl (by first | with_reducible assumption | omega) rfl rfl rfl rfl ?_) | (show WC _ _ _ _ _ _; first | refine WC.seq ?_ | refine WC.region ?_ | refine WC.block ?_ | refine WC.skip ?_ | refine WC.ret ?_ | refine WC.condT rfl (decide_eq_true (by first | with_reducible assumption | omega)) ?_) | refine seqQ_n ?_ | refine seqQ_r ?_ | refine blkQ_r ?_ | refine rndQ_r ?_)
            exact fin2r rfl rfl rfl ⟨rfl, hS.mutLp Pu⟩
        · have hke : k = G.recs.length := by omega
          subst hke
          rw [List.drop_length] at hrs
          have hrs : (0, rs) = replay rows G.recs := hrs
          rw [← hrs, if_neg (fun h => h rfl)] at hRES
          dsimp only at hRES
          subst hRES
          repeat' (first | (show WL _ _ _ _ _ _ _; first | refine WL.pure rfl rfl rfl rfl ?_ | refine WL.nil ?_) | (show WC _ _ _ _ _ _; first | refine WC.seq ?_ | refine WC.region ?_ | refine WC.exit ?_ | refine WC.ret ?_ | refine WC.condF rfl (decide_eq_false (by first | with_reducible assumption | omega)) ?_) | refine seqQ_n ?_ | refine seqQ_x ?_ | refine blkQ_hit rfl ?_ | refine rndQ_x ?_)
          have hS := St.objClose (φ := tabφ b q ⟨dir, rs, G⟩) (hS.pulls (D := [tbB b (some ⟨q, 0, none⟩) dir (some ⟨L, 0, none⟩) m, rowsC m rs, lgC L q G fp]) Pu) ⟨m, L, fp, rfl⟩
          exact fin2r rfl rfl rfl ⟨_, _, rfl, hS.mutLp Pu⟩
end Go.Proofs.YtobfdeiimnnanaaGreatDoor

/- What is proved: batches of a table: begun, changed, asked. Conditions: texts and lists of bounded length. -/
namespace Go.Proofs.YtobfdeiimnnanaaGreatDoor
open Go Go.J Go.RowKit
abbrev Bch := List (List UInt8 × Chg)
def bchφ (B : Nat) (tp : Option Addr) (m : Bch) (D : List Chunk) : Prop := ∃ A cap mb, D = [.box B 122 [.pointer tp, .slice A m.length cap, .map (some mb)], .own (.slice A m.length cap) 9 1 m.length (strs (m.map Prod.fst)), mapC mb (mmap encChg m)]
abbrev bchC (B : Nat) (tp : Option Addr) (m : Bch) (fp : List Nat) : Chunk := objC (bchφ B tp m) fp
def noteE (m : Bch) (o : Chg) : Bch := mset m o.key o
theorem look_chg (m : Bch) (k : List UInt8) : lookV (encChg Chg0) (mmap encChg m) k true = .tuple #[encChg ((mget m k).getD Chg0), .bool (mget m k).isSome] := by
  unfold lookV
  rw [mget_map]
  cases mget m k <;> rfl
theorem look_chg1 (m : Bch) (k : List UInt8) : lookV (encChg Chg0) (mmap encChg m) k false = encChg ((mget m k).getD Chg0) := by
  unfold lookV
  rw [mget_map]
  cases mget m k <;> rfl
set_option maxHeartbeats 4000000 in
set_option maxRecDepth 100000 in
theorem begin_c {tp : Option Addr} (w0 : World) : Cal Tryz.prog 17 [.pointer tp] w0 (fun v w' => Upd [] w0 w' ∧ ∃ B fp, v = .pointer (some ⟨B, 0, none⟩) ∧ New w0 w' (bchC B tp [] fp)) := by
  refine Cal.mk' (by kernel_rfl) Tryz.func17 rfl rfl fun hS => ?_
  repeat' (first | (show WL _ _ _ _ _ _ _; first | refine WL.pure rfl rfl rfl rfl ?_ | refine WL.nil ?_ | (refine WL.mmake hS rfl rfl rfl rfl rfl ?_; intro w mb hS) | (refine WL.box hS rfl rfl rfl rfl rfl ?_; intro w b hS) | refine WL.build rfl rfl rfl rfl rfl ?_) | (show WC _ _ _ _ _ _; first | refine WC.seq ?_ | refine WC.region ?_ | refine WC.ret ?_) | refine seqQ_n ?_)
  have hS := St.objClose (φ := bchφ _ tp []) ((hS.nilRow 9 1).pulls (D := [.box _ 122 [.pointer tp, .slice none 0 0, .map (some mb)], .own (.slice none 0 0) 9 1 0 [], mapC mb []]) Pu) ⟨none, 0, mb, rfl⟩
  exact fin1r rfl rfl ⟨hS.upd, _, _, rfl, hS.newOf (List.Mem.head _)⟩
theorem mset_fst (m : Bch) (k : List UInt8) (o : Chg) : (mget m k).isSome = true → (mset m k o).map Prod.fst = m.map Prod.fst := by
  intro h
  rw [mset_keys, if_pos]
  apply Classical.byContradiction
  intro hn
  rw [mget_none.2 hn] at h
  cases h
theorem mset_fst2 (m : Bch) (k : List UInt8) (o : Chg) : (mget m k).isSome = false → (mset m k o).map Prod.fst = m.map Prod.fst ++ [k] := by
  intro h
  rw [mset_keys, if_neg]
  intro hn
  cases hg : mget m k with
  | none => exact mget_none.1 hg hn
  | some v => rw [hg] at h; cases h
theorem len_of_fst {m : Bch} {l : List (List UInt8)} (h : m.map Prod.fst = l) : m.length = l.length := by rw [← h, List.length_map]
set_option maxHeartbeats 8000000 in
set_option maxRecDepth 100000 in
theorem note_c {B : Nat} {tp : Option Addr} {m : Bch} {fp : List Nat} (o : Chg) {w0 : World} (hc : (bchC B tp m fp).holds w0) (hi : inB (bchC B tp m fp) w0) (hm : m.length ≤ 1099511627) :
    Cal Tryz.prog 119 [.pointer (some ⟨B, 0, none⟩), encChg o] w0 (fun v w' => v = .tuple #[] ∧ ∃ fp', Mut w0 w' (bchC B tp m fp) (bchC B tp (noteE m o) fp')) := by
  refine Cal.mkM hc hi (by kernel_rfl) Tryz.func119 rfl rfl fun hS => ?_
  obtain ⟨_, ⟨A, cap, mb, rfl⟩, hfp, hS⟩ := St.objOpen (H := []) hS
  replace hS : St w0 (bchC B tp m fp).fp w0 [.box B 122 [.pointer tp, .slice A m.length cap, .map (some mb)], .own (.slice A m.length cap) 9 1 m.length (strs (m.map Prod.fst)), mapC mb (mmap encChg m)] _ := hS
  obtain ⟨key, val, gone⟩ := o
  have hlk := look_chg m key
  have h1 := mset_fst m key ⟨key, val, gone⟩
  have h2 := mset_fst2 m key ⟨key, val, gone⟩
  generalize (mget m key).isSome = there at *
  generalize (mget m key).getD Chg0 = was at *
  obtain ⟨k0, v0, g0⟩ := was
  rcases there with _ | _
  · have h2 := h2 rfl
    clear h1
    repeat' (first | (show WL _ _ _ _ _ _ _; first | refine WL.pure rfl rfl rfl rfl ?_ | refine WL.nil ?_ | (refine WL.box hS rfl rfl rfl rfl rfl ?_; intro w b hS)) | (show WC _ _ _ _ _ _; first | refine WC.seq ?_ | refine WC.region ?_ | refine WC.skip ?_ | (show WC _ _ (Code.region _ (List.toArray [_, _, _, _, _, _, _, _, _, _, _, _, _]) true) _ _ _; refine WC.drawS hS [0,1,2,3,4,5,6,7,8,9,12] [0,1,2,3,4,5,6,7,8,9,10,11,12] (by kernel_rfl) (by kernel_rfl) ?_; clear hS; intro w hS hM) | (show WC _ _ (Code.region _ (List.toArray [_, _, _, _, _, _, _, _, _, _, _, _]) true) _ _ _; refine WC.drawLV [.own (.slice A m.length cap) 9 1 m.length (strs (m.map Prod.fst))] hS Pu [0,1,2,3,4,5,6,9,10] [0,1,2,3,4,5,6,7,8,9,10] 11 [] (by kernel_rfl) (by kernel_rfl) ?_; clear hS; intro w hS hM) | (show WC _ _ (Code.region _ (List.toArray [_, _, _, _, _, _, _, _]) true) _ _ _; refine WC.drawL [mapC mb (mmap encChg m)] hS Pu [0,1,2,3,4,5,6] [0,1,2,3,4,5,6,7] (by kernel_rfl) (by kernel_rfl) ?_; clear hS; intro w hS hM) | refine WC.condF rfl (by with_reducible rfl) ?_ | refine WC.condT rfl (by decide) ?_) | (show WD _ _ _ _ _ _ _ _ _; first | refine WD.pure rfl rfl rfl rfl rfl ?_ | refine WD.nil ?_ | refine WD.load rfl rfl (LdOk.box Mm rfl) rfl rfl rfl rfl ?_ | (refine WD.mget rfl rfl rfl rfl (.mk' Mm) hlk rfl rfl rfl rfl ?_) | (refine WD.alloc (t := 134) hS hM rfl rfl rfl rfl rfl rfl rfl rfl ?_; clear hS; intro w xb hS hM) | (refine WD.store hS rfl rfl rfl Sb rfl (More.chunk (.refl _ _) _) rfl rfl rfl rfl ?_; clear hS hM; intro w hS hM) | (refine WD.app hS Pl1 (More.chunk (.refl _ _) _) rfl rfl rfl rfl (RdOk.box Mm) rfl rfl (by omega) rfl rfl rfl rfl rfl ?_; clear hS hM; intro A2 cap2 w hS hM) | (refine WD.pivStore hS rfl rfl rfl Sb rfl rfl rfl rfl ?_; clear hS; intro w hS hM) | (refine WD.msetC hS (More.refl _ _) (.inl rfl) rfl rfl rfl rfl rfl rfl rfl rfl ?_; clear hS; intro w hS) | (refine WD.slit hS hM rfl rfl rfl rfl rfl rfl rfl ?_; intro w b hS hM)) | refine seqQ_n ?_)
    have e1 : (noteE m ⟨key, val, gone⟩).length = m.length + 1 := by have := len_of_fst h2; unfold noteE; simpa using this
    have e2 : strs ((noteE m ⟨key, val, gone⟩).map Prod.fst) = strs (m.map Prod.fst) ++ [str key] := by
      show strs ((mset m key ⟨key, val, gone⟩).map Prod.fst) = _
      rw [h2, strs_snoc]
    have e3 : mmap encChg (noteE m ⟨key, val, gone⟩) = mset (mmap encChg m) key (encChg ⟨key, val, gone⟩) := by unfold noteE; rw [← mset_map]
    have hS := St.objClose (φ := bchφ B tp (noteE m ⟨key, val, gone⟩)) (hS.pulls (D := [.box B 122 [.pointer tp, .slice A2 (m.length + 1) cap2, .map (some mb)], .own (.slice A2 (m.length + 1) cap2) 9 1 (m.length + 1) (strs (m.map Prod.fst) ++ [str key]), mapC mb (mset (mmap encChg m) key (encChg ⟨key, val, gone⟩))]) Pu) ⟨A2, cap2, mb, by rw [e1, e2, e3]⟩
    exact fin0n rfl ⟨rfl, _, hS.mutOf (List.Mem.head _)⟩
  · have h1 := h1 rfl
    clear h2
    repeat' (first | (show WL _ _ _ _ _ _ _; first | refine WL.pure rfl rfl rfl rfl ?_ | refine WL.nil ?_ | (refine WL.box hS rfl rfl rfl rfl rfl ?_; intro w b hS)) | (show WC _ _ _ _ _ _; first | refine WC.seq ?_ | refine WC.region ?_ | refine WC.skip ?_ | (show WC _ _ (Code.region _ (List.toArray [_, _, _, _, _, _, _, _, _, _, _, _, _]) true) _ _ _; refine WC.drawS hS [0,1,2,3,4,5,6,7,8,9,12] [0,1,2,3,4,5,6,7,8,9,10,11,12] (by kernel_rfl) (by kernel_rfl) ?_; clear hS; intro w hS hM) | (show WC _ _ (Code.region _ (List.toArray [_, _, _, _, _, _, _, _]) true) _ _ _; refine WC.drawL [mapC mb (mmap encChg m)] hS Pu [0,1,2,3,4,5,6] [0,1,2,3,4,5,6,7] (by kernel_rfl) (by kernel_rfl) ?_; clear hS; intro w hS hM) | refine WC.condF rfl (by with_reducible rfl) ?_ | refine WC.condF rfl (by decide) ?_) | (show WD _ _ _ _ _ _ _ _ _; first | refine WD.pure rfl rfl rfl rfl rfl ?_ | refine WD.nil ?_ | refine WD.load rfl rfl (LdOk.box Mm rfl) rfl rfl rfl rfl ?_ | (refine WD.mget rfl rfl rfl rfl (.mk' Mm) hlk rfl rfl rfl rfl ?_) | (refine WD.alloc (t := 134) hS hM rfl rfl rfl rfl rfl rfl rfl rfl ?_; clear hS; intro w xb hS hM) | (refine WD.store hS rfl rfl rfl Sb rfl (More.chunk (.refl _ _) _) rfl rfl rfl rfl ?_; clear hS hM; intro w hS hM) | (refine WD.msetC hS (More.refl _ _) (.inl rfl) rfl rfl rfl rfl rfl rfl rfl rfl ?_; clear hS; intro w hS)) | refine seqQ_n ?_)
    have e1 : (noteE m ⟨key, val, gone⟩).length = m.length := by have := len_of_fst h1; unfold noteE; simpa using this
    have e2 : strs ((noteE m ⟨key, val, gone⟩).map Prod.fst) = strs (m.map Prod.fst) := by
      show strs ((mset m key ⟨key, val, gone⟩).map Prod.fst) = _
      rw [h1]
    have e3 : mmap encChg (noteE m ⟨key, val, gone⟩) = mset (mmap encChg m) key (encChg ⟨key, val, gone⟩) := by unfold noteE; rw [← mset_map]
    have hS := St.objClose (φ := bchφ B tp (noteE m ⟨key, val, gone⟩)) (hS.pulls (D := [.box B 122 [.pointer tp, .slice A m.length cap, .map (some mb)], .own (.slice A m.length cap) 9 1 m.length (strs (m.map Prod.fst)), mapC mb (mset (mmap encChg m) key (encChg ⟨key, val, gone⟩))]) Pu) ⟨A, cap, mb, by rw [e1, e2, e3]⟩
    exact fin0n rfl ⟨rfl, _, hS.mutOf (List.Mem.head _)⟩
set_option maxHeartbeats 4000000 in
set_option maxRecDepth 100000 in
theorem bput_c {B : Nat} {tp : Option Addr} {m : Bch} {fp : List Nat} (key val : List UInt8) {w0 : World} (hc : (bchC B tp m fp).holds w0) (hi : inB (bchC B tp m fp) w0) (hm : m.length ≤ 1099511627) :
    Cal Tryz.prog 65 [.pointer (some ⟨B, 0, none⟩), str key, str val] w0 (fun v w' => v = .tuple #[] ∧ ∃ fp', Mut w0 w' (bchC B tp m fp) (bchC B tp (noteE m ⟨key, val, false⟩) fp')) := by
  refine Cal.mkM hc hi (by kernel_rfl) Tryz.func65 rfl rfl fun hS => ?_
  repeat' (first | (show WL _ _ _ _ _ _ _; first | refine WL.pure rfl rfl rfl rfl ?_ | refine WL.nil ?_ | (refine WL.callG rfl rfl (note_c ⟨key, val, false⟩ (hS.holds _ (List.Mem.head _)) (hS.inB_of (List.Mem.head _)) hm) rfl rfl rfl ?_; rintro v w ⟨rfl, fp', hmut⟩; have hS := hS.mut hmut .here; clear hmut) | refine WL.build rfl rfl rfl rfl rfl ?_) | (show WC _ _ _ _ _ _; first | refine WC.region ?_) | fail)
  exact fin0n rfl ⟨rfl, _, hS.mutOf (List.Mem.head _)⟩
set_option maxHeartbeats 4000000 in
set_option maxRecDepth 100000 in
theorem bdrop_c {B : Nat} {tp : Option Addr} {m : Bch} {fp : List Nat} (key : List UInt8) {w0 : World} (hc : (bchC B tp m fp).holds w0) (hi : inB (bchC B tp m fp) w0) (hm : m.length ≤ 1099511627) :
    Cal Tryz.prog 77 [.pointer (some ⟨B, 0, none⟩), str key] w0 (fun v w' => v = .tuple #[] ∧ ∃ fp', Mut w0 w' (bchC B tp m fp) (bchC B tp (noteE m ⟨key, [], true⟩) fp')) := by
  refine Cal.mkM hc hi (by kernel_rfl) Tryz.func77 rfl rfl fun hS => ?_
  repeat' (first | (show WL _ _ _ _ _ _ _; first | refine WL.pure rfl rfl rfl rfl ?_ | refine WL.nil ?_ | (refine WL.callG rfl rfl (note_c ⟨key, [], true⟩ (hS.holds _ (List.Mem.head _)) (hS.inB_of (List.Mem.head _)) hm) rfl rfl rfl ?_; rintro v w ⟨rfl, fp', hmut⟩; have hS := hS.mut hmut .here; clear hmut) | refine WL.build rfl rfl rfl rfl rfl ?_) | (show WC _ _ _ _ _ _; first | refine WC.region ?_) | fail)
  exact fin0n rfl ⟨rfl, _, hS.mutOf (List.Mem.head _)⟩
end Go.Proofs.YtobfdeiimnnanaaGreatDoor

/- What is proved: what a table and a batch answer of a key. Conditions: none. -/
namespace Go.Proofs.YtobfdeiimnnanaaGreatDoor
open Go Go.J Go.RowKit
theorem look_row (m : Rws) (k : List UInt8) : lookV (encRow []) (mmap encRow m) k true = .tuple #[encRow ((mget m k).getD []), .bool (mget m k).isSome] := by
  unfold lookV
  rw [mget_map]
  cases mget m k <;> rfl
theorem look_row1 (m : Rws) (k : List UInt8) : lookV (encRow []) (mmap encRow m) k false = encRow ((mget m k).getD []) := by
  unfold lookV
  rw [mget_map]
  cases mget m k <;> rfl
def getE (rows : Rws) (k : List UInt8) : List UInt8 × Bool := ((mget rows k).getD [], (mget rows k).isSome)
set_option maxHeartbeats 4000000 in
set_option maxRecDepth 100000 in
theorem tget_c {Tp q : Nat} {T : Tb} {fp : List Nat} (k : List UInt8) {w0 : World} (hi : InL w0 [tabC Tp q T fp]) :
    Cal Tryz.prog 69 [.pointer (some ⟨Tp, 0, none⟩), str k] w0 (fun v w' => v = .tuple #[str (getE T.rows k).1, .bool (getE T.rows k).2] ∧ MutL w0 w' [tabC Tp q T fp] [tabC Tp q T fp]) := by
  refine Cal.mkL hi (by kernel_rfl) Tryz.func69 rfl rfl fun hS => ?_
  obtain ⟨_, ⟨m, L, fpl, rfl⟩, hfp, hS⟩ := St.objOpen (H := []) hS
  replace hS : St w0 (fps [tabC Tp q T fp]) w0 [tbB Tp (some ⟨q, 0, none⟩) T.dir (some ⟨L, 0, none⟩) m, rowsC m T.rows, lgC L q T.log fpl] _ := hS
  have hlk := look_row T.rows k
  unfold getE
  dsimp only
  repeat' (first | (show WL _ _ _ _ _ _ _; first | refine WL.pure rfl rfl rfl rfl ?_ | refine WL.nil ?_ | refine WL.load hS rfl rfl (LdOk.box Mm rfl) rfl rfl rfl ?_ | (refine WL.mget hS rfl rfl rfl rfl (.mk' Mm) hlk rfl rfl rfl ?_) | (refine WL.alloc (t := 176) hS rfl rfl rfl rfl rfl rfl ?_; intro w xb hS) | (refine WL.store hS rfl rfl rfl Sb rfl rfl rfl ?_; intro w hS)) | (show WC _ _ _ _ _ _; first | refine WC.seq ?_ | refine WC.region ?_ | refine WC.skip ?_ | refine WC.ret ?_ | refine WC.condF rfl (by with_reducible rfl) ?_) | refine seqQ_n ?_)
  have hS := St.objClose (H := []) (φ := tabφ Tp q T) (D := [tbB Tp (some ⟨q, 0, none⟩) T.dir (some ⟨L, 0, none⟩) m, rowsC m T.rows, lgC L q T.log fpl]) hS.drop ⟨m, L, fpl, rfl⟩
  rw [← hfp] at hS
  exact fin2r rfl rfl rfl ⟨rfl, hS.mutLp Pu⟩
def bgetE (rows : Rws) (m : Bch) (k : List UInt8) : List UInt8 × Bool := match mget m k with
  | some o => (o.val, !o.gone)
  | none => getE rows k
set_option maxHeartbeats 4000000 in
set_option maxRecDepth 100000 in
theorem bget_c {B Tp q : Nat} {T : Tb} {m : Bch} {fb fp : List Nat} (k : List UInt8) {w0 : World} (hi : InL w0 [bchC B (some ⟨Tp, 0, none⟩) m fb, tabC Tp q T fp]) :
    Cal Tryz.prog 72 [.pointer (some ⟨B, 0, none⟩), str k] w0 (fun v w' => v = .tuple #[str (bgetE T.rows m k).1, .bool (bgetE T.rows m k).2] ∧ MutL w0 w' [bchC B (some ⟨Tp, 0, none⟩) m fb, tabC Tp q T fp] [bchC B (some ⟨Tp, 0, none⟩) m fb, tabC Tp q T fp]) := by
  refine Cal.mkL hi (by kernel_rfl) Tryz.func72 rfl rfl fun hS => ?_
  obtain ⟨_, ⟨A, cap, mb, rfl⟩, hfb, hS⟩ := St.objOpen hS
  replace hS : St w0 (fps [bchC B (some ⟨Tp, 0, none⟩) m fb, tabC Tp q T fp]) w0 [.box B 122 [.pointer (some ⟨Tp, 0, none⟩), .slice A m.length cap, .map (some mb)], .own (.slice A m.length cap) 9 1 m.length (strs (m.map Prod.fst)), mapC mb (mmap encChg m), tabC Tp q T fp] _ := hS
  have hlk := look_chg m k
  unfold bgetE
  cases hg : mget m k with
  | none =>
    rw [hg] at hlk
    replace hlk : lookV (encChg Chg0) (mmap encChg m) k true = .tuple #[encChg Chg0, .bool false] := hlk
    repeat' (first | (show WL _ _ _ _ _ _ _; first | refine WL.pure rfl rfl rfl rfl ?_ | refine WL.nil ?_ | refine WL.load hS rfl rfl (LdOk.box Mm rfl) rfl rfl rfl ?_ | (refine WL.mget hS rfl rfl rfl rfl (.mk' Mm) hlk rfl rfl rfl ?_) | (refine WL.alloc (t := 134) hS rfl rfl rfl rfl rfl rfl ?_; intro w xb hS) | (refine WL.callL (D := [tabC Tp q T fp]) hS Pu rfl rfl (fun hI => tget_c k hI) rfl rfl rfl ?_; rintro v w ⟨rfl, hm⟩ hS; replace hS := hS _ hm; clear hm) | (refine WL.store hS rfl rfl rfl Sb rfl rfl rfl ?_; intro w hS)) | (show WC _ _ _ _ _ _; first | refine WC.seq ?_ | refine WC.region ?_ | refine WC.skip ?_ | refine WC.ret ?_ | refine WC.condF rfl (by with_reducible rfl) ?_) | refine seqQ_n ?_)
    have hS := St.objClose (φ := bchφ B (some ⟨Tp, 0, none⟩) m) (hS.pulls (D := [.box B 122 [.pointer (some ⟨Tp, 0, none⟩), .slice A m.length cap, .map (some mb)], .own (.slice A m.length cap) 9 1 m.length (strs (m.map Prod.fst)), mapC mb (mmap encChg m)]) Pu) ⟨A, cap, mb, rfl⟩
    rw [← hfb] at hS
    exact fin2r rfl rfl rfl ⟨rfl, hS.mutLp Pu⟩
  | some o =>
    rw [hg] at hlk
    obtain ⟨key, val, gone⟩ := o
    replace hlk : lookV (encChg Chg0) (mmap encChg m) k true = .tuple #[encChg ⟨key, val, gone⟩, .bool true] := hlk
    repeat' (first | (show WL _ _ _ _ _ _ _; first | refine WL.pure rfl rfl rfl rfl ?_ | refine WL.nil ?_ | refine WL.load hS rfl rfl (LdOk.box Mm rfl) rfl rfl rfl ?_ | (refine WL.mget hS rfl rfl rfl rfl (.mk' Mm) hlk rfl rfl rfl ?_) | (refine WL.alloc (t := 134) hS rfl rfl rfl rfl rfl rfl ?_; intro w xb hS) | (refine WL.store hS rfl rfl rfl Sb rfl rfl rfl ?_; intro w hS)) | (show WC _ _ _ _ _ _; first | refine WC.seq ?_ | refine WC.region ?_ | refine WC.skip ?_ | refine WC.ret ?_ | (show WC _ _ (Code.region _ (List.toArray [_, _, _, _, _, _, _]) true) _ _ _; refine WC.drawS hS [0, 1, 2, 3, 4, 5, 6] [0, 1, 2, 3, 4, 5, 6] (by kernel_rfl) (by kernel_rfl) ?_; clear hS; intro w hS hM) | refine WC.condT rfl (by with_reducible rfl) ?_ | refine WC.condF rfl (by with_reducible rfl) ?_) | (show WD _ _ _ _ _ _ _ _ _; first | refine WD.pure rfl rfl rfl rfl rfl ?_ | refine WD.nil ?_ | refine WD.load rfl rfl (LdOk.box Mm rfl) rfl rfl rfl rfl ?_) | refine seqQ_n ?_ | refine seqQ_r ?_)
    have hS := St.objClose (φ := bchφ B (some ⟨Tp, 0, none⟩) m) (hS.pulls (D := [.box B 122 [.pointer (some ⟨Tp, 0, none⟩), .slice A m.length cap, .map (some mb)], .own (.slice A m.length cap) 9 1 m.length (strs (m.map Prod.fst)), mapC mb (mmap encChg m)]) Pu) ⟨A, cap, mb, rfl⟩
    rw [← hfb] at hS
    exact fin2r rfl rfl rfl ⟨rfl, hS.mutLp Pu⟩
end Go.Proofs.YtobfdeiimnnanaaGreatDoor
