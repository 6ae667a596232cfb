/- What is proved: contracts and plain facts that the law leans on (texts put together). Conditions: as each names them. -/
import Derived.Test.YtccfiohagbneaaaGreatDoorM4
import Derived.JoinedCond
set_option linter.unusedSimpArgs false
set_option linter.unusedVariables false
/- What is proved: how a statement's arguments open to plain data, and that a call which answers true and leaves old memory alone meets the law's form. Conditions: none. -/
set_option linter.unusedSimpArgs false
set_option linter.unusedVariables false
namespace Go.Proofs.YtccfiohagbneaaaGreatDoor
open Go Go.J Go.RowKit Go.ChangeShapes Go.WideShapes Go.ChangeAt Go.Deep

/-- how an argument of a type opens -/
def Arg {α : Type} (P : Program) (t : TypeId) (A : World → Value → α → Prop) (Q : α → Nat → Prop) : Prop :=
  ∀ {H : Type} (enc : TypeId × Value → H) (W : World) (base : Nat) (v : Value) (d : DataW H) (p : List MemPlace), Value.okWide P W .any base t v → DataW.Trod enc P W 0 (fun _ => true) true t v d p → ∃ y, A W v y ∧ Q y (Rows.uptoBulk d)

def AInt (_ : World) (v : Value) (n : Int) : Prop := v = .int .i64 n
def QInt (n : Int) (b : Nat) : Prop := -9223372036854775808 ≤ n ∧ n ≤ 9223372036854775807 ∧ 1 ≤ b
def AStr (_ : World) (v : Value) (s : List UInt8) : Prop := v = str s
def QStr (s : List UInt8) (b : Nat) : Prop := s.length + 1 ≤ b
def ASl {α : Type} (c : Cod α) (W : World) (v : Value) (xs : List α) : Prop := ∃ A cap, v = .slice A xs.length cap ∧ xs.length ≤ cap ∧ SlAt c (Old W) W A xs
def AAgg {α : Type} (c : Cod α) (W : World) (v : Value) (y : α) : Prop := ∃ cs, v = .agg ⟨cs⟩ ∧ c.rd (Old W) W cs y

theorem Arg.int {P : Program} {t : TypeId} (ht : P.underlying t = some (.int .i64)) : Arg P t AInt QInt := by
  intro H enc W base v d p hk hd
  obtain ⟨n, rfl⟩ := okWide_int ht hk
  obtain ⟨fuel, hf⟩ := hd
  obtain ⟨y, hy, hq⟩ := Opens.int ht enc W fuel _ _ hf
  have hy' : [Value.int .i64 n] = [.int .i64 y] := hy
  simp only [List.cons.injEq, Value.int.injEq, true_and, and_true] at hy'
  exact ⟨y, by rw [hy']; rfl, hq⟩
theorem Arg.str {P : Program} {t : TypeId} (ht : P.underlying t = some .string) : Arg P t AStr QStr := by
  intro H enc W base v d p hk hd
  obtain ⟨s, rfl⟩ := okWide_string ht hk
  obtain ⟨fuel, hf⟩ := hd
  obtain ⟨y, hy, hq⟩ := Opens.str ht enc W fuel _ _ hf
  have hy' : [Value.string s] = [Go.J.str y] := hy
  exact ⟨y, by show Value.string s = Go.J.str y; simpa using hy', hq⟩
theorem Arg.slice {α : Type} {P : Program} {t e : TypeId} {c : Cod α} {Q : List α → Nat → Prop} (ht : P.underlying t = some (.slice e)) (ho : Opens P t (cSl c) Q) : Arg P t (ASl c) Q := by
  intro H enc W base v d p hk hd
  obtain ⟨a, len, cap, rfl⟩ := okWide_slice ht hk
  obtain ⟨fuel, hf⟩ := hd
  obtain ⟨y, ⟨A, cap', e0, hcap, hsl⟩, hq⟩ := ho enc W fuel _ _ hf
  have e0' : [Value.slice a len cap] = [.slice A y.length cap'] := e0
  exact ⟨y, ⟨A, cap', by simpa using e0', hcap, hsl⟩, hq⟩
theorem Arg.agg {α : Type} {P : Program} {t : TypeId} {fs : Array Field} {c : Cod α} {Q : α → Nat → Prop} (ht : P.underlying t = some (.struct fs)) (ho : Opens P t c Q) : Arg P t (AAgg c) Q := by
  intro H enc W base v d p hk hd
  obtain ⟨cs, rfl, _⟩ := okWide_struct ht hk
  obtain ⟨fuel, hf⟩ := hd
  obtain ⟨y, hy, hq⟩ := ho enc W fuel _ _ hf
  exact ⟨y, ⟨cs.toList, by cases cs; rfl, hy⟩, hq⟩

theorem own : ownKnob Tryz.prog.godebug = none := by kernel_rfl
theorem laid : laidOutB Tryz.prog = true := by kernel_rfl

/-- arguments whose memory stays read as they did -/
theorem all_stays {H : Type} {enc : TypeId × Value → H} {P : Program} (hl : laidOutB P = true) {W W' : World} (hu : Upd [] W W') {sp : Nat → Bool} : ∀ {ts : List TypeId} {vs : List Value} {ds : List (DataW H)} {p : List MemPlace}, (ts.all fun t => P.readableRec t && decide (t < P.types.size)) = true →
    DataW.TrodAll enc P W 0 (fun _ => true) true ts vs ds p → (∀ x ∈ p, x.block < W.heap.size) → (∀ x ∈ p, sp x.block = true) → DataW.TrodAll enc P W' 0 sp true ts vs ds p
  | [], [], [], p, _, h, _, _ => h
  | t :: ts, vs, ds, p, hr, h, hlt, hsp => by
    obtain ⟨v, vs', d, ds', p1, q1, rfl, rfl, rfl, h1, h2⟩ := trodAll_cons h
    simp only [List.all_cons, Bool.and_eq_true] at hr
    refine trodAll_cons_mk ?_ (all_stays hl hu (by simpa using hr.2) h2 (fun x hx => hlt x (by simp [hx])) fun x hx => hsp x (by simp [hx]))
    exact WideElems.Trod_stays hl hr.1.1 (of_decide_eq_true hr.1.2) h1 (fun x hx => hu.below.same (hlt x (by simp [hx]))) (fun x hx => hsp x (by simp [hx]))
  | [], [], _ :: _, _, _, h, _, _ => by simp [DataW.TrodAll] at h
  | [], _ :: _, _, _, _, h, _, _ => by simp [DataW.TrodAll] at h
theorem all_len {H : Type} {enc : TypeId × Value → H} {P : Program} {W : World} {sp : Nat → Bool} : ∀ {ts : List TypeId} {vs : List Value} {ds : List (DataW H)} {p : List MemPlace}, DataW.TrodAll enc P W 0 sp true ts vs ds p → ds.length = ts.length
  | [], [], [], _, _ => rfl
  | t :: ts, vs, ds, p, h => by
    obtain ⟨v, vs', d, ds', p1, q1, rfl, rfl, rfl, h1, h2⟩ := trodAll_cons h
    simp [all_len h2]
  | [], [], _ :: _, _, h => by simp [DataW.TrodAll] at h
  | [], _ :: _, _, _, h => by simp [DataW.TrodAll] at h

theorem law_post {H : Type} {enc : TypeId × Value → H} {P : Program} (hl : laidOutB P = true) {f : Func} {s : ChangeSpec} {tb : TypeId} {W W' : World} {args : Array Value} {ds gs : List (DataW H)} {before : List MemPlace}
    (hb : P.underlying tb = some .bool) (hrt : f.resultTypes = #[tb]) (hread : (f.params.toList.all fun t => P.readableRec t && decide (t < P.types.size)) = true) (hv : s.vars = [])
    (hs : ∀ ds : List (DataW H), ds.length = f.params.toList.length → (s.fn H ds).results = [.lit (.bool true)] ∧ (s.fn H ds).args = ds ∧ (s.fn H ds).vars = [])
    (hW : DataW.Whole enc P f.params.toList s.vars false W args.toList ds gs before) (hu : Upd [] W W') : s.post enc P f false true false false W args (.bool true) W' := by
  obtain ⟨p, q, hA, hV, rfl, hfz, hnd⟩ := id hW
  have hV' := hV
  rw [hv] at hV'
  obtain ⟨rfl, rfl⟩ := trodVars_none hV'
  have hlen := all_len hA
  obtain ⟨h1, h2, h3⟩ := hs ds hlen
  have hlt : ∀ x ∈ p, x.block < W.heap.size := fun x hx => hW.lt x (by simp [hx])
  refine post_of_below (pa := p) (pv := []) hW (fun _ _ _ => ?_) (fun sp hsp => ?_) (fun sp hsp => ?_) rfl hu.below (fun j t r hj hr => ?_)
  · rw [hrt, List.append_nil, h1]
    exact trodAll_cons_mk (shut_bool hb _) trodAll_mk0
  · rw [List.append_nil, h2]
    exact all_stays hl hu hread hA hlt fun x hx => hsp x (by simp [hx])
  · rw [hv, List.append_nil, h3]
    exact rfl
  · exact ok_one hrt rfl (okWide_bool_mk hb _) j t r hj hr
end Go.Proofs.YtccfiohagbneaaaGreatDoor

/- What is proved: the laws WalNil and WalRots answer true. Conditions: texts of bounded length. -/
set_option linter.unusedSimpArgs false
set_option linter.unusedVariables false
namespace Go.Proofs.YtccfiohagbneaaaGreatDoor
open Go Go.J Go.RowKit

set_option maxHeartbeats 4000000 in
set_option maxRecDepth 100000 in
theorem made_c (w0 : World) : Cal Tryz.prog 9 [] w0 (fun v w' => ∃ q mb lb, v = .pointer (some ⟨q, 0, none⟩) ∧ MutL w0 w' [] [dkC q mb lb Dv0]) := by
  refine Cal.mk' (by kernel_rfl) Tryz.func9 rfl rfl fun hS => ?_
  repeat' (first
    | (show WL _ _ _ _ _ _ _; first
      | refine WL.pure rfl rfl rfl rfl ?_
      | refine WL.nil ?_
      | (refine WL.callG rfl rfl (dnew_c _) rfl rfl rfl ?_; rintro v w ⟨hu, q, mb, lb, rfl, hn⟩; replace hS := hS.new hu hn; clear hu hn)
      | (refine WL.callL (D := [dkC q mb lb Dk0]) hS (by repeat (first | exact Pulls.nil | (apply Pulls.cons; focus (repeat (first | exact Pull.here | apply Pull.there))))) rfl rfl (fun hI => mkdir_c [118] hI.head hI.headB (by decide)) rfl rfl rfl ?_; rintro v w ⟨rfl, hm⟩ hS; replace hS := hS _ (.of1 hm); clear hm; rw [mkdir_v] at hS ⊢))
    | (show WC _ _ _ _ _ _; first
      | refine WC.seq ?_
      | refine WC.region ?_
      | refine WC.skip ?_
      | refine WC.ret ?_
      | refine WC.condF rfl (by decide) ?_)
    | refine seqQ_n ?_)
  exact fin1r rfl rfl ⟨_, _, _, rfl, St.mutLOf (D := []) (H := []) hS⟩
theorem strOne : (frames [[111, 110, 101]] : List UInt8) = packE [111, 110, 101] := frames_one _
section
variable (w0 : World)
set_option maxHeartbeats 4000000 in
set_option maxRecDepth 100000 in
theorem addNil_c (r : List UInt8) : Cal Tryz.prog 15 [.pointer none, str r] w0 (fun v w' => Upd [] w0 w' ∧ v = .int .i64 1) := by
  refine Cal.mk' (by kernel_rfl) Tryz.func15 rfl rfl fun hS => ?_
  repeat' (first
    | (show WL _ _ _ _ _ _ _; first
      | refine WL.pure rfl rfl rfl rfl ?_
      | refine WL.nil ?_)
    | (show WC _ _ _ _ _ _; first
      | refine WC.seq ?_
      | refine WC.region ?_
      | refine WC.ret ?_
      | refine WC.condT rfl (by with_reducible rfl) ?_)
    | refine seqQ_n ?_
    | refine seqQ_r ?_)
  exact fin1r rfl rfl ⟨hS.upd, rfl⟩
set_option maxHeartbeats 4000000 in
set_option maxRecDepth 100000 in
theorem resetNil_c : Cal Tryz.prog 17 [.pointer none] w0 (fun v w' => Upd [] w0 w' ∧ v = .int .i64 1) := by
  refine Cal.mk' (by kernel_rfl) Tryz.func17 rfl rfl fun hS => ?_
  repeat' (first
    | (show WL _ _ _ _ _ _ _; first
      | refine WL.pure rfl rfl rfl rfl ?_
      | refine WL.nil ?_)
    | (show WC _ _ _ _ _ _; first
      | refine WC.seq ?_
      | refine WC.region ?_
      | refine WC.ret ?_
      | refine WC.condT rfl (by with_reducible rfl) ?_)
    | refine seqQ_n ?_
    | refine seqQ_r ?_)
  exact fin1r rfl rfl ⟨hS.upd, rfl⟩
set_option maxHeartbeats 4000000 in
set_option maxRecDepth 100000 in
theorem recordsNil_c : Cal Tryz.prog 29 [.pointer none] w0 (fun v w' => Upd [] w0 w' ∧ v = .slice none 0 0) := by
  refine Cal.mk' (by kernel_rfl) Tryz.func29 rfl rfl fun hS => ?_
  repeat' (first
    | (show WL _ _ _ _ _ _ _; first
      | refine WL.pure rfl rfl rfl rfl ?_
      | refine WL.nil ?_)
    | (show WC _ _ _ _ _ _; first
      | refine WC.seq ?_
      | refine WC.region ?_
      | refine WC.ret ?_
      | refine WC.condT rfl (by with_reducible rfl) ?_)
    | refine seqQ_n ?_
    | refine seqQ_r ?_)
  exact fin1r rfl rfl ⟨hS.upd, rfl⟩
set_option maxHeartbeats 4000000 in
set_option maxRecDepth 100000 in
theorem damagedNil_c : Cal Tryz.prog 31 [.pointer none] w0 (fun v w' => Upd [] w0 w' ∧ v = .bool false) := by
  refine Cal.mk' (by kernel_rfl) Tryz.func31 rfl rfl fun hS => ?_
  repeat' (first
    | (show WL _ _ _ _ _ _ _; first
      | refine WL.pure rfl rfl rfl rfl ?_
      | refine WL.nil ?_
      | refine WL.skip rfl rfl rfl ?_)
    | (show WC _ _ _ _ _ _; first
      | refine WC.seq ?_
      | refine WC.region ?_
      | refine WC.ret ?_)
    | refine seqQ_n ?_)
  exact fin1r rfl rfl ⟨hS.upd, rfl⟩
end
set_option maxHeartbeats 8000000 in
set_option maxRecDepth 100000 in
theorem wawake_c (w0 : World) : Cal Tryz.prog 11 [] w0 (fun v w' => Upd [] w0 w' ∧ v = .bool true) := by
  refine Cal.mk' (by kernel_rfl) Tryz.func11 rfl rfl fun hS => ?_
  obtain ⟨s', st', sp', ha⟩ := add_calm ⟨lP, [], false⟩ rfl [] [] [111, 110, 101] false false 2 4 2
  have hp1 : (packE [111, 110, 101]).length ≤ 18 := by rw [packE_len]; have := putN_len10 (n := 3) (by decide); simp; omega
  have ho := open_whole [[111, 110, 101]] (by simp) (packE [111, 110, 101]) false false s' st' sp' (-1)
  rw [frames_one] at ho
  repeat' (first
    | (show WL _ _ _ _ _ _ _; first
      | refine WL.pure rfl rfl rfl rfl ?_
      | refine WL.nil ?_
      | (refine WL.callL (D := []) hS (by repeat (first | exact Pulls.nil | (apply Pulls.cons; focus (repeat (first | exact Pull.here | apply Pull.there))))) rfl rfl (fun hI => made_c _) rfl rfl rfl ?_; rintro v w ⟨q, mb, lb, rfl, hm⟩ hS; replace hS := hS _ hm; clear hm)
      | (refine WL.callL (D := [dkC q mb lb Dv0]) hS (by repeat (first | exact Pulls.nil | (apply Pulls.cons; focus (repeat (first | exact Pull.here | apply Pull.there))))) rfl rfl (fun hI => open_c lP hI (by decide) Sm_v) rfl rfl rfl ?_; rintro v w hR hS; rw [open_new] at hR; obtain ⟨L, fp, rfl, hm⟩ := hR; replace hS := hS _ hm; clear hm)
      | (refine WL.callL (D := [lgC L q ⟨lP, [], false⟩ fp, dkC q mb lb _]) hS (by repeat (first | exact Pulls.nil | (apply Pulls.cons; focus (repeat (first | exact Pull.here | apply Pull.there))))) rfl rfl (fun hI => add_c [111, 110, 101] hI ha (by decide) rfl (by decide) (by decide) (by decide)) rfl rfl rfl ?_; rintro v w ⟨rfl, fp', hm⟩ hS; replace hS := hS _ hm; clear hm)
      | (refine WL.callL (D := [dkC q mb lb _]) hS (by repeat (first | exact Pulls.nil | (apply Pulls.cons; focus (repeat (first | exact Pull.here | apply Pull.there))))) rfl rfl (fun hI => open_c lP hI (by decide) (Sm_l (by rw [List.nil_append]; omega))) rfl rfl rfl ?_; rintro v w hR hS; rw [List.nil_append, ho] at hR; obtain ⟨L2, fp2, rfl, hm⟩ := hR; replace hS := hS _ hm; clear hm)
      | (refine WL.callL (D := [lgC L2 q ⟨lP, [[111, 110, 101]], false⟩ fp2]) hS (by repeat (first | exact Pulls.nil | (apply Pulls.cons; focus (repeat (first | exact Pull.here | apply Pull.there))))) rfl rfl (fun hI => records_c hI (by decide)) rfl rfl rfl ?_; rintro v w ⟨A, cap, rfl, hm⟩ hS; replace hS := hS _ hm; clear hm)
      | (refine WL.calls hS rfl rfl (same_c [[111, 110, 101]] [[111, 110, 101]] (hS.ownSl (l := [[111, 110, 101]]) (enc := fun s => [str s]) (hsz := fun _ => rfl) (by decide) (by repeat (first | exact List.Mem.head _ | apply List.Mem.tail))) (hS.boxSl [[111, 110, 101]] (enc := fun s => [str s]) (hsz := fun _ => rfl) (by decide) (by repeat (first | exact List.Mem.head _ | apply List.Mem.tail)) (by decide)) (by decide)) rfl rfl rfl ?_; rintro v w rfl hS)
      | (refine WL.callL (D := [lgC L2 q ⟨lP, [[111, 110, 101]], false⟩ fp2]) hS (by repeat (first | exact Pulls.nil | (apply Pulls.cons; focus (repeat (first | exact Pull.here | apply Pull.there))))) rfl rfl (fun hI => damaged_c hI) rfl rfl rfl ?_; rintro v w ⟨rfl, hm⟩ hS; replace hS := hS _ hm; clear hm)
      | (refine WL.slit hS rfl rfl rfl rfl rfl ?_; intro w b hS))
    | (show WC _ _ _ _ _ _; first
      | refine WC.seq ?_
      | refine WC.region ?_
      | refine WC.skip ?_
      | refine WC.ret ?_
      | refine WC.condF rfl (by with_reducible rfl) ?_
      | refine WC.condF rfl (by decide) ?_)
    | refine seqQ_n ?_)
  exact fin1r rfl rfl ⟨hS.upd, rfl⟩
end Go.Proofs.YtccfiohagbneaaaGreatDoor

/- What is proved: that Apart of reference 2 answers true of rows of texts that are the call's own. Conditions: rows of bounded length. -/
set_option linter.unusedSimpArgs false
set_option linter.unusedVariables false
namespace Go.Proofs.YtccfiohagbneaaaGreatDoor
open Go Go.J Go.RowKit

/-- a store into a row, in a region that draws its order -/
theorem WD.storeOwn {P : Program} {N : Fz} {f : Fr} {w w0 : World} {Q : Post} {ops : List Oper} {M : List Nat} {H0 H H' : List Chunk} {Z0 Z : List Snap} {q : Qs} {l : List Nat} {i : Nat} {ty : TypeId} {x y : Operand} {g off0 off n cap n' : Nat} {e : TypeId} {size : Nat} {xs vs : List Value} (hS : St w0 M w H Z) (ho : (ix ops i).op = .store ty x y) (hx : ev f x = .pointer (some ⟨g, off0 + off, none⟩)) (hy : cellsO (ev f y) = some vs)
    (hr : Repl (.own (.slice (some ⟨g, off0, none⟩) n cap) e size n' xs) (.own (.slice (some ⟨g, off0, none⟩) n cap) e size n' (xs.take off ++ vs ++ xs.drop (off + vs.length))) H H') (hfit : off + vs.length ≤ xs.length) (h1 : one vs = true) (hn : tySize P ty = some vs.length)
    (hM : More H0 Z0 H' Z) (hq : q.contains i = false) (hi : Nat.blt i ops.length = true) (hg : wants ops f (ix ops i) = true) (hd : (ix ops i).dst = none)
    (h : ∀ w', St w0 M w' H' Z → More H0 Z0 H' Z → WD P N (SS w0 M H0 Z0) ops q l f w' Q) : WD P N (SS w0 M H0 Z0) ops q (i :: l) f w Q := by
  obtain ⟨cs', hrun, hown'⟩ := run_storeOwn (P := P) ho hx (cellsO_eq hy) (hS.holds _ hr.mem) hfit h1 hn
  have hS' := hS.step hr ((Upd.setRow _ _ _).mono (by simp [Chunk.fp, Value.ownBlock])) hown' fun b hb => .inl hb
  exact .unit0 hq hi hg hd hrun (hM.ss hS') (h _ hS' hM)
def mks : List UInt8 := [97, 98, 99, 100, 101, 102, 103, 104, 105, 106, 107, 108, 109, 110, 111, 112, 113, 114, 115, 116, 117, 118, 119, 120, 121, 122]
def encT (s : List UInt8) : List Value := [str s]
def mT (j : Nat) : List UInt8 := [119, 97, 115] ++ (mks.take (j % 26 + 1)).drop (j % 26)
def nT (j : Nat) : List UInt8 := [110, 101, 119] ++ (mks.take (j % 26 + 1)).drop (j % 26)
theorem mks_one {j : Nat} : ((mks.take (j % 26 + 1)).drop (j % 26)).length = 1 := by
  rw [List.length_drop, List.length_take, show mks.length = 26 from rfl]
  omega
theorem rwMapS : ∀ rs : List Rw, rs.flatMap encRw = rs.map Rw.val
  | [] => rfl
  | a :: l => by rw [List.flatMap_cons, List.map_cons, rwMapS l]; rfl
theorem rwAtS {rs : List Rw} {i : Nat} (h : i < rs.length) : (rs.flatMap encRw)[i * 1]? = some rs[i].val := by
  rw [Nat.mul_one, rwMapS, List.getElem?_map, List.getElem?_eq_getElem h]
  rfl
set_option maxHeartbeats 32000000 in
set_option maxRecDepth 100000 in
theorem rapartS_c (rs : List Rw) (cs : List Chunk) {OA : Option Addr} {oc : Nat} {w0 : World} (hi : InL w0 (.own (.slice OA rs.length oc) 56 1 rs.length (rs.flatMap encRw) :: cs)) (hm : MarkIs encT 9 1 mT rs cs 0) (hl : rs.length ≤ 1000) (hz : ∀ r ∈ rs, r.n ≤ 1048576) :
    Cal Tryz.prog 33 [.slice OA rs.length oc] w0 (fun v w' => v = .bool true ∧ MutL w0 w' (.own (.slice OA rs.length oc) 56 1 rs.length (rs.flatMap encRw) :: cs) []) := by
  refine Cal.mkL hi (by kernel_rfl) Tryz.func33 rfl rfl fun hS => ?_
  have hfp : ∀ {w : World}, St w0 (fps (.own (.slice OA rs.length oc) 56 1 rs.length (rs.flatMap encRw) :: cs)) w [] (ZL w0 (.own (.slice OA rs.length oc) 56 1 rs.length (rs.flatMap encRw) :: cs)) → MutL w0 w (.own (.slice OA rs.length oc) 56 1 rs.length (rs.flatMap encRw) :: cs) [] := fun hS => hS.mutLp .nil
  replace hS : St w0 (fps (.own (.slice OA rs.length oc) 56 1 rs.length (rs.flatMap encRw) :: cs)) w0 (.own (.slice OA rs.length oc) 56 1 rs.length (rs.flatMap encRw) :: cs) (ZL w0 (.own (.slice OA rs.length oc) 56 1 rs.length (rs.flatMap encRw) :: cs)) := hS
  generalize ZL w0 (.own (.slice OA rs.length oc) 56 1 rs.length (rs.flatMap encRw) :: cs) = Z0 at *
  generalize fps (.own (.slice OA rs.length oc) 56 1 rs.length (rs.flatMap encRw) :: cs) = M0 at *
  clear hi
  repeat' (first
    | (show WL _ _ _ _ _ _ _; first
      | refine WL.pure rfl rfl rfl rfl ?_
      | refine WL.nil ?_)
    | (show WC _ _ _ _ _ _; first
      | refine WC.seq ?_
      | refine WC.region ?_
      | refine WC.block ?_)
    | refine seqQ_n ?_)
  refine WC.loop (σ := Nat × List Chunk) [0, 3] (fun (i, _) => [(4, .int .i64 (i : Int))]) (fun (i, cs) w => (i ≤ rs.length ∧ MarkIs encT 9 1 mT rs cs i) ∧ St w0 M0 w (.own (.slice OA rs.length oc) 56 1 rs.length (rs.flatMap encRw) :: cs) Z0) (fun (i, _) => rs.length - i) (0, cs) ⟨⟨Nat.zero_le _, hm⟩, hS⟩ ⟨rfl, trivial⟩ ?_
  clear hS hm
  rintro ⟨i, cs⟩ g w ⟨⟨hi, hmk⟩, hS⟩
  show WC _ _ _ (lf _ [(4, .int .i64 (i : Int))] _ _) _ _
  by_cases hlt : i < rs.length
  · obtain ⟨og, oo, rfl⟩ := hS.own_addr (A := OA) (n := rs.length) (List.Mem.head _) (by omega)
    obtain ⟨l0, hl0, hci, _⟩ := hmk.at_ i hlt
    have hnx := hmk.next hlt
    have hov := rwAtS hlt
    replace hS := hS.perm ((pfront hci).cons _)
    have hbk := pback (show i < cs.length by rw [hmk.len]; exact hlt) (ownRw encT 9 1 rs[i] (List.replicate rs[i].n (mT i)))
    have hrz := hz _ (List.getElem_mem hlt)
    generalize cs.set i (ownRw encT 9 1 rs[i] (List.replicate rs[i].n (mT i))) = cs2 at *
    generalize cs.eraseIdx i = R at *
    generalize rs[i] = r at *
    obtain ⟨A, n, cap⟩ := r
    dsimp only [Rw.val, ownRw] at *
    clear hmk hci
    repeat' (first
      | (show WL _ _ _ _ _ _ _; first
        | refine WL.pure rfl rfl rfl rfl ?_
        | refine WL.nil ?_)
      | (show WC _ _ _ _ _ _; first
        | refine WC.seq ?_
        | refine WC.region ?_
        | refine WC.block ?_
        | refine WC.skip ?_
        | refine WC.condT rfl (decide_eq_true (by first | with_reducible assumption | omega)) ?_)
      | refine seqQ_n ?_)
    refine WC.loop (σ := Nat × List (List UInt8)) [0, 3, 4] (fun (k, _) => [(5, .int .i64 (k : Int))]) (fun (k, l) w => (k ≤ n ∧ l.length = n ∧ l.take k = List.replicate k (mT i)) ∧ St w0 M0 w (.own (.slice (some ⟨og, oo, none⟩) rs.length oc) 56 1 rs.length (rs.flatMap encRw) :: .own (.slice A n cap) 9 1 n (l.flatMap encT) :: R) Z0) (fun (k, _) => n - k) (0, l0) ⟨⟨Nat.zero_le _, hl0, rfl⟩, hS⟩ ⟨rfl, trivial⟩ ?_
    clear hS hl0
    rintro ⟨k, l⟩ g2 w ⟨⟨hk, hll, hlk⟩, hS⟩
    show WC _ _ _ (lf _ [(5, .int .i64 (k : Int))] _ _) _ _
    by_cases hkl : k < n
    · obtain ⟨ag, ao, rfl⟩ := hS.own_addr (A := A) (n := n) (List.Mem.tail _ (List.Mem.head _)) (by omega)
      have hfs := flat_set (enc := encT) (sz := 1) (fun _ => rfl) (mT i) (l := l) (k := k) (by omega)
      have hfl := flat_len (enc := encT) (sz := 1) (fun _ => rfl) l
      have hnk : (l.set k (mT i)).take (k + 1) = List.replicate (k + 1) (mT i) := by
        rw [List.take_succ_eq_append_getElem (by rw [List.length_set]; omega), List.getElem_set_self, List.take_set_of_le (Nat.le_refl _), hlk, ← List.replicate_succ']
      have hnl : (l.set k (mT i)).length = n := by rw [List.length_set]; exact hll
      have hel : (encT (mT i)).length = 1 := rfl
      have q26 : (i : Int) % 26 = ((i % 26 : Nat) : Int) := rfl
      have hmk1 := mks_one (j := i)
      obtain ⟨HN, rfl⟩ : ∃ h : (l.set k (mT i)).take (k + 1) = List.replicate (k + 1) (mT i), h = hnk := ⟨_, rfl⟩
      clear hlk
      repeat' (first
        | (show WL _ _ _ _ _ _ _; first
          | refine WL.pure rfl rfl rfl rfl ?_
          | refine WL.nil ?_
          | refine WL.add rfl rfl rfl (by omega) rfl rfl rfl ?_
          | (refine WL.load hS rfl rfl (LdOk.ownAt (by repeat (first | exact List.Mem.head _ | apply List.Mem.tail)) rfl ⟨_, rfl⟩ hov rfl) rfl rfl rfl ?_)
          | refine WL.index rfl rfl rfl rfl (by first | with_reducible assumption | omega) rfl rfl rfl rfl ?_)
        | (show WC _ _ _ _ _ _; first
          | refine WC.seq ?_
          | refine WC.region ?_
          | refine WC.block ?_
          | refine WC.skip ?_
          | (show WC _ _ (Code.region _ (List.toArray [_, _, _, _, _, _, _, _, _, _, _, _, _, _, _]) true) _ _ _; refine WC.drawL [.own (.slice (some ⟨ag, ao, none⟩) n cap) 9 1 n (l.flatMap encT)] hS (by repeat (first | exact Pulls.nil | (apply Pulls.cons; focus (repeat (first | exact Pull.here | apply Pull.there))))) [0,1,2,3,4,5,6,7,8,9,10,11,12,13] [0,1,2,3,4,5,6,7,8,9,10,11,12,13,14] (by kernel_rfl) (by kernel_rfl) ?_; clear hS; intro w hS hM)
          | refine WC.condT rfl (decide_eq_true (by first | with_reducible assumption | omega)) ?_)
        | (show WD _ _ _ _ _ _ _ _ _; first
          | refine WD.pure rfl rfl rfl rfl rfl ?_
          | refine WD.nil ?_
          | refine WD.add rfl rfl rfl (by omega) rfl rfl rfl rfl ?_
          | (refine WD.load rfl rfl (LdOk.ownAt (by repeat (first | exact List.Mem.head _ | apply List.Mem.tail)) rfl ⟨_, rfl⟩ hov rfl) rfl rfl rfl rfl ?_)
          | (refine WD.rem (a := (i : Int)) rfl rfl rfl (by omega) (by omega) rfl rfl rfl rfl ?_; rw [q26])
          | (refine WD.midS (s := mks) (a := i % 26) (b := i % 26 + 1) rfl rfl rfl rfl (by first | rfl | exact vint (show _ = ((i % 26 + 1 : Nat) : Int) by omega)) (by omega) (by show _ ≤ 26; omega) rfl rfl rfl rfl ?_)
          | (refine WD.cat rfl rfl rfl (by show 3 + _ ≤ _; omega) rfl rfl rfl rfl ?_)
          | (refine WD.storeOwn (off := k * 1) (vs := encT (mT i)) hS rfl rfl rfl (by repeat (first | exact Repl.here | apply Repl.there)) (by rw [hfl, hel]; omega) rfl rfl (by first | exact .refl _ _ | exact .chunk (.refl _ _) _) rfl rfl rfl rfl ?_; clear hS hM; intro w hS hM; rw [hfs] at hS)
          | refine WD.index rfl rfl rfl rfl (by first | with_reducible assumption | omega) rfl rfl rfl rfl rfl ?_)
        | refine seqQ_n ?_
        | refine blkQ_n ?_)
      exact rndQ_n (k + 1, _) ⟨⟨by omega, hnl, HN⟩, hS.perm (.swap _ _ _)⟩ (by show n - (k + 1) < n - k; omega) ⟨vint (by omega), trivial⟩ ⟨rfl, rfl, rfl, trivial⟩
    · have hkn : k = n := by omega
      subst hkn
      rw [← hll, List.take_length] at hlk
      rw [hll] at hlk
      subst hlk
      replace hS := hS.perm (hbk.cons _)
      repeat' (first
        | (show WL _ _ _ _ _ _ _; first
          | refine WL.pure rfl rfl rfl rfl ?_
          | refine WL.nil ?_
          | refine WL.add rfl rfl rfl (by omega) rfl rfl rfl ?_
          | (refine WL.load hS rfl rfl (LdOk.ownAt (by repeat (first | exact List.Mem.head _ | apply List.Mem.tail)) rfl ⟨_, rfl⟩ hov rfl) rfl rfl rfl ?_)
          | refine WL.index rfl rfl rfl rfl (by first | with_reducible assumption | omega) rfl rfl rfl rfl ?_)
        | (show WC _ _ _ _ _ _; first
          | refine WC.seq ?_
          | refine WC.region ?_
          | refine WC.exit ?_
          | refine WC.condF rfl (decide_eq_false (by first | with_reducible assumption | omega)) ?_)
        | refine seqQ_n ?_
        | refine blkQ_n ?_
        | refine seqQ_x ?_
        | refine blkQ_hit rfl ?_
        | refine rndQ_x ?_)
      exact rndQ_n (i + 1, cs2) ⟨⟨by omega, hnx⟩, hS⟩ (by show rs.length - (i + 1) < rs.length - i; omega) ⟨vint (by omega), trivial⟩ ⟨rfl, rfl, trivial⟩
  · have hie : i = rs.length := by omega
    have hg := hmk.grow (nw := nT) hie
    subst hie
    clear hmk hlt hi
    replace hS := hS.nilRow 56 1
    repeat' (first
      | (show WL _ _ _ _ _ _ _; first
        | refine WL.pure rfl rfl rfl rfl ?_
        | refine WL.nil ?_)
      | (show WC _ _ _ _ _ _; first
        | refine WC.seq ?_
        | refine WC.region ?_
        | refine WC.block ?_
        | refine WC.exit ?_
        | refine WC.condF rfl (decide_eq_false (by first | with_reducible assumption | omega)) ?_)
      | refine seqQ_n ?_
      | refine seqQ_x ?_
      | refine blkQ_hit rfl ?_
      | refine rndQ_x ?_)
    refine WC.loop (σ := Nat × List Rw × Option Addr × Nat × List Chunk) [0, 3] (fun (i, ls, LA, lc, _) => [(6, .slice LA i lc), (7, .int .i64 (i : Int))]) (fun (i, ls, LA, lc, cs) w => (i ≤ rs.length ∧ GrowIs encT 9 1 mT nT rs ls cs i) ∧ St w0 M0 w (.own (.slice LA i lc) 56 1 i (ls.flatMap encRw) :: .own (.slice OA rs.length oc) 56 1 rs.length (rs.flatMap encRw) :: cs) Z0) (fun (i, _) => rs.length - i) (0, [], none, 0, cs) ⟨⟨Nat.zero_le _, hg⟩, hS⟩ ⟨rfl, rfl, trivial⟩ ?_
    clear hS hg
    rintro ⟨i, ls, LA, lc, cs⟩ g2 w ⟨⟨hi, hgr⟩, hS⟩
    show WC _ _ _ (lf _ [(6, .slice LA i lc), (7, .int .i64 (i : Int))] _ _) _ _
    by_cases hlt : i < rs.length
    · obtain ⟨og, oo, rfl⟩ := hS.own_addr (A := OA) (n := rs.length) (List.Mem.tail _ (List.Mem.head _)) (by omega)
      have hci := hgr.at_ i hlt (Nat.le_refl _)
      have hnx := fun {A2 : Option Addr} {cap2 : Nat} {fp : List Nat} => hgr.next hlt (A := A2) (cap := cap2) (fp := fp)
      have hov := rwAtS hlt
      replace hS := hS.perm (((pfront hci).cons _).cons _)
      have hbk := fun {c : Chunk} => pback (cs := cs) (i := i) (show i < cs.length by rw [hgr.len]; exact hlt) c
      have hrz := hz _ (List.getElem_mem hlt)
      have hll := hgr.llen
      generalize cs.eraseIdx i = R at *
      generalize rs[i] = r at *
      obtain ⟨A, n, cap⟩ := r
      dsimp only [Rw.val, ownRw] at *
      clear hgr hci
      repeat' (first
        | (show WL _ _ _ _ _ _ _; first
          | refine WL.pure rfl rfl rfl rfl ?_
          | refine WL.nil ?_
          | (refine WL.load hS rfl rfl (LdOk.ownAt (by repeat (first | exact List.Mem.head _ | apply List.Mem.tail)) rfl ⟨_, rfl⟩ hov rfl) rfl rfl rfl ?_)
          | refine WL.index rfl rfl rfl rfl (by first | with_reducible assumption | omega) rfl rfl rfl rfl ?_)
        | (show WC _ _ _ _ _ _; first
          | refine WC.seq ?_
          | refine WC.region ?_
          | refine WC.block ?_
          | refine WC.skip ?_
          | refine WC.condT rfl (decide_eq_true (by first | with_reducible assumption | omega)) ?_)
        | refine seqQ_n ?_)
      replace hS := ((hS.pull (.there (.there .here))).objClose (D := [_]) (φ := GrowP encT 9 1 mT nT i ⟨A, n, cap⟩ 0 A cap) (.inl ⟨rfl, rfl, by unfold grw; rw [List.replicate_zero, List.append_nil]; rfl⟩))
      refine WC.loop (σ := Nat × Option Addr × Nat) [0, 3, 6, 7] (fun (k, A2, cap2) => [(8, .slice A2 (n + k) cap2), (9, .int .i64 (k : Int))]) (fun (k, A2, cap2) w => k ≤ 20 ∧ ∃ fp, St w0 M0 w (objC (GrowP encT 9 1 mT nT i ⟨A, n, cap⟩ k A2 cap2) fp :: .own (.slice LA i lc) 56 1 i (ls.flatMap encRw) :: .own (.slice (some ⟨og, oo, none⟩) rs.length oc) 56 1 rs.length (rs.flatMap encRw) :: R) Z0) (fun (k, _) => 20 - k) (0, A, cap) ⟨Nat.zero_le _, _, hS⟩ ⟨rfl, rfl, trivial⟩ ?_
      clear hS
      rintro ⟨k, A2, cap2⟩ g3 w ⟨hk, fp, hS⟩
      show WC _ _ _ (lf _ [(8, .slice A2 (n + k) cap2), (9, .int .i64 (k : Int))] _ _) _ _
      by_cases hk20 : k < 20
      · obtain ⟨D, hD, -, hS⟩ := hS.objOpen
        have q26 : (i : Int) % 26 = ((i % 26 : Nat) : Int) := rfl
        have hmk1 := mks_one (j := i)
        have hgf := grw_flat (enc := encT) (mk := mT) (nw := nT) i n k
        clear hnx hbk hov
        rcases hD with ⟨rfl, rfl, rfl⟩ | ⟨p, rfl⟩
        · dsimp only [List.cons_append, List.nil_append] at hS
          repeat' (first
            | (show WL _ _ _ _ _ _ _; first
              | refine WL.pure rfl rfl rfl rfl ?_
              | refine WL.nil ?_
              | refine WL.add rfl rfl rfl (by omega) rfl rfl rfl ?_
              | (refine WL.rem (a := (i : Int)) rfl rfl rfl (by omega) (by omega) rfl rfl rfl ?_; rw [q26])
              | (refine WL.midS (s := mks) (i := i % 26) (j := i % 26 + 1) rfl rfl rfl rfl (by first | rfl | exact vint (show _ = ((i % 26 + 1 : Nat) : Int) by omega)) (by omega) (by show _ ≤ 26; omega) rfl rfl rfl ?_)
              | (refine WL.cat rfl rfl rfl (by show 3 + _ ≤ _; omega) rfl rfl rfl ?_)
              | (refine WL.slit (t := 56) hS rfl rfl rfl rfl rfl ?_; intro w ob hS)
              | (refine WL.appK hS rfl rfl rfl rfl (RdOk.box (by repeat (first | exact List.Mem.head _ | apply List.Mem.tail))) rfl rfl (by decide) (by repeat (first | exact Repl.here | apply Repl.there)) (by omega) rfl rfl rfl (fun w hS => ?_) (fun A3 cap3 w hS => ?_)))
            | (show WC _ _ _ _ _ _; first
              | refine WC.seq ?_
              | refine WC.region ?_
              | refine WC.block ?_
              | refine WC.skip ?_
              | refine WC.condT rfl (decide_eq_true (by first | with_reducible assumption | omega)) ?_)
            | refine seqQ_n ?_
            | refine blkQ_n ?_)
          · have hS := (hS.drop).objClose (D := [_]) (φ := GrowP encT 9 1 mT nT i ⟨A2, n, cap2⟩ (k + 1) A2 cap2) (.inl ⟨rfl, rfl, by rw [grw_flat]; rfl⟩)
            exact rndQ_n (k + 1, A2, cap2) ⟨by omega, _, hS⟩ (by show 20 - (k + 1) < 20 - k; omega) ⟨rfl, vint (by omega), trivial⟩ ⟨rfl, rfl, rfl, rfl, trivial⟩
          · have hS := ((hS.pull (.there .here)).drop).objClose (D := [_, _]) (φ := GrowP encT 9 1 mT nT i ⟨A2, n, cap2⟩ (k + 1) A3 cap3) (.inr ⟨k, by rw [grw_flat]; rfl⟩)
            exact rndQ_n (k + 1, A3, cap3) ⟨by omega, _, hS⟩ (by show 20 - (k + 1) < 20 - k; omega) ⟨rfl, vint (by omega), trivial⟩ ⟨rfl, rfl, rfl, rfl, trivial⟩
        · dsimp only [List.cons_append, List.nil_append] at hS
          repeat' (first
            | (show WL _ _ _ _ _ _ _; first
              | refine WL.pure rfl rfl rfl rfl ?_
              | refine WL.nil ?_
              | refine WL.add rfl rfl rfl (by omega) rfl rfl rfl ?_
              | (refine WL.rem (a := (i : Int)) rfl rfl rfl (by omega) (by omega) rfl rfl rfl ?_; rw [q26])
              | (refine WL.midS (s := mks) (i := i % 26) (j := i % 26 + 1) rfl rfl rfl rfl (by first | rfl | exact vint (show _ = ((i % 26 + 1 : Nat) : Int) by omega)) (by omega) (by show _ ≤ 26; omega) rfl rfl rfl ?_)
              | (refine WL.cat rfl rfl rfl (by show 3 + _ ≤ _; omega) rfl rfl rfl ?_)
              | (refine WL.slit (t := 56) hS rfl rfl rfl rfl rfl ?_; intro w ob hS)
              | (refine WL.app hS rfl rfl rfl rfl (RdOk.box (by repeat (first | exact List.Mem.head _ | apply List.Mem.tail))) rfl rfl (fun A cap => by repeat (first | exact Repl.here | apply Repl.there)) (by omega) rfl rfl rfl ?_; intro A3 cap3 w hS))
            | (show WC _ _ _ _ _ _; first
              | refine WC.seq ?_
              | refine WC.region ?_
              | refine WC.block ?_
              | refine WC.skip ?_
              | refine WC.condT rfl (decide_eq_true (by first | with_reducible assumption | omega)) ?_)
            | refine seqQ_n ?_
            | refine blkQ_n ?_)
          have hS := (hS.drop).objClose (D := [_, _]) (φ := GrowP encT 9 1 mT nT i ⟨A, n, cap⟩ (k + 1) A3 cap3) (.inr ⟨p, by rw [grw_flat]; rfl⟩)
          exact rndQ_n (k + 1, A3, cap3) ⟨by omega, _, hS⟩ (by show 20 - (k + 1) < 20 - k; omega) ⟨rfl, vint (by omega), trivial⟩ ⟨rfl, rfl, rfl, rfl, trivial⟩
      · obtain rfl : k = 20 := by omega
        have hx := @hnx A2 cap2 fp
        clear hnx hov
        repeat' (first
          | (show WL _ _ _ _ _ _ _; first
            | refine WL.pure rfl rfl rfl rfl ?_
            | refine WL.nil ?_
            | refine WL.add rfl rfl rfl (by omega) rfl rfl rfl ?_
            | (refine WL.slit (t := 62) hS rfl rfl rfl rfl rfl ?_; intro w ob hS)
            | (refine WL.app hS rfl rfl rfl rfl (RdOk.box (by repeat (first | exact List.Mem.head _ | apply List.Mem.tail))) rfl rfl (fun A cap => by repeat (first | exact Repl.here | apply Repl.there)) (by omega) rfl rfl rfl ?_; intro A3 cap3 w hS))
          | (show WC _ _ _ _ _ _; first
            | refine WC.seq ?_
            | refine WC.region ?_
            | refine WC.exit ?_
            | refine WC.condF rfl (by decide) ?_)
          | refine seqQ_n ?_
          | refine blkQ_n ?_
          | refine seqQ_x ?_
          | refine blkQ_hit rfl ?_
          | refine rndQ_x ?_)
        have hS := (((hS.drop.pull (.there (.there .here))).pull (.there (.there .here))).perm ((hbk.cons _).cons _))
        have hle : ls.flatMap encRw ++ [Value.slice A2 (n + 20) cap2] = (ls ++ [(⟨A2, n + 20, cap2⟩ : Rw)]).flatMap encRw := by rw [List.flatMap_append]; rfl
        refine rndQ_n (i + 1, ls ++ [⟨A2, n + 20, cap2⟩], A3, cap3, _) ⟨⟨by omega, hx⟩, ?_⟩ (by show rs.length - (i + 1) < rs.length - i; omega) ⟨rfl, vint (by omega), trivial⟩ ⟨rfl, rfl, trivial⟩
        rw [← hle]
        exact hS
    · have hie : i = rs.length := by omega
      have hrd := hgr.reads (hsz := fun _ => rfl) hie (by decide) hS fun c hc => List.Mem.tail _ (List.Mem.tail _ hc)
      have hro := ownAll (enc := encRw) (hsz := fun _ => rfl) (sz := 1) (by decide) (hS.holds _ (List.Mem.tail _ (List.Mem.head _))) fun b hb => (hS.inb _ (List.Mem.tail _ (List.Mem.head _)) b hb).1
      have hrl := ownAll (enc := encRw) (hsz := fun _ => rfl) (sz := 1) (by decide) (hS.holds _ (List.Mem.head _)) fun b hb => (hS.inb _ (List.Mem.head _) b hb).1
      have hll := hgr.llen
      replace hS := hS.freeze
      subst hie
      clear hgr hlt hi
      generalize w = w3 at *
      repeat' (first
        | (show WL _ _ _ _ _ _ _; first
          | refine WL.pure rfl rfl rfl rfl ?_
          | refine WL.nil ?_)
        | (show WC _ _ _ _ _ _; first
          | refine WC.seq ?_
          | refine WC.region ?_
          | refine WC.block ?_
          | refine WC.exit ?_
          | refine WC.condF rfl (decide_eq_false (by first | with_reducible assumption | omega)) ?_)
        | refine seqQ_n ?_
        | refine seqQ_x ?_
        | refine blkQ_hit rfl ?_
        | refine rndQ_x ?_)
      refine WC.loop (σ := Nat) [0, 3, 6] (fun i => [(10, .int .i64 (i : Int))]) (fun i w => i ≤ rs.length ∧ St w0 M0 w [] (⟨w3, fun b => b < w3.heap.size⟩ :: Z0)) (fun i => rs.length - i) 0 ⟨Nat.zero_le _, hS⟩ ⟨rfl, trivial⟩ ?_
      clear hS
      rintro i g4 w ⟨hi, hS⟩
      show WC _ _ _ (lf _ [(10, .int .i64 (i : Int))] _ _) _ _
      by_cases hlt : i < rs.length
      · obtain ⟨l, hli, hln, hA1, hA2⟩ := hrd i hlt
        obtain ⟨xb, xo, xs, rfl, hxF, hxr, hxe⟩ := hro.at_ hlt
        have hxe : xs = encRw rs[i] := hxe
        subst hxe
        obtain ⟨hl2, hle⟩ := List.getElem?_eq_some_iff.1 hli
        obtain ⟨yb, yo, ys, rfl, hyF, hyr, hye⟩ := hrl.at_ hl2
        have hye : ys = encRw ls[i] := hye
        rw [hle] at hye
        subst hye
        have hrz := hz _ (List.getElem_mem hlt)
        generalize rs[i] = r at *
        obtain ⟨A, n, cap⟩ := r
        obtain ⟨A2, n2, cap2⟩ := l
        dsimp only at hln hA1 hA2 hrz
        subst hln
        have hxr : w3.rangeAt xb (xo + i * 1) [.slice A n cap] := hxr
        have hyr : w3.rangeAt yb (yo + i * 1) [.slice A2 (n + 20) cap2] := hyr
        clear hrd hro hrl hli hle hz
        repeat' (first
          | (show WL _ _ _ _ _ _ _; first
            | refine WL.pure rfl rfl rfl rfl ?_
            | refine WL.nil ?_)
          | (show WC _ _ _ _ _ _; first
            | refine WC.seq ?_
            | refine WC.region ?_
            | refine WC.block ?_
            | refine WC.skip ?_
            | refine WC.condT rfl (decide_eq_true (by first | with_reducible assumption | omega)) ?_)
          | refine seqQ_n ?_)
        refine WC.loop (σ := Nat) [0, 3, 6, 10] (fun k => [(11, .int .i64 (k : Int))]) (fun k w => k ≤ n + 20 ∧ St w0 M0 w [] (⟨w3, fun b => b < w3.heap.size⟩ :: Z0)) (fun k => n + 20 - k) 0 ⟨Nat.zero_le _, hS⟩ ⟨rfl, trivial⟩ ?_
        clear hS
        rintro k g5 w ⟨hk, hS⟩
        show WC _ _ _ (lf _ [(11, .int .i64 (k : Int))] _ _) _ _
        by_cases hkl : k < n + 20
        · obtain ⟨eb, eo, es, rfl, heF, her, hee⟩ := hA2.at_ (k := k) (by simp [grw]; omega)
          have q26 : (i : Int) % 26 = ((i % 26 : Nat) : Int) := rfl
          have hmk1 := mks_one (j := i)
          have hgk := grw_at (mk := mT) (nw := nT) (j := i) hkl
          rw [List.getElem?_eq_getElem (by simp [grw]; omega)] at hgk
          have hgk := Option.some.inj hgk
          have hee : es = encT _ := hee
          rw [hgk] at hee
          by_cases hkn : k < n
          · rw [if_pos hkn] at hee
            subst hee
            have her : w3.rangeAt eb (eo + k * 1) (encT (mT i)) := her
            obtain ⟨fb, fo, es2, rfl, hfF, hfr, hfe⟩ := hA1.at_ (k := k) (by simpa using hkn)
            have hfe : es2 = encT _ := hfe
            rw [List.getElem_replicate] at hfe
            subst hfe
            have hfr : w3.rangeAt fb (fo + k * 1) (encT (mT i)) := hfr
            repeat' (first
              | (show WL _ _ _ _ _ _ _; first
                | refine WL.pure rfl rfl rfl rfl ?_
                | refine WL.nil ?_
                | refine WL.add rfl rfl rfl (by omega) rfl rfl rfl ?_
                | (refine WL.rem (a := (i : Int)) rfl rfl rfl (by omega) (by omega) rfl rfl rfl ?_; rw [q26])
                | (refine WL.midS (s := mks) (i := i % 26) (j := i % 26 + 1) rfl rfl rfl rfl (by first | rfl | exact vint (show _ = ((i % 26 + 1 : Nat) : Int) by omega)) (by omega) (by show _ ≤ 26; omega) rfl rfl rfl ?_)
                | (refine WL.cat rfl rfl rfl (by show 3 + _ ≤ _; omega) rfl rfl rfl ?_)
                | (first | (refine WL.load hS rfl rfl (LdOk.snap0 hyF hyr (by repeat (first | exact List.Mem.head _ | apply List.Mem.tail)) rfl) rfl rfl rfl ?_) | (refine WL.load hS rfl rfl (LdOk.snap0 hxF hxr (by repeat (first | exact List.Mem.head _ | apply List.Mem.tail)) rfl) rfl rfl rfl ?_) | (refine WL.load hS rfl rfl (LdOk.snap0 heF her (by repeat (first | exact List.Mem.head _ | apply List.Mem.tail)) rfl) rfl rfl rfl ?_) | (refine WL.load hS rfl rfl (LdOk.snap0 hfF hfr (by repeat (first | exact List.Mem.head _ | apply List.Mem.tail)) rfl) rfl rfl rfl ?_))
                | refine WL.index rfl rfl rfl rfl (by first | with_reducible assumption | omega) rfl rfl rfl rfl ?_
                | ((fail_if_success (refine WL.wanted rfl ?_)); refine WL.guard rfl rfl rfl (fun h => ?_) (fun h => ?_) <;> (try simp only [Classical.not_not, Bool.not_eq_true', Bool.not_eq_false', Bool.not_eq_eq_eq_not, Bool.not_true, Bool.not_false, beq_iff_eq, beq_eq_false_iff_ne, ne_eq, decide_eq_decide, decide_eq_true_eq, decide_eq_false_iff_not, Bool.and_eq_true, Bool.or_eq_true, Bool.and_eq_false_iff, Bool.or_eq_false_iff] at h) <;> (try (exfalso; first | omega | contradiction))))
              | (show WC _ _ _ _ _ _; first
                | refine WC.seq ?_
                | refine WC.region ?_
                | refine WC.block ?_
                | refine WC.skip ?_
                | refine WC.condT rfl (decide_eq_true (by first | with_reducible assumption | omega)) ?_
                | refine WC.condF rfl (decide_eq_false (by first | with_reducible assumption | omega)) ?_
                | (refine WC.cond rfl (fun h => ?_) (fun h => ?_) <;> (try simp only [Classical.not_not, Bool.not_eq_true', Bool.not_eq_false', Bool.not_eq_eq_eq_not, Bool.not_true, Bool.not_false, beq_iff_eq, beq_eq_false_iff_ne, ne_eq, decide_eq_decide, decide_eq_true_eq, decide_eq_false_iff_not, Bool.and_eq_true, Bool.or_eq_true, Bool.and_eq_false_iff, Bool.or_eq_false_iff] at h) <;> (try (exfalso; first | omega | contradiction))))
              | refine seqQ_n ?_
              | refine blkQ_n ?_)
            exact rndQ_n (k + 1) ⟨by omega, hS⟩ (by show n + 20 - (k + 1) < n + 20 - k; omega) ⟨vint (by omega), trivial⟩ ⟨rfl, rfl, rfl, rfl, trivial⟩
          · rw [if_neg hkn] at hee
            subst hee
            have her : w3.rangeAt eb (eo + k * 1) (encT (nT i)) := her
            clear hA1
            repeat' (first
              | (show WL _ _ _ _ _ _ _; first
                | refine WL.pure rfl rfl rfl rfl ?_
                | refine WL.nil ?_
                | refine WL.add rfl rfl rfl (by omega) rfl rfl rfl ?_
                | (refine WL.rem (a := (i : Int)) rfl rfl rfl (by omega) (by omega) rfl rfl rfl ?_; rw [q26])
                | (refine WL.midS (s := mks) (i := i % 26) (j := i % 26 + 1) rfl rfl rfl rfl (by first | rfl | exact vint (show _ = ((i % 26 + 1 : Nat) : Int) by omega)) (by omega) (by show _ ≤ 26; omega) rfl rfl rfl ?_)
                | (refine WL.cat rfl rfl rfl (by show 3 + _ ≤ _; omega) rfl rfl rfl ?_)
                | (first | (refine WL.load hS rfl rfl (LdOk.snap0 hyF hyr (by repeat (first | exact List.Mem.head _ | apply List.Mem.tail)) rfl) rfl rfl rfl ?_) | (refine WL.load hS rfl rfl (LdOk.snap0 hxF hxr (by repeat (first | exact List.Mem.head _ | apply List.Mem.tail)) rfl) rfl rfl rfl ?_) | (refine WL.load hS rfl rfl (LdOk.snap0 heF her (by repeat (first | exact List.Mem.head _ | apply List.Mem.tail)) rfl) rfl rfl rfl ?_) | (refine WL.load hS rfl rfl (LdOk.snap0 hfF hfr (by repeat (first | exact List.Mem.head _ | apply List.Mem.tail)) rfl) rfl rfl rfl ?_))
                | refine WL.index rfl rfl rfl rfl (by first | with_reducible assumption | omega) rfl rfl rfl rfl ?_
                | refine WL.skip rfl rfl rfl ?_
                | ((fail_if_success (refine WL.wanted rfl ?_)); refine WL.guard rfl rfl rfl (fun h => ?_) (fun h => ?_) <;> (try simp only [Classical.not_not, Bool.not_eq_true', Bool.not_eq_false', Bool.not_eq_eq_eq_not, Bool.not_true, Bool.not_false, beq_iff_eq, beq_eq_false_iff_ne, ne_eq, decide_eq_decide, decide_eq_true_eq, decide_eq_false_iff_not, Bool.and_eq_true, Bool.or_eq_true, Bool.and_eq_false_iff, Bool.or_eq_false_iff] at h) <;> (try (exfalso; first | omega | contradiction))))
              | (show WC _ _ _ _ _ _; first
                | refine WC.seq ?_
                | refine WC.region ?_
                | refine WC.block ?_
                | refine WC.skip ?_
                | refine WC.condF rfl (by with_reducible rfl) ?_
                | refine WC.condT rfl (decide_eq_true (by first | with_reducible assumption | omega)) ?_)
              | refine seqQ_n ?_
              | refine blkQ_n ?_)
            exact rndQ_n (k + 1) ⟨by omega, hS⟩ (by show n + 20 - (k + 1) < n + 20 - k; omega) ⟨vint (by omega), trivial⟩ ⟨rfl, rfl, rfl, rfl, trivial⟩
        · repeat' (first
            | (show WL _ _ _ _ _ _ _; first
              | refine WL.pure rfl rfl rfl rfl ?_
              | refine WL.nil ?_
              | refine WL.add rfl rfl rfl (by omega) rfl rfl rfl ?_
              | (first | (refine WL.load hS rfl rfl (LdOk.snap0 hyF hyr (by repeat (first | exact List.Mem.head _ | apply List.Mem.tail)) rfl) rfl rfl rfl ?_) | (refine WL.load hS rfl rfl (LdOk.snap0 hxF hxr (by repeat (first | exact List.Mem.head _ | apply List.Mem.tail)) rfl) rfl rfl rfl ?_) | (refine WL.load hS rfl rfl (LdOk.snap0 heF her (by repeat (first | exact List.Mem.head _ | apply List.Mem.tail)) rfl) rfl rfl rfl ?_) | (refine WL.load hS rfl rfl (LdOk.snap0 hfF hfr (by repeat (first | exact List.Mem.head _ | apply List.Mem.tail)) rfl) rfl rfl rfl ?_))
              | refine WL.index rfl rfl rfl rfl (by first | with_reducible assumption | omega) rfl rfl rfl rfl ?_)
            | (show WC _ _ _ _ _ _; first
              | refine WC.seq ?_
              | refine WC.region ?_
              | refine WC.exit ?_
              | refine WC.condF rfl (decide_eq_false (by first | with_reducible assumption | omega)) ?_)
            | refine seqQ_n ?_
            | refine blkQ_n ?_
            | refine seqQ_x ?_
            | refine blkQ_hit rfl ?_
            | refine rndQ_x ?_)
          exact rndQ_n (i + 1) ⟨by omega, hS⟩ (by show rs.length - (i + 1) < rs.length - i; omega) ⟨vint (by omega), trivial⟩ ⟨rfl, rfl, rfl, trivial⟩
      · repeat' (first
          | (show WL _ _ _ _ _ _ _; first
            | refine WL.pure rfl rfl rfl rfl ?_
            | refine WL.nil ?_)
          | (show WC _ _ _ _ _ _; first
            | refine WC.seq ?_
            | refine WC.region ?_
            | refine WC.exit ?_
            | refine WC.ret ?_
            | refine WC.condF rfl (decide_eq_false (by first | with_reducible assumption | omega)) ?_)
          | refine seqQ_n ?_
          | refine seqQ_x ?_
          | refine blkQ_hit rfl ?_
          | refine rndQ_x ?_)
        exact fin1r rfl rfl ⟨rfl, hfp (hS.less fun z hz => List.mem_cons_of_mem _ hz)⟩
end Go.Proofs.YtccfiohagbneaaaGreatDoor
