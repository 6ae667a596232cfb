/- What is proved: contracts and plain facts that the law leans on (texts put together). Conditions: as each names them. -/
import Derived.Test.YtlfhglcccmghlaaGreatDoorM3
import Derived.Test.YtlfhglcccmghlaaGreatDoorProg
import Derived.Lib.Bytealg
set_option linter.unusedSimpArgs false
set_option linter.unusedVariables false
set_option linter.unusedSectionVars false
/- What is proved: what a function that is known by heart needs: rows that are new, blocks that were touched and say the same. Conditions: none. -/
set_option linter.unusedSimpArgs false
set_option linter.unusedVariables false
namespace Go.J
open Go Go.RowKit
section
variable {ρ : En} {H : AH} {w0 w w' : World}
theorem Rl.touch {bs fp : List Nat} (h : Rl ρ H w0 w) (hu : Upd fp w w') (hfp : ∀ b ∈ fp, ∃ nm ∈ bs, ∃ L ob, ρ nm = some L ∧ L.blk = b ∧ H.get nm = some ob) (hob : ∀ nm ∈ bs, ∀ ob L, H.get nm = some ob → ρ nm = some L → ObOk ρ L ob w') :
    Rl ρ ⟨H.t, H.nx, bs ++ H.wr⟩ w0 w' ∧ Frm ρ H w ⟨H.t, H.nx, bs ++ H.wr⟩ w' := by
  have key : ∀ c o L, c ∉ bs → H.get c = some o → ρ c = some L → w'.heap[L.blk]? = w.heap[L.blk]? := fun c o L hc e hL => by
    obtain ⟨L', k1, _, k3, _⟩ := h.ob c o e
    rw [k1] at hL; cases hL
    refine hu.block _ k3 fun hm => hc ?_
    obtain ⟨nm, h1, K, ob, h2, h3, h4⟩ := hfp _ hm
    rw [h.inj c nm o ob _ e h4 _ k1 h2 h3.symm]
    exact h1
  refine ⟨⟨h.upds hu fun b hb => ?_, h.fin, fun c o e => ?_, h.inj⟩, ⟨fun b hb => List.mem_append_right _ hb, Nat.le_refl _, fun _ _ _ => rfl, fun c o L e hL hn => key c o L (fun hm => hn (List.mem_append_left _ hm)) e hL, hu.size⟩⟩
  · obtain ⟨nm, h1, K, ob, h2, h3, h4⟩ := hfp _ hb
    obtain ⟨L', k1, k2, _⟩ := h.ob nm ob h4
    rw [h2] at k1; cases k1
    omega
  · obtain ⟨L, k1, k2, k3, k4⟩ := h.ob c o e
    refine ⟨L, k1, k2, Nat.lt_of_lt_of_le k3 hu.size, ?_⟩
    by_cases hc : c ∈ bs
    · exact hob c hc o L e k1
    · exact k4.loc (key c o L hc e k1)
/-- a row that is handed back -/
def rowRes (H : AH) (e : TypeId) : List Value → Value × AH
  | [] => (emp, H)
  | v :: l => (.slice (some ⟨H.nx, 0, none⟩) (l.length + 1) (l.length + 1), H.new (.own e 1 (l.length + 1) (v :: l)))
theorem rowRes_wr {H : AH} {e : TypeId} {l : List Value} : ∀ b ∈ H.wr, b ∈ (rowRes H e l).2.wr := by
  cases l <;> exact fun _ h => h
theorem rowRes_ok {n : Nat} {A : Option Addr} {cap : Nat} {e : TypeId} {l : List Value} (hR : Rl ρ H w0 w') (hz : ∀ c o L, H.get c = some o → ρ c = some L → L.blk < n) (h0 : w0.heap.size ≤ n) (hcl : ∀ v ∈ l, cloV v = true) (hown : RowAt w' e 1 (.slice A l.length cap) l.length l) (hfp : ∀ b ∈ (Chunk.own (.slice A l.length cap) e 1 l.length l).fp, n ≤ b ∧ b < w'.heap.size) :
    ∃ ρ', ρ.le ρ' ∧ Vr ρ' (rowRes H e l).1 (.slice A l.length cap) ∧ Rl ρ' (rowRes H e l).2 w0 w' ∧ Frm ρ H w' (rowRes H e l).2 w' := by
  cases l with
  | nil => exact ⟨ρ, .refl _, .emp, hR, .refl _ _ _⟩
  | cons v l =>
    obtain ⟨hl, h2⟩ := hown
    rcases h2 with ⟨h2, h3⟩ | ⟨g, off, cap', cur, he, hh, hnc, hcm, hcs, ht⟩
    · simp at h3
    · simp only [Value.slice.injEq] at he
      obtain ⟨rfl, _, rfl⟩ := he
      have hb := hfp g (by simp [Chunk.fp, Value.ownBlock])
      have hcap : (v :: l).length + (cap - (v :: l).length) = cap := by omega
      obtain ⟨k1, k2, k3⟩ := hR.new (L := ⟨g, off, cap - (v :: l).length⟩) (o := .own e 1 (l.length + 1) (v :: l)) (fp := []) (.refl _ _) (by simp) (fun c p K e1 hK => ⟨by simp, by have := hz c p K e1 hK; show K.blk ≠ g; omega⟩) (Nat.le_trans h0 hb.1) hb.2
        ⟨v :: l, Vrs.self hcl, hl, .inr ⟨g, off, _, cur, rfl, hh, by show l.length + 1 ≤ l.length + 1 + (cap - (v :: l).length); omega, by have := hcap; simp only [List.length_cons] at this ⊢; rw [this]; exact hcm, by have := hcap; simp only [List.length_cons] at this ⊢; rw [this]; exact hcs, ht⟩⟩
      refine ⟨_, k1, ?_, k2, k3⟩
      have := Vr.slc (ρ := ρ.up H.nx ⟨g, off, cap - (v :: l).length⟩) (b := H.nx) (o := 0) (n := l.length + 1) (c := l.length + 1) En.up_at
      simp only [List.length_cons, Nat.add_zero] at this hcap ⊢
      rw [hcap] at this
      exact this
/-- a box and a map, as a contract wants them -/
theorem boxMap_in (hR : Rl ρ H w0 w) {q mb : Nat} {ty : TypeId} {cs : List Value} {m : List (List UInt8 × Value)} {Lq Lm : Loc} (hq : H.get q = some (.box ty cs)) (hm : H.get mb = some (.mapS m)) (hLq : ρ q = some Lq) (hLm : ρ mb = some Lm) :
    ∃ cs' m', Vrs ρ cs cs' ∧ Mr ρ m m' ∧ Lq.sh = 0 ∧ Lq.ex = 0 ∧ InL w [.box Lq.blk ty cs', mapC Lm.blk m'] := by
  obtain ⟨b1, s1, s2, cs', r1, r2⟩ := hR.at hq hLq
  obtain ⟨b2, m', q1, q2⟩ := hR.at hm hLm
  have hne : Lq.blk ≠ Lm.blk := fun e => by
    have := hR.inj q mb _ _ Lq hq hm _ hLq hLm e
    subst this
    rw [hq] at hm; cases hm
  refine ⟨cs', m', r1, q1, s1, s2, fun c hc => ?_, fun c hc => ?_, ?_⟩
  · simp only [List.mem_cons, List.not_mem_nil, or_false] at hc
    rcases hc with rfl | rfl
    · exact r2
    · exact ⟨q2, MapIs.local⟩
  · simp only [List.mem_cons, List.not_mem_nil, or_false] at hc
    rcases hc with rfl | rfl
    · intro b hb; simp [Chunk.fp] at hb; subst hb; exact b1
    · intro b hb; simp [Chunk.fp] at hb; subst hb; exact b2
  · simp [Chunk.apart, Chunk.fp, hne]
theorem boxMap_row (hR : Rl ρ H w0 w) {q mb : Nat} {ty e : TypeId} {cs cs' : List Value} {m m' : List (List UInt8 × Value)} {Lq Lm : Loc} (hq : H.get q = some (.box ty cs)) (hm : H.get mb = some (.mapS m)) (hLq : ρ q = some Lq) (hLm : ρ mb = some Lm) (r1 : Vrs ρ cs cs') (r2 : Mr ρ m m') (s1 : Lq.sh = 0) (s2 : Lq.ex = 0)
    {A : Option Addr} {cap : Nat} {l : List Value} (h : MutL w w' [.box Lq.blk ty cs', mapC Lm.blk m'] [.box Lq.blk ty cs', mapC Lm.blk m', .own (.slice A l.length cap) e 1 l.length l]) (hcl : ∀ v ∈ l, cloV v = true) :
    ∃ ρ', ρ.le ρ' ∧ Vr ρ' (rowRes ⟨H.t, H.nx, [q, mb] ++ H.wr⟩ e l).1 (.slice A l.length cap) ∧ Rl ρ' (rowRes ⟨H.t, H.nx, [q, mb] ++ H.wr⟩ e l).2 w0 w' ∧ Frm ρ H w (rowRes ⟨H.t, H.nx, [q, mb] ++ H.wr⟩ e l).2 w' := by
  obtain ⟨hR1, hF1⟩ := hR.touch (bs := [q, mb]) h.upd (fun b hb => by
    simp only [fps, List.flatMap_cons, List.flatMap_nil, Chunk.fp, List.mem_append, List.mem_cons, List.not_mem_nil, or_false] at hb
    rcases hb with rfl | rfl
    · exact ⟨q, by simp, Lq, _, hLq, rfl, hq⟩
    · exact ⟨mb, by simp, Lm, _, hLm, rfl, hm⟩) (fun nm hnm ob L e1 e2 => by
    simp only [List.mem_cons, List.not_mem_nil, or_false] at hnm
    rcases hnm with rfl | rfl
    · rw [hq] at e1; cases e1
      rw [hLq] at e2; cases e2
      exact ⟨s1, s2, cs', r1, h.holds (.box Lq.blk ty cs') (by simp)⟩
    · rw [hm] at e1; cases e1
      rw [hLm] at e2; cases e2
      exact ⟨m', r2, (h.holds (mapC Lm.blk m') (by simp)).1⟩)
  have hd := h.disj
  simp only [List.pairwise_cons] at hd
  obtain ⟨ρ', g1, g2, g3, g4⟩ := rowRes_ok (n := w.heap.size) (l := l) (A := A) (cap := cap) (e := e) hR1 (fun c o L e hL => by
    obtain ⟨L', k1, _, k3, _⟩ := hR.ob c o e
    rw [k1] at hL; cases hL; exact k3) hR.upd.size hcl (h.holds (.own (.slice A l.length cap) e 1 l.length l) (by simp)) (fun b hb => by
    rcases h.fp (.own (.slice A l.length cap) e 1 l.length l) (by simp) b hb with hf | hf
    · exfalso
      obtain ⟨c, hc, hcb⟩ := mem_fps.1 hf
      simp only [List.mem_cons, List.not_mem_nil, or_false] at hc
      rcases hc with rfl | rfl
      · exact hd.1 _ (by simp) b hcb hb
      · exact hd.2.1 _ (by simp) b hcb hb
    · exact hf)
  exact ⟨ρ', g1, g2, g3, .trans hR (.refl _) hF1 g4⟩
theorem boxMap_same (hR : Rl ρ H w0 w) {q mb : Nat} {ty : TypeId} {cs cs' : List Value} {m m' : List (List UInt8 × Value)} {Lq Lm : Loc} (hq : H.get q = some (.box ty cs)) (hm : H.get mb = some (.mapS m)) (hLq : ρ q = some Lq) (hLm : ρ mb = some Lm) (r1 : Vrs ρ cs cs') (r2 : Mr ρ m m') (s1 : Lq.sh = 0) (s2 : Lq.ex = 0)
    (h : MutL w w' [.box Lq.blk ty cs', mapC Lm.blk m'] [.box Lq.blk ty cs', mapC Lm.blk m']) : Rl ρ ⟨H.t, H.nx, [q, mb] ++ H.wr⟩ w0 w' ∧ Frm ρ H w ⟨H.t, H.nx, [q, mb] ++ H.wr⟩ w' :=
  hR.touch (bs := [q, mb]) h.upd (fun b hb => by
    simp only [fps, List.flatMap_cons, List.flatMap_nil, Chunk.fp, List.mem_append, List.mem_cons, List.not_mem_nil, or_false] at hb
    rcases hb with rfl | rfl
    · exact ⟨q, by simp, Lq, _, hLq, rfl, hq⟩
    · exact ⟨mb, by simp, Lm, _, hLm, rfl, hm⟩) (fun nm hnm ob L e1 e2 => by
    simp only [List.mem_cons, List.not_mem_nil, or_false] at hnm
    rcases hnm with rfl | rfl
    · rw [hq] at e1; cases e1
      rw [hLq] at e2; cases e2
      exact ⟨s1, s2, cs', r1, h.holds (.box Lq.blk ty cs') (by simp)⟩
    · rw [hm] at e1; cases e1
      rw [hLm] at e2; cases e2
      exact ⟨m', r2, (h.holds (mapC Lm.blk m') (by simp)).1⟩)
end
end Go.J

/- What is proved: plain facts on joined paths and on the order of paths as texts. Conditions: none. -/
set_option linter.unusedSimpArgs false
set_option linter.unusedVariables false
namespace Go.J
open Go

theorem splitA_app (q : List UInt8) : ∀ (p one : List UInt8), splitA one (p ++ 47 :: q) = splitA one p ++ splitA [] q
  | [], one => by simp [splitA]
  | c :: p, one => by
    by_cases h : c = 47
    · subst h; simp [splitA, splitA_app q p]
    · simp [splitA, h, splitA_app q p]
theorem names_ne {p : List UInt8} (h : (splitL p).all nameB = true) : p ≠ [] := by
  rintro rfl
  simp [splitL, splitA, nameB] at h
theorem splitL_app (p q : List UInt8) : splitL (p ++ [47] ++ q) = splitL p ++ splitL q := by
  unfold splitL; rw [List.append_assoc]; exact splitA_app q p []
theorem lastL_no (s : List UInt8) : ∀ (k : Nat), k ≤ s.length → ∀ i : Nat, lastL s k < (i : Int) → i < k → s[i]? ≠ some 47
  | 0, _, i, _, hi => absurd hi (Nat.not_lt_zero _)
  | k + 1, hk, i, h, hi => by
    simp only [lastL] at h
    split at h
    · omega
    · rename_i hne
      by_cases e : i = k
      · subst e; exact hne
      · exact lastL_no s k (by omega) i h (by omega)
theorem lastL_at (s : List UInt8) : ∀ (k m : Nat), lastL s k = (m : Int) → s[m]? = some 47
  | 0, m, h => by simp only [lastL] at h; omega
  | k + 1, m, h => by
    simp only [lastL] at h
    split at h
    · rename_i h2; have : k = m := by omega
      subst this; exact h2
    · exact lastL_at s k m h
theorem count_none (s : List UInt8) (h : ∀ i, i < s.length → s[i]? ≠ some 47) : s.count 47 = 0 := by
  rw [List.count_eq_zero]
  intro hm
  obtain ⟨i, hi, he⟩ := List.mem_iff_getElem.1 hm
  exact h i hi (by rw [List.getElem?_eq_getElem hi, he])

/-- a path is its parent and its last name -/
theorem parts (p : List UInt8) (h : (splitL p).all nameB = true) : joinE (parentE p) (baseE p) = p ∧ nameB (baseE p) = true ∧ underB p (parentE p) = true := by
  have hg := lastE_ge p
  by_cases h0 : lastE p < 0
  · have e1 : lastE p = -1 := by omega
    have e2 : parentE p = [] := by unfold parentE; rw [e1]; rfl
    have e3 : baseE p = p := by unfold baseE; rw [e1]; rfl
    have hn : p.count 47 = 0 := count_none p fun i hi => lastL_no p p.length (Nat.le_refl _) i (by show lastE p < _; omega) hi
    rw [e2, e3]
    refine ⟨by simp [joinE], ?_, by simp [underB]⟩
    unfold splitL at h
    rw [splitA_none p hn] at h
    simpa using h
  · obtain ⟨m, hm⟩ := Int.eq_ofNat_of_zero_le (show 0 ≤ lastE p by omega)
    have hat := lastL_at p p.length m hm
    have hlt : m < p.length := (List.getElem?_eq_some_iff.1 hat).1
    have hpm : p[m] = 47 := (List.getElem?_eq_some_iff.1 hat).2
    have e2 : parentE p = p.take m := by unfold parentE; rw [hm]; rfl
    have e3 : baseE p = p.drop (m + 1) := by unfold baseE; rw [hm]; rfl
    have hp : p = p.take m ++ [47] ++ p.drop (m + 1) := by
      rw [List.append_assoc]
      show p = p.take m ++ 47 :: p.drop (m + 1)
      rw [← hpm, ← List.drop_eq_getElem_cons hlt]; exact (List.take_append_drop m p).symm
    have hn : (p.drop (m + 1)).count 47 = 0 := count_none _ fun i hi => by
      rw [List.getElem?_drop]
      simp only [List.length_drop] at hi
      exact lastL_no p p.length (Nat.le_refl _) (m + 1 + i) (by show lastE p < _; omega) (by omega)
    have hs : splitL p = splitL (p.take m) ++ [p.drop (m + 1)] := by
      conv => lhs; rw [hp]
      rw [splitL_app]
      congr 1
      unfold splitL
      rw [splitA_none _ hn]; rfl
    rw [hs, List.all_append, Bool.and_eq_true] at h
    have hne := names_ne h.1
    have hb : nameB (p.drop (m + 1)) = true := by simpa using h.2
    have hbn : p.drop (m + 1) ≠ [] := by intro e; rw [e] at hb; simp [nameB] at hb
    rw [e2, e3]
    refine ⟨?_, hb, ?_⟩
    · unfold joinE
      rw [if_neg hne, if_neg hbn]; exact hp.symm
    · unfold underB
      have hl : (p.take m).length = m := by simp; omega
      have : p.take ((p.take m).length + 1) = p.take m ++ [47] := by rw [hl, List.take_succ_eq_append_getElem hlt, hpm]
      rw [decide_eq_true this, Bool.or_true]
/-! ## the order -/
end Go.J

/- What is proved: what the program's disk answers and holds. Conditions: as each names them. -/
set_option linter.unusedSimpArgs false
set_option linter.unusedVariables false
namespace Go.Proofs.YtlfhglcccmghlaaGreatDoor
open Go Go.J Go.RowKit

structure It where
  dir : Bool
  data : List UInt8
  kept : List UInt8
  loose : Bool
  anew : Bool
  stamp : Int
def It0 : It := ⟨false, [], [], false, false, 0⟩
@[reducible] def encIt (x : It) : Value := .agg ⟨[.bool x.dir, str x.data, str x.kept, .bool x.loose, .bool x.anew, .int .i64 x.stamp]⟩
@[reducible] def encI (n : Int) : Value := .int .i64 n
structure Dk where
  items : List (List UInt8 × It)
  limits : List (List UInt8 × Int)
  steps : Int
  stamps : Int
  armed : Int
  down : Bool
abbrev dkCells (mb lb : Nat) (D : Dk) : List Value := [.map (some mb), .map (some lb), .int .i64 D.steps, .int .i64 D.stamps, .int .i64 D.armed, .bool D.down]
/-- a disk -/
def DkIs (b mb lb : Nat) (D : Dk) (w : World) : Prop := b ≠ mb ∧ b ≠ lb ∧ mb ≠ lb ∧ w.heap[b]? = some (.cells ⟨dkCells mb lb D⟩ 62 (0, 0)) ∧ MapIs mb (mmap encIt D.items) w ∧ MapIs lb (mmap encI D.limits) w
theorem DkIs.local {b mb lb : Nat} {D : Dk} : Local [b, mb, lb] (DkIs b mb lb D) := fun w w' h ⟨h1, h2, h3, hb, hm, hl⟩ =>
  ⟨h1, h2, h3, (h b (by simp)).trans hb, MapIs.local w w' (fun b hb => h b (by simp at hb; simp [hb])) hm, MapIs.local w w' (fun b hb => h b (by simp at hb; simp [hb])) hl⟩
abbrev dkC (b mb lb : Nat) (D : Dk) : Chunk := .obj [b, mb, lb] (DkIs b mb lb D)
/-- what stands at a path -/
def Dk.at (D : Dk) (p : List UInt8) : It := (mget D.items p).getD It0
def Dk.has (D : Dk) (p : List UInt8) : Bool := (mget D.items p).isSome

def Dk.may (D : Dk) (p : List UInt8) (names : Int) : Int := if D.down then 14 else if checkE p 6 ≠ 0 then 10 else if deepE p ≤ names then 10 else 0
def Dk.under (D : Dk) (p : List UInt8) : Bool := if deepE p = 1 then true else (D.at (parentE p)).dir
def Dk.stepE (D : Dk) : Int := if D.armed = 0 then 14 else 0
def Dk.step (D : Dk) : Dk := if D.armed = 0 then { D with armed := -1, down := true } else { D with armed := if 0 < D.armed then IntKind.i64.wrap (D.armed - 1) else D.armed, steps := IntKind.i64.wrap (D.steps + 1) }
def Dk.set (D : Dk) (p : List UInt8) (x : It) : Dk := { D with stamps := IntKind.i64.wrap (D.stamps + 1), items := mset D.items p { x with stamp := IntKind.i64.wrap (D.stamps + 1) } }
/-! ## volumes and room -/
def volE (p : List UInt8) : List UInt8 := if Lib.indexByte p 47 < 0 then p else p.take (Lib.indexByte p 47).toNat
theorem indexByte_le (s : List UInt8) (c : UInt8) : -1 ≤ Lib.indexByte s c ∧ Lib.indexByte s c < s.length := by
  by_cases h : 0 < s.count c
  · obtain ⟨j, h1, h2, _⟩ := indexByte_spec s c h
    rw [h1]; omega
  · have h : s.count c = 0 := by omega
    induction s with
    | nil => simp [Lib.indexByte]
    | cons a s ih =>
      rw [List.count_cons] at h
      have ha : (a == c) = false := by
        cases hac : a == c with
        | false => rfl
        | true => rw [hac] at h; simp at h
      have := ih (by omega)
      unfold Lib.indexByte
      rw [ha]
      simp only [Bool.false_eq_true, if_false, List.length_cons]
      split <;> omega
set_option maxHeartbeats 4000000 in
set_option maxRecDepth 100000 in
theorem scut_c (s : List UInt8) (c : UInt8) (w0 : World) (hl : s.length ≤ 1099511627776) : Cal Tryz.prog 124 [str s, str [c]] w0 (fun v w' => Upd [] w0 w' ∧ ∃ after found, v = .tuple #[str (if Lib.indexByte s c < 0 then s else s.take (Lib.indexByte s c).toNat), str after, .bool found]) := by
  refine Cal.mk' (by kernel_rfl) Tryz.func124 rfl rfl fun hS => ?_
  have hle := indexByte_le s c
  by_cases hn : Lib.indexByte s c < 0
  · rw [if_pos hn]
    repeat' (first
      | (show WL _ _ _ _ _ _ _; first
        | refine WL.pure rfl rfl rfl rfl ?_
        | refine WL.nil ?_
        | (refine WL.calls hS rfl rfl (sindex_c s c _) rfl rfl rfl ?_; rintro v w rfl hS))
      | (show WC _ _ _ _ _ _; first
        | refine WC.seq ?_
        | refine WC.region ?_
        | refine WC.skip ?_
        | refine WC.ret ?_
        | refine WC.condF rfl (decide_eq_false (by first | with_reducible assumption | omega)) ?_)
      | refine seqQ_n ?_)
    exact fin3r rfl rfl rfl rfl ⟨hS.upd, _, _, rfl⟩
  · rw [if_neg hn]
    obtain ⟨j, hj⟩ := Int.eq_ofNat_of_zero_le (show 0 ≤ Lib.indexByte s c by omega)
    rw [hj] at hle ⊢
    have hj1 : Int.ofNat j + (([c] : List UInt8).length : Int) = Int.ofNat (j + 1) := rfl
    have hlc : ([c] : List UInt8).length = 1 := rfl
    repeat' (first
      | (show WL _ _ _ _ _ _ _; first
        | refine WL.pure rfl rfl rfl rfl ?_
        | refine WL.nil ?_
        | (refine WL.calls hS rfl rfl (sindex_c s c _) rfl rfl rfl ?_; rintro v w rfl hS; rw [hj]))
      | (show WC _ _ _ _ _ _; first
        | refine WC.seq ?_
        | refine WC.region ?_
        | refine WC.ret ?_
        | (show WC _ _ (Code.region _ (List.toArray [_, _, _, _, _, _, _, _, _, _, _, _]) true) _ _ _; refine WC.drawS hS [0, 1, 2, 3, 4, 5, 6, 7, 8, 9, 10, 11] [0, 1, 2, 3, 4, 5, 6, 7, 8, 9, 10, 11] (by kernel_rfl) (by kernel_rfl) ?_; clear hS; intro w hS hM)
        | refine WC.condT rfl (decide_eq_true (by first | with_reducible assumption | omega)) ?_)
      | (show WD _ _ _ _ _ _ _ _ _; first
        | refine WD.pure rfl rfl rfl rfl rfl ?_
        | refine WD.nil ?_
        | refine WD.add rfl rfl rfl (by omega) rfl rfl rfl rfl ?_
        | (refine WD.highS (j := j) rfl rfl rfl rfl (by omega) rfl rfl rfl rfl ?_)
        | (refine WD.lowS (j := j + 1) rfl rfl rfl (congrArg (Value.int .i64) hj1) (by omega) rfl rfl rfl rfl ?_))
      | refine seqQ_n ?_
      | refine seqQ_r ?_)
    exact fin3r rfl rfl rfl rfl ⟨hS.upd, _, _, rfl⟩
set_option maxHeartbeats 4000000 in
set_option maxRecDepth 100000 in
theorem cut_c (s : List UInt8) (c : UInt8) (w0 : World) (hl : s.length ≤ 1099511627776) : Cal Tryz.prog 58 [str s, str [c]] w0 (fun v w' => Upd [] w0 w' ∧ ∃ after found, v = .tuple #[str (if Lib.indexByte s c < 0 then s else s.take (Lib.indexByte s c).toNat), str after, .bool found]) := by
  refine Cal.mk' (by kernel_rfl) Tryz.func58 rfl rfl fun hS => ?_
  repeat' (first
    | (show WL _ _ _ _ _ _ _; first
      | refine WL.pure rfl rfl rfl rfl ?_
      | refine WL.nil ?_
      | (refine WL.calls hS rfl rfl (scut_c s c _ hl) rfl rfl rfl ?_; rintro v w ⟨after, found, rfl⟩ hS))
    | (show WC _ _ _ _ _ _; first
      | refine WC.seq ?_
      | refine WC.region ?_
      | refine WC.ret ?_)
    | refine seqQ_n ?_)
  exact fin3r rfl rfl rfl rfl ⟨hS.upd, _, _, rfl⟩
set_option maxHeartbeats 4000000 in
set_option maxRecDepth 100000 in
theorem volume_c (p : List UInt8) (w0 : World) (hl : p.length ≤ 1099511627776) : Cal Tryz.prog 187 [str p] w0 (fun v w' => Upd [] w0 w' ∧ v = str (volE p)) := by
  refine Cal.mk' (by kernel_rfl) Tryz.func187 rfl rfl fun hS => ?_
  repeat' (first
    | (show WL _ _ _ _ _ _ _; first
      | refine WL.pure rfl rfl rfl rfl ?_
      | refine WL.nil ?_
      | (refine WL.calls hS rfl rfl (cut_c p 47 _ hl) rfl rfl rfl ?_; rintro v w ⟨after, found, rfl⟩ hS))
    | (show WC _ _ _ _ _ _; first
      | refine WC.seq ?_
      | refine WC.region ?_
      | refine WC.ret ?_)
    | refine seqQ_n ?_)
  exact fin1r rfl rfl ⟨hS.upd, rfl⟩
end Go.Proofs.YtlfhglcccmghlaaGreatDoor

/- What is proved: what the program's disk answers and holds: made, asked, a folder made. Conditions: as each names them. -/
set_option linter.unusedSimpArgs false
set_option linter.unusedVariables false
namespace Go.Proofs.YtlfhglcccmghlaaGreatDoor
open Go Go.J Go.RowKit

def Dk0 : Dk := ⟨[], [], 0, 0, -1, false⟩
def Dk.kind (D : Dk) (p : List UInt8) : Int := if D.has p then (if (D.at p).dir then 1 else 2) else 0
def Dk.file (D : Dk) (p : List UInt8) : Int := if D.may p 1 ≠ 0 then D.may p 1 else if D.has p then (if (D.at p).dir then 12 else 0) else 11
/-- the answer, and the disk behind it -/
def Dk.mkdir (D : Dk) (p : List UInt8) : Int × Dk := if D.may p 0 ≠ 0 then (D.may p 0, D) else if D.under p = false then (11, D) else if D.has p = true ∧ (D.at p).dir = false then (12, D) else if D.stepE ≠ 0 then (D.stepE, D.step) else (0, { D.step with items := mset D.step.items p { It0 with dir := true } })
end Go.Proofs.YtlfhglcccmghlaaGreatDoor

/- What is proved: what the program's disk answers and holds: room, texts read, written, grown, made sure of, renamed. Conditions: no limit at the volume. -/
set_option linter.unusedSimpArgs false
set_option linter.unusedVariables false
namespace Go.Proofs.YtlfhglcccmghlaaGreatDoor
open Go Go.J Go.RowKit

def Dk.append (D : Dk) (p data : List UInt8) : Int × Dk := if D.file p ≠ 0 then (D.file p, D) else if D.stepE ≠ 0 then (D.stepE, D.step) else (0, D.step.set p { D.step.at p with data := (D.step.at p).data ++ data, loose := true })
end Go.Proofs.YtlfhglcccmghlaaGreatDoor

/- What is proved: what the program's disk answers and holds: bytes made sure of. Conditions: none. -/
set_option linter.unusedSimpArgs false
set_option linter.unusedVariables false
namespace Go.Proofs.YtlfhglcccmghlaaGreatDoor
open Go Go.J Go.RowKit

def Dk.sync (D : Dk) (p : List UInt8) : Int × Dk := if D.file p ≠ 0 then (D.file p, D) else if D.stepE ≠ 0 then (D.stepE, D.step) else (0, { D.step with items := mset D.step.items p { D.step.at p with kept := (D.step.at p).data, loose := false, anew := false } })
end Go.Proofs.YtlfhglcccmghlaaGreatDoor

/- What is proved: what the program's disk answers and holds: a text written. Conditions: no limit at the volume. -/
set_option linter.unusedSimpArgs false
set_option linter.unusedVariables false
namespace Go.Proofs.YtlfhglcccmghlaaGreatDoor
open Go Go.J Go.RowKit

def Dk.write (D : Dk) (p data : List UInt8) : Int × Dk := if D.may p 1 ≠ 0 then (D.may p 1, D) else if D.under p = false then (11, D) else if (D.at p).dir = true then (12, D) else if D.stepE ≠ 0 then (D.stepE, D.step) else (0, D.step.set p { D.at p with data := data, loose := true, anew := true })
end Go.Proofs.YtlfhglcccmghlaaGreatDoor

/- What is proved: what the program's disk answers: a text read. Conditions: none. -/
set_option linter.unusedSimpArgs false
set_option linter.unusedVariables false
namespace Go.Proofs.YtlfhglcccmghlaaGreatDoor
open Go Go.J Go.RowKit

def Dk.read (D : Dk) (p : List UInt8) : List UInt8 × Int := if D.down = true then ([], 14) else if D.has p = false then ([], 11) else if (D.at p).dir = true then ([], 12) else ((D.at p).data, 0)
end Go.Proofs.YtlfhglcccmghlaaGreatDoor

/- What is proved: what the program's disk answers and holds: a file in another one's place. Conditions: no limit at the volume. -/
set_option linter.unusedSimpArgs false
set_option linter.unusedVariables false
namespace Go.Proofs.YtlfhglcccmghlaaGreatDoor
open Go Go.J Go.RowKit

/-- a file's item taken away -/
def Dk.del (D : Dk) (p : List UInt8) : Dk := { D with items := mdel D.items p }
def Dk.rename (D : Dk) (p r : List UInt8) : Int × Dk :=
  if D.may p 1 ≠ 0 then (D.may p 1, D) else if D.may r 1 ≠ 0 then (D.may r 1, D) else if D.has p = false ∨ D.under r = false then (11, D)
  else if (D.at p).dir = true ∨ (D.at r).dir = true then (12, D) else if D.stepE ≠ 0 then (D.stepE, D.step) else (0, (D.step.del p).set r (D.at p))
end Go.Proofs.YtlfhglcccmghlaaGreatDoor

/- What is proved: what the package frame reads. Conditions: no more than 2^40 bytes. -/
set_option linter.unusedSimpArgs false
set_option linter.unusedVariables false
namespace Go.Proofs.YtlfhglcccmghlaaGreatDoor
open Go Go.J Go.RowKit

/-- the text of the frame at the head of the bytes, the frame's length, the error -/
def readE (t : List UInt8) : List UInt8 × Nat × Int :=
  if (rtextE t).2.2 = 0 then (if t.length < (rtextE t).2.1 + 4 then ([], 0, 2) else if packE (rtextE t).1 = t.take ((rtextE t).2.1 + 4) then ((rtextE t).1, (rtextE t).2.1 + 4, 0) else ([], 0, 6)) else ([], 0, (rtextE t).2.2)
def frV (p : Nat) (r : List UInt8 × Nat × Int) : Value := if r.2.2 = 0 then .tuple #[str r.1, .int .i64 ((p + r.2.1 : Nat) : Int), .int .i64 0] else .tuple #[str [], .int .i64 0, .int .i64 r.2.2]
end Go.Proofs.YtlfhglcccmghlaaGreatDoor

/- What is proved: what the package frame's scan tells. Conditions: no more than 2^40 bytes. -/
set_option linter.unusedSimpArgs false
set_option linter.unusedVariables false
namespace Go.Proofs.YtlfhglcccmghlaaGreatDoor
open Go Go.J Go.RowKit

def scanF : Nat → List UInt8 → List (List UInt8) × Nat × Int
  | 0, _ => ([], 0, 0)
  | k + 1, t => if t = [] then ([], 0, 0) else if (readE t).2.2 = 0 then ((readE t).1 :: (scanF k (t.drop (readE t).2.1)).1, (readE t).2.1 + (scanF k (t.drop (readE t).2.1)).2.1, (scanF k (t.drop (readE t).2.1)).2.2) else ([], 0, (readE t).2.2)
/-- the texts of all frames from the front on, how many bytes they have, why no more -/
def scanE (t : List UInt8) : List (List UInt8) × Nat × Int := scanF t.length t
def scV (A : Option Addr) (n cap g : Nat) (e : Int) : Value := .tuple #[.slice A n cap, .int .i64 (g : Int), .int .i64 e]

end Go.Proofs.YtlfhglcccmghlaaGreatDoor

/- What is proved: plain facts on frames: what was packed is read, and a turned bit is told. Conditions: texts of bounded length. -/
set_option linter.unusedSimpArgs false
set_option linter.unusedVariables false
namespace Go.J
open Go

end Go.J
namespace Go.Proofs.YtlfhglcccmghlaaGreatDoor
open Go Go.J Go.RowKit
end Go.Proofs.YtlfhglcccmghlaaGreatDoor

/- What is proved: plain facts on a file of frames: what is read of it whole, torn, or rotten. Conditions: texts of bounded length. -/
set_option linter.unusedSimpArgs false
set_option linter.unusedVariables false
namespace Go.Proofs.YtlfhglcccmghlaaGreatDoor
open Go Go.J Go.RowKit

def frames (l : List (List UInt8)) : List UInt8 := l.flatMap packE
end Go.Proofs.YtlfhglcccmghlaaGreatDoor

/- What is proved: what the journal does to its file and to itself. Conditions: no limit at the disk, texts of bounded length. -/
set_option linter.unusedSimpArgs false
set_option linter.unusedVariables false
namespace Go.Proofs.YtlfhglcccmghlaaGreatDoor
open Go Go.J Go.RowKit

/-- the system's volume has no limit -/
def NoSys (L : List (List UInt8 × Int)) : Prop := mget L [115, 121, 115] = none
/-- a path within the system's volume -/
def sysV (p : List UInt8) : Prop := ∃ q, p = [115, 121, 115] ++ 47 :: q
theorem sysV.vol {p : List UInt8} (h : sysV p) : volE p = [115, 121, 115] := by
  obtain ⟨q, rfl⟩ := h
  have e : Lib.indexByte ([115, 121, 115] ++ 47 :: q) 47 = 3 := by simp [Lib.indexByte]
  unfold volE
  rw [e, if_neg (by decide)]
  rfl
theorem sysV.app {p : List UInt8} (h : sysV p) (s : List UInt8) : sysV (p ++ s) := by
  obtain ⟨q, rfl⟩ := h
  exact ⟨q ++ s, by simp⟩
theorem NoSys.no {L : List (List UInt8 × Int)} {p : List UInt8} (h : NoSys L) (hv : sysV p) : mget L (volE p) = none := by rw [hv.vol]; exact h
/-- no limit of the system's volume, and no file is great -/
def Dk.Sm (D : Dk) (B : Nat) : Prop := NoSys D.limits ∧ ∀ x ∈ D.items, x.2.data.length ≤ B
theorem mget_mem {β : Type} {m : List (List UInt8 × β)} {x : List UInt8} {v : β} (h : mget m x = some v) : (x, v) ∈ m := by
  induction m with
  | nil => simp [mget] at h
  | cons p r ih =>
    obtain ⟨k, u⟩ := p
    unfold mget at h
    by_cases e : x = k
    · rw [if_pos e] at h; simp only [Option.some.injEq] at h; subst e; subst h; exact List.mem_cons_self ..
    · rw [if_neg e] at h; exact List.mem_cons_of_mem _ (ih h)
theorem mem_mset {β : Type} {m : List (List UInt8 × β)} {x : List UInt8} {v : β} {y : List UInt8 × β} (h : y ∈ mset m x v) : y ∈ m ∨ y.2 = v := by
  induction m with
  | nil => simp [mset] at h; exact .inr (by rw [h])
  | cons p r ih =>
    obtain ⟨k, u⟩ := p
    unfold mset at h
    by_cases e : x = k
    · rw [if_pos e] at h
      rcases List.mem_cons.1 h with rfl | h
      · exact .inr rfl
      · exact .inl (List.mem_cons_of_mem _ h)
    · rw [if_neg e] at h
      rcases List.mem_cons.1 h with rfl | h
      · exact .inl (List.mem_cons_self ..)
      · rcases ih h with h | h
        · exact .inl (List.mem_cons_of_mem _ h)
        · exact .inr h
theorem Dk.Sm.at_ {D : Dk} {B : Nat} (h : D.Sm B) (p : List UInt8) : (D.at p).data.length ≤ B := by
  unfold Dk.at
  cases e : mget D.items p with
  | none => exact Nat.zero_le _
  | some x => exact h.2 _ (mget_mem e)
theorem Dk.Sm.no {D : Dk} {B : Nat} (h : D.Sm B) {p : List UInt8} (hv : sysV p) : mget D.limits (volE p) = none := h.1.no hv
theorem Dk.step_items (D : Dk) : D.step.items = D.items := by unfold Dk.step; split <;> rfl
theorem Dk.step_limits (D : Dk) : D.step.limits = D.limits := by unfold Dk.step; split <;> rfl
theorem Dk.Sm.step {D : Dk} {B : Nat} (h : D.Sm B) : D.step.Sm B := ⟨by rw [Dk.step_limits]; exact h.1, by rw [Dk.step_items]; exact h.2⟩
theorem Dk.Sm.set {D : Dk} {B : Nat} (h : D.Sm B) {p : List UInt8} {x : It} (hx : x.data.length ≤ B) : (D.set p x).Sm B :=
  ⟨h.1, fun y hy => by
    rcases mem_mset hy with h1 | h1
    · exact h.2 y h1
    · rw [h1]; exact hx⟩
theorem Dk.Sm.put {D : Dk} {B : Nat} (h : D.Sm B) {p : List UInt8} {x : It} (hx : x.data.length ≤ B) : Dk.Sm { D with items := mset D.items p x } B :=
  ⟨h.1, fun y hy => by
    rcases mem_mset hy with h1 | h1
    · exact h.2 y h1
    · rw [h1]; exact hx⟩
theorem Dk.Sm.del {D : Dk} {B : Nat} (h : D.Sm B) {p : List UInt8} : (D.del p).Sm B := ⟨h.1, fun y hy => h.2 y ((mdel_sub _ _).mem hy)⟩
theorem Dk.Sm.write {D : Dk} {B : Nat} (h : D.Sm B) {p s : List UInt8} (hs : s.length ≤ B) : (D.write p s).2.Sm B := by
  unfold Dk.write
  repeat' split
  all_goals first | exact h | exact h.step | exact h.step.set hs
theorem Dk.Sm.sync {D : Dk} {B : Nat} (h : D.Sm B) {p : List UInt8} : (D.sync p).2.Sm B := by
  unfold Dk.sync
  repeat' split
  all_goals first | exact h | exact h.step | exact h.step.put (h.step.at_ p)
theorem Dk.Sm.rename {D : Dk} {B : Nat} (h : D.Sm B) {p r : List UInt8} : (D.rename p r).2.Sm B := by
  unfold Dk.rename
  repeat' split
  all_goals first | exact h | exact h.step | exact h.step.del.set (h.at_ p)
/-- a file's bytes put in its place -/
def Dk.fill (D : Dk) (p s : List UInt8) : Int × Dk :=
  if (D.write (p ++ [95, 116]) s).1 ≠ 0 then D.write (p ++ [95, 116]) s
  else if ((D.write (p ++ [95, 116]) s).2.sync (p ++ [95, 116])).1 ≠ 0 then (D.write (p ++ [95, 116]) s).2.sync (p ++ [95, 116])
  else ((D.write (p ++ [95, 116]) s).2.sync (p ++ [95, 116])).2.rename (p ++ [95, 116]) p
theorem Dk.Sm.fill {D : Dk} {B : Nat} (h : D.Sm B) {p s : List UInt8} (hs : s.length ≤ B) : (D.fill p s).2.Sm B := by
  unfold Dk.fill
  repeat' split
  all_goals first | exact h.write hs | exact (h.write hs).sync | exact (h.write hs).sync.rename

/-- a journal's variable -/
abbrev lgCells (q : Nat) (p : List UInt8) (A : Option Addr) (n cap : Nat) (dmg : Bool) : List Value := [.pointer (some ⟨q, 0, none⟩), str p, .slice A n cap, .bool dmg]
abbrev fillD (L q mb lb x1 x2 x3 : Nat) (D : Dk) (p t s : List UInt8) (A : Option Addr) (n cap : Nat) (dmg : Bool) : List Chunk :=
  [.box x1 141 [.pointer (some ⟨L, 0, none⟩)], .box x2 9 [str t], .box x3 9 [str s], .box L 237 [.pointer (some ⟨q, 0, none⟩), str p, .slice A n cap, .bool dmg], dkC q mb lb D]
section
variable {L q mb lb x1 x2 x3 : Nat} {D D' : Dk} {p t s : List UInt8} {A : Option Addr} {n cap : Nat} {dmg : Bool} {w0 : World} {e : Int}
end
/-- a journal -/
structure Lg where
  p : List UInt8
  recs : List (List UInt8)
  dmg : Bool
def lgφ (L q : Nat) (G : Lg) (D : List Chunk) : Prop := ∃ A cap, D = [.box L 237 [.pointer (some ⟨q, 0, none⟩), str G.p, .slice A G.recs.length cap, .bool G.dmg], .own (.slice A G.recs.length cap) 9 1 G.recs.length (strs G.recs)]
abbrev lgC (L q : Nat) (G : Lg) (fp : List Nat) : Chunk := objC (lgφ L q G) fp
def Lg.reset (G : Lg) (e : Int) : Lg := if e = 0 then { G with recs := [] } else G
def Lg.push (G : Lg) (r : List UInt8) : Lg := { G with recs := G.recs ++ [r] }
def walAdd (G : Lg) (D : Dk) (r : List UInt8) : Int × Lg × Dk :=
  if (D.append G.p (packE r)).1 ≠ 0 then ((D.append G.p (packE r)).1, G, (D.append G.p (packE r)).2)
  else if ((D.append G.p (packE r)).2.sync G.p).1 ≠ 0 then (((D.append G.p (packE r)).2.sync G.p).1, G, ((D.append G.p (packE r)).2.sync G.p).2)
  else (0, G.push r, ((D.append G.p (packE r)).2.sync G.p).2)
end Go.Proofs.YtlfhglcccmghlaaGreatDoor

/- What is proved: what opening a journal answers. Conditions: no limit at the disk, texts of bounded length. -/
set_option linter.unusedSimpArgs false
set_option linter.unusedVariables false
namespace Go.Proofs.YtlfhglcccmghlaaGreatDoor
open Go Go.J Go.RowKit

/-- the error, the journal, the disk behind it -/
def walOpen (D : Dk) (p : List UInt8) : Int × Option Lg × Dk :=
  if D.kind p = 0 then (if (D.fill p []).1 ≠ 0 then ((D.fill p []).1, none, (D.fill p []).2) else (0, some ⟨p, [], false⟩, (D.fill p []).2))
  else if (D.read p).2 ≠ 0 then ((D.read p).2, none, D)
  else if (scanE (D.read p).1).2.2 ≠ 0 then
    (if (D.fill p ((D.read p).1.take (scanE (D.read p).1).2.1)).1 ≠ 0 then ((D.fill p ((D.read p).1.take (scanE (D.read p).1).2.1)).1, none, (D.fill p ((D.read p).1.take (scanE (D.read p).1).2.1)).2)
      else (0, some ⟨p, (scanE (D.read p).1).1, decide ((scanE (D.read p).1).2.2 = 6 ∨ (scanE (D.read p).1).2.2 = 3)⟩, (D.fill p ((D.read p).1.take (scanE (D.read p).1).2.1)).2))
  else (0, some ⟨p, (scanE (D.read p).1).1, decide ((scanE (D.read p).1).2.2 = 6 ∨ (scanE (D.read p).1).2.2 = 3)⟩, D)
def openR (q mb lb : Nat) (D : Dk) (w0 : World) (r : Int × Option Lg × Dk) (v : Value) (w' : World) : Prop :=
  match r with
  | (e, none, D') => v = .tuple #[.pointer none, .int .i64 e] ∧ MutL w0 w' [dkC q mb lb D] [dkC q mb lb D']
  | (e, some G, D') => ∃ L fp, v = .tuple #[.pointer (some ⟨L, 0, none⟩), .int .i64 e] ∧ MutL w0 w' [dkC q mb lb D] [lgC L q G fp, dkC q mb lb D']
end Go.Proofs.YtlfhglcccmghlaaGreatDoor

/- What is proved: plain facts on changes as bytes. Conditions: none. -/
set_option linter.unusedSimpArgs false
set_option linter.unusedVariables false
namespace Go.Proofs.YtlfhglcccmghlaaGreatDoor
open Go Go.J Go.RowKit

/-- a change -/
structure Chg where
  key : List UInt8
  val : List UInt8
  gone : Bool
def Chg0 : Chg := ⟨[], [], false⟩
def cellsChg (o : Chg) : List Value := [str o.key, str o.val, .bool o.gone]
@[reducible] def encChg (o : Chg) : Value := .agg ⟨[str o.key, str o.val, .bool o.gone]⟩
def chgs (l : List Chg) : List Value := l.flatMap cellsChg
def recO (o : Chg) : List UInt8 := if o.gone then 0 :: textE o.key else 1 :: (textE o.key ++ textE o.val)
def recordE (l : List Chg) : List UInt8 := putN l.length ++ l.flatMap recO
/-- the change at the head of the bytes, how many bytes it has, the error -/
def opE (t : List UInt8) : Chg × Nat × Int :=
  if (uintE t).2.2 ≠ 0 then (Chg0, 0, (uintE t).2.2)
  else if 1 < (uintE t).1 then (Chg0, 0, 3)
  else if (rtextE (t.drop (uintE t).2.1)).2.2 ≠ 0 then (Chg0, 0, (rtextE (t.drop (uintE t).2.1)).2.2)
  else if (uintE t).1 = 0 then (⟨(rtextE (t.drop (uintE t).2.1)).1, [], true⟩, (uintE t).2.1 + (rtextE (t.drop (uintE t).2.1)).2.1, 0)
  else if (rtextE (t.drop ((uintE t).2.1 + (rtextE (t.drop (uintE t).2.1)).2.1))).2.2 ≠ 0 then (Chg0, 0, (rtextE (t.drop ((uintE t).2.1 + (rtextE (t.drop (uintE t).2.1)).2.1))).2.2)
  else (⟨(rtextE (t.drop (uintE t).2.1)).1, (rtextE (t.drop ((uintE t).2.1 + (rtextE (t.drop (uintE t).2.1)).2.1))).1, false⟩, (uintE t).2.1 + (rtextE (t.drop (uintE t).2.1)).2.1 + (rtextE (t.drop ((uintE t).2.1 + (rtextE (t.drop (uintE t).2.1)).2.1))).2.1, 0)
/-- n changes -/
def opsF : Nat → List UInt8 → List Chg × Nat × Int
  | 0, _ => ([], 0, 0)
  | n + 1, t => if (opE t).2.2 ≠ 0 then ([], 0, (opE t).2.2)
    else if (opsF n (t.drop (opE t).2.1)).2.2 ≠ 0 then ([], 0, (opsF n (t.drop (opE t).2.1)).2.2)
    else ((opE t).1 :: (opsF n (t.drop (opE t).2.1)).1, (opE t).2.1 + (opsF n (t.drop (opE t).2.1)).2.1, 0)
/-- all changes of the bytes, the error -/
def opsE (s : List UInt8) : List Chg × Int :=
  if (uintE s).2.2 ≠ 0 then ([], (uintE s).2.2)
  else if (opsF (uintE s).1 (s.drop (uintE s).2.1)).2.2 ≠ 0 then ([], (opsF (uintE s).1 (s.drop (uintE s).2.1)).2.2)
  else if (uintE s).2.1 + (opsF (uintE s).1 (s.drop (uintE s).2.1)).2.1 < s.length then ([], 5)
  else ((opsF (uintE s).1 (s.drop (uintE s).2.1)).1, 0)
/-- what is answered of changes that were read, and of those to come -/
def opsFin (s : List UInt8) (l : List Chg) (p : Nat) (r : List Chg × Nat × Int) : List Chg × Int := if r.2.2 ≠ 0 then ([], r.2.2) else if p + r.2.1 < s.length then ([], 5) else (l ++ r.1, 0)
/-- rows behind changes -/
def applyE (rows : List (List UInt8 × List UInt8)) (l : List Chg) : List (List UInt8 × List UInt8) := l.foldl (fun m o => if o.gone then mdel m o.key else mset m o.key o.val) rows
end Go.Proofs.YtlfhglcccmghlaaGreatDoor

/- What is proved: what Record and Ops of the package table answer. Conditions: texts of bounded length. -/
set_option linter.unusedSimpArgs false
set_option linter.unusedVariables false
namespace Go.Proofs.YtlfhglcccmghlaaGreatDoor
open Go Go.J Go.RowKit

def cChg : Cod Chg := .flat cellsChg 3 fun _ => rfl
/-- the changes of bytes, new memory -/
def opsR (w0 : World) (r : List Chg × Int) (v : Value) (w' : World) : Prop := Upd [] w0 w' ∧ ∃ A cap, v = .tuple #[.slice A r.1.length cap, .int .i64 r.2] ∧ New w0 w' (.own (.slice A r.1.length cap) 140 3 r.1.length (chgs r.1))
end Go.Proofs.YtlfhglcccmghlaaGreatDoor

/- What is proved: a table: changes applied, the base read, the table opened. Conditions: no limit at the disk, texts of bounded length. -/
set_option linter.unusedSimpArgs false
set_option linter.unusedVariables false
namespace Go.Proofs.YtlfhglcccmghlaaGreatDoor
open Go Go.J Go.RowKit

abbrev Rws := List (List UInt8 × List UInt8)
@[reducible] def encRow (s : List UInt8) : Value := .agg ⟨[str s]⟩
abbrev tbB (T : Nat) (dp : Option Addr) (dir : List UInt8) (lp : Option Addr) (m : Nat) : Chunk := .box T 144 [.pointer dp, str dir, .pointer lp, .map (some m)]
abbrev rowsC (m : Nat) (rows : Rws) : Chunk := mapC m (mmap encRow rows)
abbrev chgC (A : Option Addr) (cap : Nat) (l : List Chg) : Chunk := .own (.slice A l.length cap) 140 3 l.length (chgs l)
abbrev baseP (dir : List UInt8) : List UInt8 := dir ++ [47, 98, 97, 115, 101]
abbrev logP (dir : List UInt8) : List UInt8 := dir ++ [47, 108, 111, 103]
/-- the base's rows, the error -/
def tabLoad (D : Dk) (dir : List UInt8) : Int × Rws :=
  if (D.read (baseP dir)).2 ≠ 0 then ((D.read (baseP dir)).2, [])
  else if (readE (D.read (baseP dir)).1).2.2 ≠ 0 then ((readE (D.read (baseP dir)).1).2.2, [])
  else if (readE (D.read (baseP dir)).1).2.1 < (D.read (baseP dir)).1.length then (5, [])
  else if (opsE (readE (D.read (baseP dir)).1).1).2 ≠ 0 then ((opsE (readE (D.read (baseP dir)).1).1).2, [])
  else (0, applyE [] (opsE (readE (D.read (baseP dir)).1).1).1)
end Go.Proofs.YtlfhglcccmghlaaGreatDoor

/- What is proved: batches of a table: begun, changed, asked. Conditions: texts and lists of bounded length. -/
set_option linter.unusedSimpArgs false
set_option linter.unusedVariables false
namespace Go.Proofs.YtlfhglcccmghlaaGreatDoor
open Go Go.J Go.RowKit

abbrev Bch := List (List UInt8 × Chg)
/-- a batch: the keys in the order of their coming, and the changes by key -/
def bchφ (B : Nat) (tp : Option Addr) (m : Bch) (D : List Chunk) : Prop := ∃ A cap mb, D = [.box B 135 [.pointer tp, .slice A m.length cap, .map (some mb)], .own (.slice A m.length cap) 9 1 m.length (strs (m.map Prod.fst)), mapC mb (mmap encChg m)]
abbrev bchC (B : Nat) (tp : Option Addr) (m : Bch) (fp : List Nat) : Chunk := objC (bchφ B tp m) fp
/-- a change noted -/
def noteE (m : Bch) (o : Chg) : Bch := mset m o.key o
theorem look_chg1 (m : Bch) (k : List UInt8) : lookV (encChg Chg0) (mmap encChg m) k false = encChg ((mget m k).getD Chg0) := by
  unfold lookV
  rw [mget_map]
  cases mget m k <;> rfl
end Go.Proofs.YtlfhglcccmghlaaGreatDoor

/- What is proved: boxes and maps in lists, as contracts want them. Conditions: none. -/
set_option linter.unusedSimpArgs false
set_option linter.unusedVariables false
namespace Go.J
open Go Go.RowKit
/-- named blocks and the chunks that they are -/
inductive ChR (ρ : En) (H : AH) (w : World) : List Nat → List Chunk → Prop where
  | nil : ChR ρ H w [] []
  | box {q : Nat} {ty : TypeId} {cs cs' : List Value} {L : Loc} {bs : List Nat} {D : List Chunk} (h1 : H.get q = some (.box ty cs)) (h2 : ρ q = some L) (h3 : L.sh = 0) (h4 : L.ex = 0) (h5 : Vrs ρ cs cs') (h6 : (Chunk.box L.blk ty cs').holds w) (hn : q ∉ bs) (t : ChR ρ H w bs D) : ChR ρ H w (q :: bs) (.box L.blk ty cs' :: D)
  | map {q : Nat} {m m' : List (List UInt8 × Value)} {L : Loc} {bs : List Nat} {D : List Chunk} (h1 : H.get q = some (.mapS m)) (h2 : ρ q = some L) (h5 : Mr ρ m m') (h6 : (mapC L.blk m').holds w) (hn : q ∉ bs) (t : ChR ρ H w bs D) : ChR ρ H w (q :: bs) (mapC L.blk m' :: D)
section
variable {ρ : En} {H : AH} {w0 w w' : World} {bs : List Nat} {D : List Chunk}
theorem ChR.fpOf (h : ChR ρ H w bs D) : ∀ c ∈ D, ∀ b ∈ c.fp, ∃ nm ∈ bs, ∃ L ob, ρ nm = some L ∧ L.blk = b ∧ H.get nm = some ob := by
  induction h with
  | nil => intro c hc; cases hc
  | box h1 h2 h3 h4 h5 h6 hn t ih =>
    intro c hc b hb
    rcases List.mem_cons.1 hc with rfl | hc
    · simp [Chunk.fp] at hb; subst hb
      exact ⟨_, List.mem_cons_self .., _, _, h2, rfl, h1⟩
    · obtain ⟨nm, k1, k2⟩ := ih c hc b hb
      exact ⟨nm, List.mem_cons_of_mem _ k1, k2⟩
  | map h1 h2 h5 h6 hn t ih =>
    intro c hc b hb
    rcases List.mem_cons.1 hc with rfl | hc
    · simp [Chunk.fp] at hb; subst hb
      exact ⟨_, List.mem_cons_self .., _, _, h2, rfl, h1⟩
    · obtain ⟨nm, k1, k2⟩ := ih c hc b hb
      exact ⟨nm, List.mem_cons_of_mem _ k1, k2⟩
theorem ChR.apart (hR : Rl ρ H w0 w) (h : ChR ρ H w bs D) {q : Nat} {L : Loc} {ob : AO} (h1 : H.get q = some ob) (h2 : ρ q = some L) (hn : q ∉ bs) : ∀ c ∈ D, L.blk ∉ c.fp := fun c hc hb => by
  obtain ⟨nm, k1, K, ob', k2, k3, k4⟩ := h.fpOf c hc _ hb
  exact hn (by rw [hR.inj q nm _ _ L h1 k4 _ h2 k2 k3.symm]; exact k1)
theorem ChR.inL (hR : Rl ρ H w0 w) (h : ChR ρ H w bs D) : InL w D := by
  refine ⟨?_, fun c hc b hb => ?_, ?_⟩
  · induction h with
    | nil => intro c hc; cases hc
    | box h1 h2 h3 h4 h5 h6 hn t ih =>
      intro c hc
      rcases List.mem_cons.1 hc with rfl | hc
      · exact h6
      · exact ih c hc
    | map h1 h2 h5 h6 hn t ih =>
      intro c hc
      rcases List.mem_cons.1 hc with rfl | hc
      · exact h6
      · exact ih c hc
  · obtain ⟨nm, _, L, ob, k2, k3, k4⟩ := h.fpOf c hc b hb
    obtain ⟨L', j1, _, j3, _⟩ := hR.ob nm ob k4
    rw [k2] at j1; cases j1
    rw [← k3]; exact j3
  · induction h with
    | nil => exact .nil
    | box h1 h2 h3 h4 h5 h6 hn t ih =>
      refine List.pairwise_cons.2 ⟨fun c hc b hb => ?_, ih⟩
      simp [Chunk.fp] at hb; subst hb
      exact t.apart hR h1 h2 hn c hc
    | map h1 h2 h5 h6 hn t ih =>
      refine List.pairwise_cons.2 ⟨fun c hc b hb => ?_, ih⟩
      simp [Chunk.fp] at hb; subst hb
      exact t.apart hR h1 h2 hn c hc
theorem ChR.obs (h : ChR ρ H w bs D) (hh : ∀ c ∈ D, c.holds w') : ∀ nm ∈ bs, ∀ ob L, H.get nm = some ob → ρ nm = some L → ObOk ρ L ob w' := by
  induction h with
  | nil => intro nm hm; cases hm
  | box h1 h2 h3 h4 h5 h6 hn t ih =>
    intro nm hm ob L e1 e2
    rcases List.mem_cons.1 hm with rfl | hm
    · rw [h1] at e1; cases e1
      rw [h2] at e2; cases e2
      exact ⟨h3, h4, _, h5, hh _ (List.mem_cons_self ..)⟩
    · exact ih (fun c hc => hh c (List.mem_cons_of_mem _ hc)) nm hm ob L e1 e2
  | map h1 h2 h5 h6 hn t ih =>
    intro nm hm ob L e1 e2
    rcases List.mem_cons.1 hm with rfl | hm
    · rw [h1] at e1; cases e1
      rw [h2] at e2; cases e2
      exact ⟨_, h5, (hh _ (List.mem_cons_self ..)).1⟩
    · exact ih (fun c hc => hh c (List.mem_cons_of_mem _ hc)) nm hm ob L e1 e2
theorem ChR.row (hR : Rl ρ H w0 w) (hc : ChR ρ H w bs D) {A : Option Addr} {cap : Nat} {e : TypeId} {l : List Value} (h : MutL w w' D (D ++ [.own (.slice A l.length cap) e 1 l.length l])) (hcl : ∀ v ∈ l, cloV v = true) :
    ∃ ρ', ρ.le ρ' ∧ Vr ρ' (rowRes ⟨H.t, H.nx, bs ++ H.wr⟩ e l).1 (.slice A l.length cap) ∧ Rl ρ' (rowRes ⟨H.t, H.nx, bs ++ H.wr⟩ e l).2 w0 w' ∧ Frm ρ H w (rowRes ⟨H.t, H.nx, bs ++ H.wr⟩ e l).2 w' := by
  obtain ⟨hR1, hF1⟩ := hR.touch (bs := bs) h.upd (fun b hb => by
    obtain ⟨c, h1, h2⟩ := mem_fps.1 hb
    exact hc.fpOf c h1 b h2) (hc.obs fun c hm => h.holds c (List.mem_append_left _ hm))
  have hlast : Chunk.own (.slice A l.length cap) e 1 l.length l ∈ D ++ [.own (.slice A l.length cap) e 1 l.length l] := by simp
  have hd := List.pairwise_append.1 h.disj
  obtain ⟨ρ', g1, g2, g3, g4⟩ := rowRes_ok (n := w.heap.size) (l := l) (A := A) (cap := cap) (e := e) hR1 (fun c o L e hL => by
    obtain ⟨L', k1, _, k3, _⟩ := hR.ob c o e
    rw [k1] at hL; cases hL; exact k3) hR.upd.size hcl (h.holds _ hlast) (fun b hb => by
    rcases h.fp _ hlast b hb with hf | hf
    · exfalso
      obtain ⟨c, h1, h2⟩ := mem_fps.1 hf
      exact hd.2.2 c h1 _ (by simp) b h2 hb
    · exact hf)
  exact ⟨ρ', g1, g2, g3, .trans hR (.refl _) hF1 g4⟩
end
end Go.J

/- What is proved: what slices.Backward's functions do with a round's yield, for the evaluator. Conditions: bounded length; a round's own contract. -/
set_option linter.unusedSimpArgs false
set_option linter.unusedVariables false
namespace Go.Proofs.YtlfhglcccmghlaaGreatDoor
open Go Go.J Go.RowKit

set_option maxHeartbeats 4000000 in
set_option maxRecDepth 100000 in
theorem backInA_g {l b m : Nat} {e size : Nat} {I : Nat → World → Prop} {w0 : World} (hm : m ≤ 1048576) (hel : Go.J.elemOf Tryz.prog 68 = some (e, size)) (hb0 : ∃ A cap ty, w0.heap[b]? = some (.cells ⟨[.slice A m cap]⟩ ty (0, 0)))
    (hr : ∀ k (h : k < m) w, I (k + 1) w → ∃ rb ro cap ty v, w.heap[b]? = some (.cells ⟨[.slice (some ⟨rb, ro, none⟩) m cap]⟩ ty (0, 0)) ∧ (loadVar e ⟨rb, ro + k * size, none⟩).run Tryz.prog w = .ok v w ∧
      ∃ fn tm assign body, (Instr.yield l ⟨[.int .i64 (k : Int), v]⟩).run Tryz.prog w = .ok (.round l fn tm assign body) w ∧ RoundIn FW 0 Tryz.prog l fn tm assign body w fun e w' => e = .returned (.bool true) ∧ I k w')
    (h0 : I m w0) : Calls Tryz.prog 119 ⟨[.func (.yield l) #[] #[], .pointer (some ⟨b, 0, none⟩)]⟩ w0 (Ret (fun _ w' => I 0 w')) := by
  have he : Go.J.elemOf Tryz.prog 68 = some (67, 4) := by kernel_rfl
  rw [he] at hel
  cases hel
  refine J.calls Tryz.func119 rfl rfl ?_
  have hS := St.init w0
  obtain ⟨A0, cap0, ty0, hb0⟩ := hb0
  repeat' (first
    | (show WL _ _ _ _ _ _ _; first
      | refine WL.pure rfl rfl rfl rfl ?_
      | refine WL.nil ?_
      | refine WL.sub rfl rfl rfl (by omega) rfl rfl rfl ?_
      | (refine WL.load hS rfl rfl (LdOk.old hb0 (by repeat (first | exact List.Mem.head _ | apply List.Mem.tail)) rfl) rfl rfl rfl ?_))
    | (show WC _ _ _ _ _ _; first
      | refine WC.seq ?_
      | refine WC.region ?_
      | refine WC.block ?_)
    | refine seqQ_n ?_)
  refine WC.loop (σ := Nat) [0, 1] (fun k => [(3, .int .i64 ((k : Int) - 1))]) (fun k w => k ≤ m ∧ I k w) (fun k => k) m ⟨Nat.le_refl _, h0⟩ ⟨rfl, trivial⟩ ?_
  clear hS hb0 h0
  rintro k g w ⟨hk, hI⟩
  show WC _ _ _ (lf _ [(3, .int .i64 ((k : Int) - 1))] _ _) _ _
  have hS := St.init w
  rcases k with _ | k
  · repeat' (first
      | (show WL _ _ _ _ _ _ _; first
        | refine WL.pure rfl rfl rfl rfl ?_
        | refine WL.nil ?_)
      | (show WC _ _ _ _ _ _; first
        | refine WC.seq ?_
        | refine WC.region ?_
        | refine WC.exit ?_
        | refine WC.condF rfl (by decide) ?_)
      | refine seqQ_n ?_
      | refine seqQ_x ?_
      | refine blkQ_hit rfl ?_
      | refine rndQ_x ?_)
    exact fin0n rfl hI
  · have e : (((k + 1 : Nat) : Int) - 1) = (k : Int) := by omega
    rw [e]
    have hkl : k < m := hk
    obtain ⟨rb, ro, cap, ty, v, hb1, hld, fn, tm, assign, body, hy, hR⟩ := hr k hkl w hI
    repeat' (first
      | (show WL _ _ _ _ _ _ _; first
        | refine WL.pure rfl rfl rfl rfl ?_
        | refine WL.nil ?_
        | (refine WL.load hS rfl rfl (LdOk.old hb1 (by repeat (first | exact List.Mem.head _ | apply List.Mem.tail)) rfl) rfl rfl rfl ?_)
        | (refine WL.val rfl rfl rfl (J.run_load rfl rfl hld) ?_)
        | refine WL.index rfl rfl rfl rfl (by first | with_reducible assumption | omega) rfl rfl rfl rfl ?_)
      | (show WC _ _ _ _ _ _; first
        | (refine WC.regY (x := .tmp 11) (n := 6) rfl rfl rfl rfl rfl rfl ?_; show WL _ _ _ [_, _, _, _, _, _] _ _ _)
        | refine WC.seq ?_
        | refine WC.region ?_
        | refine WC.block ?_
        | refine WC.skip ?_
        | refine WC.condT rfl (decide_eq_true (by first | with_reducible assumption | omega)) ?_)
      | refine seqQ_n ?_)
    refine ⟨l, fn, tm, assign, body, rfl, hy, hR.mono fun e w' he => ?_⟩
    obtain ⟨rfl, hI2⟩ := he
    show WL _ _ _ [_] _ _ _
    repeat' (first
      | (show WL _ _ _ _ _ _ _; first
        | refine WL.pure rfl rfl rfl rfl ?_
        | refine WL.nil ?_
        | refine WL.sub rfl rfl rfl (by omega) rfl rfl rfl ?_)
      | (show WC _ _ _ _ _ _; first
        | refine WC.region ?_
        | refine WC.skip ?_
        | refine WC.condF rfl (by decide) ?_)
      | refine seqQ_n ?_
      | refine blkQ_n ?_)
    exact rndQ_n k ⟨by omega, hI2⟩ (by omega) ⟨vint (by omega), trivial⟩ ⟨rfl, rfl, trivial⟩

set_option maxHeartbeats 4000000 in
set_option maxRecDepth 100000 in
theorem backInE_g {l b m : Nat} {e size : Nat} {I : Nat → World → Prop} {w0 : World} (hm : m ≤ 1048576) (hel : Go.J.elemOf Tryz.prog 85 = some (e, size)) (hb0 : ∃ A cap ty, w0.heap[b]? = some (.cells ⟨[.slice A m cap]⟩ ty (0, 0)))
    (hr : ∀ k (h : k < m) w, I (k + 1) w → ∃ rb ro cap ty v, w.heap[b]? = some (.cells ⟨[.slice (some ⟨rb, ro, none⟩) m cap]⟩ ty (0, 0)) ∧ (loadVar e ⟨rb, ro + k * size, none⟩).run Tryz.prog w = .ok v w ∧
      ∃ fn tm assign body, (Instr.yield l ⟨[.int .i64 (k : Int), v]⟩).run Tryz.prog w = .ok (.round l fn tm assign body) w ∧ RoundIn FW 0 Tryz.prog l fn tm assign body w fun e w' => e = .returned (.bool true) ∧ I k w')
    (h0 : I m w0) : Calls Tryz.prog 322 ⟨[.func (.yield l) #[] #[], .pointer (some ⟨b, 0, none⟩)]⟩ w0 (Ret (fun _ w' => I 0 w')) := by
  have he : Go.J.elemOf Tryz.prog 85 = some (153, 3) := by kernel_rfl
  rw [he] at hel
  cases hel
  refine J.calls Tryz.func322 rfl rfl ?_
  have hS := St.init w0
  obtain ⟨A0, cap0, ty0, hb0⟩ := hb0
  repeat' (first
    | (show WL _ _ _ _ _ _ _; first
      | refine WL.pure rfl rfl rfl rfl ?_
      | refine WL.nil ?_
      | refine WL.sub rfl rfl rfl (by omega) rfl rfl rfl ?_
      | (refine WL.load hS rfl rfl (LdOk.old hb0 (by repeat (first | exact List.Mem.head _ | apply List.Mem.tail)) rfl) rfl rfl rfl ?_))
    | (show WC _ _ _ _ _ _; first
      | refine WC.seq ?_
      | refine WC.region ?_
      | refine WC.block ?_)
    | refine seqQ_n ?_)
  refine WC.loop (σ := Nat) [0, 1] (fun k => [(3, .int .i64 ((k : Int) - 1))]) (fun k w => k ≤ m ∧ I k w) (fun k => k) m ⟨Nat.le_refl _, h0⟩ ⟨rfl, trivial⟩ ?_
  clear hS hb0 h0
  rintro k g w ⟨hk, hI⟩
  show WC _ _ _ (lf _ [(3, .int .i64 ((k : Int) - 1))] _ _) _ _
  have hS := St.init w
  rcases k with _ | k
  · repeat' (first
      | (show WL _ _ _ _ _ _ _; first
        | refine WL.pure rfl rfl rfl rfl ?_
        | refine WL.nil ?_)
      | (show WC _ _ _ _ _ _; first
        | refine WC.seq ?_
        | refine WC.region ?_
        | refine WC.exit ?_
        | refine WC.condF rfl (by decide) ?_)
      | refine seqQ_n ?_
      | refine seqQ_x ?_
      | refine blkQ_hit rfl ?_
      | refine rndQ_x ?_)
    exact fin0n rfl hI
  · have e : (((k + 1 : Nat) : Int) - 1) = (k : Int) := by omega
    rw [e]
    have hkl : k < m := hk
    obtain ⟨rb, ro, cap, ty, v, hb1, hld, fn, tm, assign, body, hy, hR⟩ := hr k hkl w hI
    repeat' (first
      | (show WL _ _ _ _ _ _ _; first
        | refine WL.pure rfl rfl rfl rfl ?_
        | refine WL.nil ?_
        | (refine WL.load hS rfl rfl (LdOk.old hb1 (by repeat (first | exact List.Mem.head _ | apply List.Mem.tail)) rfl) rfl rfl rfl ?_)
        | (refine WL.val rfl rfl rfl (J.run_load rfl rfl hld) ?_)
        | refine WL.index rfl rfl rfl rfl (by first | with_reducible assumption | omega) rfl rfl rfl rfl ?_)
      | (show WC _ _ _ _ _ _; first
        | (refine WC.regY (x := .tmp 11) (n := 6) rfl rfl rfl rfl rfl rfl ?_; show WL _ _ _ [_, _, _, _, _, _] _ _ _)
        | refine WC.seq ?_
        | refine WC.region ?_
        | refine WC.block ?_
        | refine WC.skip ?_
        | refine WC.condT rfl (decide_eq_true (by first | with_reducible assumption | omega)) ?_)
      | refine seqQ_n ?_)
    refine ⟨l, fn, tm, assign, body, rfl, hy, hR.mono fun e w' he => ?_⟩
    obtain ⟨rfl, hI2⟩ := he
    show WL _ _ _ [_] _ _ _
    repeat' (first
      | (show WL _ _ _ _ _ _ _; first
        | refine WL.pure rfl rfl rfl rfl ?_
        | refine WL.nil ?_
        | refine WL.sub rfl rfl rfl (by omega) rfl rfl rfl ?_)
      | (show WC _ _ _ _ _ _; first
        | refine WC.region ?_
        | refine WC.skip ?_
        | refine WC.condF rfl (by decide) ?_)
      | refine seqQ_n ?_
      | refine blkQ_n ?_)
    exact rndQ_n k ⟨by omega, hI2⟩ (by omega) ⟨vint (by omega), trivial⟩ ⟨rfl, rfl, trivial⟩

def bkT : BackT := fun f => match Nat.beq f 119 with
  | true => some 68
  | false => match Nat.beq f 322 with
    | true => some 85
    | false => none
theorem bkT_spec {gf t : Nat} (h : bkT gf = some t) : (gf = 119 ∧ t = 68) ∨ (gf = 322 ∧ t = 85) := by
  unfold bkT at h
  split at h
  · rename_i e; cases h; exact .inl ⟨Nat.eq_of_beq_eq_true e, rfl⟩
  · split at h
    · rename_i e; cases h; exact .inr ⟨Nat.eq_of_beq_eq_true e, rfl⟩
    · cases h
theorem bk_ok : BkOk Tryz.prog bkT where
  ok := fun {gf t} h => by
    rcases bkT_spec h with ⟨rfl, rfl⟩ | ⟨rfl, rfl⟩ <;> kernel_rfl
  el := fun {gf t} h => by
    rcases bkT_spec h with ⟨rfl, rfl⟩ | ⟨rfl, rfl⟩
    · exact ⟨67, 4, by kernel_rfl⟩
    · exact ⟨153, 3, by kernel_rfl⟩
  out := fun {gf t} h => by
    rcases bkT_spec h with ⟨rfl, rfl⟩ | ⟨rfl, rfl⟩
    · intro l b m e size I w0 hm hel hb hr h0
      exact backInA_g hm hel hb hr h0
    · intro l b m e size I w0 hm hel hb hr h0
      exact backInE_g hm hel hb hr h0
end Go.Proofs.YtlfhglcccmghlaaGreatDoor

/- What is proved: what the model stands in for, for the evaluator. Conditions: none. -/
set_option linter.unusedSimpArgs false
set_option linter.unusedVariables false
namespace Go.Proofs.YtlfhglcccmghlaaGreatDoor
open Go Go.J Go.RowKit
theorem vrs1 {ρ : En} {v : Value} {l : List Value} (h : Vrs ρ [v] l) : ∃ v', l = [v'] ∧ Vr ρ v v' := by
  cases h with
  | cons h1 h => cases h; exact ⟨_, rfl, h1⟩
theorem vrs2 {ρ : En} {v u : Value} {l : List Value} (h : Vrs ρ [v, u] l) : ∃ v' u', l = [v', u'] ∧ Vr ρ v v' ∧ Vr ρ u u' := by
  cases h with
  | cons h1 h =>
    obtain ⟨u', rfl, h2⟩ := vrs1 h
    exact ⟨_, _, rfl, h1, h2⟩
theorem ex_index : ExtIs Tryz.prog 307 Extern.BytealgIndexByte.indexByte := ⟨_, Tryz.func307, by kernel_rfl, by kernel_rfl, by kernel_rfl, by kernel_rfl⟩
theorem ex_count : ExtIs Tryz.prog 253 Extern.BytealgCount.count := ⟨_, Tryz.func253, by kernel_rfl, by kernel_rfl, by kernel_rfl, by kernel_rfl⟩
theorem ex_same : ExtIs Tryz.prog 286 Extern.AbiNoEscape.same := ⟨_, Tryz.func286, by kernel_rfl, by kernel_rfl, by kernel_rfl, by kernel_rfl⟩
theorem ex_cmp : ExtIs Tryz.prog 294 Extern.BytealgCompare.compare := ⟨_, Tryz.func294, by kernel_rfl, by kernel_rfl, by kernel_rfl, by kernel_rfl⟩
def xtCount : List Value → Option Value
  | [.string ⟨⟨s⟩⟩, .int .u8 (.ofNat n)] => match Nat.blt n 256 with
    | true => some (.int .i64 ((s.count (UInt8.ofNat n) : Nat) : Int))
    | false => none
  | _ => none
def xtIndex : List Value → Option Value
  | [.string ⟨⟨s⟩⟩, .int .u8 (.ofNat n)] => match Nat.blt n 256 with
    | true => some (.int .i64 (Lib.indexByte s (UInt8.ofNat n)))
    | false => none
  | _ => none
def xtSame : List Value → Option Value
  | [v] => some v
  | _ => none
def xtCmp : List Value → Option Value
  | [.string ⟨⟨s⟩⟩, .string ⟨⟨t⟩⟩] => some (.int .i64 (Lib.compareBytes s t))
  | _ => none
def xtT (f : FuncId) (a : List Value) : Option Value := match Nat.beq f 253 with
  | true => xtCount a
  | false => match Nat.beq f 307 with
    | true => xtIndex a
    | false => match Nat.beq f 286 with
      | true => xtSame a
      | false => match Nat.beq f 294 with
        | true => xtCmp a
        | false => none
theorem byte_of {n : Nat} (h : Nat.blt n 256 = true) : (.int .u8 (Int.ofNat n) : Value) = .int .u8 (((UInt8.ofNat n).toNat : Nat) : Int) := by
  have := Nat.le_of_ble_eq_true h
  have e : (UInt8.ofNat n).toNat = n := by
    rw [UInt8.toNat_ofNat']; exact Nat.mod_eq_of_lt (by omega)
  rw [e]
  rfl
theorem xt_ok : XtOk Tryz.prog xtT where
  out := fun {fid args v} h {ρ args'} ha => by
    unfold xtT at h
    split at h
    · rename_i e
      have := Nat.eq_of_beq_eq_true e; subst this
      unfold xtCount at h
      split at h
      · split at h
        · rename_i hn
          cases h
          obtain ⟨_, _, rfl, h1, h2⟩ := vrs2 ha
          rw [h1.string, h2.int, byte_of hn]
          exact ⟨_, _, ex_count, .same rfl, fun w => run_countByte _ _⟩
        · cases h
      · cases h
    · split at h
      · rename_i e
        have := Nat.eq_of_beq_eq_true e; subst this
        unfold xtIndex at h
        split at h
        · split at h
          · rename_i hn
            cases h
            obtain ⟨_, _, rfl, h1, h2⟩ := vrs2 ha
            rw [h1.string, h2.int, byte_of hn]
            exact ⟨_, _, ex_index, .same rfl, fun w => run_indexByte _ _⟩
          · cases h
        · cases h
      · split at h
        · rename_i e
          have := Nat.eq_of_beq_eq_true e; subst this
          unfold xtSame at h
          split at h
          · cases h
            obtain ⟨_, rfl, h1⟩ := vrs1 ha
            exact ⟨_, _, ex_same, h1, fun w => rfl⟩
          · cases h
        · split at h
          · rename_i e
            have := Nat.eq_of_beq_eq_true e; subst this
            unfold xtCmp at h
            split at h
            · cases h
              obtain ⟨_, _, rfl, h1, h2⟩ := vrs2 ha
              rw [h1.string, h2.string]
              exact ⟨_, _, ex_cmp, .same rfl, fun w => Lib.run_compareString _ _ _⟩
            · cases h
          · cases h
end Go.Proofs.YtlfhglcccmghlaaGreatDoor

/- What is defined: in which order the evaluator takes a region's operations (printed by wip/tools/gen/gen_dr.py out of the seat's code); the plans are right. Conditions: none. -/
set_option linter.unusedVariables false
namespace Go.Proofs.YtlfhglcccmghlaaGreatDoor
open Go Go.J
def drawL : List (Nat × List (Nat × Dp)) := [
  (10, [(6, .pl [0, 1, 2, 3, 4, 5, 6] [0, 1, 2, 3, 4, 5, 6, 7, 8, 9, 10, 11] .nil), (11, .pl [0, 1, 2, 3, 4, 5, 6] [0, 1, 2, 3, 4, 5, 6, 7, 8, 9, 10, 11] .nil), (16, .pl [0, 1, 2, 3, 4, 5, 6] [0, 1, 2, 3, 4, 5, 6, 7, 8, 9, 10, 11] .nil)]),
  (11, [(9, .pl [0, 1, 2, 3, 8, 9] [0, 1, 2, 3, 4, 5] (.piv 6 [7, 8, 9, 10, 11]))]),
  (14, [(14, .pl [0, 1, 2, 3] [0, 1, 2, 3, 4, 5, 6, 7] .nil), (15, .pl [0, 1, 2, 3] [0, 1, 2, 3, 4, 5, 6, 7] .nil)]),
  (15, [(13, .pl [0, 1, 4, 5] [0, 1, 4, 5, 2, 3, 6, 7] .nil), (20, .pl [0, 1, 2, 5, 6, 8, 9] [0, 1, 2, 5, 6, 8, 9, 3, 4, 7, 10] .nil)]),
  (17, [(23, .pl [0, 1, 2, 3, 9, 10] [0, 1, 2, 3, 4, 5, 6, 7, 8, 9, 10, 11] (.piv 12 [13]))]),
  (19, [(18, .pl [4, 5] [0, 1, 2, 3, 4, 5, 6, 7, 8, 9] .nil), (20, .pl [0, 2, 3] [0, 2, 3, 1, 4, 5, 6] .nil)]),
  (28, [(11, .pl [0, 1, 2, 3, 4, 5, 6] [0, 1, 2, 3, 4, 5, 6, 7, 8, 9, 10] .nil)]),
  (29, [(6, .pl [0, 1, 2, 3, 4] [0, 1, 2, 3, 4, 5, 6, 7, 8] .nil)]),
  (30, [(6, .pl [0, 1, 2, 3, 4] [0, 1, 2, 3, 4, 5, 6, 7] (.piv 8 [9]))]),
  (31, [(6, .pl [0, 1, 2, 3, 4] [0, 1, 2, 3, 4, 5, 6, 7, 8] .nil)]),
  (49, [(1, .pl [0, 1, 3, 4, 7, 8, 6] [0, 1, 3, 4, 7, 8, 2, 5, 6, 9, 10, 11] .nil)]),
  (50, [(7, .pl [0, 1, 2, 3, 4, 6] [0, 1, 2, 3, 4, 6, 5] (.piv 7 []))]),
  (68, [(7, .pl [0, 1, 2, 3, 5, 6] [0, 1, 2, 3, 5, 6, 4, 7] (.piv 8 []))]),
  (71, [(1, .pl [0, 1, 2, 4, 5, 6, 7, 8, 9, 12, 13] [0, 1, 2, 4, 5, 6, 7, 8, 9, 3, 10, 11, 12, 13, 14, 15] .nil)]),
  (74, [(7, .pl [0, 1, 2, 3, 4, 6, 7, 8, 9, 12, 13] [0, 1, 2, 3, 4, 6, 7, 8, 9, 5, 10, 11, 12, 13, 14, 15] .nil)]),
  (75, [(5, .pl [0, 1] [0, 1, 2, 3, 4] (.piv 5 [6, 7]))]),
  (77, [(12, .pl [0, 1, 2, 3] [0, 1, 2, 3, 4, 5] (.piv 6 [7, 8]))]),
  (78, [(5, .pl [0, 1, 3, 4, 5, 6] [0, 1, 3, 4, 5, 6, 2] (.piv 7 [8]))]),
  (79, [(10, .pl [0, 1, 2, 3, 4] [0, 1, 2, 3, 4, 5, 6, 7] (.piv 8 [9])), (16, .pl [0, 1, 2, 3, 4] [0, 1, 2, 3, 4, 5, 6, 7, 8, 9] (.piv 10 [11]))]),
  (80, [(8, .pl [0, 1] [0, 1, 2, 3, 4] (.piv 5 [6, 7])), (11, .pl [0, 1] [0, 1, 2, 3, 4] (.piv 5 [6, 7]))]),
  (82, [(5, .pl [0, 1, 2, 3, 4] [0, 1, 2, 3, 4, 5, 6] .nil)]),
  (84, [(6, .pl [0, 1, 2, 3, 4] [0, 1, 2, 3, 4, 5, 6, 7, 8, 9] (.piv 10 []))]),
  (85, [(3, .pl [0, 1, 2, 3, 4, 5, 6, 7] [0, 1, 2, 3, 4, 5, 6, 7, 8, 9] (.piv 10 [11])), (6, .pl [0, 1, 2, 3] [0, 1, 2, 3, 4, 5, 6, 7] (.piv 8 [9]))]),
  (86, [(9, .pl [0, 1, 4, 5, 3] [0, 1, 4, 5, 2, 3, 6, 7, 8] .nil)]),
  (87, [(4, .pl [0, 1, 2, 3] [0, 1, 2, 3, 4, 5] (.piv 6 [])), (5, .pl [0, 1, 2, 3, 4, 5] [0, 1, 2, 3, 4, 5, 6, 7, 8] (.piv 9 []))]),
  (91, [(25, .pl [0, 1, 2, 3] [0, 1, 2, 3, 4, 5, 6, 7] .nil)]),
  (94, [(6, .pl [20, 21, 22, 23, 24, 25] [0, 1, 2, 3, 4, 5, 6, 7, 8, 9, 10, 11, 12, 13, 14, 15, 16, 17, 18, 19, 20, 21, 22, 23, 24, 25, 26, 27, 28, 29, 30] .nil)]),
  (96, [(10, .pl [0, 2, 3, 4, 5] [0, 2, 3, 4, 5, 1, 6] .nil)]),
  (97, [(21, .pl [0, 1, 2, 3] [0, 1, 2, 3, 4, 5] .nil)]),
  (101, [(1, .pl [0, 1, 2, 3, 4, 5] [0, 1, 2, 3, 4, 5, 6, 7, 8, 9, 10] .nil)]),
  (103, [(3, .pl [0, 1, 2, 3] [0, 1, 2, 3, 4, 5, 6, 7, 8, 9, 10] .nil)]),
  (104, [(1, .pl [0, 1, 2, 3, 11, 12] [0, 1, 2, 3, 4, 5, 6, 7, 8] (.piv 9 [10, 11, 12, 13, 14]))]),
  (108, [(1, .pl [4, 5, 6, 7] [0, 1, 2, 3, 4, 5, 6, 7, 8, 9, 10, 11, 12, 13] .nil)]),
  (113, [(2, .pl [0, 1, 2, 3, 4, 5, 6, 7, 8, 9] [0, 1, 2, 3, 4, 5, 6, 7, 8, 9, 10] (.piv 11 [12])), (4, .pl [0, 1, 2, 3, 4] [0, 1, 2, 3, 4, 5, 6, 7] (.piv 8 [9, 10, 11])), (5, .pl [0, 1, 2, 3, 4, 5] [0, 1, 2, 3, 4, 5, 6] (.piv 7 []))]),
  (116, [(5, .pl [0, 1, 2, 3, 4] [0, 1, 2, 3, 4, 5] (.piv 6 [7])), (8, .pl [0, 1, 5, 6, 7, 8, 9, 12, 13] [0, 1, 2, 3, 4, 5, 6, 7, 8, 9, 10] (.piv 11 [12, 13, 14, 15]))]),
  (117, [(1, .pl [0, 1, 2, 3, 5, 6, 7, 8] [0, 1, 2, 3, 5, 6, 7, 8, 4, 9, 10, 11, 12] .nil)]),
  (118, [(11, .pl [0, 1, 2, 3, 4, 5] [0, 1, 2, 3, 4, 5, 6, 7, 8] .nil), (15, .pl [0, 1, 2, 3, 4, 5] [0, 1, 2, 3, 4, 5, 6, 7, 8] .nil)]),
  (122, [(9, .pl [0, 1, 2, 3, 4] [0, 1, 2, 3, 4, 5] (.piv 6 []))]),
  (124, [(3, .pl [0, 1, 2, 3, 4, 5, 6, 7, 8] [0, 1, 2, 3, 4, 5, 6, 7, 8, 9, 10, 11] .nil)]),
  (132, [(7, .pl [0, 1, 2, 3] [0, 1, 2, 3, 4, 5] .nil), (9, .pl [0, 3, 4, 5, 6, 7] [0, 3, 4, 5, 6, 7] (.piv 1 [2, 8, 9]))]),
  (133, [(3, .pl [0, 1, 2, 3, 4, 6, 7, 8, 9, 10, 11] [0, 1, 2, 3, 4, 6, 7, 8, 9, 10, 11, 5, 12, 13, 14] .nil), (4, .pl [0, 1, 2, 3, 10, 11, 12, 13, 14] [0, 1, 2, 3, 4, 5, 6, 7, 8, 9, 10, 11, 12, 13, 14, 15, 16, 17, 18, 19, 20] .nil), (10, .pl [0, 2, 3] [0, 2, 3, 1, 4] .nil), (14, .pl [0, 1, 3, 4, 5, 6] [0, 1, 3, 4, 5, 6, 2] (.piv 7 [])), (19, .pl [0, 1, 2, 3, 4, 5, 6, 7, 8, 9] [0, 1, 2, 3, 4, 5, 6, 7, 8, 9, 10, 11] (.piv 12 [13]))]),
  (136, [(10, .pl [0, 1, 3, 4, 6] [0, 1, 3, 4, 2, 6, 5] (.piv 7 [8, 9]))]),
  (138, [(10, .pl [0, 1, 3, 4, 6] [0, 1, 3, 4, 2, 6, 5] (.piv 7 [8, 9]))]),
  (141, [(7, .pl [0, 1, 8, 15, 16, 17, 18, 19] [0, 1, 2, 3, 4, 5, 6, 7, 8, 9, 10, 11, 12, 13, 14, 15, 16, 17, 18, 19, 20, 21, 22, 23, 24] .nil)]),
  (154, [(1, .pl [0, 1, 2, 3, 5, 6, 7, 8, 9] [0, 1, 2, 3, 5, 6, 7, 8, 9, 4, 10, 11] .nil)]),
  (155, [(6, .pl [0, 1, 2, 3, 4] [0, 1, 2, 3, 4, 5, 6, 7, 8] .nil)]),
  (156, [(10, .fk [0, 1, 2, 3, 4, 5, 6, 7, 8, 9, 11, 12, 13, 14, 15, 18] [0, 1, 2, 3, 4, 5, 6, 7, 8, 9, 10, 11, 12, 13, 14, 15, 16, 17, 18] [0, 1, 2, 3, 4, 5, 6, 7, 8, 9] 1023 9 524287 [(1023, 9, [(10, [11, 12, 13, 14, 15], 65535), (16, [], 66559)]), (66559, 8, [(10, [11, 12, 13, 14, 15], 131071)]), (65535, 3, [(16, [], 131071)]), (131071, 2, [(17, [18], 524287)]), (524287, 0, [])]), (17, .pl [0, 1, 2, 3, 4, 5, 6, 7, 8, 9, 10, 11, 12, 13, 14] [0, 1, 2, 3, 4, 5, 6, 7, 8, 9, 10, 11, 12, 13, 14, 15, 16, 17, 18] (.piv 19 [20, 21, 22]))]),
  (159, [(11, .pl [0, 1, 2, 3, 4, 5, 6, 7, 8, 9] [0, 1, 2, 3, 4, 5, 6, 7, 8, 9, 10, 11, 12, 13, 14, 15, 16] .nil)]),
  (161, [(3, .pl [0, 1, 2, 3, 6, 7] [0, 1, 2, 3, 4, 5, 6, 7, 8, 9] .nil)]),
  (165, [(3, .pl [0, 1, 2, 3, 4] [0, 1, 2, 3, 4, 5, 6, 7, 8, 9, 10] .nil)]),
  (173, [(4, .pl [0, 1, 2, 3, 4, 5] [0, 1, 2, 3, 4, 5, 6, 7, 8, 9, 10, 11] .nil), (6, .pl [0, 1, 2, 3, 4, 5, 6, 7] [0, 1, 2, 3, 4, 5, 6, 7, 8, 9, 10, 11] .nil), (13, .pl [0, 1, 2, 3, 4, 5, 6, 7] [0, 1, 2, 3, 4, 5, 6, 7, 8, 9, 10] .nil)]),
  (184, [(1, .pl [0, 1, 2, 3, 8, 9] [0, 1, 2, 3, 4, 5, 6, 7, 8, 9, 10, 11] .nil)]),
  (185, [(3, .pl [0, 1, 2, 3, 4] [0, 1, 2, 3, 4, 5] (.piv 6 []))]),
  (195, [(1, .pl [0, 1, 2, 3, 4, 6, 7, 8, 9, 10, 11, 14, 15, 16, 17] [0, 1, 2, 3, 4, 6, 7, 8, 9, 10, 11, 5] (.piv 12 [13, 14, 15, 16, 17, 18, 19, 20, 21]))]),
  (198, [(10, .pl [0, 1, 2, 3, 4] [0, 1, 2, 3, 4, 5, 6, 7, 8, 9, 10] .nil), (12, .pl [0, 1, 2, 3, 4] [0, 1, 2, 3, 4, 5, 6, 7, 8, 9, 10] .nil), (15, .fk [0, 1, 2, 3, 5, 6, 7, 8, 9, 10, 11, 12, 13, 16] [0, 1, 2, 3, 5, 6, 7, 8, 9, 10, 11, 12, 13, 4, 14, 15, 16] [0, 1, 2, 3, 5, 6, 7, 8, 9, 10, 11, 12, 13] 16367 4 131071 [(16367, 4, [(4, [], 16383), (14, [], 32751)]), (32751, 3, [(4, [], 32767)]), (16383, 3, [(14, [], 32767)]), (32767, 2, [(15, [16], 131071)]), (131071, 0, [])]), (20, .pl [0, 1, 2, 3, 4] [0, 1, 2, 3, 4, 5, 6] (.piv 7 [8, 9, 10]))]),
  (199, [(9, .pl [0, 1, 2, 4, 5, 8, 9, 12, 13, 16, 19, 20, 23, 24, 7, 11, 15, 18, 22] [0, 1, 2, 4, 5, 8, 9, 12, 13, 16, 19, 20, 23, 24, 3, 6, 7, 10, 11, 14, 15, 17, 18, 21, 22, 25, 26, 27, 28] .nil)]),
  (200, [(5, .pl [0, 1, 2, 3] [0, 1, 2, 3, 4, 5, 6] (.piv 7 [8, 9])), (16, .pl [0, 1, 2, 3, 4, 5, 7, 8, 9, 10, 12, 15, 13] [0, 1, 2, 3, 4, 5, 7, 8, 9, 10, 12, 15, 6, 13, 11, 14, 16] (.piv 17 []))]),
  (201, [(4, .pl [0, 1, 2, 5, 6, 7] [0, 1, 2, 5, 6, 7, 3, 4, 8] .nil), (9, .pl [0, 1, 2, 4, 5] [0, 1, 2, 4, 5, 3, 6] .nil)]),
  (203, [(9, .pl [0, 1, 2, 3, 4] [0, 1, 2, 3, 4, 5, 6, 7, 8] .nil)]),
  (204, [(6, .pl [0, 1, 3, 4, 7, 8, 9, 6] [0, 1, 3, 4, 7, 8, 9, 2, 5, 6, 10, 11, 12] .nil), (10, .pl [0, 1, 2, 4, 5] [0, 1, 2, 4, 5, 3, 6, 7, 8, 9] .nil)]),
  (212, [(1, .pl [0, 1, 2, 3, 4, 5, 6, 8, 9, 13, 14, 15, 16, 17, 18, 19, 21, 22] [0, 1, 2, 3, 4, 5, 6, 8, 9, 7, 10, 11, 12, 13, 14, 15, 16, 17, 18, 19, 21, 22, 20, 23, 24, 25] .nil)]),
  (213, [(4, .pl [0, 1, 2, 3, 4, 10, 11, 12, 14, 15, 16, 17] [0, 1, 2, 3, 4, 5, 6, 7, 8, 9, 10, 11, 12, 14, 15, 16, 17, 13, 18, 19] .nil)]),
  (214, [(16, .pl [0, 1, 2, 3, 4, 10, 11, 12, 13, 14, 15] [0, 1, 2, 3, 4, 5, 6, 7, 8, 9, 10, 11, 12, 13, 14, 15, 16, 17, 18] .nil), (17, .pl [0, 1, 2, 3, 9, 10] [0, 1, 2, 3, 4, 5, 6] (.piv 7 [8, 9, 10, 11, 12]))]),
  (215, [(5, .pl [0, 1, 2, 3] [0, 1, 2, 3, 4, 5, 6, 7] .nil)]),
  (237, [(1, .pl [0, 1, 2, 3, 4] [0, 1, 2, 3, 4, 5, 6, 7] .nil)]),
  (238, [(1, .pl [0, 1, 2, 3] [0, 1, 2, 3, 4, 5, 6] .nil)]),
  (239, [(1, .pl [0, 1, 2, 3, 4] [0, 1, 2, 3, 4, 5, 6, 7, 8, 9, 10] .nil)]),
  (244, [(17, .pl [3, 4, 5, 6, 7, 8] [0, 1, 2, 3, 4, 5, 6, 7, 8, 9, 10, 11] (.piv 12 [13, 14]))]),
  (255, [(1, .pl [0, 1, 3] [0, 1, 3, 2, 4, 5, 6] .nil)]),
  (256, [(1, .pl [0, 1, 3] [0, 1, 3, 2, 4, 5, 6] .nil)]),
  (261, [(7, .pl [0, 1, 2, 3, 4, 5, 6, 7, 8, 9, 10] [0, 1, 2, 3, 4, 5, 6, 7, 8, 9, 10, 11, 12, 13, 14] .nil), (8, .pl [0, 1, 2, 3, 4, 5, 6, 7, 8, 9, 10] [0, 1, 2, 3, 4, 5, 6, 7, 8, 9, 10, 11, 12, 13, 14] .nil), (9, .pl [0, 1, 2, 3, 4, 5, 6, 7, 8, 9, 10] [0, 1, 2, 3, 4, 5, 6, 7, 8, 9, 10, 11, 12, 13, 14] .nil), (10, .pl [0, 1, 2, 3, 4, 5, 6, 7, 8, 9, 10] [0, 1, 2, 3, 4, 5, 6, 7, 8, 9, 10, 11, 12, 13, 14] .nil), (17, .pl [0, 1, 2, 3, 4, 5, 6, 7, 8, 9, 10] [0, 1, 2, 3, 4, 5, 6, 7, 8, 9, 10, 11, 12, 13, 14] .nil), (18, .pl [0, 1, 2, 3, 4, 5, 6, 7, 8, 9, 10] [0, 1, 2, 3, 4, 5, 6, 7, 8, 9, 10, 11, 12, 13, 14] .nil), (23, .pl [0, 1, 2, 3, 4, 5, 6, 7, 8, 9, 10] [0, 1, 2, 3, 4, 5, 6, 7, 8, 9, 10, 11, 12, 13, 14] .nil)]),
  (263, [(1, .pl [0, 1, 2, 3, 4, 5, 6, 7, 8, 9, 10, 11, 12] [0, 1, 2, 3, 4, 5, 6, 7, 8, 9, 10, 11, 12, 13] .nil)]),
  (268, [(6, .pl [0, 1, 2, 4, 5, 6, 9, 10, 11, 8] [0, 1, 2, 4, 5, 6, 9, 10, 11, 3, 7, 8, 12, 13, 14, 15] .nil)]),
  (269, [(6, .pl [8, 9, 10, 11] [0, 1, 2, 3, 4, 5, 6, 7, 8, 9, 10, 11, 12, 13, 14, 15, 16, 17, 18, 19] .nil), (9, .pl [4, 5, 6, 7] [0, 1, 2, 3, 4, 5, 6, 7, 8, 9, 10, 11, 12, 13, 14] .nil), (3, .pl [0, 1, 2, 3] [0, 1, 2, 3, 4, 5, 6, 7, 8] .nil), (5, .pl [0, 1, 2, 3] [0, 1, 2, 3, 4, 5] .nil)]),
  (270, [(6, .pl [0, 1, 2, 3, 4] [0, 1, 2, 3, 4, 5, 6, 7, 8, 9] .nil), (11, .pl [0, 1, 2, 3, 4] [0, 1, 2, 3, 4, 5, 6, 7, 8, 9] .nil)]),
  (277, [(6, .pl [0, 1, 2, 3, 4] [0, 1, 2, 3, 4, 5, 6, 7, 8] .nil)]),
  (281, [(7, .pl [0, 1, 3, 4, 7, 8, 9, 12, 13, 14, 6, 11] [0, 1, 3, 4, 7, 8, 9, 12, 13, 14, 2, 5, 6, 10, 11, 15, 16, 17] .nil)]),
  (291, [(3, .pl [0, 1, 2, 3, 4, 5, 6, 7, 8, 9, 10] [0, 1, 2, 3, 4, 5, 6, 7, 8, 9, 10, 11, 12] .nil)]),
  (295, [(3, .pl [0, 1, 2, 3, 4, 5, 6, 7, 8] [0, 1, 2, 3, 4, 5, 6, 7, 8, 9, 10, 11, 12] (.piv 13 [14, 15]))]),
  (296, [(4, .pl [0, 4, 5, 6, 7, 8] [0, 1, 2, 3, 4, 5, 6, 7, 8, 9, 10, 11, 12] (.piv 13 [14])), (6, .pl [0, 1, 2, 3, 4, 5, 6, 7, 8, 9, 10] [0, 1, 2, 3, 4, 5, 6, 7, 8, 9, 10, 11, 12, 13, 14] (.piv 15 [16, 17]))]),
  (297, [(10, .pl [0, 1, 2, 3, 4, 5, 6, 7, 8, 9, 10, 11, 12] [0, 1, 2, 3, 4, 5, 6, 7, 8, 9, 10, 11, 12, 13, 14, 15, 16] (.piv 17 [18, 19]))]),
  (298, [(10, .pl [0, 1, 2, 3, 4, 5, 6, 7, 8, 9, 10, 11, 12] [0, 1, 2, 3, 4, 5, 6, 7, 8, 9, 10, 11, 12, 13, 14, 15, 16] (.piv 17 [18, 19]))]),
  (300, [(3, .pl [0, 1, 2, 3, 4, 5, 6, 7, 8] [0, 1, 2, 3, 4, 5, 6, 7, 8, 9, 10, 11, 12] (.piv 13 [14, 15]))]),
  (301, [(5, .pl [0, 4, 5, 6, 7, 8] [0, 1, 2, 3, 4, 5, 6, 7, 8, 9, 10, 11, 12] (.piv 13 [14, 15])), (11, .pl [0, 1, 2, 3, 4, 5, 6, 7, 8, 9, 10] [0, 1, 2, 3, 4, 5, 6, 7, 8, 9, 10, 11, 12, 13, 14] (.piv 15 [16, 17])), (16, .pl [0, 1, 2, 3, 4] [0, 1, 2, 3, 4, 5, 6, 7, 8] (.piv 9 [10])), (17, .pl [0, 1, 2, 3, 4, 5, 6, 7, 8, 9, 10] [0, 1, 2, 3, 4, 5, 6, 7, 8, 9, 10, 11, 12, 13, 14] (.piv 15 [16, 17])), (22, .pl [0, 1, 2, 3, 4] [0, 1, 2, 3, 4, 5, 6, 7, 8] (.piv 9 [10])), (23, .pl [0, 1, 2, 3, 4, 5, 6, 7, 8, 9, 10] [0, 1, 2, 3, 4, 5, 6, 7, 8, 9, 10, 11, 12, 13, 14] (.piv 15 [16, 17]))]),
  (303, [(1, .pl [0, 1, 2, 3, 4, 5, 6, 7, 8] [0, 1, 2, 3, 4, 5, 6, 7, 8, 9, 10, 11, 12] (.piv 13 [14, 15])), (3, .pl [0, 4, 5, 6, 7, 8] [0, 1, 2, 3, 4, 5, 6, 7, 8, 9, 10, 11] (.piv 12 [13, 14])), (5, .pl [0, 4, 5, 6, 7, 8] [0, 1, 2, 3, 4, 5, 6, 7, 8, 9, 10, 11] (.piv 12 [13])), (8, .pl [0, 1, 2, 3, 4, 5, 6, 7, 8] [0, 1, 2, 3, 4, 5, 6, 7, 8, 9, 10, 11, 12] (.piv 13 [14, 15]))]),
  (304, [(1, .pl [0, 1, 2, 3, 4, 5, 6, 7, 8] [0, 1, 2, 3, 4, 5, 6, 7, 8, 9, 10, 11, 12] (.piv 13 [14, 15])), (3, .pl [0, 4, 5, 6, 7, 8] [0, 1, 2, 3, 4, 5, 6, 7, 8, 9, 10, 11] (.piv 12 [13])), (5, .pl [0, 4, 5, 6, 7, 8] [0, 1, 2, 3, 4, 5, 6, 7, 8, 9, 10, 11] (.piv 12 [13, 14])), (8, .pl [0, 1, 2, 3, 4, 5, 6, 7, 8] [0, 1, 2, 3, 4, 5, 6, 7, 8, 9, 10, 11, 12] (.piv 13 [14, 15])), (10, .pl [0, 1, 2, 3, 4, 5, 6, 7, 8] [0, 1, 2, 3, 4, 5, 6, 7, 8, 9, 10, 11, 12] (.piv 13 [14, 15])), (13, .pl [0, 4, 5, 6, 7, 8] [0, 1, 2, 3, 4, 5, 6, 7, 8, 9, 10, 11] (.piv 12 [13])), (15, .pl [0, 4, 5, 6, 7, 8] [0, 1, 2, 3, 4, 5, 6, 7, 8, 9, 10, 11] (.piv 12 [13, 14])), (18, .pl [0, 1, 2, 3, 4, 5, 6, 7, 8] [0, 1, 2, 3, 4, 5, 6, 7, 8, 9, 10, 11, 12] (.piv 13 [14, 15])), (21, .pl [0, 1, 2, 3, 4, 5, 6, 7, 8] [0, 1, 2, 3, 4, 5, 6, 7, 8, 9, 10, 11, 12] (.piv 13 [14, 15]))]),
  (320, [(0, .pl [0, 1, 2, 3, 4, 6, 7, 8, 9, 10, 12, 13, 14, 15, 16] [0, 1, 2, 3, 4, 6, 7, 8, 9, 10, 12, 13, 14, 15, 16, 5, 11, 17, 18, 19, 20] .nil), (1, .fk [0, 1, 2, 3, 4, 6, 7, 8, 9, 10, 12, 13, 14, 15, 16] [0, 1, 2, 3, 4, 6, 7, 8, 9, 10, 12, 13, 14, 15, 16, 5, 11, 17, 18, 19, 20, 21, 22, 23] [0, 1, 2, 3, 4, 6, 7, 8, 9, 10, 12, 13, 14, 15, 16] 128991 9 16777215 [(128991, 9, [(5, [], 129023), (18, [], 391135), (19, [], 653279), (20, [], 1177567)]), (1177567, 8, [(5, [], 1177599), (18, [], 1439711), (19, [], 1701855)]), (653279, 8, [(5, [], 653311), (18, [], 915423), (20, [], 1701855)]), (391135, 8, [(5, [], 391167), (19, [], 915423), (20, [], 1439711)]), (129023, 8, [(11, [], 131071), (18, [], 391167), (19, [], 653311), (20, [], 1177599)]), (1701855, 7, [(5, [], 1701887), (18, [], 1963999)]), (1439711, 7, [(5, [], 1439743), (19, [], 1963999)]), (1177599, 7, [(11, [], 1179647), (18, [], 1439743), (19, [], 1701887)]), (915423, 7, [(5, [], 915455), (20, [], 1963999)]), (653311, 7, [(11, [], 655359), (18, [], 915455), (20, [], 1701887)]), (391167, 7, [(11, [], 393215), (19, [], 915455), (20, [], 1439743)]), (131071, 7, [(17, [], 262143), (18, [], 393215), (19, [], 655359), (20, [], 1179647)]), (1963999, 6, [(5, [], 1964031)]), (1701887, 6, [(11, [], 1703935), (18, [], 1964031)]), (1439743, 6, [(11, [], 1441791), (19, [], 1964031)]), (1179647, 6, [(17, [], 1310719), (18, [], 1441791), (19, [], 1703935)]), (915455, 6, [(11, [], 917503), (20, [], 1964031)]), (655359, 6, [(17, [], 786431), (18, [], 917503), (20, [], 1703935)]), (393215, 6, [(17, [], 524287), (19, [], 917503), (20, [], 1441791)]), (262143, 6, [(18, [], 524287), (19, [], 786431), (20, [], 1310719)]), (1964031, 5, [(11, [], 1966079)]), (1703935, 5, [(17, [], 1835007), (18, [], 1966079)]), (1441791, 5, [(17, [], 1572863), (19, [], 1966079)]), (1310719, 5, [(18, [], 1572863), (19, [], 1835007)]), (917503, 5, [(17, [], 1048575), (20, [], 1966079)]), (786431, 5, [(18, [], 1048575), (20, [], 1835007)]), (524287, 5, [(19, [], 1048575), (20, [], 1572863)]), (1966079, 4, [(17, [], 2097151)]), (1835007, 4, [(18, [], 2097151)]), (1572863, 4, [(19, [], 2097151)]), (1048575, 4, [(20, [], 2097151)]), (2097151, 3, [(21, [], 4194303)]), (4194303, 2, [(22, [], 8388607)]), (8388607, 1, [(23, [], 16777215)]), (16777215, 0, [])])]),
  (321, [(8, .pl [0, 1, 2, 7, 8, 5, 6] [0, 1, 2, 7, 8, 3, 4, 5, 6, 9, 10, 11, 12, 13, 14] .nil)]),
  (325, [(2, .pl [0, 1, 2] [0, 1, 2, 3, 4, 5, 6, 7, 8, 9, 10] .nil)]),
  (328, [(5, .pl [0, 1, 2, 3] [0, 1, 2, 3, 4, 5, 6, 7] .nil)]),
  (329, [(11, .pl [0, 1, 2, 3, 4, 5] [0, 1, 2, 3, 4, 5, 6, 7, 8] .nil), (15, .pl [0, 1, 2, 3, 4, 5] [0, 1, 2, 3, 4, 5, 6, 7, 8] .nil)]),
  (333, [(0, .pl [0, 1, 2, 3, 4, 5, 6, 7, 9, 10, 11, 12, 13] [0, 1, 2, 3, 4, 5, 6, 7, 9, 10, 11, 12, 13, 8, 14, 15] .nil)]),
  (334, [(3, .pl [0, 1, 5, 6, 7, 8, 9, 10, 11, 12] [0, 1, 2, 3, 4, 5, 6, 7, 8, 9, 10, 11, 12, 13, 14, 15, 16, 17] (.piv 18 [19])), (5, .pl [0, 1, 2, 3, 4, 5, 6, 7] [0, 1, 2, 3, 4, 5, 6, 7, 8, 9, 10, 11] (.piv 12 [13])), (6, .pl [0, 1, 2, 3, 4, 5, 6, 7, 8, 9, 10, 11, 12, 13, 14, 15] [0, 1, 2, 3, 4, 5, 6, 7, 8, 9, 10, 11, 12, 13, 14, 15, 16, 17, 18, 19, 20] (.piv 21 [22, 23]))]),
  (336, [(1, .pl [0, 1, 2] [0, 1, 2, 3, 4, 5, 6, 7, 8] (.piv 9 [])), (2, .pl [0, 1, 2] [0, 1, 2, 3, 4, 5, 6, 7, 8] (.piv 9 [])), (3, .pl [0, 1, 2] [0, 1, 2, 3, 4, 5, 6, 7, 8] (.piv 9 []))]),
  (346, [(20, .pl [0, 1, 2, 3, 4, 5] [0, 1, 2, 3, 4, 5, 6, 7, 8] (.piv 9 []))]),
  (347, [(6, .pl [0, 1, 2, 3, 4] [0, 1, 2, 3, 4, 5, 6, 7, 8] .nil)]),
  (351, [(20, .pl [0, 1, 2, 7, 8, 9, 15, 16, 17, 18, 19, 20, 21] [0, 1, 2, 3, 4, 5, 6, 7, 8, 9, 10, 11, 12, 13, 14, 15, 16, 17, 18, 19, 20, 21, 22, 23, 24, 25, 26] .nil)]),
  (353, [(17, .pl [3, 4, 5, 6, 7, 8, 9] [0, 1, 2, 3, 4, 5, 6, 7, 8, 9, 10, 11, 12] (.piv 13 [14, 15, 16]))]),
  (358, [(1, .pl [0, 1, 2, 3, 4] [0, 1, 2, 3, 4, 5, 6, 7] (.piv 8 []))]),
  (362, [(1, .pl [0, 1, 2, 3, 4, 5, 6, 7, 8, 9, 10, 11, 12, 13, 14, 16, 17, 18, 19, 20, 21, 22, 23, 24, 25, 27, 28, 29, 30, 31, 32, 33, 34, 35, 36] [0, 1, 2, 3, 4, 5, 6, 7, 8, 9, 10, 11, 12, 13, 14, 16, 17, 18, 19, 20, 21, 22, 23, 24, 25, 27, 28, 29, 30, 31, 32, 33, 34, 35, 36, 15, 26, 37, 38, 39, 40, 41, 42] (.piv 43 []))]),
  (367, [(4, .pl [0, 4, 5, 6, 7, 8, 9] [0, 1, 2, 3, 4, 5, 6, 7, 8, 9, 10, 11, 12, 13] (.piv 14 [15, 16])), (6, .pl [0, 1, 2, 3, 4, 5, 6, 7, 8, 9, 10] [0, 1, 2, 3, 4, 5, 6, 7, 8, 9, 10, 11, 12, 13, 14] (.piv 15 [16, 17]))]),
  (368, [(10, .pl [0, 1, 2, 3, 4, 5, 6, 7, 8, 9, 10, 11, 12] [0, 1, 2, 3, 4, 5, 6, 7, 8, 9, 10, 11, 12, 13, 14, 15, 16] (.piv 17 [18, 19]))]),
  (369, [(10, .pl [0, 1, 2, 3, 4, 5, 6, 7, 8, 9, 10, 11, 12] [0, 1, 2, 3, 4, 5, 6, 7, 8, 9, 10, 11, 12, 13, 14, 15, 16] (.piv 17 [18, 19]))]),
  (371, [(3, .pl [0, 1, 2, 3, 4, 5, 6, 7, 8] [0, 1, 2, 3, 4, 5, 6, 7, 8, 9, 10, 11, 12] (.piv 13 [14, 15]))]),
  (372, [(5, .pl [0, 4, 5, 6, 7, 8, 9] [0, 1, 2, 3, 4, 5, 6, 7, 8, 9, 10, 11, 12, 13] (.piv 14 [15, 16, 17])), (11, .pl [0, 1, 2, 3, 4, 5, 6, 7, 8, 9, 10] [0, 1, 2, 3, 4, 5, 6, 7, 8, 9, 10, 11, 12, 13, 14] (.piv 15 [16, 17])), (16, .pl [0, 1, 2, 3, 4, 5] [0, 1, 2, 3, 4, 5, 6, 7, 8, 9] (.piv 10 [11, 12])), (17, .pl [0, 1, 2, 3, 4, 5, 6, 7, 8, 9, 10] [0, 1, 2, 3, 4, 5, 6, 7, 8, 9, 10, 11, 12, 13, 14] (.piv 15 [16, 17])), (22, .pl [0, 1, 2, 3, 4, 5] [0, 1, 2, 3, 4, 5, 6, 7, 8, 9] (.piv 10 [11, 12])), (23, .pl [0, 1, 2, 3, 4, 5, 6, 7, 8, 9, 10] [0, 1, 2, 3, 4, 5, 6, 7, 8, 9, 10, 11, 12, 13, 14] (.piv 15 [16, 17]))]),
  (373, [(1, .pl [0, 1, 2, 3, 4, 5, 6, 7, 8] [0, 1, 2, 3, 4, 5, 6, 7, 8, 9, 10, 11, 12] (.piv 13 [14, 15])), (3, .pl [0, 4, 5, 6, 7, 8, 9] [0, 1, 2, 3, 4, 5, 6, 7, 8, 9, 10, 11, 12] (.piv 13 [14, 15, 16])), (5, .pl [0, 4, 5, 6, 7, 8, 9] [0, 1, 2, 3, 4, 5, 6, 7, 8, 9, 10, 11, 12] (.piv 13 [14, 15])), (8, .pl [0, 1, 2, 3, 4, 5, 6, 7, 8] [0, 1, 2, 3, 4, 5, 6, 7, 8, 9, 10, 11, 12] (.piv 13 [14, 15]))]),
  (374, [(1, .pl [0, 1, 2, 3, 4, 5, 6, 7, 8] [0, 1, 2, 3, 4, 5, 6, 7, 8, 9, 10, 11, 12] (.piv 13 [14, 15])), (3, .pl [0, 4, 5, 6, 7, 8, 9] [0, 1, 2, 3, 4, 5, 6, 7, 8, 9, 10, 11, 12] (.piv 13 [14, 15])), (5, .pl [0, 4, 5, 6, 7, 8, 9] [0, 1, 2, 3, 4, 5, 6, 7, 8, 9, 10, 11, 12] (.piv 13 [14, 15, 16])), (8, .pl [0, 1, 2, 3, 4, 5, 6, 7, 8] [0, 1, 2, 3, 4, 5, 6, 7, 8, 9, 10, 11, 12] (.piv 13 [14, 15])), (10, .pl [0, 1, 2, 3, 4, 5, 6, 7, 8] [0, 1, 2, 3, 4, 5, 6, 7, 8, 9, 10, 11, 12] (.piv 13 [14, 15])), (13, .pl [0, 4, 5, 6, 7, 8, 9] [0, 1, 2, 3, 4, 5, 6, 7, 8, 9, 10, 11, 12] (.piv 13 [14, 15])), (15, .pl [0, 4, 5, 6, 7, 8, 9] [0, 1, 2, 3, 4, 5, 6, 7, 8, 9, 10, 11, 12] (.piv 13 [14, 15, 16])), (18, .pl [0, 1, 2, 3, 4, 5, 6, 7, 8] [0, 1, 2, 3, 4, 5, 6, 7, 8, 9, 10, 11, 12] (.piv 13 [14, 15])), (21, .pl [0, 1, 2, 3, 4, 5, 6, 7, 8] [0, 1, 2, 3, 4, 5, 6, 7, 8, 9, 10, 11, 12] (.piv 13 [14, 15]))]),
  (376, [(17, .pl [3, 4, 5, 6, 7, 8] [0, 1, 2, 3, 4, 5, 6, 7, 8, 9, 10, 11] (.piv 12 [13, 14]))]),
  (380, [(9, .pl [0, 1, 2, 3, 4] [0, 1, 2, 3, 4, 5, 6, 7, 8, 9] .nil)]),
  (383, [(3, .pl [0, 1, 5, 6, 7, 8, 9, 10, 11, 12, 13] [0, 1, 2, 3, 4, 5, 6, 7, 8, 9, 10, 11, 12, 13, 14, 15, 16, 17, 18] (.piv 19 [20, 21])), (5, .pl [0, 1, 2, 3, 4, 5, 6, 7, 8] [0, 1, 2, 3, 4, 5, 6, 7, 8, 9, 10, 11, 12] (.piv 13 [14, 15])), (6, .pl [0, 1, 2, 3, 4, 5, 6, 7, 8, 9, 10, 11, 12, 13, 14, 15] [0, 1, 2, 3, 4, 5, 6, 7, 8, 9, 10, 11, 12, 13, 14, 15, 16, 17, 18, 19, 20] (.piv 21 [22, 23]))]),
  (386, [(3, .pl [0, 1, 2, 3, 4, 5, 6, 7, 8] [0, 1, 2, 3, 4, 5, 6, 7, 8, 9, 10, 11, 12] (.piv 13 [14, 15]))]),
  (387, [(4, .pl [0, 4, 5, 6, 7, 8] [0, 1, 2, 3, 4, 5, 6, 7, 8, 9, 10, 11, 12] (.piv 13 [14])), (6, .pl [0, 1, 2, 3, 4, 5, 6, 7, 8, 9, 10] [0, 1, 2, 3, 4, 5, 6, 7, 8, 9, 10, 11, 12, 13, 14] (.piv 15 [16, 17]))]),
  (388, [(10, .pl [0, 1, 2, 3, 4, 5, 6, 7, 8, 9, 10, 11, 12] [0, 1, 2, 3, 4, 5, 6, 7, 8, 9, 10, 11, 12, 13, 14, 15, 16] (.piv 17 [18, 19]))]),
  (389, [(10, .pl [0, 1, 2, 3, 4, 5, 6, 7, 8, 9, 10, 11, 12] [0, 1, 2, 3, 4, 5, 6, 7, 8, 9, 10, 11, 12, 13, 14, 15, 16] (.piv 17 [18, 19]))]),
  (391, [(3, .pl [0, 1, 2, 3, 4, 5, 6, 7, 8] [0, 1, 2, 3, 4, 5, 6, 7, 8, 9, 10, 11, 12] (.piv 13 [14, 15]))]),
  (392, [(5, .pl [0, 4, 5, 6, 7, 8] [0, 1, 2, 3, 4, 5, 6, 7, 8, 9, 10, 11, 12] (.piv 13 [14, 15])), (11, .pl [0, 1, 2, 3, 4, 5, 6, 7, 8, 9, 10] [0, 1, 2, 3, 4, 5, 6, 7, 8, 9, 10, 11, 12, 13, 14] (.piv 15 [16, 17])), (16, .pl [0, 1, 2, 3, 4] [0, 1, 2, 3, 4, 5, 6, 7, 8] (.piv 9 [10])), (17, .pl [0, 1, 2, 3, 4, 5, 6, 7, 8, 9, 10] [0, 1, 2, 3, 4, 5, 6, 7, 8, 9, 10, 11, 12, 13, 14] (.piv 15 [16, 17])), (22, .pl [0, 1, 2, 3, 4] [0, 1, 2, 3, 4, 5, 6, 7, 8] (.piv 9 [10])), (23, .pl [0, 1, 2, 3, 4, 5, 6, 7, 8, 9, 10] [0, 1, 2, 3, 4, 5, 6, 7, 8, 9, 10, 11, 12, 13, 14] (.piv 15 [16, 17]))]),
  (394, [(1, .pl [0, 1, 2, 3, 4, 5, 6, 7, 8] [0, 1, 2, 3, 4, 5, 6, 7, 8, 9, 10, 11, 12] (.piv 13 [14, 15])), (3, .pl [0, 4, 5, 6, 7, 8] [0, 1, 2, 3, 4, 5, 6, 7, 8, 9, 10, 11] (.piv 12 [13, 14])), (5, .pl [0, 4, 5, 6, 7, 8] [0, 1, 2, 3, 4, 5, 6, 7, 8, 9, 10, 11] (.piv 12 [13])), (8, .pl [0, 1, 2, 3, 4, 5, 6, 7, 8] [0, 1, 2, 3, 4, 5, 6, 7, 8, 9, 10, 11, 12] (.piv 13 [14, 15]))]),
  (395, [(1, .pl [0, 1, 2, 3, 4, 5, 6, 7, 8] [0, 1, 2, 3, 4, 5, 6, 7, 8, 9, 10, 11, 12] (.piv 13 [14, 15])), (3, .pl [0, 4, 5, 6, 7, 8] [0, 1, 2, 3, 4, 5, 6, 7, 8, 9, 10, 11] (.piv 12 [13])), (5, .pl [0, 4, 5, 6, 7, 8] [0, 1, 2, 3, 4, 5, 6, 7, 8, 9, 10, 11] (.piv 12 [13, 14])), (8, .pl [0, 1, 2, 3, 4, 5, 6, 7, 8] [0, 1, 2, 3, 4, 5, 6, 7, 8, 9, 10, 11, 12] (.piv 13 [14, 15])), (10, .pl [0, 1, 2, 3, 4, 5, 6, 7, 8] [0, 1, 2, 3, 4, 5, 6, 7, 8, 9, 10, 11, 12] (.piv 13 [14, 15])), (13, .pl [0, 4, 5, 6, 7, 8] [0, 1, 2, 3, 4, 5, 6, 7, 8, 9, 10, 11] (.piv 12 [13])), (15, .pl [0, 4, 5, 6, 7, 8] [0, 1, 2, 3, 4, 5, 6, 7, 8, 9, 10, 11] (.piv 12 [13, 14])), (18, .pl [0, 1, 2, 3, 4, 5, 6, 7, 8] [0, 1, 2, 3, 4, 5, 6, 7, 8, 9, 10, 11, 12] (.piv 13 [14, 15])), (21, .pl [0, 1, 2, 3, 4, 5, 6, 7, 8] [0, 1, 2, 3, 4, 5, 6, 7, 8, 9, 10, 11, 12] (.piv 13 [14, 15]))]),
  (396, [(8, .pl [0, 5, 11, 12, 13, 14, 15] [0, 1, 2, 3, 4, 5, 6, 7, 8, 9, 10, 11, 12, 13, 14, 15, 16, 17, 18, 19, 20, 21] .nil), (10, .pl [0, 5, 10, 11, 12, 13, 15, 16, 17, 18] [0, 1, 2, 3, 4, 5, 6, 7, 8, 9, 10, 11, 12, 13, 15, 16, 17, 18, 14, 19, 20, 21, 22, 23] .nil)]),
  (397, [(1, .pl [0, 1, 2, 3, 4, 5] [0, 1, 2, 3, 4, 5, 6, 7, 8] (.piv 9 [10]))]),
  (398, [(3, .pl [0, 1, 5, 6, 7, 8, 9, 10, 11, 12] [0, 1, 2, 3, 4, 5, 6, 7, 8, 9, 10, 11, 12, 13, 14, 15, 16, 17] (.piv 18 [19])), (5, .pl [0, 1, 2, 3, 4, 5, 6, 7] [0, 1, 2, 3, 4, 5, 6, 7, 8, 9, 10, 11] (.piv 12 [13])), (6, .pl [0, 1, 2, 3, 4, 5, 6, 7, 8, 9, 10, 11, 12, 13, 14, 15] [0, 1, 2, 3, 4, 5, 6, 7, 8, 9, 10, 11, 12, 13, 14, 15, 16, 17, 18, 19, 20] (.piv 21 [22, 23]))]),
  (401, [(8, .pl [0, 1, 2, 3, 4] [0, 1, 2, 3, 4, 5, 6, 7, 8] .nil), (9, .pl [0, 1, 2, 3, 4, 5, 6, 7, 8, 9, 10] [0, 1, 2, 3, 4, 5, 6, 7, 8, 9, 10, 11, 12, 13, 14, 15] (.piv 16 [])), (10, .pl [0, 1, 2, 3, 4, 5, 6, 7, 8, 9, 10, 11, 13, 14, 15, 16] [0, 1, 2, 3, 4, 5, 6, 7, 8, 9, 10, 11, 13, 14, 15, 16, 12, 17, 18, 19] (.piv 20 []))]),
  (403, [(1, .pl [0, 1, 2, 3, 4] [0, 1, 2, 3, 4, 5, 6, 7] (.piv 8 []))])]

def lkR {α : Type} : List (Nat × α) → Nat → Option α
  | [], _ => none
  | (k, v) :: l, i => match Nat.beq i k with
    | true => some v
    | false => lkR l i
def lkF (r : Nat) : Option (List (Nat × Dp)) → Option Dp
  | none => none
  | some l => lkR l r
def drT : DrawT := fun f r => lkF r (lkR drawL f)
end Go.Proofs.YtlfhglcccmghlaaGreatDoor
