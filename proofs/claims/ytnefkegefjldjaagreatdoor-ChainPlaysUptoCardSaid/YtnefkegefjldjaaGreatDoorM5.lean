/- What is proved: contracts and plain facts that the law leans on (texts put together). Conditions: as each names them. -/
import Derived.Test.YtnefkegefjldjaaGreatDoorM4
import Derived.Lib.LaidTab
import Derived.Stop.LaidErr
/- What is proved: versions of contents, in plain lists. Conditions: as each names them. -/
set_option linter.unusedSimpArgs false
set_option linter.unusedVariables false
namespace Go.Proofs.YtnefkegefjldjaaGreatDoor
open Go Go.J Go.RowKit
open Go.Lib (decDigits)

/-- a version: its number, by which one it is told (0: whole), what is kept, what it says -/
structure Ver where
  id : Nat
  base : Nat
  pay : List UInt8
  data : List UInt8
def verK (id : Int) : List UInt8 := [118, 47] ++ Lib.itoa id
abbrev Ver.key (v : Ver) : List UInt8 := verK (v.id : Int)
def valC (base : Nat) (pay : List UInt8) : List UInt8 := putN base ++ textE pay
abbrev Ver.val (v : Ver) : List UInt8 := valC v.base v.pay
def nextK : List UInt8 := [110, 101, 120, 116]
def findC (vs : List Ver) (id : Int) : Option Ver := vs.find? fun v => decide ((v.id : Int) = id)
/-- by how many steps a version is told -/
def Told (vs : List Ver) : Nat → Nat → Prop
  | 0, id => ∃ v ∈ vs, v.id = id ∧ v.base = 0
  | d + 1, id => ∃ v ∈ vs, v.id = id ∧ v.base ≠ 0 ∧ Told vs d v.base
/-- what may be kept for a content near a version -/
def LayOk (vs : List Ver) (near : Nat) (data : List UInt8) (base : Nat) (pay : List UInt8) : Prop :=
  base = 0 ∧ pay = data ∨ base = near ∧ near ≠ 0 ∧ data.length ≤ 4096 ∧ pay.length < data.length ∧ (∃ d, d < 4 ∧ Told vs d near) ∧ ∃ u ∈ vs, u.id = near ∧ ∃ ps, pay = deltaE data.length ps ∧ DeltaOf u.data data ps
/-- a batch that holds versions up to a number -/
structure ChIs (rows : Rws) (m : Bch) (vs : List Ver) (N : Nat) : Prop where
  rnd : (rows.map Prod.fst).Nodup
  mnd : (m.map Prod.fst).Nodup
  has : ∀ v ∈ vs, bgetE rows m v.key = (v.val, true)
  only : ∀ k, (bgetE rows m k).2 = true → begB [118, 47] k = true → ∃ v ∈ vs, v.key = k
  blank : ∀ k, (bgetE rows m k).2 = false → (bgetE rows m k).1 = []
  next : bgetE rows m nextK = (if N = 0 then [] else putN N, decide (N ≠ 0))
  ids : ∀ v ∈ vs, 1 ≤ v.id ∧ v.id ≤ N
  srt : (vs.map Ver.id).Pairwise (· < ·)
  told : ∀ v ∈ vs, ∃ d, d ≤ 4 ∧ Told vs d v.id
  whole : ∀ v ∈ vs, v.base = 0 → v.pay = v.data
  by_ : ∀ v ∈ vs, v.base ≠ 0 → v.base < v.id ∧ v.data.length ≤ 4096 ∧ v.pay.length < v.data.length ∧ ∃ u ∈ vs, u.id = v.base ∧ ∃ ps, v.pay = deltaE v.data.length ps ∧ DeltaOf u.data v.data ps
  size : ∀ v ∈ vs, v.data.length ≤ 549755813888
theorem itoa_pos {a : Int} {b : Nat} (hb : 1 ≤ b) (h : Lib.itoa a = Lib.itoa (b : Int)) : a = b := by
  rw [itoa_nat] at h
  unfold Lib.itoa at h
  split at h
  · have hd := dec_dig b
    rw [← h] at hd
    simp [digB] at hd
  · rename_i h1
    have h2 := dec_inj h
    omega
theorem verK_inj {a : Int} {b : Nat} (hb : 1 ≤ b) (h : verK a = verK (b : Int)) : a = b := itoa_pos hb (List.append_cancel_left h)
theorem verK_beg (id : Int) : begB [118, 47] (verK id) = true := rfl
theorem nd_id {vs : List Ver} (h : (vs.map Ver.id).Nodup) {x y : Ver} (hx : x ∈ vs) (hy : y ∈ vs) (e : x.id = y.id) : x = y := by
  induction vs with
  | nil => cases hx
  | cons a l ih =>
    simp only [List.map_cons, List.nodup_cons] at h
    rcases List.mem_cons.1 hx with hx1 | hx1 <;> rcases List.mem_cons.1 hy with hy1 | hy1
    · rw [hx1, hy1]
    · exact absurd (List.mem_map.2 ⟨y, hy1, by rw [← e, hx1]⟩ : _ ∈ l.map _) h.1
    · exact absurd (List.mem_map.2 ⟨x, hx1, by rw [e, hy1]⟩ : _ ∈ l.map _) h.1
    · exact ih h.2 hx1 hy1
section
variable {rows : Rws} {m : Bch} {vs : List Ver} {N : Nat}
theorem ChIs.nd (h : ChIs rows m vs N) : (vs.map Ver.id).Nodup := h.srt.imp fun hab e => absurd e (Nat.ne_of_lt hab)
theorem findC_some {id : Int} {v : Ver} (h : findC vs id = some v) : v ∈ vs ∧ (v.id : Int) = id := ⟨List.mem_of_find?_eq_some h, by have := List.find?_some h; simpa using this⟩
theorem findC_of (hn : (vs.map Ver.id).Nodup) {v : Ver} (hv : v ∈ vs) : findC vs (v.id : Int) = some v := by
  unfold findC
  cases hf : vs.find? fun x => decide ((x.id : Int) = (v.id : Int)) with
  | none => exact absurd rfl (by simpa using (List.find?_eq_none.1 hf) v hv : ¬ v.id = v.id)
  | some y =>
    have h2 := List.find?_some hf
    have h2 : (y.id : Int) = v.id := by simpa using h2
    have h1 : y.id = v.id := by omega
    rw [nd_id hn (List.mem_of_find?_eq_some hf) hv h1]
theorem ChIs.get_some (h : ChIs rows m vs N) {id : Int} {v : Ver} (hf : findC vs id = some v) : bgetE rows m (verK id) = (v.val, true) ∧ 1 ≤ id := by
  obtain ⟨hv, rfl⟩ := findC_some hf
  exact ⟨h.has v hv, by have := h.ids v hv; omega⟩
theorem ChIs.get_none (h : ChIs rows m vs N) {id : Int} (hf : findC vs id = none) : (bgetE rows m (verK id)).2 = false := by
  cases h2 : (bgetE rows m (verK id)).2 with
  | false => rfl
  | true =>
    obtain ⟨v, hv, e⟩ := h.only _ h2 rfl
    have := verK_inj (h.ids v hv).1 e.symm
    exact absurd (List.find?_eq_none.1 hf v hv) (by simp [this])
theorem Told.mono {vs vs' : List Ver} (h : ∀ v ∈ vs, v ∈ vs') : ∀ {d id : Nat}, Told vs d id → Told vs' d id
  | 0, _, ⟨v, hv, e, h0⟩ => ⟨v, h v hv, e, h0⟩
  | d + 1, _, ⟨v, hv, e, h0, ht⟩ => ⟨v, h v hv, e, h0, Told.mono h ht⟩
theorem Told.mem {vs : List Ver} : ∀ {d id : Nat}, Told vs d id → ∃ v ∈ vs, v.id = id
  | 0, _, ⟨v, hv, e, _⟩ => ⟨v, hv, e⟩
  | _ + 1, _, ⟨v, hv, e, _, _⟩ => ⟨v, hv, e⟩
theorem Told.unique {vs : List Ver} (hn : (vs.map Ver.id).Nodup) : ∀ {d e id : Nat}, Told vs d id → Told vs e id → d = e
  | 0, 0, _, _, _ => rfl
  | 0, e + 1, _, ⟨v, hv, e1, h0⟩, ⟨u, hu, e2, h1, _⟩ => by have := nd_id hn hv hu (e1.trans e2.symm); subst this; exact absurd h0 h1
  | d + 1, 0, _, ⟨v, hv, e1, h0, _⟩, ⟨u, hu, e2, h1⟩ => by have := nd_id hn hv hu (e1.trans e2.symm); subst this; exact absurd h1 h0
  | d + 1, e + 1, _, ⟨v, hv, e1, _, h0⟩, ⟨u, hu, e2, _, h1⟩ => by have := nd_id hn hv hu (e1.trans e2.symm); subst this; rw [Told.unique hn h0 h1]
theorem blank_noted (h : ∀ k, (bgetE rows m k).2 = false → (bgetE rows m k).1 = []) {o : Chg} (ho : o.gone = true → o.val = []) : ∀ k, (bgetE rows (noteE m o) k).2 = false → (bgetE rows (noteE m o) k).1 = [] := fun k hk => by
  rw [bgetE_noted] at hk ⊢
  split
  · rename_i e
    rw [if_pos e] at hk
    exact ho (by simpa using hk)
  · rename_i e
    rw [if_neg e] at hk
    exact h k hk
/-- the next number is given out -/
theorem ChIs.num (h : ChIs rows m vs N) : ChIs rows (noteE m ⟨nextK, putN (N + 1), false⟩) vs (N + 1) := by
  have hne : ∀ v : Ver, v.key ≠ nextK := fun v e => by
    have := congrArg (List.take 1) e
    exact absurd this (by show ([118] : List UInt8) ≠ [110]; decide)
  refine ⟨h.rnd, note_nd h.mnd _, fun v hv => ?_, fun k hk hb => ?_, blank_noted h.blank (by simp), ?_, fun v hv => ?_, h.srt, h.told, h.whole, h.by_, h.size⟩
  · rw [bgetE_noted, if_neg (hne v)]; exact h.has v hv
  · rw [bgetE_noted, if_neg] at hk
    · exact h.only k hk hb
    · intro e
      rw [e] at hb
      exact absurd (show begB [118, 47] nextK = true from hb) (by decide)
  · rw [bgetE_noted, if_pos rfl]
    simp
  · have := h.ids v hv; omega
/-- a version comes -/
theorem ChIs.come (h : ChIs rows m vs N) {id base near : Nat} {pay data : List UInt8} (h1 : 1 ≤ id) (h2 : id ≤ N) (hn : ∀ v ∈ vs, v.id < id) (hl : LayOk vs near data base pay) (hs : data.length ≤ 549755813888) :
    ChIs rows (noteE m ⟨verK (id : Int), valC base pay, false⟩) (vs ++ [⟨id, base, pay, data⟩]) N := by
  have mem : ∀ {y : Ver}, y ∈ vs ++ [⟨id, base, pay, data⟩] → y ∈ vs ∨ y = ⟨id, base, pay, data⟩ := fun {y} hy => by simpa using hy
  have hk : ∀ v ∈ vs, v.key ≠ verK (id : Int) := fun v hv e => by
    have := verK_inj h1 e
    have := hn v hv
    omega
  have hsub : ∀ v ∈ vs, v ∈ vs ++ [⟨id, base, pay, data⟩] := fun v hv => List.mem_append_left _ hv
  have hnew : (⟨id, base, pay, data⟩ : Ver) ∈ vs ++ [⟨id, base, pay, data⟩] := List.mem_append_right _ (List.mem_singleton.2 rfl)
  refine ⟨h.rnd, note_nd h.mnd _, fun v hv => ?_, fun k hk2 hb => ?_, blank_noted h.blank (by simp), ?_, fun v hv => ?_, ?_, fun v hv => ?_, fun v hv h0 => ?_, fun v hv h0 => ?_, fun v hv => ?_⟩
  · rw [bgetE_noted]
    rcases mem hv with hv | rfl
    · rw [if_neg (hk v hv)]; exact h.has v hv
    · rw [if_pos rfl]; rfl
  · rw [bgetE_noted] at hk2
    split at hk2
    · rename_i e; exact ⟨_, hnew, e.symm⟩
    · obtain ⟨v, hv, e⟩ := h.only k hk2 hb
      exact ⟨v, hsub v hv, e⟩
  · rw [bgetE_noted, if_neg]
    · exact h.next
    · intro e
      have := congrArg (List.take 1) e
      exact absurd this (by show ([110] : List UInt8) ≠ [118]; decide)
  · rcases mem hv with hv | rfl
    · exact h.ids v hv
    · exact ⟨h1, h2⟩
  · rw [List.map_append, List.pairwise_append]
    refine ⟨h.srt, by simp, fun a ha b hb => ?_⟩
    obtain ⟨v, hv, rfl⟩ := List.mem_map.1 ha
    rw [List.map_singleton, List.mem_singleton] at hb
    subst hb
    exact hn v hv
  · rcases mem hv with hv | rfl
    · obtain ⟨d, hd, ht⟩ := h.told v hv
      exact ⟨d, hd, ht.mono hsub⟩
    · rcases hl with ⟨hl, _⟩ | ⟨rfl, hl, _, _, ⟨d, hd, ht⟩, _⟩
      · exact ⟨0, by omega, _, hnew, rfl, hl⟩
      · exact ⟨d + 1, by omega, _, hnew, rfl, hl, ht.mono hsub⟩
  · rcases mem hv with hv | rfl
    · exact h.whole v hv h0
    · rcases hl with ⟨_, hl⟩ | ⟨rfl, hl, _⟩
      · exact hl
      · exact absurd h0 hl
  · rcases mem hv with hv | rfl
    · obtain ⟨a, b, c, u, hu, d⟩ := h.by_ v hv h0
      exact ⟨a, b, c, u, hsub u hu, d⟩
    · rcases hl with ⟨hl, _⟩ | ⟨rfl, _, a, b, _, u, hu, d⟩
      · exact absurd hl h0
      · exact ⟨(by have h7 := hn u hu; have h8 := d.1; show base < id; omega), a, b, u, hsub u hu, d⟩
  · rcases mem hv with hv | rfl
    · exact h.size v hv
    · exact hs
end
end Go.Proofs.YtnefkegefjldjaaGreatDoor

/- What is proved: versions that are told otherwise, and that go; in plain lists. Conditions: as each names them. -/
set_option linter.unusedSimpArgs false
set_option linter.unusedVariables false
namespace Go.Proofs.YtnefkegefjldjaaGreatDoor
open Go Go.J Go.RowKit
open Go.Lib (decDigits)

/-- how a batch has grown -/
structure Grew (m m' : Bch) (n s : Nat) : Prop where
  len : m'.length ≤ m.length + n
  sz : szL (m'.map Prod.snd) ≤ szL (m.map Prod.snd) + s
  ok : BchOk m → BchOk m'
theorem Grew.refl (m : Bch) : Grew m m 0 0 := ⟨Nat.le_refl _, Nat.le_refl _, id⟩
theorem Grew.note {m m' : Bch} {n s : Nat} (h : Grew m m' n s) {o : Chg} {k : Nat} (hk : szO o ≤ k) (ho : o.gone = true → o.val = []) : Grew m (noteE m' o) (n + 1) (s + k) := by
  have h1 := szB_note m' o
  refine ⟨by have := h.len; omega, by have := h.sz; omega, fun hb => ?_⟩
  obtain ⟨key, val, gone⟩ := o
  cases gone with
  | false => exact (h.ok hb).note ⟨key, val, false⟩
  | true =>
    have hv : val = [] := ho rfl
    subst hv
    exact (h.ok hb).note ⟨key, [], true⟩
theorem Grew.up {m m' : Bch} {n s n' s' : Nat} (h : Grew m m' n s) (hn : n ≤ n') (hs : s ≤ s') : Grew m m' n' s' := ⟨by have := h.len; omega, by have := h.sz; omega, h.ok⟩
/-- a version told otherwise -/
def updC (vs : List Ver) (x : Ver) : List Ver := vs.map fun v => if v.id = x.id then x else v
def delC (vs : List Ver) (id : Nat) : List Ver := vs.filter fun v => decide (v.id ≠ id)
theorem mem_updC {vs : List Ver} {x v : Ver} (h : v ∈ updC vs x) : v = x ∨ v ∈ vs ∧ v.id ≠ x.id := by
  obtain ⟨u, hu, rfl⟩ := List.mem_map.1 h
  by_cases e : u.id = x.id
  · rw [if_pos e]; exact .inl rfl
  · rw [if_neg e]; exact .inr ⟨hu, e⟩
theorem updC_same {vs : List Ver} {x v : Ver} (h : v ∈ vs) (e : v.id ≠ x.id) : v ∈ updC vs x := List.mem_map.2 ⟨v, h, if_neg e⟩
theorem updC_new {vs : List Ver} {x y : Ver} (h : y ∈ vs) (e : y.id = x.id) : x ∈ updC vs x := List.mem_map.2 ⟨y, h, if_pos e⟩
theorem updC_ids (vs : List Ver) (x : Ver) : (updC vs x).map Ver.id = vs.map Ver.id := by
  unfold updC
  rw [List.map_map]
  exact List.map_congr_left fun v _ => by
    show Ver.id (if v.id = x.id then x else v) = v.id
    split
    · rename_i e; exact e.symm
    · rfl
theorem updC_len (vs : List Ver) (x : Ver) : (updC vs x).length = vs.length := by unfold updC; rw [List.length_map]
def idData (v : Ver) : Nat × List UInt8 := (v.id, v.data)
theorem updC_data {vs : List Ver} {x y : Ver} (hn : (vs.map Ver.id).Nodup) (hy : y ∈ vs) (e : y.id = x.id) (ed : y.data = x.data) : (updC vs x).map idData = vs.map idData := by
  unfold updC
  rw [List.map_map]
  refine List.map_congr_left fun v hv => ?_
  show idData (if v.id = x.id then x else v) = idData v
  split
  · rename_i e2
    have := nd_id hn hv hy (e2.trans e.symm)
    subst this
    show (x.id, x.data) = (v.id, v.data)
    rw [e, ed]
  · rfl
section
variable {rows : Rws} {m : Bch} {vs : List Ver} {N : Nat}
theorem key_next (id : Int) : verK id ≠ nextK := fun e => by
  have := congrArg (List.take 1) e
  exact absurd this (by show ([118] : List UInt8) ≠ [110]; decide)
/-- a version that was told by another one is told otherwise -/
theorem ChIs.relay (h : ChIs rows m vs N) {x y : Ver} (hx : x ∈ vs) (hy : y ∈ vs) (hxy : x.base = y.id) {base : Nat} {pay : List UInt8} (hl : LayOk vs y.base x.data base pay) :
    ChIs rows (noteE m ⟨x.key, valC base pay, false⟩) (updC vs ⟨x.id, base, pay, x.data⟩) N := by
  obtain ⟨x', hx'⟩ : ∃ x' : Ver, x' = ⟨x.id, base, pay, x.data⟩ := ⟨_, rfl⟩
  have e1 : x'.id = x.id := by rw [hx']
  have e2 : x'.base = base := by rw [hx']
  have e3 : x'.pay = pay := by rw [hx']
  have e4 : x'.data = x.data := by rw [hx']
  rw [← hx']
  have hyi := (h.ids y hy).1
  have hxb : x.base ≠ 0 := by omega
  have hlt := (h.by_ x hx hxb).1
  have hnew : x' ∈ updC vs x' := updC_new hx e1.symm
  have hbr : ∀ u ∈ vs, ∃ u' ∈ updC vs x', u'.id = u.id ∧ u'.data = u.data := fun u hu => by
    by_cases e : u.id = x'.id
    · have := nd_id h.nd hu hx (e.trans e1)
      subst this
      exact ⟨x', hnew, e1, e4⟩
    · exact ⟨u, updC_same hu e, rfl, rfl⟩
  have hk : ∀ v ∈ vs, v.id ≠ x'.id → v.key ≠ x.key := fun v hv hne e => hne (by have := verK_inj (h.ids x hx).1 e; omega)
  have htold : ∀ d, ∀ id, Told vs d id → ∃ d', d' ≤ d ∧ Told (updC vs x') d' id := by
    intro d
    induction d using Nat.strongRecOn with
    | ind d ih =>
      intro id ht
      by_cases hid : id = x.id
      · subst hid
        rcases hl with ⟨hl, _⟩ | ⟨hb1, hb2, _, _, ⟨d0, hd0, ht0⟩, _⟩
        · exact ⟨0, Nat.zero_le _, x', hnew, e1, e2.trans hl⟩
        · cases d with
          | zero =>
            obtain ⟨v, hv, e, h0⟩ := ht
            have := nd_id h.nd hv hx e
            subst this
            exact absurd h0 hxb
          | succ d1 =>
            obtain ⟨v, hv, e, h0, ht1⟩ := ht
            have := nd_id h.nd hv hx e
            subst this
            rw [hxy] at ht1
            cases d1 with
            | zero =>
              obtain ⟨v2, hv2, e5, h5⟩ := ht1
              have := nd_id h.nd hv2 hy e5
              subst this
              exact absurd h5 hb2
            | succ d2 =>
              obtain ⟨v2, hv2, e5, h5, ht2⟩ := ht1
              have := nd_id h.nd hv2 hy e5
              subst this
              obtain ⟨d', hd', ht'⟩ := ih d2 (by omega) _ ht2
              exact ⟨d' + 1, by omega, x', hnew, e1, by rw [e2, hb1]; exact hb2, by rw [e2, hb1]; exact ht'⟩
      · cases d with
        | zero =>
          obtain ⟨v, hv, e, h0⟩ := ht
          exact ⟨0, Nat.le_refl _, v, updC_same hv (by rw [e, e1]; exact hid), e, h0⟩
        | succ d1 =>
          obtain ⟨v, hv, e, h0, ht1⟩ := ht
          obtain ⟨d', hd', ht'⟩ := ih d1 (by omega) _ ht1
          exact ⟨d' + 1, by omega, v, updC_same hv (by rw [e, e1]; exact hid), e, h0, ht'⟩
  refine ⟨h.rnd, note_nd h.mnd _, fun v hv => ?_, fun k hk2 hb => ?_, blank_noted h.blank (by simp), ?_, fun v hv => ?_, by rw [updC_ids]; exact h.srt, fun v hv => ?_, fun v hv h0 => ?_, fun v hv h0 => ?_, fun v hv => ?_⟩
  · rw [bgetE_noted]
    rcases mem_updC hv with rfl | ⟨hv, hne⟩
    · rw [if_pos (show verK (v.id : Int) = verK (x.id : Int) by rw [e1])]
      show (valC base pay, true) = (valC v.base v.pay, true)
      rw [e2, e3]
    · rw [if_neg (hk v hv hne)]; exact h.has v hv
  · rw [bgetE_noted] at hk2
    split at hk2
    · rename_i e; exact ⟨_, hnew, by rw [e]; show verK (x'.id : Int) = verK (x.id : Int); rw [e1]⟩
    · obtain ⟨v, hv, e⟩ := h.only k hk2 hb
      obtain ⟨u, hu, e5, _⟩ := hbr v hv
      exact ⟨u, hu, by rw [← e]; show verK (u.id : Int) = verK (v.id : Int); rw [e5]⟩
  · rw [bgetE_noted, if_neg (fun e => key_next _ e.symm)]; exact h.next
  · rcases mem_updC hv with rfl | ⟨hv, hne⟩
    · rw [e1]; exact h.ids x hx
    · exact h.ids v hv
  · rcases mem_updC hv with rfl | ⟨hv, hne⟩
    · rw [e1]
      obtain ⟨d, hd, ht⟩ := h.told x hx
      obtain ⟨d', hd', ht'⟩ := htold d _ ht
      exact ⟨d', by omega, ht'⟩
    · obtain ⟨d, hd, ht⟩ := h.told v hv
      obtain ⟨d', hd', ht'⟩ := htold d _ ht
      exact ⟨d', by omega, ht'⟩
  · rcases mem_updC hv with rfl | ⟨hv, hne⟩
    · rcases hl with ⟨_, hl⟩ | ⟨hb1, hb2, _⟩
      · rw [e3, e4]; exact hl
      · rw [e2, hb1] at h0; exact absurd h0 hb2
    · exact h.whole v hv h0
  · rcases mem_updC hv with rfl | ⟨hv, hne⟩
    · rcases hl with ⟨hl, _⟩ | ⟨hb1, hb2, h5, h6, _, u, hu, hui, hd⟩
      · rw [e2] at h0; exact absurd hl h0
      · obtain ⟨u', hu', e5, e6⟩ := hbr u hu
        have hlt2 := (h.by_ y hy hb2).1
        exact ⟨by omega, by rw [e4]; exact h5, by rw [e3, e4]; exact h6, u', hu', by rw [e5, e2, hb1]; exact hui, by rw [e3, e4, e6]; exact hd⟩
    · obtain ⟨h5, h6, h7, u, hu, hui, hd⟩ := h.by_ v hv h0
      obtain ⟨u', hu', e5, e6⟩ := hbr u hu
      exact ⟨h5, h6, h7, u', hu', e5.trans hui, by rw [e6]; exact hd⟩
  · rcases mem_updC hv with rfl | ⟨hv, hne⟩
    · rw [e4]; exact h.size x hx
    · exact h.size v hv
/-- a version goes by which none is told -/
theorem ChIs.remove (h : ChIs rows m vs N) {id : Nat} (h1 : 1 ≤ id) (hno : ∀ v ∈ vs, v.base ≠ id) : ChIs rows (noteE m ⟨verK (id : Int), [], true⟩) (delC vs id) N := by
  have mem : ∀ {v : Ver}, v ∈ delC vs id ↔ v ∈ vs ∧ v.id ≠ id := fun {v} => by
    unfold delC; rw [List.mem_filter, decide_eq_true_eq]
  have hk : ∀ v ∈ vs, v.id ≠ id → v.key ≠ verK (id : Int) := fun v hv hne e => hne (by have := verK_inj h1 e; omega)
  have htold : ∀ d i, i ≠ id → Told vs d i → Told (delC vs id) d i := by
    intro d
    induction d with
    | zero => rintro i hi ⟨v, hv, e, h0⟩; exact ⟨v, mem.2 ⟨hv, by omega⟩, e, h0⟩
    | succ d ih => rintro i hi ⟨v, hv, e, h0, ht⟩; exact ⟨v, mem.2 ⟨hv, by omega⟩, e, h0, ih _ (hno v hv) ht⟩
  have hsub : (delC vs id).Sublist vs := List.filter_sublist
  refine ⟨h.rnd, note_nd h.mnd _, fun v hv => ?_, fun k hk2 hb => ?_, blank_noted h.blank (fun _ => rfl), ?_, fun v hv => h.ids v (mem.1 hv).1, h.srt.sublist (hsub.map _), fun v hv => ?_, fun v hv h0 => h.whole v (mem.1 hv).1 h0, fun v hv h0 => ?_, fun v hv => h.size v (mem.1 hv).1⟩
  · obtain ⟨hv, hne⟩ := mem.1 hv
    rw [bgetE_noted, if_neg (hk v hv hne)]; exact h.has v hv
  · rw [bgetE_noted] at hk2
    split at hk2
    · exact absurd hk2 (by simp)
    · rename_i hne
      obtain ⟨v, hv, e⟩ := h.only k hk2 hb
      exact ⟨v, mem.2 ⟨hv, fun e2 => hne (by rw [← e]; show verK (v.id : Int) = _; rw [e2])⟩, e⟩
  · rw [bgetE_noted, if_neg (fun e => key_next _ e.symm)]; exact h.next
  · obtain ⟨hv, hne⟩ := mem.1 hv
    obtain ⟨d, hd, ht⟩ := h.told v hv
    exact ⟨d, hd, htold d _ hne ht⟩
  · obtain ⟨hv, hne⟩ := mem.1 hv
    obtain ⟨h5, h6, h7, u, hu, hui, hd⟩ := h.by_ v hv h0
    exact ⟨h5, h6, h7, u, mem.2 ⟨hu, fun e => hno v hv (by omega)⟩, hui, hd⟩
/-- the keys of all versions -/
theorem ChIs.keys (h : ChIs rows m vs N) : ∃ ns : List Nat, bkeysP rows m [118, 47] = ns.map (fun (n : Nat) => verK (n : Int)) ∧ ns.Perm (vs.map Ver.id) := by
  have h1 : (bkeysP rows m [118, 47]).Perm ((vs.map Ver.id).map fun (n : Nat) => verK (n : Int)) := by
    refine (List.perm_ext_iff_of_nodup (nodup_bkeys h.rnd h.mnd _) ?_).2 fun k => ?_
    · refine List.Pairwise.map _ (fun a b (hab : a ≠ b ∧ 1 ≤ b) e => hab.1 (by have := verK_inj hab.2 e; omega)) ?_
      refine h.nd.imp_of_mem fun {a b} _ hb hab => ⟨hab, ?_⟩
      obtain ⟨v, hv, rfl⟩ := List.mem_map.1 hb
      exact (h.ids v hv).1
    · rw [mem_bkeys h.mnd, List.mem_map]
      constructor
      · rintro ⟨a, b⟩
        obtain ⟨v, hv, rfl⟩ := h.only k a b
        exact ⟨v.id, List.mem_map.2 ⟨v, hv, rfl⟩, rfl⟩
      · rintro ⟨n, hn, rfl⟩
        obtain ⟨v, hv, rfl⟩ := List.mem_map.1 hn
        exact ⟨by rw [h.has v hv], rfl⟩
  refine ⟨(bkeysP rows m [118, 47]).map fun k => valE (k.drop 2), ?_, ?_⟩
  · rw [List.map_map]
    conv => lhs; rw [← List.map_id (bkeysP rows m [118, 47])]
    refine List.map_congr_left fun k hk => ?_
    obtain ⟨n, hn, rfl⟩ := List.mem_map.1 (h1.mem_iff.1 hk)
    show verK (n : Int) = verK ((valE ((([118, 47] : List UInt8) ++ Lib.itoa (n : Int)).drop 2) : Nat) : Int)
    have e : (([118, 47] : List UInt8) ++ Lib.itoa (n : Int)).drop 2 = Lib.itoa (n : Int) := rfl
    rw [e, itoa_nat, dec_val]
  · have h2 := h1.map fun k => valE (k.drop 2)
    rw [List.map_map] at h2
    refine h2.trans (List.Perm.of_eq ?_)
    conv => rhs; rw [← List.map_id (vs.map Ver.id)]
    refine List.map_congr_left fun n _ => ?_
    show valE ((([118, 47] : List UInt8) ++ Lib.itoa (n : Int)).drop 2) = n
    have e : (([118, 47] : List UInt8) ++ Lib.itoa (n : Int)).drop 2 = Lib.itoa (n : Int) := rfl
    rw [e, itoa_nat, dec_val]
end
end Go.Proofs.YtnefkegefjldjaaGreatDoor

/- What is proved: how the package chain keeps and reads one version. Conditions: texts of bounded length; the library's table of powers laid. -/
set_option linter.unusedSimpArgs false
set_option linter.unusedVariables false
namespace Go.Proofs.YtnefkegefjldjaaGreatDoor
open Go Go.J Go.RowKit
open Go.Lib (decDigits)

set_option maxHeartbeats 4000000 in
set_option maxRecDepth 100000 in
theorem ckey_c (id : Int) (h0 : -9223372036854775808 ≤ id) (h1 : id ≤ 9223372036854775807) (w0 : World) (ht : powT w0) : Cal Tryz.prog 29 [.int .i64 id] w0 (fun v w' => Upd [] w0 w' ∧ v = str (verK id)) := by
  refine Cal.mk' (by kernel_rfl) Tryz.func29 rfl rfl fun hS => ?_
  have hl := Lib.itoa_length_le id h0 h1
  have e0 : ([118, 47] : List UInt8).length = 2 := rfl
  repeat' (first
    | (show WL _ _ _ _ _ _ _; first
      | refine WL.pure rfl rfl rfl rfl ?_
      | refine WL.nil ?_
      | (refine WL.calls hS rfl rfl (itoa_c id h0 h1 _ ht) rfl rfl rfl ?_; rintro v w rfl hS)
      | refine WL.cat rfl rfl rfl (by omega) rfl rfl rfl ?_)
    | (show WC _ _ _ _ _ _; first
      | refine WC.seq ?_
      | refine WC.region ?_
      | refine WC.ret ?_)
    | refine seqQ_n ?_)
  exact fin1r rfl rfl ⟨hS.upd, rfl⟩
/-- how much a kept version takes -/
theorem szV {id base : Nat} {pay : List UInt8} (h1 : id ≤ 1048576) (h2 : base ≤ 1048576) (h3 : pay.length ≤ 549755813888) : szO ⟨verK (id : Int), valC base pay, false⟩ ≤ pay.length + 100 := by
  have e1 := Lib.itoa_length_le (id : Int) (by omega) (by omega)
  have e2 := putN_len10 (n := base) (by omega)
  have e3 := putN_len10 (n := pay.length) (by omega)
  unfold szO verK valC textE
  simp only [List.length_append, List.length_cons, List.length_nil]
  omega
theorem szD {id : Nat} (h1 : id ≤ 1048576) : szO ⟨verK (id : Int), [], true⟩ ≤ 100 := by
  have e1 := Lib.itoa_length_le (id : Int) (by omega) (by omega)
  unfold szO verK
  simp only [List.length_append, List.length_cons, List.length_nil]
  omega
theorem LayOk.len {vs : List Ver} {near : Nat} {data : List UInt8} {base : Nat} {pay : List UInt8} (h : LayOk vs near data base pay) : pay.length ≤ data.length := by
  rcases h with ⟨_, rfl⟩ | ⟨_, _, _, h, _⟩
  · exact Nat.le_refl _
  · omega
theorem LayOk.base_le {rows : Rws} {m : Bch} {N : Nat} {vs : List Ver} (hc : ChIs rows m vs N) {near : Nat} {data : List UInt8} {base : Nat} {pay : List UInt8} (h : LayOk vs near data base pay) : base ≤ N := by
  rcases h with ⟨h, _⟩ | ⟨h, _, _, _, _, u, hu, hui, _⟩
  · omega
  · have := hc.ids u hu; omega
def loadV (vs : List Ver) (id : Int) : Value := match findC vs id with
  | some x => .tuple #[.int .i64 (x.base : Int), str x.pay, .bool true]
  | none => .tuple #[.int .i64 0, str [], .bool false]
theorem valC_uint {base : Nat} (pay : List UInt8) (h : base < 9223372036854775808) : uintE ((valC base pay).drop 0) = (base, (putN base).length, 0) := uintE_put base h (textE pay)
theorem valC_text {base : Nat} (pay : List UInt8) (h : pay.length < 9223372036854775808) : rtextE ((valC base pay).drop (0 + (putN base).length)) = (pay, pay.length + (putN pay.length).length, 0) := by
  unfold valC textE
  rw [Nat.zero_add, List.drop_left]
  have := rtextE_text pay [] h
  rwa [List.append_nil] at this
section
variable {B Tp q : Nat} {T : Tb} {m : Bch} {fb fp : List Nat} {vs : List Ver} {N : Nat} {w0 : World}
theorem ChIs.base_le {rows : Rws} (h : ChIs rows m vs N) (v : Ver) (hv : v ∈ vs) : v.base ≤ N := by
  by_cases h0 : v.base = 0
  · omega
  · have := (h.by_ v hv h0).1
    have := h.ids v hv
    omega
theorem ChIs.pay_len {rows : Rws} (h : ChIs rows m vs N) (v : Ver) (hv : v ∈ vs) : v.pay.length ≤ 549755813888 := by
  have hs := h.size v hv
  by_cases h0 : v.base = 0
  · rw [h.whole v hv h0]; exact hs
  · have := (h.by_ v hv h0).2.2.1
    omega
set_option maxHeartbeats 8000000 in
set_option maxRecDepth 100000 in
theorem cload_c (id : Int) (h0 : -9223372036854775808 ≤ id) (h1 : id ≤ 9223372036854775807) (hi : InL w0 [bchC B (some ⟨Tp, 0, none⟩) m fb, tabC Tp q T fp]) (hp : PowI w0 (fps [bchC B (some ⟨Tp, 0, none⟩) m fb, tabC Tp q T fp])) (hc : ChIs T.rows m vs N) (hN : N ≤ 1048576) :
    Cal Tryz.prog 26 [.pointer (some ⟨B, 0, none⟩), .int .i64 id] w0 (fun v w' => v = loadV vs id ∧ MutL w0 w' [bchC B (some ⟨Tp, 0, none⟩) m fb, tabC Tp q T fp] [bchC B (some ⟨Tp, 0, none⟩) m fb, tabC Tp q T fp]) := by
  refine Cal.mkL hi (by kernel_rfl) Tryz.func26 rfl rfl fun hS => ?_
  unfold loadV
  cases hf : findC vs id with
  | some x =>
    obtain ⟨hg, hpos⟩ := hc.get_some hf
    have hg : bgetE T.rows m (verK id) = (valC x.base x.pay, true) := hg
    obtain ⟨hx, hid⟩ := findC_some hf
    have hss := hc.size x hx
    have hb : x.base < 9223372036854775808 := by have := hc.base_le x hx; omega
    have hpl := hc.pay_len x hx
    have hu := valC_uint (base := x.base) x.pay hb
    have ht := valC_text (base := x.base) x.pay (by omega)
    have hvl : (valC x.base x.pay).length ≤ 549755813888 + 40 := by
      have h1 := putN_len10 (n := x.base) (by omega)
      have h2 := putN_len10 (n := x.pay.length) (by omega)
      unfold valC textE
      rw [List.length_append, List.length_append]
      omega
    have hul : (putN x.base).length ≤ (valC x.base x.pay).length := by unfold valC; simp
    clear hc hf
    dsimp only
    generalize x.base = base at *
    generalize x.pay = pay at *
    generalize valC base pay = s at *
    generalize (putN base).length = n at *
    repeat' (first
      | (show WL _ _ _ _ _ _ _; first
        | refine WL.pure rfl rfl rfl rfl ?_
        | refine WL.nil ?_
        | (refine WL.calls hS rfl rfl (ckey_c id h0 h1 _ (hp.at hS)) rfl rfl rfl ?_; rintro v w rfl hS)
        | (refine WL.callL (D := [bchC B (some ⟨Tp, 0, none⟩) m fb, tabC Tp q T fp]) hS (by repeat (first | exact Pulls.nil | (apply Pulls.cons; focus (repeat (first | exact Pull.here | apply Pull.there))))) rfl rfl (fun hI => bget_c (verK id) hI) rfl rfl rfl ?_; rintro v w ⟨rfl, hmu⟩ hS; rw [hg]; replace hS := hS _ hmu; clear hmu)
        | (refine WL.callG rfl rfl (wnew_c s _) rfl rfl rfl ?_; rintro v w ⟨hu', r, rfl, hn⟩; replace hS := hS.new hu' hn; clear hu' hn)
        | (refine WL.callG rfl rfl (uint_e hu (hS.holds _ (List.Mem.head _)) (hS.inB_of (List.Mem.head _)) (Nat.zero_le _) (by omega)) rfl rfl rfl ?_; rintro v w ⟨rfl, hm⟩; replace hS := hS.mut hm .here; clear hm)
        | (refine WL.callG rfl rfl (rtext_e ht (hS.holds _ (List.Mem.head _)) (hS.inB_of (List.Mem.head _)) (by omega) (by omega)) rfl rfl rfl ?_; rintro v w ⟨rfl, hm⟩; replace hS := hS.mut hm .here; clear hm))
      | (show WC _ _ _ _ _ _; first
        | refine WC.seq ?_
        | refine WC.region ?_
        | refine WC.ret ?_)
      | refine seqQ_n ?_)
    refine fin3r rfl rfl rfl rfl ⟨?_, hS.mutLp (by repeat (first | exact Pulls.nil | (apply Pulls.cons; focus (repeat (first | exact Pull.here | apply Pull.there)))))⟩
    rw [decide_eq_true (show id > 0 by omega)]
  | none =>
    have hg := hc.get_none hf
    have hbl := hc.blank _ hg
    have hg : bgetE T.rows m (verK id) = ([], false) := Prod.ext hbl hg
    clear hc hf hbl
    repeat' (first
      | (show WL _ _ _ _ _ _ _; first
        | refine WL.pure rfl rfl rfl rfl ?_
        | refine WL.nil ?_
        | (refine WL.calls hS rfl rfl (ckey_c id h0 h1 _ (hp.at hS)) rfl rfl rfl ?_; rintro v w rfl hS)
        | (refine WL.callL (D := [bchC B (some ⟨Tp, 0, none⟩) m fb, tabC Tp q T fp]) hS (by repeat (first | exact Pulls.nil | (apply Pulls.cons; focus (repeat (first | exact Pull.here | apply Pull.there))))) rfl rfl (fun hI => bget_c (verK id) hI) rfl rfl rfl ?_; rintro v w ⟨rfl, hmu⟩ hS; rw [hg]; replace hS := hS _ hmu; clear hmu)
        | (refine WL.callG rfl rfl (wnew_c [] _) rfl rfl rfl ?_; rintro v w ⟨hu', r, rfl, hn⟩; replace hS := hS.new hu' hn; clear hu' hn)
        | (refine WL.callG rfl rfl (uint_e (n := 0) (u := 0) (e := 2) rfl (hS.holds _ (List.Mem.head _)) (hS.inB_of (List.Mem.head _)) (Nat.zero_le _) (by decide)) rfl rfl rfl ?_; rintro v w ⟨rfl, hm⟩; replace hS := hS.mut hm .here; clear hm)
        | (refine WL.callG rfl rfl (rtext_e (u := 0) (t := []) (e := 2) rfl (hS.holds _ (List.Mem.head _)) (hS.inB_of (List.Mem.head _)) (Nat.zero_le _) (by decide)) rfl rfl rfl ?_; rintro v w ⟨rfl, hm⟩; replace hS := hS.mut hm .here; clear hm)
        | refine WL.skip rfl rfl rfl ?_)
      | (show WC _ _ _ _ _ _; first
        | refine WC.seq ?_
        | refine WC.region ?_
        | refine WC.ret ?_)
      | refine seqQ_n ?_)
    exact fin3r rfl rfl rfl rfl ⟨rfl, hS.mutLp (by repeat (first | exact Pulls.nil | (apply Pulls.cons; focus (repeat (first | exact Pull.here | apply Pull.there)))))⟩
end
end Go.Proofs.YtnefkegefjldjaaGreatDoor

/- What is proved: what Depth and Get of the package chain answer. Conditions: the library's table of powers laid. -/
set_option linter.unusedSimpArgs false
set_option linter.unusedVariables false
namespace Go.Proofs.YtnefkegefjldjaaGreatDoor
open Go Go.J Go.RowKit

section
variable {B Tp q : Nat} {T : Tb} {m : Bch} {fb fp : List Nat} {vs : List Ver} {N : Nat}
theorem loadV_none {id : Int} (h : findC vs id = none) : loadV vs id = .tuple #[.int .i64 0, str [], .bool false] := by unfold loadV; rw [h]
theorem loadV_of (hc : ChIs T.rows m vs N) {x : Ver} (hx : x ∈ vs) : loadV vs (x.id : Int) = .tuple #[.int .i64 (x.base : Int), str x.pay, .bool true] := by unfold loadV; rw [findC_of hc.nd hx]
set_option maxHeartbeats 8000000 in
set_option maxRecDepth 100000 in
theorem cdepthNo_c {w0 : World} (id : Int) (h0 : -9223372036854775808 ≤ id) (h1 : id ≤ 9223372036854775807) (hi : InL w0 [bchC B (some ⟨Tp, 0, none⟩) m fb, tabC Tp q T fp]) (hp : PowI w0 (fps [bchC B (some ⟨Tp, 0, none⟩) m fb, tabC Tp q T fp])) (hc : ChIs T.rows m vs N) (hN : N ≤ 1048576) (hf : findC vs id = none) :
    Cal Tryz.prog 11 [.pointer (some ⟨B, 0, none⟩), .int .i64 id] w0 (fun v w' => v = .int .i64 (-1) ∧ MutL w0 w' [bchC B (some ⟨Tp, 0, none⟩) m fb, tabC Tp q T fp] [bchC B (some ⟨Tp, 0, none⟩) m fb, tabC Tp q T fp]) := by
  refine Cal.mkL hi (by kernel_rfl) Tryz.func11 rfl rfl fun hS => ?_
  have hlv := loadV_none hf
  repeat' (first
    | (show WL _ _ _ _ _ _ _; first
      | refine WL.pure rfl rfl rfl rfl ?_
      | refine WL.nil ?_
      | (refine WL.callL (D := [bchC B (some ⟨Tp, 0, none⟩) m fb, tabC Tp q T fp]) hS (by repeat (first | exact Pulls.nil | (apply Pulls.cons; focus (repeat (first | exact Pull.here | apply Pull.there))))) rfl rfl (fun hI => cload_c (vs := vs) (N := N) _ (by omega) (by omega) hI (hp.pull hS (by repeat (first | exact Pulls.nil | (apply Pulls.cons; focus (repeat (first | exact Pull.here | apply Pull.there)))))) hc hN) rfl rfl rfl ?_; rintro v w ⟨rfl, hmu⟩ hS; rw [hlv]; replace hS := hS _ hmu; clear hmu))
    | (show WC _ _ _ _ _ _; first
      | refine WC.seq ?_
      | refine WC.region ?_
      | refine WC.block ?_
      | refine WC.ret ?_
      | refine WC.condT rfl (by decide) ?_)
    | refine seqQ_n ?_
    | refine seqQ_r ?_
    | refine blkQ_r ?_)
  exact fin1r rfl rfl ⟨rfl, hS.mutLp (by repeat (first | exact Pulls.nil | (apply Pulls.cons; focus (repeat (first | exact Pull.here | apply Pull.there)))))⟩
set_option maxHeartbeats 8000000 in
set_option maxRecDepth 100000 in
theorem cdepth_c : ∀ (d id : Nat) {w0 : World} (hi : InL w0 [bchC B (some ⟨Tp, 0, none⟩) m fb, tabC Tp q T fp]) (hp : PowI w0 (fps [bchC B (some ⟨Tp, 0, none⟩) m fb, tabC Tp q T fp])) (hc : ChIs T.rows m vs N) (hN : N ≤ 1048576) (hd : d ≤ 4) (ht : Told vs d id),
    Cal Tryz.prog 11 [.pointer (some ⟨B, 0, none⟩), .int .i64 (id : Int)] w0 (fun v w' => v = .int .i64 (d : Int) ∧ MutL w0 w' [bchC B (some ⟨Tp, 0, none⟩) m fb, tabC Tp q T fp] [bchC B (some ⟨Tp, 0, none⟩) m fb, tabC Tp q T fp])
  | 0, id, w0, hi, hp, hc, hN, hd, ht => by
    refine Cal.mkL hi (by kernel_rfl) Tryz.func11 rfl rfl fun hS => ?_
    obtain ⟨x, hx, rfl, hb0⟩ := ht
    have hlv := loadV_of hc hx
    have hid := hc.ids x hx
    rw [hb0] at hlv
    repeat' (first
      | (show WL _ _ _ _ _ _ _; first
        | refine WL.pure rfl rfl rfl rfl ?_
        | refine WL.nil ?_
        | (refine WL.callL (D := [bchC B (some ⟨Tp, 0, none⟩) m fb, tabC Tp q T fp]) hS (by repeat (first | exact Pulls.nil | (apply Pulls.cons; focus (repeat (first | exact Pull.here | apply Pull.there))))) rfl rfl (fun hI => cload_c (vs := vs) (N := N) _ (by omega) (by omega) hI (hp.pull hS (by repeat (first | exact Pulls.nil | (apply Pulls.cons; focus (repeat (first | exact Pull.here | apply Pull.there)))))) hc hN) rfl rfl rfl ?_; rintro v w ⟨rfl, hmu⟩ hS; rw [hlv]; replace hS := hS _ hmu; clear hmu))
      | (show WC _ _ _ _ _ _; first
        | refine WC.seq ?_
        | refine WC.region ?_
        | refine WC.block ?_
        | refine WC.ret ?_
        | refine WC.condT rfl (by decide) ?_
        | refine WC.condF rfl (by decide) ?_)
      | refine seqQ_n ?_
      | refine seqQ_r ?_
      | refine blkQ_r ?_)
    exact fin1r rfl rfl ⟨rfl, hS.mutLp (by repeat (first | exact Pulls.nil | (apply Pulls.cons; focus (repeat (first | exact Pull.here | apply Pull.there)))))⟩
  | d + 1, id, w0, hi, hp, hc, hN, hd, ht => by
    refine Cal.mkL hi (by kernel_rfl) Tryz.func11 rfl rfl fun hS => ?_
    obtain ⟨x, hx, rfl, hb0, htd⟩ := ht
    have hlv := loadV_of hc hx
    have hid := hc.ids x hx
    have hbl := hc.base_le x hx
    generalize x.base = base at *
    generalize x.id = id at *
    repeat' (first
      | (show WL _ _ _ _ _ _ _; first
        | refine WL.pure rfl rfl rfl rfl ?_
        | refine WL.nil ?_
        | refine WL.add rfl rfl rfl (by omega) rfl rfl rfl ?_
        | (refine WL.callL (D := [bchC B (some ⟨Tp, 0, none⟩) m fb, tabC Tp q T fp]) hS (by repeat (first | exact Pulls.nil | (apply Pulls.cons; focus (repeat (first | exact Pull.here | apply Pull.there))))) rfl rfl (fun hI => cload_c (vs := vs) (N := N) _ (by omega) (by omega) hI (hp.pull hS (by repeat (first | exact Pulls.nil | (apply Pulls.cons; focus (repeat (first | exact Pull.here | apply Pull.there)))))) hc hN) rfl rfl rfl ?_; rintro v w ⟨rfl, hmu⟩ hS; rw [hlv]; replace hS := hS _ hmu; clear hmu)
        | (refine WL.callL (D := [bchC B (some ⟨Tp, 0, none⟩) m fb, tabC Tp q T fp]) hS (by repeat (first | exact Pulls.nil | (apply Pulls.cons; focus (repeat (first | exact Pull.here | apply Pull.there))))) rfl rfl (fun hI => cdepth_c d base hI (hp.pull hS (by repeat (first | exact Pulls.nil | (apply Pulls.cons; focus (repeat (first | exact Pull.here | apply Pull.there)))))) hc hN (by omega) htd) rfl rfl rfl ?_; rintro v w ⟨rfl, hmu⟩ hS; replace hS := hS _ hmu; clear hmu))
      | (show WC _ _ _ _ _ _; first
        | refine WC.seq ?_
        | refine WC.region ?_
        | refine WC.block ?_
        | refine WC.skip ?_
        | refine WC.ret ?_
        | refine WC.condF rfl (by decide) ?_
        | refine WC.condF rfl (decide_eq_false (by first | with_reducible assumption | omega)) ?_)
      | refine seqQ_n ?_
      | refine blkQ_n ?_)
    exact fin1r rfl rfl ⟨vint (by omega), hS.mutLp (by repeat (first | exact Pulls.nil | (apply Pulls.cons; focus (repeat (first | exact Pull.here | apply Pull.there)))))⟩
set_option maxHeartbeats 8000000 in
set_option maxRecDepth 100000 in
theorem cgetNo_c {w0 : World} (id : Int) (h0 : -9223372036854775808 ≤ id) (h1 : id ≤ 9223372036854775807) (hi : InL w0 [bchC B (some ⟨Tp, 0, none⟩) m fb, tabC Tp q T fp]) (hp : PowI w0 (fps [bchC B (some ⟨Tp, 0, none⟩) m fb, tabC Tp q T fp])) (hc : ChIs T.rows m vs N) (hN : N ≤ 1048576) (hf : findC vs id = none) :
    Cal Tryz.prog 10 [.pointer (some ⟨B, 0, none⟩), .int .i64 id] w0 (fun v w' => v = .tuple #[str [], .int .i64 11] ∧ MutL w0 w' [bchC B (some ⟨Tp, 0, none⟩) m fb, tabC Tp q T fp] [bchC B (some ⟨Tp, 0, none⟩) m fb, tabC Tp q T fp]) := by
  refine Cal.mkL hi (by kernel_rfl) Tryz.func10 rfl rfl fun hS => ?_
  have hlv := loadV_none hf
  repeat' (first
    | (show WL _ _ _ _ _ _ _; first
      | refine WL.pure rfl rfl rfl rfl ?_
      | refine WL.nil ?_
      | (refine WL.callL (D := [bchC B (some ⟨Tp, 0, none⟩) m fb, tabC Tp q T fp]) hS (by repeat (first | exact Pulls.nil | (apply Pulls.cons; focus (repeat (first | exact Pull.here | apply Pull.there))))) rfl rfl (fun hI => cload_c (vs := vs) (N := N) _ (by omega) (by omega) hI (hp.pull hS (by repeat (first | exact Pulls.nil | (apply Pulls.cons; focus (repeat (first | exact Pull.here | apply Pull.there)))))) hc hN) rfl rfl rfl ?_; rintro v w ⟨rfl, hmu⟩ hS; rw [hlv]; replace hS := hS _ hmu; clear hmu))
    | (show WC _ _ _ _ _ _; first
      | refine WC.seq ?_
      | refine WC.region ?_
      | refine WC.ret ?_
      | refine WC.condT rfl (by decide) ?_)
    | refine seqQ_n ?_
    | refine seqQ_r ?_)
  exact fin2r rfl rfl rfl ⟨rfl, hS.mutLp (by repeat (first | exact Pulls.nil | (apply Pulls.cons; focus (repeat (first | exact Pull.here | apply Pull.there)))))⟩
set_option maxHeartbeats 8000000 in
set_option maxRecDepth 100000 in
theorem cget_c : ∀ (d : Nat) (x : Ver) {w0 : World} (hi : InL w0 [bchC B (some ⟨Tp, 0, none⟩) m fb, tabC Tp q T fp]) (hp : PowI w0 (fps [bchC B (some ⟨Tp, 0, none⟩) m fb, tabC Tp q T fp])) (hc : ChIs T.rows m vs N) (hN : N ≤ 1048576) (hx : x ∈ vs) (ht : Told vs d x.id),
    Cal Tryz.prog 10 [.pointer (some ⟨B, 0, none⟩), .int .i64 (x.id : Int)] w0 (fun v w' => v = .tuple #[str x.data, .int .i64 0] ∧ MutL w0 w' [bchC B (some ⟨Tp, 0, none⟩) m fb, tabC Tp q T fp] [bchC B (some ⟨Tp, 0, none⟩) m fb, tabC Tp q T fp])
  | 0, x, w0, hi, hp, hc, hN, hx, ht => by
    refine Cal.mkL hi (by kernel_rfl) Tryz.func10 rfl rfl fun hS => ?_
    obtain ⟨y, hy, hyx, hb0⟩ := ht
    obtain rfl := nd_id hc.nd hy hx hyx
    have hlv := loadV_of hc hx
    have hid := hc.ids y hx
    rw [hb0, hc.whole y hx hb0] at hlv
    repeat' (first
      | (show WL _ _ _ _ _ _ _; first
        | refine WL.pure rfl rfl rfl rfl ?_
        | refine WL.nil ?_
        | (refine WL.callL (D := [bchC B (some ⟨Tp, 0, none⟩) m fb, tabC Tp q T fp]) hS (by repeat (first | exact Pulls.nil | (apply Pulls.cons; focus (repeat (first | exact Pull.here | apply Pull.there))))) rfl rfl (fun hI => cload_c (vs := vs) (N := N) _ (by omega) (by omega) hI (hp.pull hS (by repeat (first | exact Pulls.nil | (apply Pulls.cons; focus (repeat (first | exact Pull.here | apply Pull.there)))))) hc hN) rfl rfl rfl ?_; rintro v w ⟨rfl, hmu⟩ hS; rw [hlv]; replace hS := hS _ hmu; clear hmu))
      | (show WC _ _ _ _ _ _; first
        | refine WC.seq ?_
        | refine WC.region ?_
        | refine WC.skip ?_
        | refine WC.ret ?_
        | refine WC.condT rfl (by decide) ?_
        | refine WC.condF rfl (by decide) ?_)
      | refine seqQ_n ?_
      | refine seqQ_r ?_)
    exact fin2r rfl rfl rfl ⟨rfl, hS.mutLp (by repeat (first | exact Pulls.nil | (apply Pulls.cons; focus (repeat (first | exact Pull.here | apply Pull.there)))))⟩
  | d + 1, x, w0, hi, hp, hc, hN, hx, ht => by
    refine Cal.mkL hi (by kernel_rfl) Tryz.func10 rfl rfl fun hS => ?_
    obtain ⟨y, hy, hyx, hb0, htd⟩ := ht
    obtain rfl := nd_id hc.nd hy hx hyx
    have hlv := loadV_of hc hx
    have hid := hc.ids y hx
    have hbl := hc.base_le y hx
    obtain ⟨_, hdl, _, u, hu, hui, ps, hps, hdo⟩ := hc.by_ y hx hb0
    have hus := hc.size u hu
    have hud : Told vs d u.id := by rw [hui]; exact htd
    rw [hps, ← hui] at hlv
    rw [← hui] at hb0 hbl
    clear hps htd hui
    repeat' (first
      | (show WL _ _ _ _ _ _ _; first
        | refine WL.pure rfl rfl rfl rfl ?_
        | refine WL.nil ?_
        | (refine WL.callL (D := [bchC B (some ⟨Tp, 0, none⟩) m fb, tabC Tp q T fp]) hS (by repeat (first | exact Pulls.nil | (apply Pulls.cons; focus (repeat (first | exact Pull.here | apply Pull.there))))) rfl rfl (fun hI => cload_c (vs := vs) (N := N) _ (by omega) (by omega) hI (hp.pull hS (by repeat (first | exact Pulls.nil | (apply Pulls.cons; focus (repeat (first | exact Pull.here | apply Pull.there)))))) hc hN) rfl rfl rfl ?_; rintro v w ⟨rfl, hmu⟩ hS; rw [hlv]; replace hS := hS _ hmu; clear hmu)
        | (refine WL.callL (D := [bchC B (some ⟨Tp, 0, none⟩) m fb, tabC Tp q T fp]) hS (by repeat (first | exact Pulls.nil | (apply Pulls.cons; focus (repeat (first | exact Pull.here | apply Pull.there))))) rfl rfl (fun hI => cget_c d u hI (hp.pull hS (by repeat (first | exact Pulls.nil | (apply Pulls.cons; focus (repeat (first | exact Pull.here | apply Pull.there)))))) hc hN hu hud) rfl rfl rfl ?_; rintro v w ⟨rfl, hmu⟩ hS; replace hS := hS _ hmu; clear hmu)
        | (refine WL.calls hS rfl rfl (dapply_c u.data y.data ps _ hus hdl hdo) rfl rfl rfl ?_; rintro v w rfl hS))
      | (show WC _ _ _ _ _ _; first
        | refine WC.seq ?_
        | refine WC.region ?_
        | refine WC.skip ?_
        | refine WC.ret ?_
        | refine WC.condF rfl (by decide) ?_
        | refine WC.condF rfl (decide_eq_false (by first | with_reducible assumption | omega)) ?_)
      | refine seqQ_n ?_)
    exact fin2r rfl rfl rfl ⟨rfl, hS.mutLp (by repeat (first | exact Pulls.nil | (apply Pulls.cons; focus (repeat (first | exact Pull.here | apply Pull.there)))))⟩
end
end Go.Proofs.YtnefkegefjldjaaGreatDoor

/- What is proved: what lay and Add of the package chain make of a batch. Conditions: texts of bounded length; the library's table of powers laid. -/
set_option linter.unusedSimpArgs false
set_option linter.unusedVariables false
namespace Go.Proofs.YtnefkegefjldjaaGreatDoor
open Go Go.J Go.RowKit

/-- a content that is the same as the one near it takes little -/
def SelfOk (vs : List Ver) (near : Nat) (data : List UInt8) (base : Nat) (pay : List UInt8) : Prop :=
  ∀ u ∈ vs, u.id = near → u.data = data → 16 ≤ data.length → data.length ≤ 4096 → (∃ d, d < 4 ∧ Told vs d near) → base = near ∧ pay.length ≤ 8
theorem self_len {n : Nat} (h : n ≤ 4096) : (deltaE n [.cpy 0 n]).length ≤ 8 := by
  have h1 := putN_len 1 n (by omega)
  have h2 := putN_len 1 (2 * n + 1) (by omega)
  have h3 := putN_len 0 0 (by omega)
  unfold deltaE pcBytes
  simp only [List.flatMap_cons, List.flatMap_nil, List.append_nil, Pc.bytes, List.length_append]
  omega
section
variable {B Tp q : Nat} {T : Tb} {m : Bch} {fb fp : List Nat} {vs : List Ver} {N : Nat} {w0 : World}
set_option maxHeartbeats 8000000 in
set_option maxRecDepth 100000 in
theorem cstore_c (id base : Nat) (pay : List UInt8) (hid : id ≤ 1048576) (hb : base ≤ 1048576) (hpl : pay.length ≤ 549755813888) (hi : InL w0 [bchC B (some ⟨Tp, 0, none⟩) m fb, tabC Tp q T fp]) (hp : PowI w0 (fps [bchC B (some ⟨Tp, 0, none⟩) m fb, tabC Tp q T fp])) (hm : m.length ≤ 1048576) :
    Cal Tryz.prog 47 [.pointer (some ⟨B, 0, none⟩), .int .i64 (id : Int), .int .i64 (base : Int), str pay] w0 (fun v w' => v = .tuple #[] ∧ ∃ fb', MutL w0 w' [bchC B (some ⟨Tp, 0, none⟩) m fb, tabC Tp q T fp] [bchC B (some ⟨Tp, 0, none⟩) (noteE m ⟨verK (id : Int), valC base pay, false⟩) fb', tabC Tp q T fp]) := by
  refine Cal.mkL hi (by kernel_rfl) Tryz.func47 rfl rfl fun hS => ?_
  have h1 := putN_len10 (n := base) (by omega)
  have h2 := textE_len pay
  have h3 := putN_len10 (n := pay.length) (by omega)
  repeat' (first
    | (show WL _ _ _ _ _ _ _; first
      | refine WL.pure rfl rfl rfl rfl ?_
      | refine WL.nil ?_
      | (refine WL.calls hS rfl rfl (wuint_c base _ (by omega)) rfl rfl rfl ?_; rintro v w rfl hS)
      | (refine WL.calls hS rfl rfl (ckey_c (id : Int) (by omega) (by omega) _ (hp.at hS)) rfl rfl rfl ?_; rintro v w rfl hS)
      | (refine WL.calls hS rfl rfl (wtext_c pay _ (by omega)) rfl rfl rfl ?_; rintro v w rfl hS)
      | (refine WL.callL (D := [bchC B (some ⟨Tp, 0, none⟩) m fb]) hS (by repeat (first | exact Pulls.nil | (apply Pulls.cons; focus (repeat (first | exact Pull.here | apply Pull.there))))) rfl rfl (fun hI => bput_c (verK (id : Int)) (valC base pay) hI.head hI.headB (by omega)) rfl rfl rfl ?_; rintro v w ⟨rfl, fb2, hmu⟩ hS; replace hS := hS _ (.of1 hmu); clear hmu)
      | refine WL.cat rfl rfl rfl (by omega) rfl rfl rfl ?_)
    | (show WC _ _ _ _ _ _; first
      | refine WC.seq ?_
      | refine WC.region ?_)
    | refine seqQ_n ?_)
  exact fin0n rfl ⟨rfl, _, hS.mutLp (by repeat (first | exact Pulls.nil | (apply Pulls.cons; focus (repeat (first | exact Pull.here | apply Pull.there)))))⟩
def depIs (vs : List Ver) (id : Int) (e : Int) : Prop := (findC vs id = none ∧ e = -1) ∨ ∃ d n : Nat, d ≤ 4 ∧ e = (d : Int) ∧ id = (n : Int) ∧ Told vs d n
theorem depIs.ex (hc : ChIs T.rows m vs N) (id : Int) : ∃ e, depIs vs id e := by
  cases hf : findC vs id with
  | none => exact ⟨-1, .inl ⟨hf, rfl⟩⟩
  | some x =>
    obtain ⟨hx, rfl⟩ := findC_some hf
    obtain ⟨d, hd, ht⟩ := hc.told x hx
    exact ⟨d, .inr ⟨d, x.id, hd, rfl, rfl, ht⟩⟩
theorem cdep_c {id e : Int} (he : depIs vs id e) (h0 : -9223372036854775808 ≤ id) (h1 : id ≤ 9223372036854775807) (hi : InL w0 [bchC B (some ⟨Tp, 0, none⟩) m fb, tabC Tp q T fp]) (hp : PowI w0 (fps [bchC B (some ⟨Tp, 0, none⟩) m fb, tabC Tp q T fp])) (hc : ChIs T.rows m vs N) (hN : N ≤ 1048576) :
    Cal Tryz.prog 11 [.pointer (some ⟨B, 0, none⟩), .int .i64 id] w0 (fun v w' => v = .int .i64 e ∧ MutL w0 w' [bchC B (some ⟨Tp, 0, none⟩) m fb, tabC Tp q T fp] [bchC B (some ⟨Tp, 0, none⟩) m fb, tabC Tp q T fp]) := by
  rcases he with ⟨hf, rfl⟩ | ⟨d, n, hd, rfl, rfl, ht⟩
  · exact cdepthNo_c id h0 h1 hi hp hc hN hf
  · exact cdepth_c d n hi hp hc hN hd ht
def cgetV (vs : List Ver) (id : Int) : Value := match findC vs id with
  | some x => .tuple #[str x.data, .int .i64 0]
  | none => .tuple #[str [], .int .i64 11]
theorem cgets_c {id : Int} (h0 : -9223372036854775808 ≤ id) (h1 : id ≤ 9223372036854775807) (hi : InL w0 [bchC B (some ⟨Tp, 0, none⟩) m fb, tabC Tp q T fp]) (hp : PowI w0 (fps [bchC B (some ⟨Tp, 0, none⟩) m fb, tabC Tp q T fp])) (hc : ChIs T.rows m vs N) (hN : N ≤ 1048576) :
    Cal Tryz.prog 10 [.pointer (some ⟨B, 0, none⟩), .int .i64 id] w0 (fun v w' => v = cgetV vs id ∧ MutL w0 w' [bchC B (some ⟨Tp, 0, none⟩) m fb, tabC Tp q T fp] [bchC B (some ⟨Tp, 0, none⟩) m fb, tabC Tp q T fp]) := by
  unfold cgetV
  cases hf : findC vs id with
  | none => exact cgetNo_c id h0 h1 hi hp hc hN hf
  | some x =>
    obtain ⟨hx, rfl⟩ := findC_some hf
    obtain ⟨d, hd, ht⟩ := hc.told x hx
    exact cget_c d x hi hp hc hN hx ht
set_option maxHeartbeats 8000000 in
set_option maxRecDepth 100000 in
theorem clay_c (id : Nat) (data : List UInt8) (near : Int) (hid : id ≤ 1048576) (hl : data.length ≤ 549755813888) (h0 : -9223372036854775808 ≤ near) (h1 : near ≤ 9223372036854775807) (hi : InL w0 [bchC B (some ⟨Tp, 0, none⟩) m fb, tabC Tp q T fp]) (hp : PowI w0 (fps [bchC B (some ⟨Tp, 0, none⟩) m fb, tabC Tp q T fp])) (hc : ChIs T.rows m vs N) (hN : N ≤ 1048576) (hm : m.length ≤ 1048576) :
    Cal Tryz.prog 25 [.pointer (some ⟨B, 0, none⟩), .int .i64 (id : Int), str data, .int .i64 near] w0 (fun v w' => v = .tuple #[] ∧ ∃ base pay, LayOk vs near.toNat data base pay ∧ SelfOk vs near.toNat data base pay ∧ ∃ fb', MutL w0 w' [bchC B (some ⟨Tp, 0, none⟩) m fb, tabC Tp q T fp] [bchC B (some ⟨Tp, 0, none⟩) (noteE m ⟨verK (id : Int), valC base pay, false⟩) fb', tabC Tp q T fp]) := by
  refine Cal.mkL hi (by kernel_rfl) Tryz.func25 rfl rfl fun hS => ?_
  obtain ⟨e, he⟩ := depIs.ex hc near
  by_cases hcase : 0 ≤ e ∧ e < 4 ∧ data.length ≤ 4096
  · obtain ⟨he1, he2, hdl⟩ := hcase
    rcases he with ⟨hf, rfl⟩ | ⟨d, n, hd, rfl, rfl, ht⟩
    · omega
    · obtain ⟨u, hu, hui⟩ := ht.mem
      have hus := hc.size u hu
      have hun := hc.ids u hu
      rw [show ((n : Int)).toNat = n from rfl]
      subst hui
      have hself : ∀ {ps : List Pc}, (u.data = data → 8 ≤ data.length → ps = [.cpy 0 data.length]) → (deltaE data.length ps).length < data.length → SelfOk vs u.id data u.id (deltaE data.length ps) := fun {ps} hs _ y hy hyi hyd h16 h40 _ => by
        obtain rfl := nd_id hc.nd hy hu hyi
        rw [hs hyd (by omega)]
        exact ⟨rfl, self_len h40⟩
      have hself2 : ∀ {ps : List Pc}, (u.data = data → 8 ≤ data.length → ps = [.cpy 0 data.length]) → ¬ (deltaE data.length ps).length < data.length → SelfOk vs u.id data 0 data := fun {ps} hs hlt y hy hyi hyd h16 h40 _ => by
        obtain rfl := nd_id hc.nd hy hu hyi
        rw [hs hyd (by omega)] at hlt
        have := self_len h40
        omega
      have hd4 : (d : Int) < 4 := he2
      repeat' (first
        | (show WL _ _ _ _ _ _ _; first
          | refine WL.pure rfl rfl rfl rfl ?_
          | refine WL.nil ?_
          | (refine WL.callL (D := [bchC B (some ⟨Tp, 0, none⟩) m fb, tabC Tp q T fp]) hS (by repeat (first | exact Pulls.nil | (apply Pulls.cons; focus (repeat (first | exact Pull.here | apply Pull.there))))) rfl rfl (fun hI => cdepth_c d u.id hI (hp.pull hS (by repeat (first | exact Pulls.nil | (apply Pulls.cons; focus (repeat (first | exact Pull.here | apply Pull.there)))))) hc hN hd ht) rfl rfl rfl ?_; rintro v w ⟨rfl, hmu⟩ hS; replace hS := hS _ hmu; clear hmu)
          | (refine WL.callL (D := [bchC B (some ⟨Tp, 0, none⟩) m fb, tabC Tp q T fp]) hS (by repeat (first | exact Pulls.nil | (apply Pulls.cons; focus (repeat (first | exact Pull.here | apply Pull.there))))) rfl rfl (fun hI => cget_c d u hI (hp.pull hS (by repeat (first | exact Pulls.nil | (apply Pulls.cons; focus (repeat (first | exact Pull.here | apply Pull.there)))))) hc hN hu ht) rfl rfl rfl ?_; rintro v w ⟨rfl, hmu⟩ hS; replace hS := hS _ hmu; clear hmu)
          | (refine WL.callG rfl rfl (dencode_c u.data data _ hus hdl) rfl rfl rfl ?_; rintro v w ⟨hup, ps, rfl, hps, hpl, hself0⟩; have hS := hS.upd0 hup; clear hup)
          | (refine WL.callL (D := [bchC B (some ⟨Tp, 0, none⟩) m fb, tabC Tp q T fp]) hS (by repeat (first | exact Pulls.nil | (apply Pulls.cons; focus (repeat (first | exact Pull.here | apply Pull.there))))) rfl rfl (fun hI => cstore_c id u.id (deltaE data.length ps) hid (by omega) (by omega) hI (hp.pull hS (by repeat (first | exact Pulls.nil | (apply Pulls.cons; focus (repeat (first | exact Pull.here | apply Pull.there)))))) hm) rfl rfl rfl ?_; rintro v w ⟨rfl, fb2, hmu⟩ hS; replace hS := hS _ hmu; clear hmu)
          | (refine WL.callL (D := [bchC B (some ⟨Tp, 0, none⟩) m fb, tabC Tp q T fp]) hS (by repeat (first | exact Pulls.nil | (apply Pulls.cons; focus (repeat (first | exact Pull.here | apply Pull.there))))) rfl rfl (fun hI => cstore_c id 0 data hid (by omega) (by omega) hI (hp.pull hS (by repeat (first | exact Pulls.nil | (apply Pulls.cons; focus (repeat (first | exact Pull.here | apply Pull.there)))))) hm) rfl rfl rfl ?_; rintro v w ⟨rfl, fb2, hmu⟩ hS; replace hS := hS _ hmu; clear hmu)
          | ((fail_if_success (refine WL.wanted rfl ?_)); refine WL.guard rfl rfl rfl (fun h => ?_) (fun h => ?_) <;> (try simp only [Classical.not_not, Bool.not_eq_true', Bool.not_eq_false', Bool.not_eq_eq_eq_not, Bool.not_true, Bool.not_false, beq_iff_eq, beq_eq_false_iff_ne, ne_eq, decide_eq_decide, decide_eq_true_eq, decide_eq_false_iff_not, Bool.and_eq_true, Bool.or_eq_true, Bool.and_eq_false_iff, Bool.or_eq_false_iff] at h) <;> (try (exfalso; first | omega | contradiction))))
        | (show WC _ _ _ _ _ _; first
          | refine WC.seq ?_
          | refine WC.region ?_
          | refine WC.skip ?_
          | refine WC.ret ?_
          | refine WC.condT rfl (decide_eq_true (by first | with_reducible assumption | omega)) ?_
          | (refine WC.cond rfl (fun h => ?_) (fun h => ?_) <;> (try simp only [Classical.not_not, Bool.not_eq_true', Bool.not_eq_false', Bool.not_eq_eq_eq_not, Bool.not_true, Bool.not_false, beq_iff_eq, beq_eq_false_iff_ne, ne_eq, decide_eq_decide, decide_eq_true_eq, decide_eq_false_iff_not, Bool.and_eq_true, Bool.or_eq_true, Bool.and_eq_false_iff, Bool.or_eq_false_iff] at h) <;> (try (exfalso; first | omega | contradiction))))
        | refine seqQ_n ?_
        | refine seqQ_r ?_)
      · exact fin0r rfl ⟨rfl, u.id, deltaE data.length ps, .inr ⟨rfl, by omega, hdl, by omega, ⟨d, by omega, ht⟩, u, hu, rfl, ps, rfl, hps⟩, hself hself0 (by omega), _, hS.mutLp (by repeat (first | exact Pulls.nil | (apply Pulls.cons; focus (repeat (first | exact Pull.here | apply Pull.there)))))⟩
      · exact fin0n rfl ⟨rfl, 0, data, .inl ⟨rfl, rfl⟩, hself2 hself0 (by omega), _, hS.mutLp (by repeat (first | exact Pulls.nil | (apply Pulls.cons; focus (repeat (first | exact Pull.here | apply Pull.there)))))⟩
  · have hso : SelfOk vs near.toNat data 0 data := fun u hu hui hud h16 h40 ⟨d, hd, ht⟩ => by
      exfalso
      rcases he with ⟨hf, rfl⟩ | ⟨d', n, hd', rfl, rfl, ht'⟩
      · have h2 := hc.ids u hu
        have h3 : near = (u.id : Int) := by omega
        rw [h3, findC_of hc.nd hu] at hf
        cases hf
      · rw [show ((n : Int)).toNat = n from rfl] at ht
        have := Told.unique hc.nd ht ht'
        omega
    by_cases hA : 0 ≤ e ∧ e < 4
    · have hB : ¬ data.length ≤ 4096 := fun h => hcase ⟨hA.1, hA.2, h⟩
      obtain ⟨hA1, hA2⟩ := hA
      clear hcase
      repeat' (first
        | (show WL _ _ _ _ _ _ _; first
          | refine WL.pure rfl rfl rfl rfl ?_
          | refine WL.nil ?_
          | (refine WL.callL (D := [bchC B (some ⟨Tp, 0, none⟩) m fb, tabC Tp q T fp]) hS (by repeat (first | exact Pulls.nil | (apply Pulls.cons; focus (repeat (first | exact Pull.here | apply Pull.there))))) rfl rfl (fun hI => cdep_c he h0 h1 hI (hp.pull hS (by repeat (first | exact Pulls.nil | (apply Pulls.cons; focus (repeat (first | exact Pull.here | apply Pull.there)))))) hc hN) rfl rfl rfl ?_; rintro v w ⟨rfl, hmu⟩ hS; replace hS := hS _ hmu; clear hmu)
          | (refine WL.callL (D := [bchC B (some ⟨Tp, 0, none⟩) m fb, tabC Tp q T fp]) hS (by repeat (first | exact Pulls.nil | (apply Pulls.cons; focus (repeat (first | exact Pull.here | apply Pull.there))))) rfl rfl (fun hI => cstore_c id 0 data hid (by omega) hl hI (hp.pull hS (by repeat (first | exact Pulls.nil | (apply Pulls.cons; focus (repeat (first | exact Pull.here | apply Pull.there)))))) hm) rfl rfl rfl ?_; rintro v w ⟨rfl, fb2, hmu⟩ hS; replace hS := hS _ hmu; clear hmu)
          | ((fail_if_success (refine WL.wanted rfl ?_)); refine WL.guard rfl rfl rfl (fun h => ?_) (fun h => ?_) <;> (try simp only [Classical.not_not, Bool.not_eq_true', Bool.not_eq_false', Bool.not_eq_eq_eq_not, Bool.not_true, Bool.not_false, beq_iff_eq, beq_eq_false_iff_ne, ne_eq, decide_eq_decide, decide_eq_true_eq, decide_eq_false_iff_not, Bool.and_eq_true, Bool.or_eq_true, Bool.and_eq_false_iff, Bool.or_eq_false_iff] at h) <;> (try (exfalso; first | omega | contradiction))))
        | (show WC _ _ _ _ _ _; first
          | refine WC.seq ?_
          | refine WC.region ?_
          | refine WC.skip ?_
          | refine WC.condF rfl (decide_eq_false (by first | with_reducible assumption | omega)) ?_)
        | refine seqQ_n ?_)
      exact fin0n rfl ⟨rfl, 0, data, .inl ⟨rfl, rfl⟩, hso, _, hS.mutLp (by repeat (first | exact Pulls.nil | (apply Pulls.cons; focus (repeat (first | exact Pull.here | apply Pull.there)))))⟩
    · have hA3 : e < 0 ∨ 4 ≤ e := by omega
      clear hcase hA
      rcases hA3 with hA3 | hA3
      all_goals
        repeat' (first
          | (show WL _ _ _ _ _ _ _; first
            | refine WL.pure rfl rfl rfl rfl ?_
            | refine WL.nil ?_
            | (refine WL.callL (D := [bchC B (some ⟨Tp, 0, none⟩) m fb, tabC Tp q T fp]) hS (by repeat (first | exact Pulls.nil | (apply Pulls.cons; focus (repeat (first | exact Pull.here | apply Pull.there))))) rfl rfl (fun hI => cdep_c he h0 h1 hI (hp.pull hS (by repeat (first | exact Pulls.nil | (apply Pulls.cons; focus (repeat (first | exact Pull.here | apply Pull.there)))))) hc hN) rfl rfl rfl ?_; rintro v w ⟨rfl, hmu⟩ hS; replace hS := hS _ hmu; clear hmu)
            | (refine WL.callL (D := [bchC B (some ⟨Tp, 0, none⟩) m fb, tabC Tp q T fp]) hS (by repeat (first | exact Pulls.nil | (apply Pulls.cons; focus (repeat (first | exact Pull.here | apply Pull.there))))) rfl rfl (fun hI => cstore_c id 0 data hid (by omega) hl hI (hp.pull hS (by repeat (first | exact Pulls.nil | (apply Pulls.cons; focus (repeat (first | exact Pull.here | apply Pull.there)))))) hm) rfl rfl rfl ?_; rintro v w ⟨rfl, fb2, hmu⟩ hS; replace hS := hS _ hmu; clear hmu)
            | refine WL.skip rfl rfl rfl ?_
            | ((fail_if_success (refine WL.wanted rfl ?_)); refine WL.guard rfl rfl rfl (fun h => ?_) (fun h => ?_) <;> (try simp only [Classical.not_not, Bool.not_eq_true', Bool.not_eq_false', Bool.not_eq_eq_eq_not, Bool.not_true, Bool.not_false, beq_iff_eq, beq_eq_false_iff_ne, ne_eq, decide_eq_decide, decide_eq_true_eq, decide_eq_false_iff_not, Bool.and_eq_true, Bool.or_eq_true, Bool.and_eq_false_iff, Bool.or_eq_false_iff] at h) <;> (try (exfalso; first | omega | contradiction))))
          | (show WC _ _ _ _ _ _; first
            | refine WC.seq ?_
            | refine WC.region ?_
            | refine WC.skip ?_
            | refine WC.condF rfl (by with_reducible rfl) ?_)
          | refine seqQ_n ?_)
        exact fin0n rfl ⟨rfl, 0, data, .inl ⟨rfl, rfl⟩, hso, _, hS.mutLp (by repeat (first | exact Pulls.nil | (apply Pulls.cons; focus (repeat (first | exact Pull.here | apply Pull.there)))))⟩
set_option maxHeartbeats 8000000 in
set_option maxRecDepth 100000 in
theorem cadd_c (data : List UInt8) (near : Int) (hl : data.length ≤ 549755813888) (h0 : -9223372036854775808 ≤ near) (h1 : near ≤ 9223372036854775807) (hi : InL w0 [bchC B (some ⟨Tp, 0, none⟩) m fb, tabC Tp q T fp]) (hp : PowI w0 (fps [bchC B (some ⟨Tp, 0, none⟩) m fb, tabC Tp q T fp])) (hc : ChIs T.rows m vs N) (hN : N < 1048576) (hm : m.length < 1048576) :
    Cal Tryz.prog 8 [.pointer (some ⟨B, 0, none⟩), str data, .int .i64 near] w0 (fun v w' => v = .int .i64 ((N + 1 : Nat) : Int) ∧ ∃ base pay m' fb', LayOk vs near.toNat data base pay ∧ SelfOk vs near.toNat data base pay ∧
      ChIs T.rows m' (vs ++ [⟨N + 1, base, pay, data⟩]) (N + 1) ∧ Grew m m' 2 (data.length + 200) ∧ MutL w0 w' [bchC B (some ⟨Tp, 0, none⟩) m fb, tabC Tp q T fp] [bchC B (some ⟨Tp, 0, none⟩) m' fb', tabC Tp q T fp]) := by
  refine Cal.mkL hi (by kernel_rfl) Tryz.func8 rfl rfl fun hS => ?_
  have hg := hc.next
  have hc1 := hc.num
  have hml1 := note_len m ⟨nextK, putN (N + 1), false⟩
  have hg1 := (Grew.refl m).note (o := ⟨nextK, putN (N + 1), false⟩) (k := 100) (by
    have := putN_len10 (n := N + 1) (by omega)
    unfold szO
    show 4 + (putN (N + 1)).length + 32 ≤ 100
    omega) (by simp)
  have hlt : ∀ v ∈ vs, v.id < N + 1 := fun v hv => by have := hc.ids v hv; omega
  have hcome := fun {base : Nat} {pay : List UInt8} (hl2 : LayOk vs near.toNat data base pay) => hc1.come (id := N + 1) (by omega) (Nat.le_refl _) hlt hl2 hl
  have hnl := fun {base : Nat} {pay : List UInt8} (hl2 : LayOk vs near.toNat data base pay) => hg1.note (o := ⟨verK ((N + 1 : Nat) : Int), valC base pay, false⟩) (szV (by omega) (Nat.le_trans (hl2.base_le hc) (by omega)) (Nat.le_trans hl2.len hl)) (by simp)
  have hu : ∃ s u e, bgetE T.rows m nextK = (s, decide (N ≠ 0)) ∧ s.length ≤ 10 ∧ uintE (s.drop 0) = (N, u, e) := by
    by_cases hN0 : N = 0
    · subst hN0
      exact ⟨[], 0, 2, hg, Nat.zero_le _, rfl⟩
    · rw [if_neg hN0] at hg
      refine ⟨putN N, (putN N).length, 0, hg, putN_len10 (by omega), ?_⟩
      have := uintE_put N (by omega) []
      rwa [List.append_nil] at this
  obtain ⟨s, u, e, hg1, hsl, hu⟩ := hu
  generalize hm1 : noteE m ⟨nextK, putN (N + 1), false⟩ = m1 at *
  clear hg hc hg1
  repeat' (first
    | (show WL _ _ _ _ _ _ _; first
      | refine WL.pure rfl rfl rfl rfl ?_
      | refine WL.nil ?_
      | refine WL.add rfl rfl rfl (by omega) rfl rfl rfl ?_
      | (refine WL.callL (D := [bchC B (some ⟨Tp, 0, none⟩) m fb, tabC Tp q T fp]) hS (by repeat (first | exact Pulls.nil | (apply Pulls.cons; focus (repeat (first | exact Pull.here | apply Pull.there))))) rfl rfl (fun hI => bget_c nextK hI) rfl rfl rfl ?_; rintro v w ⟨rfl, hmu⟩ hS; rw [hg1]; replace hS := hS _ hmu; clear hmu)
      | (refine WL.callG rfl rfl (wnew_c s _) rfl rfl rfl ?_; rintro v w ⟨hu', r, rfl, hn⟩; replace hS := hS.new hu' hn; clear hu' hn)
      | (refine WL.callG rfl rfl (uint_e hu (hS.holds _ (List.Mem.head _)) (hS.inB_of (List.Mem.head _)) (Nat.zero_le _) (by omega)) rfl rfl rfl ?_; rintro v w ⟨rfl, hm⟩; replace hS := hS.mut hm .here; clear hm)
      | (refine WL.calls hS rfl rfl (wuint_c (N + 1) _ (by omega)) rfl rfl rfl ?_; rintro v w rfl hS)
      | (refine WL.callL (D := [bchC B (some ⟨Tp, 0, none⟩) m fb]) hS (by repeat (first | exact Pulls.nil | (apply Pulls.cons; focus (repeat (first | exact Pull.here | apply Pull.there))))) rfl rfl (fun hI => bput_c nextK (putN (N + 1)) hI.head hI.headB (by omega)) rfl rfl rfl ?_; rintro v w ⟨rfl, fb2, hmu⟩ hS; rw [hm1] at hmu; replace hS := hS _ (.of1 hmu); clear hmu)
      | (refine WL.callL (D := [bchC B (some ⟨Tp, 0, none⟩) m1 fb2, tabC Tp q T fp]) hS (by repeat (first | exact Pulls.nil | (apply Pulls.cons; focus (repeat (first | exact Pull.here | apply Pull.there))))) rfl rfl (fun hI => clay_c (N + 1) data near (by omega) hl h0 h1 hI (hp.pull hS (by repeat (first | exact Pulls.nil | (apply Pulls.cons; focus (repeat (first | exact Pull.here | apply Pull.there)))))) hc1 (by omega) (by omega)) rfl rfl rfl ?_; rintro v w ⟨rfl, base, pay, hlo, hse, fb3, hmu⟩ hS; replace hS := hS _ hmu; clear hmu))
    | (show WC _ _ _ _ _ _; first
      | refine WC.seq ?_
      | refine WC.region ?_
      | refine WC.ret ?_)
    | refine seqQ_n ?_)
  exact fin1r rfl rfl ⟨rfl, base, pay, _, _, hlo, hse, hcome hlo, (hnl hlo).up (by omega) (by have := hlo.len; omega), hS.mutLp (by repeat (first | exact Pulls.nil | (apply Pulls.cons; focus (repeat (first | exact Pull.here | apply Pull.there)))))⟩
end
end Go.Proofs.YtnefkegefjldjaaGreatDoor

/- What is proved: 'slices.Sort' of a row of numbers that the caller owns. Conditions: bounded length. -/
set_option linter.unusedSimpArgs false
set_option linter.unusedVariables false
namespace Go.Proofs.YtnefkegefjldjaaGreatDoor
open Go Go.J Go.RowKit Go.Maps Go.Sort Go.Shelf

def ints (l : List Int) : List Value := l.map (Value.int .i64)
theorem ints_len (l : List Int) : (ints l).length = l.length := by unfold ints; rw [List.length_map]
theorem ints_at {l : List Int} {k : Nat} (h : k < l.length) : (ints l)[k]? = some (.int .i64 l[k]) := by unfold ints; rw [List.getElem?_map, List.getElem?_eq_getElem h]; rfl
theorem ints_snoc (l : List Int) (x : Int) : ints l ++ [.int .i64 x] = ints (l ++ [x]) := by unfold ints; rw [List.map_append]; rfl
theorem RowAt.putI {w : World} {e : TypeId} {g off n cap : Nat} {xs : List Value} (h : RowAt w e 1 (.slice (some ⟨g, off, none⟩) n cap) n xs) (ys : List Int) (hy : ys.length = n) (k : Nat) (os : Array Obj) :
    RowAt (grow (putRow (Value.int .i64) (Sort.ahead w k) g off ys.toArray) os) e 1 (.slice (some ⟨g, off, none⟩) n cap) n (ints ys) ∧ Upd [g] w (grow (putRow (Value.int .i64) (Sort.ahead w k) g off ys.toArray) os) := by
  rcases h.2 with ⟨e0, _⟩ | ⟨g', off', cap', cur, e0, hg, hn, hm, hs, ht⟩
  · cases e0
  · simp only [Value.slice.injEq, Option.some.injEq, Addr.mk.injEq, true_and, and_true] at e0
    obtain ⟨⟨rfl, rfl⟩, rfl⟩ := e0
    have hlt : g < w.heap.size := (Array.getElem?_eq_some_iff.1 hg).1
    have hsz : (putRow (Value.int .i64) (Sort.ahead w k) g off ys.toArray).heap.size = w.heap.size := by rw [Go.Sort.size_putRow]; rfl
    have hput : (putRow (Value.int .i64) (Sort.ahead w k) g off ys.toArray).heap[g]? = some (.cells (putCells (Value.int .i64) off ys.toArray ⟨cur⟩) e (0, 0)) := by
      simp [putRow, mapBlock, Sort.ahead, Array.getElem?_modify, hg, onCells]
    have hgr : ∀ b, b < w.heap.size → (grow (putRow (Value.int .i64) (Sort.ahead w k) g off ys.toArray) os).heap[b]? = (putRow (Value.int .i64) (Sort.ahead w k) g off ys.toArray).heap[b]? := fun b hb => by
      show ((putRow (Value.int .i64) (Sort.ahead w k) g off ys.toArray).heap ++ os)[b]? = _
      rw [Array.getElem?_append_left (by rw [hsz]; exact hb)]
    refine ⟨⟨by rw [ints_len, hy, Nat.mul_one], .inr ⟨g, off, cap, (putCells (Value.int .i64) off ys.toArray ⟨cur⟩).toList, rfl, ?_, hn, hm, ?_, ?_⟩⟩, ⟨rfl, rfl, rfl, ?_, fun b hb hnb => ?_⟩⟩
    · rw [hgr g hlt, hput]
    · simpa [putCells] using hs
    · apply List.ext_getElem?
      intro j
      rw [List.getElem?_take, List.getElem?_drop, Array.getElem?_toList, ints, List.getElem?_map]
      by_cases hj : j < n
      · have hjc : off + j < cur.length := by omega
        simp only [Nat.mul_one, if_pos hj, putCells, Array.getElem?_mapIdx]
        rw [show (Array.mk cur)[off + j]? = some cur[off + j] from by rw [show (Array.mk cur) = cur.toArray from rfl, List.getElem?_toArray]; exact List.getElem?_eq_getElem hjc]
        simp only [Option.map_some]
        rw [if_pos (by simp; omega), List.getElem?_eq_getElem (by omega)]
        simp [getElem!_pos, show j < ys.length by omega]
      · rw [if_neg (by omega), List.getElem?_eq_none (by omega)]
        rfl
    · show w.heap.size ≤ ((putRow (Value.int .i64) (Sort.ahead w k) g off ys.toArray).heap ++ os).size
      rw [Array.size_append, hsz]
      exact Nat.le_add_right _ _
    · rw [hgr b hb]
      have hne : ¬ g = b := fun e => hnb (by rw [← e]; exact List.mem_cons_self ..)
      simp [putRow, mapBlock, Sort.ahead, Array.getElem?_modify, hne]
theorem RowAt.holdsI {w : World} {e : TypeId} {g off n cap : Nat} {l : List Int} (h : RowAt w e 1 (.slice (some ⟨g, off, none⟩) n cap) n (ints l)) (hl : l.length = n) : Holds (Value.int .i64) w g off l.toArray := by
  intro j hj
  have hj' : j < l.length := by simpa using hj
  rcases h.2 with ⟨e0, _⟩ | ⟨g', off', cap', cur, e0, hg, hn, hm, hs, ht⟩
  · cases e0
  · simp only [Value.slice.injEq, Option.some.injEq, Addr.mk.injEq, true_and, and_true] at e0
    obtain ⟨⟨rfl, rfl⟩, rfl⟩ := e0
    refine ⟨?_, by simp [World.frozen?, hg]⟩
    have hc := h.cells j (.int .i64 l[j]) (by rw [ints_at hj'])
    rw [hc]
    simp [getElem!_pos, hj']
/-- a row of texts sorted -/
theorem sortI_c {A : Option Addr} {cap : Nat} {l : List Int} {w0 : World} (hc : (Chunk.own (.slice A l.length cap) 3 1 l.length (ints l)).holds w0) (hi : inB (.own (.slice A l.length cap) 3 1 l.length (ints l)) w0) (hl : l.length ≤ 1099511627776) :
    Cal Tryz.prog 52 [.slice A l.length cap] w0 (fun v w' => v = .tuple #[] ∧ Mut w0 w' (.own (.slice A l.length cap) 3 1 l.length (ints l)) (.own (.slice A l.length cap) 3 1 l.length (ints (l.mergeSort (fun x y => decide (x ≤ y)))))) := by
  rcases l with _ | ⟨x, l⟩
  · exact ⟨by kernel_rfl, (AnyM.slices_Sort_int_none Tryz.sortIL A cap w0).mono fun e w' ⟨h1, h2⟩ => ⟨_, h1, rfl, by rw [h2, List.mergeSort_nil]; exact ⟨.refl _ _, hc, fun b hb => .inl hb⟩⟩⟩
  · generalize hll : x :: l = ll at *
    have hpos : 0 < ll.length := by rw [← hll]; simp
    have hA : ∃ g off, A = some ⟨g, off, none⟩ := by
      rcases hc.2 with ⟨e0, hz⟩ | ⟨g, off, cap', cur, e0, _⟩
      · omega
      · simp only [Value.slice.injEq] at e0; exact ⟨g, off, e0.1⟩
    obtain ⟨g, off, rfl⟩ := hA
    have hg : g < w0.heap.size := hi g (by simp [Chunk.fp, Value.ownBlock])
    refine ⟨by kernel_rfl, (AnyM.slices_Sort_int Tryz.sortIL g off cap ll w0 (RowAt.holdsI hc rfl) hg (by omega)).mono fun e w' ⟨h1, n, os, h2⟩ => ⟨_, h1, rfl, ?_⟩⟩
    subst h2
    have hlen : (ll.mergeSort (fun x y => decide (x ≤ y))).length = ll.length := (List.mergeSort_perm _ _).length_eq
    obtain ⟨r1, r2⟩ := RowAt.putI hc (ll.mergeSort (fun x y => decide (x ≤ y))) hlen n os
    exact ⟨by simpa [Chunk.fp, Value.ownBlock] using r2, r1, fun b hb => .inl hb⟩
end Go.Proofs.YtnefkegefjldjaaGreatDoor

/- What is proved: what Versions, Bytes and Drop of the package chain answer and make of a batch. Conditions: texts and lists of bounded length; the library's table of powers laid. -/
set_option linter.unusedSimpArgs false
set_option linter.unusedVariables false
namespace Go.Proofs.YtnefkegefjldjaaGreatDoor
open Go Go.J Go.RowKit
open Go.Lib (decDigits)

def natI (n : Nat) : Int := n
def idsE (vs : List Ver) : List Int := vs.map fun v => (v.id : Int)
theorem idsE_len (vs : List Ver) : (idsE vs).length = vs.length := by unfold idsE; rw [List.length_map]
theorem idsE_get {vs : List Ver} {j : Nat} (h : j < vs.length) : (ints (idsE vs))[j]? = some (.int .i64 (vs[j].id : Int)) := by
  rw [ints_at (by rw [idsE_len]; exact h)]
  unfold idsE
  rw [List.getElem_map]
theorem sorted_ids {ns : List Nat} {vs : List Ver} (hp : ns.Perm (vs.map Ver.id)) (hs : (vs.map Ver.id).Pairwise (· < ·)) : (ns.map natI).mergeSort (fun x y => decide (x ≤ y)) = idsE vs := by
  have tr : ∀ a b c : Int, decide (a ≤ b) = true → decide (b ≤ c) = true → decide (a ≤ c) = true := fun a b c h1 h2 => by simp only [decide_eq_true_eq] at *; exact Int.le_trans h1 h2
  have to : ∀ a b : Int, (decide (a ≤ b) || decide (b ≤ a)) = true := fun a b => by simp only [Bool.or_eq_true, decide_eq_true_eq]; exact Int.le_total a b
  have h2 : (idsE vs).Pairwise fun a b => decide (a ≤ b) = true := by
    unfold idsE
    rw [List.pairwise_map]
    rw [List.pairwise_map] at hs
    exact hs.imp fun {a b} h => decide_eq_true (by omega)
  have h3 : (ns.map natI).Perm (idsE vs) := by
    have := hp.map natI
    rwa [List.map_map] at this
  refine List.Perm.eq_of_pairwise (le := fun a b => decide (a ≤ b) = true) (fun a b _ _ h1 h2 => ?_) (List.pairwise_mergeSort tr to _) h2 ((List.mergeSort_perm _ _).trans h3)
  simp only [decide_eq_true_eq] at h1 h2
  exact Int.le_antisymm h1 h2
set_option maxHeartbeats 4000000 in
set_option maxRecDepth 100000 in
theorem litePre_c (s p : List UInt8) (w0 : World) : Cal Tryz.prog 100 [str s, str p] w0 (fun v w' => Upd [] w0 w' ∧ v = .bool (decide (s.take p.length = p))) := by
  refine Cal.mk' (by kernel_rfl) Tryz.func100 rfl rfl fun hS => ?_
  by_cases hl : p.length ≤ s.length
  · repeat' (first
      | (show WL _ _ _ _ _ _ _; first
        | refine WL.pure rfl rfl rfl rfl ?_
        | refine WL.nil ?_
        | refine WL.highS rfl rfl rfl rfl (by omega) rfl rfl rfl ?_
        | ((fail_if_success (refine WL.wanted rfl ?_)); refine WL.guard rfl rfl rfl (fun h => ?_) (fun h => ?_) <;> (try simp only [Classical.not_not, Bool.not_eq_true', Bool.not_eq_false', Bool.not_eq_eq_eq_not, Bool.not_true, Bool.not_false, beq_iff_eq, beq_eq_false_iff_ne, ne_eq, decide_eq_decide, decide_eq_true_eq, decide_eq_false_iff_not, Bool.and_eq_true, Bool.or_eq_true, Bool.and_eq_false_iff, Bool.or_eq_false_iff] at h) <;> (try (exfalso; first | omega | contradiction))))
      | (show WC _ _ _ _ _ _; first
        | refine WC.seq ?_
        | refine WC.region ?_
        | refine WC.ret ?_)
      | refine seqQ_n ?_)
    exact fin1r rfl rfl ⟨hS.upd, rfl⟩
  · have hne : decide (s.take p.length = p) = false := decide_eq_false fun e => hl (by rw [← e]; simp; omega)
    rw [hne]
    repeat' (first
      | (show WL _ _ _ _ _ _ _; first
        | refine WL.pure rfl rfl rfl rfl ?_
        | refine WL.nil ?_
        | refine WL.skip rfl rfl rfl ?_
        | ((fail_if_success (refine WL.wanted rfl ?_)); refine WL.guard rfl rfl rfl (fun h => ?_) (fun h => ?_) <;> (try simp only [Classical.not_not, Bool.not_eq_true', Bool.not_eq_false', Bool.not_eq_eq_eq_not, Bool.not_true, Bool.not_false, beq_iff_eq, beq_eq_false_iff_ne, ne_eq, decide_eq_decide, decide_eq_true_eq, decide_eq_false_iff_not, Bool.and_eq_true, Bool.or_eq_true, Bool.and_eq_false_iff, Bool.or_eq_false_iff] at h) <;> (try (exfalso; first | omega | contradiction))))
      | (show WC _ _ _ _ _ _; first
        | refine WC.seq ?_
        | refine WC.region ?_
        | refine WC.ret ?_)
      | refine seqQ_n ?_)
    exact fin1r rfl rfl ⟨hS.upd, rfl⟩
set_option maxHeartbeats 4000000 in
set_option maxRecDepth 100000 in
theorem trimPre_c (p r : List UInt8) (w0 : World) : Cal Tryz.prog 51 [str (p ++ r), str p] w0 (fun v w' => Upd [] w0 w' ∧ v = str r) := by
  have hd : decide ((p ++ r).take p.length = p) = true := by rw [List.take_left]; exact decide_eq_true rfl
  have hr : (p ++ r).drop p.length = r := List.drop_left
  have hl : p.length ≤ (p ++ r).length := by rw [List.length_append]; omega
  generalize p ++ r = s at *
  have h0 : ∀ w0, Cal Tryz.prog 82 [str s, str p] w0 (fun v w' => Upd [] w0 w' ∧ v = str r) := by
    intro w0
    refine Cal.mk' (by kernel_rfl) Tryz.func82 rfl rfl fun hS => ?_
    repeat' (first
      | (show WL _ _ _ _ _ _ _; first
        | refine WL.pure rfl rfl rfl rfl ?_
        | refine WL.nil ?_
        | (refine WL.calls hS rfl rfl (litePre_c s p _) rfl rfl rfl ?_; rintro v w rfl hS; rw [hd])
        | refine WL.lowS rfl rfl rfl rfl (by omega) rfl rfl rfl ?_)
      | (show WC _ _ _ _ _ _; first
        | refine WC.seq ?_
        | refine WC.region ?_
        | refine WC.ret ?_
        | refine WC.condT rfl (by with_reducible rfl) ?_)
      | refine seqQ_n ?_
      | refine seqQ_r ?_)
    rw [hr]
    exact fin1r rfl rfl ⟨hS.upd, rfl⟩
  refine Cal.mk' (by kernel_rfl) Tryz.func51 rfl rfl fun hS => ?_
  repeat' (first
    | (show WL _ _ _ _ _ _ _; first
      | refine WL.pure rfl rfl rfl rfl ?_
      | refine WL.nil ?_
      | (refine WL.calls hS rfl rfl (h0 _) rfl rfl rfl ?_; rintro v w rfl hS))
    | (show WC _ _ _ _ _ _; first
      | refine WC.seq ?_
      | refine WC.region ?_
      | refine WC.ret ?_)
    | refine seqQ_n ?_)
  exact fin1r rfl rfl ⟨hS.upd, rfl⟩
section
variable {B Tp q : Nat} {T : Tb} {m : Bch} {fb fp : List Nat} {vs : List Ver} {N : Nat} {w0 : World}
theorem ChIs.len {rows : Rws} (h : ChIs rows m vs N) : vs.length ≤ N := by
  have h1 := h.nd.length_le_of_subset (l₂ := List.range' 1 N) fun n hn => by
    obtain ⟨v, hv, rfl⟩ := List.mem_map.1 hn
    have := h.ids v hv
    rw [List.mem_range'_1]; omega
  rwa [List.length_map, List.length_range'] at h1
set_option maxHeartbeats 8000000 in
set_option maxRecDepth 100000 in
theorem cvers_c (hi : InL w0 [bchC B (some ⟨Tp, 0, none⟩) m fb, tabC Tp q T fp]) (hc : ChIs T.rows m vs N) (hN : N ≤ 1048576) (hm : m.length ≤ 549755813888) (hr : T.rows.length ≤ 549755813888) :
    Cal Tryz.prog 27 [.pointer (some ⟨B, 0, none⟩)] w0 (fun v w' => ∃ A cap, v = .slice A vs.length cap ∧ MutL w0 w' [bchC B (some ⟨Tp, 0, none⟩) m fb, tabC Tp q T fp] [bchC B (some ⟨Tp, 0, none⟩) m fb, tabC Tp q T fp, .own (.slice A vs.length cap) 3 1 vs.length (ints (idsE vs))]) := by
  refine Cal.mkL hi (by kernel_rfl) Tryz.func27 rfl rfl fun hS => ?_
  obtain ⟨ns, hks, hpe⟩ := hc.keys
  have hnl : ns.length = vs.length := by have := hpe.length_eq; rwa [List.length_map] at this
  have hso := sorted_ids hpe hc.srt
  have hnN : ∀ n ∈ ns, n ≤ N := fun n hn => by
    obtain ⟨v, hv, rfl⟩ := List.mem_map.1 (hpe.mem_iff.1 hn)
    exact (hc.ids v hv).2
  have hvl := hc.len
  have hbk := fun (w0 : World) (hi : InL w0 [bchC B (some ⟨Tp, 0, none⟩) m fb, tabC Tp q T fp]) => bkeys_c [118, 47] hi hr hm
  rw [hks, List.length_map] at hbk
  rw [← hnl]
  clear hpe hc hks
  repeat' (first
    | (show WL _ _ _ _ _ _ _; first
      | refine WL.pure rfl rfl rfl rfl ?_
      | refine WL.nil ?_
      | (refine WL.slit (t := 23) hS rfl rfl rfl rfl rfl ?_; intro w ob hS; have hS := hS.boxRow (n := 0) (size := 1) .here rfl (Nat.zero_le _))
      | (refine WL.callL (D := [bchC B (some ⟨Tp, 0, none⟩) m fb, tabC Tp q T fp]) hS (by repeat (first | exact Pulls.nil | (apply Pulls.cons; focus (repeat (first | exact Pull.here | apply Pull.there))))) rfl rfl (fun hI => hbk _ hI) rfl rfl rfl ?_; rintro v w ⟨AK, capK, rfl, hmu⟩ hS; replace hS := hS _ hmu; clear hmu))
    | (show WC _ _ _ _ _ _; first
      | refine WC.seq ?_
      | refine WC.region ?_
      | refine WC.block ?_)
    | refine seqQ_n ?_)
  clear hbk
  replace hS := hS.droplast2 (D := [.own (.slice (some ⟨ob, 0, none⟩) 0 0) 3 1 0 (ints []), .own (.slice AK ns.length capK) 9 1 ns.length (strs (ns.map fun (n : Nat) => verK (n : Int))), bchC B (some ⟨Tp, 0, none⟩) m fb, tabC Tp q T fp]) (by repeat (first | exact Pulls.nil | (apply Pulls.cons; focus (repeat (first | exact Pull.here | apply Pull.there)))))
  refine WC.loop (σ := Nat × Option Addr × Nat) [10, 11] (fun (j, OA, oc) => [(3, .slice OA j oc), (12, .int .i64 (j : Int))])
    (fun (j, OA, oc) w => j ≤ ns.length ∧ St w0 (fps [bchC B (some ⟨Tp, 0, none⟩) m fb, tabC Tp q T fp]) w [.own (.slice OA j oc) 3 1 j (ints ((ns.map natI).take j)), .own (.slice AK ns.length capK) 9 1 ns.length (strs (ns.map fun (n : Nat) => verK (n : Int))), bchC B (some ⟨Tp, 0, none⟩) m fb, tabC Tp q T fp] (ZL w0 [bchC B (some ⟨Tp, 0, none⟩) m fb, tabC Tp q T fp]))
    (fun (j, _) => ns.length - j) (0, _, 0) ⟨Nat.zero_le _, hS⟩ ⟨rfl, rfl, trivial⟩ ?_
  clear hS
  rintro ⟨j, OA, oc⟩ g w ⟨hj, hS⟩
  show WC _ _ _ (lf _ [(3, .slice OA j oc), (12, .int .i64 (j : Int))] _ _) _ _
  by_cases hlt : j < ns.length
  · have hkx : (strs (ns.map fun (n : Nat) => verK (n : Int)))[j * 1]? = some (str ([118, 47] ++ Lib.itoa (ns[j] : Int))) := by
      rw [Nat.mul_one]
      have h2 : j < (ns.map fun (n : Nat) => verK (n : Int)).length := by rw [List.length_map]; exact hlt
      rw [strs_at h2, List.getElem_map]
      rfl
    obtain ⟨kg, ko, rfl⟩ := hS.own_addr (A := AK) (n := ns.length) (by repeat (first | exact List.Mem.head _ | apply List.Mem.tail)) (Nat.lt_of_le_of_lt (Nat.zero_le j) hlt)
    have htk : ints ((ns.map natI).take j) ++ [.int .i64 (ns[j] : Int)] = ints ((ns.map natI).take (j + 1)) := by
      rw [ints_snoc, List.take_succ_eq_append_getElem (by rw [List.length_map]; exact hlt), List.getElem_map]
      rfl
    have hnj := hnN _ (List.getElem_mem hlt)
    have hit := itoa_nat ns[j]
    have hval := dec_val ns[j]
    have hdig := dec_dig ns[j]
    have hdne := decDigits_ne ns[j]
    have hdlen := dec_len (n := ns[j]) (k := 12) (by omega)
    rw [← hit] at hval hdig hdne hdlen
    have hcap := (hS.own_len (List.Mem.head _)).2.2
    generalize ns[j] = n at *
    generalize Lib.itoa (n : Int) = s at *
    clear hso hnN hit
    repeat' (first
      | (show WL _ _ _ _ _ _ _; first
        | refine WL.pure rfl rfl rfl rfl ?_
        | refine WL.nil ?_
        | refine WL.add rfl rfl rfl (by omega) rfl rfl rfl ?_
        | (refine WL.load hS rfl rfl (LdOk.ownAt (by repeat (first | exact List.Mem.head _ | apply List.Mem.tail)) rfl ⟨_, rfl⟩ hkx rfl) rfl rfl rfl ?_)
        | (refine WL.calls hS rfl rfl (trimPre_c [118, 47] s _) rfl rfl rfl ?_; rintro v w rfl hS)
        | (refine WL.calls hS rfl rfl (atoi_c s hdne hdlen hdig _) rfl rfl rfl ?_; rintro v w rfl hS; rw [hval])
        | (refine WL.app hS rfl rfl rfl rfl (RdOk.box (by repeat (first | exact List.Mem.head _ | apply List.Mem.tail))) rfl rfl (fun A cap => by repeat (first | exact Repl.here | apply Repl.there)) (by omega) rfl rfl rfl ?_; intro A3 cap3 w hS)
        | refine WL.index rfl rfl rfl rfl (by first | with_reducible assumption | omega) rfl rfl rfl rfl ?_
        | (refine WL.slit hS rfl rfl rfl rfl rfl ?_; intro w b hS))
      | (show WC _ _ _ _ _ _; first
        | refine WC.seq ?_
        | refine WC.region ?_
        | refine WC.block ?_
        | refine WC.skip ?_
        | refine WC.condT rfl (decide_eq_true (by first | with_reducible assumption | omega)) ?_)
      | refine seqQ_n ?_
      | refine blkQ_n ?_)
    refine rndQ_n (j + 1, A3, cap3) ⟨by omega, ?_⟩ (by show ns.length - (j + 1) < ns.length - j; omega) ⟨rfl, vint (by omega), trivial⟩ ⟨rfl, rfl, trivial⟩
    rw [← htk]
    exact hS.droplast2 (D := [.own (.slice A3 (j + 1) cap3) 3 1 (j + 1) (ints ((ns.map natI).take j) ++ [.int .i64 (n : Int)]), .own (.slice (some ⟨kg, ko, none⟩) ns.length capK) 9 1 ns.length (strs (ns.map fun (n : Nat) => verK (n : Int))), bchC B (some ⟨Tp, 0, none⟩) m fb, tabC Tp q T fp]) (by repeat (first | exact Pulls.nil | (apply Pulls.cons; focus (repeat (first | exact Pull.here | apply Pull.there)))))
  · have hje : j = ns.length := by omega
    subst hje
    have htk : (ns.map natI).take ns.length = ns.map natI := by
      rw [show ns.length = (ns.map natI).length by rw [List.length_map], List.take_length]
    rw [htk] at hS
    have hsl : (ns.map natI).length = ns.length := List.length_map ..
    have hsc := fun (w0 : World) h1 h2 => sortI_c (A := OA) (cap := oc) (l := ns.map natI) (w0 := w0) h1 h2 (by rw [hsl]; omega)
    rw [hso, hsl] at hsc
    clear hso hnN
    repeat' (first
      | (show WL _ _ _ _ _ _ _; first
        | refine WL.pure rfl rfl rfl rfl ?_
        | refine WL.nil ?_
        | (refine WL.callG rfl rfl (hsc _ (hS.holds _ (List.Mem.head _)) (hS.inB_of (List.Mem.head _))) rfl rfl rfl ?_; rintro v w ⟨rfl, hmut⟩; have hS := hS.mut hmut .here; clear hmut))
      | (show WC _ _ _ _ _ _; first
        | refine WC.seq ?_
        | refine WC.region ?_
        | refine WC.exit ?_
        | refine WC.ret ?_
        | refine WC.condF rfl (decide_eq_false (by first | with_reducible assumption | omega)) ?_)
      | refine seqQ_n ?_
      | refine seqQ_x ?_
      | refine blkQ_hit rfl ?_
      | refine rndQ_x ?_)
    exact fin1r rfl rfl ⟨_, _, rfl, hS.mutLp (by repeat (first | exact Pulls.nil | (apply Pulls.cons; focus (repeat (first | exact Pull.here | apply Pull.there)))))⟩
def payS (vs : List Ver) : Nat := (vs.map fun v => v.pay.length).sum
theorem payS_snoc {vs : List Ver} {j : Nat} (h : j < vs.length) : payS (vs.take (j + 1)) = payS (vs.take j) + vs[j].pay.length := by
  unfold payS
  rw [List.take_succ_eq_append_getElem h, List.map_append, List.sum_append]
  simp
theorem payS_le {vs : List Ver} {K : Nat} (h : ∀ v ∈ vs, v.pay.length ≤ K) : payS vs ≤ vs.length * K := by
  induction vs with
  | nil => simp [payS]
  | cons a l ih =>
    have h1 := ih fun v hv => h v (List.mem_cons_of_mem _ hv)
    have h2 := h a (List.mem_cons_self ..)
    unfold payS at *
    rw [List.map_cons, List.sum_cons, List.length_cons, Nat.add_mul, Nat.one_mul]
    omega
set_option maxHeartbeats 8000000 in
set_option maxRecDepth 100000 in
theorem cbytes_c (hi : InL w0 [bchC B (some ⟨Tp, 0, none⟩) m fb, tabC Tp q T fp]) (hp : PowI w0 (fps [bchC B (some ⟨Tp, 0, none⟩) m fb, tabC Tp q T fp])) (hc : ChIs T.rows m vs N) (hN : N ≤ 1048576) (hm : m.length ≤ 549755813888) (hr : T.rows.length ≤ 549755813888) :
    Cal Tryz.prog 12 [.pointer (some ⟨B, 0, none⟩)] w0 (fun v w' => v = .int .i64 (payS vs : Int) ∧ MutL w0 w' [bchC B (some ⟨Tp, 0, none⟩) m fb, tabC Tp q T fp] [bchC B (some ⟨Tp, 0, none⟩) m fb, tabC Tp q T fp]) := by
  refine Cal.mkL hi (by kernel_rfl) Tryz.func12 rfl rfl fun hS => ?_
  have hvl := hc.len
  repeat' (first
    | (show WL _ _ _ _ _ _ _; first
      | refine WL.pure rfl rfl rfl rfl ?_
      | refine WL.nil ?_
      | (refine WL.callL (D := [bchC B (some ⟨Tp, 0, none⟩) m fb, tabC Tp q T fp]) hS (by repeat (first | exact Pulls.nil | (apply Pulls.cons; focus (repeat (first | exact Pull.here | apply Pull.there))))) rfl rfl (fun hI => cvers_c hI hc hN hm hr) rfl rfl rfl ?_; rintro v w ⟨AV, capV, rfl, hmu⟩ hS; replace hS := hS _ hmu; clear hmu))
    | (show WC _ _ _ _ _ _; first
      | refine WC.seq ?_
      | refine WC.region ?_
      | refine WC.block ?_)
    | refine seqQ_n ?_)
  refine WC.loop (σ := Nat) [0, 10, 11] (fun j => [(3, .int .i64 (payS (vs.take j) : Int)), (12, .int .i64 (j : Int))])
    (fun j w => j ≤ vs.length ∧ St w0 (fps [bchC B (some ⟨Tp, 0, none⟩) m fb, tabC Tp q T fp]) w [bchC B (some ⟨Tp, 0, none⟩) m fb, tabC Tp q T fp, .own (.slice AV vs.length capV) 3 1 vs.length (ints (idsE vs))] (ZL w0 [bchC B (some ⟨Tp, 0, none⟩) m fb, tabC Tp q T fp]))
    (fun j => vs.length - j) 0 ⟨Nat.zero_le _, hS.droplast2 (by repeat (first | exact Pulls.nil | (apply Pulls.cons; focus (repeat (first | exact Pull.here | apply Pull.there)))))⟩ ⟨rfl, rfl, trivial⟩ ?_
  clear hS
  rintro j g w ⟨hj, hS⟩
  show WC _ _ _ (lf _ [(3, .int .i64 (payS (vs.take j) : Int)), (12, .int .i64 (j : Int))] _ _) _ _
  have hpl := fun v (hv : v ∈ vs.take j) => hc.pay_len v (List.mem_of_mem_take hv)
  have hps := payS_le hpl
  rw [List.length_take] at hps
  by_cases hlt : j < vs.length
  · obtain ⟨kg, ko, rfl⟩ := hS.own_addr (A := AV) (n := vs.length) (by repeat (first | exact List.Mem.head _ | apply List.Mem.tail)) (Nat.lt_of_le_of_lt (Nat.zero_le j) hlt)
    have hkx : (ints (idsE vs))[j * 1]? = some (.int .i64 (vs[j].id : Int)) := by rw [Nat.mul_one]; exact idsE_get hlt
    have hx := List.getElem_mem hlt
    have hlv := loadV_of hc hx
    have hxi := hc.ids _ hx
    have hxp := hc.pay_len _ hx
    have hsn := payS_snoc hlt
    generalize payS (vs.take j) = sm at *
    generalize vs[j].pay = pay at *
    generalize vs[j].base = base at *
    generalize vs[j].id = id at *
    have hsm : sm ≤ 1048576 * 549755813888 := by
      refine Nat.le_trans hps (Nat.mul_le_mul_right _ ?_)
      omega
    clear hpl hps
    repeat' (first
      | (show WL _ _ _ _ _ _ _; first
        | refine WL.pure rfl rfl rfl rfl ?_
        | refine WL.nil ?_
        | refine WL.add rfl rfl rfl (by omega) rfl rfl rfl ?_
        | (refine WL.load hS rfl rfl (LdOk.ownAt (by repeat (first | exact List.Mem.head _ | apply List.Mem.tail)) rfl ⟨_, rfl⟩ hkx rfl) rfl rfl rfl ?_)
        | (refine WL.callL (D := [bchC B (some ⟨Tp, 0, none⟩) m fb, tabC Tp q T fp]) hS (by repeat (first | exact Pulls.nil | (apply Pulls.cons; focus (repeat (first | exact Pull.here | apply Pull.there))))) rfl rfl (fun hI => cload_c (vs := vs) (N := N) (id : Int) (by omega) (by omega) hI (hp.pull hS (by repeat (first | exact Pulls.nil | (apply Pulls.cons; focus (repeat (first | exact Pull.here | apply Pull.there)))))) hc hN) rfl rfl rfl ?_; rintro v w ⟨rfl, hmu⟩ hS; rw [hlv]; replace hS := hS _ hmu; clear hmu)
        | refine WL.index rfl rfl rfl rfl (by first | with_reducible assumption | omega) rfl rfl rfl rfl ?_)
      | (show WC _ _ _ _ _ _; first
        | refine WC.seq ?_
        | refine WC.region ?_
        | refine WC.block ?_
        | refine WC.skip ?_
        | refine WC.condT rfl (decide_eq_true (by first | with_reducible assumption | omega)) ?_)
      | refine seqQ_n ?_
      | refine blkQ_n ?_)
    exact rndQ_n (j + 1) ⟨by omega, hS.droplast2 (by repeat (first | exact Pulls.nil | (apply Pulls.cons; focus (repeat (first | exact Pull.here | apply Pull.there)))))⟩ (by show vs.length - (j + 1) < vs.length - j; omega) ⟨vint (by omega), vint (by omega), trivial⟩ ⟨rfl, rfl, rfl, trivial⟩
  · have hje : j = vs.length := by omega
    subst hje
    rw [List.take_length]
    clear hpl hps
    repeat' (first
      | (show WL _ _ _ _ _ _ _; first
        | refine WL.pure rfl rfl rfl rfl ?_
        | refine WL.nil ?_)
      | (show WC _ _ _ _ _ _; first
        | refine WC.seq ?_
        | refine WC.region ?_
        | refine WC.exit ?_
        | refine WC.ret ?_
        | refine WC.condF rfl (decide_eq_false (by first | with_reducible assumption | omega)) ?_)
      | refine seqQ_n ?_
      | refine seqQ_x ?_
      | refine blkQ_hit rfl ?_
      | refine rndQ_x ?_)
    exact fin1r rfl rfl ⟨rfl, hS.mutLp (by repeat (first | exact Pulls.nil | (apply Pulls.cons; focus (repeat (first | exact Pull.here | apply Pull.there)))))⟩
end
end Go.Proofs.YtnefkegefjldjaaGreatDoor

/- What is proved: what Drop of the package chain makes of a batch. Conditions: texts and lists of bounded length; the library's table of powers laid. -/
set_option linter.unusedSimpArgs false
set_option linter.unusedVariables false
namespace Go.Proofs.YtnefkegefjldjaaGreatDoor
open Go Go.J Go.RowKit

/-- where Drop stands: the versions up to a place are told by others -/
structure DropIs (rows : Rws) (m0 : Bch) (vs0 : List Ver) (y : Ver) (N j : Nat) (vs : List Ver) (m : Bch) : Prop where
  is_ : ChIs rows m vs N
  dat : vs.map idData = vs0.map idData
  yin : y ∈ vs
  done : ∀ v ∈ vs, v.base = y.id → ∀ i (h : i < vs0.length), i < j → vs0[i].id ≠ v.id
  grew : Grew m0 m j (j * 4300)
theorem ids_of_data {a b : List Ver} (h : a.map idData = b.map idData) : a.map Ver.id = b.map Ver.id := by
  have := congrArg (List.map Prod.fst) h
  rwa [List.map_map, List.map_map] at this
section
variable {rows : Rws} {m0 : Bch} {vs0 vs : List Ver} {y : Ver} {N j : Nat} {m : Bch}
theorem DropIs.at_ (h : DropIs rows m0 vs0 y N j vs m) (hj : j < vs0.length) : ∃ x ∈ vs, x.id = vs0[j].id ∧ x.data = vs0[j].data := by
  have h1 := congrArg (fun l => l[j]?) h.dat
  have hl : vs.length = vs0.length := by have := congrArg List.length h.dat; rwa [List.length_map, List.length_map] at this
  rw [List.getElem?_map, List.getElem?_map, List.getElem?_eq_getElem hj, List.getElem?_eq_getElem (by omega)] at h1
  have h1 := Option.some.inj h1
  exact ⟨vs[j], List.getElem_mem _, congrArg Prod.fst h1, congrArg Prod.snd h1⟩
theorem DropIs.keep (h : DropIs rows m0 vs0 y N j vs m) (hj : j < vs0.length) {x : Ver} (hx : x ∈ vs) (hxi : x.id = vs0[j].id) (hb : x.base ≠ y.id) : DropIs rows m0 vs0 y N (j + 1) vs m := by
  refine ⟨h.is_, h.dat, h.yin, fun v hv hvb i hi hij e => ?_, h.grew.up (by omega) (by omega)⟩
  rcases Nat.lt_or_ge i j with hl | hg
  · exact h.done v hv hvb i hi hl e
  · obtain rfl : i = j := by omega
    have := nd_id h.is_.nd hx hv (hxi.trans e)
    subst this
    exact hb hvb
theorem DropIs.lay (h : DropIs rows m0 vs0 y N j vs m) (hj : j < vs0.length) {x : Ver} (hx : x ∈ vs) (hxi : x.id = vs0[j].id) (hxb : x.base = y.id) (hN : N ≤ 1048576) {base : Nat} {pay : List UInt8} (hl : LayOk vs y.base x.data base pay) :
    DropIs rows m0 vs0 y N (j + 1) (updC vs ⟨x.id, base, pay, x.data⟩) (noteE m ⟨x.key, valC base pay, false⟩) := by
  have hyi := (h.is_.ids y h.yin).1
  have hlt := (h.is_.by_ x hx (by omega)).1
  have hx40 := (h.is_.by_ x hx (by omega)).2.1
  have hxi2 := h.is_.ids x hx
  have hbl := hl.base_le h.is_
  have hpl := hl.len
  have hnl := h.grew.note (o := ⟨x.key, valC base pay, false⟩) (k := 4300) (Nat.le_trans (szV (by omega) (by omega) (by omega)) (by omega)) (by simp)
  refine ⟨h.is_.relay hx h.yin hxb hl, (updC_data (x := ⟨x.id, base, pay, x.data⟩) h.is_.nd hx rfl rfl).trans h.dat, updC_same h.yin (by show y.id ≠ x.id; omega), fun v hv hvb i hi hij e => ?_, hnl.up (by omega) (by omega)⟩
  rcases mem_updC hv with rfl | ⟨hv, hne⟩
  · have hvb : base = y.id := hvb
    rcases hl with ⟨hl, _⟩ | ⟨hl, hl2, _⟩
    · omega
    · have := (h.is_.by_ y h.yin (by omega)).1
      omega
  · have hne : v.id ≠ x.id := hne
    rcases Nat.lt_or_ge i j with hl | hg
    · exact h.done v hv hvb i hi hl e
    · obtain rfl : i = j := by omega
      exact hne (e.symm.trans hxi.symm)
theorem DropIs.fin (h : DropIs rows m0 vs0 y N vs0.length vs m) : ∀ v ∈ vs, v.base ≠ y.id := fun v hv e => by
  have h1 := ids_of_data h.dat
  have h2 : v.id ∈ vs0.map Ver.id := by rw [← h1]; exact List.mem_map.2 ⟨v, hv, rfl⟩
  obtain ⟨u, hu, e2⟩ := List.mem_map.1 h2
  obtain ⟨i, hi, rfl⟩ := List.getElem_of_mem hu
  exact h.done v hv e i hi hi e2
end
section
variable {B Tp q : Nat} {T : Tb} {m : Bch} {fb fp : List Nat} {vs : List Ver} {N : Nat} {w0 : World}
set_option maxHeartbeats 8000000 in
set_option maxRecDepth 100000 in
theorem cdropNo_c (id : Int) (h0 : -9223372036854775808 ≤ id) (h1 : id ≤ 9223372036854775807) (hi : InL w0 [bchC B (some ⟨Tp, 0, none⟩) m fb, tabC Tp q T fp]) (hp : PowI w0 (fps [bchC B (some ⟨Tp, 0, none⟩) m fb, tabC Tp q T fp])) (hc : ChIs T.rows m vs N) (hN : N ≤ 1048576) (hf : findC vs id = none) :
    Cal Tryz.prog 9 [.pointer (some ⟨B, 0, none⟩), .int .i64 id] w0 (fun v w' => v = .int .i64 11 ∧ MutL w0 w' [bchC B (some ⟨Tp, 0, none⟩) m fb, tabC Tp q T fp] [bchC B (some ⟨Tp, 0, none⟩) m fb, tabC Tp q T fp]) := by
  refine Cal.mkL hi (by kernel_rfl) Tryz.func9 rfl rfl fun hS => ?_
  have hlv := loadV_none hf
  repeat' (first
    | (show WL _ _ _ _ _ _ _; first
      | refine WL.pure rfl rfl rfl rfl ?_
      | refine WL.nil ?_
      | (refine WL.callL (D := [bchC B (some ⟨Tp, 0, none⟩) m fb, tabC Tp q T fp]) hS (by repeat (first | exact Pulls.nil | (apply Pulls.cons; focus (repeat (first | exact Pull.here | apply Pull.there))))) rfl rfl (fun hI => cload_c (vs := vs) (N := N) id h0 h1 hI (hp.pull hS (by repeat (first | exact Pulls.nil | (apply Pulls.cons; focus (repeat (first | exact Pull.here | apply Pull.there)))))) hc hN) rfl rfl rfl ?_; rintro v w ⟨rfl, hmu⟩ hS; rw [hlv]; replace hS := hS _ hmu; clear hmu))
    | (show WC _ _ _ _ _ _; first
      | refine WC.seq ?_
      | refine WC.region ?_
      | refine WC.ret ?_
      | refine WC.condT rfl (by decide) ?_)
    | refine seqQ_n ?_
    | refine seqQ_r ?_)
  exact fin1r rfl rfl ⟨rfl, hS.mutLp (by repeat (first | exact Pulls.nil | (apply Pulls.cons; focus (repeat (first | exact Pull.here | apply Pull.there)))))⟩
set_option maxHeartbeats 8000000 in
set_option maxRecDepth 100000 in
theorem cdrop_c (y : Ver) (hi : InL w0 [bchC B (some ⟨Tp, 0, none⟩) m fb, tabC Tp q T fp]) (hp : PowI w0 (fps [bchC B (some ⟨Tp, 0, none⟩) m fb, tabC Tp q T fp])) (hc : ChIs T.rows m vs N) (hN : N ≤ 262144) (hm : m.length ≤ 262144) (hr : T.rows.length ≤ 549755813888) (hy : y ∈ vs) :
    Cal Tryz.prog 9 [.pointer (some ⟨B, 0, none⟩), .int .i64 (y.id : Int)] w0 (fun v w' => v = .int .i64 0 ∧ ∃ vs' m' fb', ChIs T.rows m' (delC vs' y.id) N ∧ vs'.map idData = vs.map idData ∧ Grew m m' (vs.length + 1) ((vs.length + 1) * 4300) ∧ MutL w0 w' [bchC B (some ⟨Tp, 0, none⟩) m fb, tabC Tp q T fp] [bchC B (some ⟨Tp, 0, none⟩) m' fb', tabC Tp q T fp]) := by
  refine Cal.mkL hi (by kernel_rfl) Tryz.func9 rfl rfl fun hS => ?_
  have hlv := loadV_of hc hy
  have hyi := hc.ids y hy
  have hyb := hc.base_le y hy
  have hvl := hc.len
  repeat' (first
    | (show WL _ _ _ _ _ _ _; first
      | refine WL.pure rfl rfl rfl rfl ?_
      | refine WL.nil ?_
      | (refine WL.callL (D := [bchC B (some ⟨Tp, 0, none⟩) m fb, tabC Tp q T fp]) hS (by repeat (first | exact Pulls.nil | (apply Pulls.cons; focus (repeat (first | exact Pull.here | apply Pull.there))))) rfl rfl (fun hI => cload_c (vs := vs) (N := N) (y.id : Int) (by omega) (by omega) hI (hp.pull hS (by repeat (first | exact Pulls.nil | (apply Pulls.cons; focus (repeat (first | exact Pull.here | apply Pull.there)))))) hc (by omega)) rfl rfl rfl ?_; rintro v w ⟨rfl, hmu⟩ hS; rw [hlv]; replace hS := hS _ hmu; clear hmu)
      | (refine WL.callL (D := [bchC B (some ⟨Tp, 0, none⟩) m fb, tabC Tp q T fp]) hS (by repeat (first | exact Pulls.nil | (apply Pulls.cons; focus (repeat (first | exact Pull.here | apply Pull.there))))) rfl rfl (fun hI => cvers_c hI hc (by omega) (by omega) hr) rfl rfl rfl ?_; rintro v w ⟨AV, capV, rfl, hmu⟩ hS; replace hS := hS _ hmu; clear hmu))
    | (show WC _ _ _ _ _ _; first
      | refine WC.seq ?_
      | refine WC.region ?_
      | refine WC.block ?_
      | refine WC.skip ?_
      | refine WC.condF rfl (by decide) ?_)
    | refine seqQ_n ?_)
  clear hlv
  refine WC.loop (σ := Nat × List Ver × Bch × List Nat) [0, 1, 5, 25, 26] (fun (j, _) => [(27, .int .i64 (j : Int))])
    (fun (j, vs1, m1, fb1) w => (j ≤ vs.length ∧ DropIs T.rows m vs y N j vs1 m1) ∧ St w0 (fps [bchC B (some ⟨Tp, 0, none⟩) m fb, tabC Tp q T fp]) w [bchC B (some ⟨Tp, 0, none⟩) m1 fb1, tabC Tp q T fp, .own (.slice AV vs.length capV) 3 1 vs.length (ints (idsE vs))] (ZL w0 [bchC B (some ⟨Tp, 0, none⟩) m fb, tabC Tp q T fp]))
    (fun (j, _) => vs.length - j) (0, vs, m, fb) ⟨⟨Nat.zero_le _, hc, rfl, hy, fun v hv e i hi hij => absurd hij (Nat.not_lt_zero _), (Grew.refl m).up (by omega) (by omega)⟩, hS.droplast2 (by repeat (first | exact Pulls.nil | (apply Pulls.cons; focus (repeat (first | exact Pull.here | apply Pull.there)))))⟩ ⟨rfl, trivial⟩ ?_
  clear hS
  rintro ⟨j, vs1, m1, fb1⟩ g w ⟨⟨hj, hdr⟩, hS⟩
  show WC _ _ _ (lf _ [(27, .int .i64 (j : Int))] _ _) _ _
  have hml := hdr.grew.len
  have hc1 := hdr.is_
  by_cases hlt : j < vs.length
  · obtain ⟨kg, ko, rfl⟩ := hS.own_addr (A := AV) (n := vs.length) (by repeat (first | exact List.Mem.head _ | apply List.Mem.tail)) (Nat.lt_of_le_of_lt (Nat.zero_le j) hlt)
    obtain ⟨x, hx, hxi, hxd⟩ := hdr.at_ hlt
    have hkx : (ints (idsE vs))[j * 1]? = some (.int .i64 (x.id : Int)) := by rw [Nat.mul_one, hxi]; exact idsE_get hlt
    have hlx := loadV_of hc1 hx
    have hxid := hc1.ids _ hx
    have hxs := hc1.size _ hx
    by_cases hb : x.base = y.id
    · have hlay := fun {base : Nat} {pay : List UInt8} (hl : LayOk vs1 ((y.base : Int)).toNat x.data base pay) => hdr.lay hlt hx hxi hb (by omega) hl
      obtain ⟨d, hd, ht⟩ := hc1.told x hx
      rw [hb] at hlx
      clear hdr hb
      repeat' (first
        | (show WL _ _ _ _ _ _ _; first
          | refine WL.pure rfl rfl rfl rfl ?_
          | refine WL.nil ?_
          | refine WL.add rfl rfl rfl (by omega) rfl rfl rfl ?_
          | (refine WL.load hS rfl rfl (LdOk.ownAt (by repeat (first | exact List.Mem.head _ | apply List.Mem.tail)) rfl ⟨_, rfl⟩ hkx rfl) rfl rfl rfl ?_)
          | (refine WL.callL (D := [bchC B (some ⟨Tp, 0, none⟩) m1 fb1, tabC Tp q T fp]) hS (by repeat (first | exact Pulls.nil | (apply Pulls.cons; focus (repeat (first | exact Pull.here | apply Pull.there))))) rfl rfl (fun hI => cload_c (vs := vs1) (N := N) (x.id : Int) (by omega) (by omega) hI (hp.pull hS (by repeat (first | exact Pulls.nil | (apply Pulls.cons; focus (repeat (first | exact Pull.here | apply Pull.there)))))) hc1 (by omega)) rfl rfl rfl ?_; rintro v w ⟨rfl, hmu⟩ hS; rw [hlx]; replace hS := hS _ hmu; clear hmu)
          | (refine WL.callL (D := [bchC B (some ⟨Tp, 0, none⟩) m1 fb1, tabC Tp q T fp]) hS (by repeat (first | exact Pulls.nil | (apply Pulls.cons; focus (repeat (first | exact Pull.here | apply Pull.there))))) rfl rfl (fun hI => cget_c d x hI (hp.pull hS (by repeat (first | exact Pulls.nil | (apply Pulls.cons; focus (repeat (first | exact Pull.here | apply Pull.there)))))) hc1 (by omega) hx ht) rfl rfl rfl ?_; rintro v w ⟨rfl, hmu⟩ hS; replace hS := hS _ hmu; clear hmu)
          | (refine WL.callL (D := [bchC B (some ⟨Tp, 0, none⟩) m1 fb1, tabC Tp q T fp]) hS (by repeat (first | exact Pulls.nil | (apply Pulls.cons; focus (repeat (first | exact Pull.here | apply Pull.there))))) rfl rfl (fun hI => clay_c x.id x.data (y.base : Int) (by omega) hxs (by omega) (by omega) hI (hp.pull hS (by repeat (first | exact Pulls.nil | (apply Pulls.cons; focus (repeat (first | exact Pull.here | apply Pull.there)))))) hc1 (by omega) (by omega)) rfl rfl rfl ?_; rintro v w ⟨rfl, nb, pay, hlo, _, fb2, hmu⟩ hS; replace hS := hS _ hmu; clear hmu)
          | refine WL.index rfl rfl rfl rfl (by first | with_reducible assumption | omega) rfl rfl rfl rfl ?_)
        | (show WC _ _ _ _ _ _; first
          | refine WC.seq ?_
          | refine WC.region ?_
          | refine WC.block ?_
          | refine WC.skip ?_
          | refine WC.condF rfl (by decide) ?_
          | refine WC.condT rfl (decide_eq_true (by first | with_reducible assumption | omega)) ?_)
        | refine seqQ_n ?_
        | refine blkQ_n ?_)
      exact rndQ_n (j + 1, _, _, fb2) ⟨⟨by omega, hlay hlo⟩, hS.droplast2 (by repeat (first | exact Pulls.nil | (apply Pulls.cons; focus (repeat (first | exact Pull.here | apply Pull.there)))))⟩ (by show vs.length - (j + 1) < vs.length - j; omega) ⟨vint (by omega), trivial⟩ ⟨rfl, rfl, rfl, rfl, rfl, trivial⟩
    · have hdr2 := hdr.keep hlt hx hxi hb
      clear hdr
      repeat' (first
        | (show WL _ _ _ _ _ _ _; first
          | refine WL.pure rfl rfl rfl rfl ?_
          | refine WL.nil ?_
          | refine WL.add rfl rfl rfl (by omega) rfl rfl rfl ?_
          | (refine WL.load hS rfl rfl (LdOk.ownAt (by repeat (first | exact List.Mem.head _ | apply List.Mem.tail)) rfl ⟨_, rfl⟩ hkx rfl) rfl rfl rfl ?_)
          | (refine WL.callL (D := [bchC B (some ⟨Tp, 0, none⟩) m1 fb1, tabC Tp q T fp]) hS (by repeat (first | exact Pulls.nil | (apply Pulls.cons; focus (repeat (first | exact Pull.here | apply Pull.there))))) rfl rfl (fun hI => cload_c (vs := vs1) (N := N) (x.id : Int) (by omega) (by omega) hI (hp.pull hS (by repeat (first | exact Pulls.nil | (apply Pulls.cons; focus (repeat (first | exact Pull.here | apply Pull.there)))))) hc1 (by omega)) rfl rfl rfl ?_; rintro v w ⟨rfl, hmu⟩ hS; rw [hlx]; replace hS := hS _ hmu; clear hmu)
          | refine WL.index rfl rfl rfl rfl (by first | with_reducible assumption | omega) rfl rfl rfl rfl ?_)
        | (show WC _ _ _ _ _ _; first
          | refine WC.seq ?_
          | refine WC.region ?_
          | refine WC.block ?_
          | refine WC.skip ?_
          | refine WC.condT rfl (decide_eq_true (by first | with_reducible assumption | omega)) ?_
          | refine WC.condF rfl (decide_eq_false (by first | with_reducible assumption | omega)) ?_)
        | refine seqQ_n ?_
        | refine blkQ_n ?_)
      exact rndQ_n (j + 1, vs1, m1, fb1) ⟨⟨by omega, hdr2⟩, hS.droplast2 (by repeat (first | exact Pulls.nil | (apply Pulls.cons; focus (repeat (first | exact Pull.here | apply Pull.there)))))⟩ (by show vs.length - (j + 1) < vs.length - j; omega) ⟨vint (by omega), trivial⟩ ⟨rfl, rfl, rfl, rfl, rfl, trivial⟩
  · have hje : j = vs.length := by omega
    subst hje
    have hrm := hc1.remove hyi.1 hdr.fin
    have hdat := hdr.dat
    have hnl := hdr.grew.note (o := ⟨verK (y.id : Int), [], true⟩) (k := 4300) (Nat.le_trans (szD (by omega)) (by omega)) (fun _ => rfl)
    clear hdr
    repeat' (first
      | (show WL _ _ _ _ _ _ _; first
        | refine WL.pure rfl rfl rfl rfl ?_
        | refine WL.nil ?_
        | (refine WL.calls hS rfl rfl (ckey_c (y.id : Int) (by omega) (by omega) _ (hp.at hS)) rfl rfl rfl ?_; rintro v w rfl hS)
        | (refine WL.callL (D := [bchC B (some ⟨Tp, 0, none⟩) m1 fb1]) hS (by repeat (first | exact Pulls.nil | (apply Pulls.cons; focus (repeat (first | exact Pull.here | apply Pull.there))))) rfl rfl (fun hI => bdrop_c (verK (y.id : Int)) hI.head hI.headB (by omega)) rfl rfl rfl ?_; rintro v w ⟨rfl, fb2, hmu⟩ hS; replace hS := hS _ (.of1 hmu); clear hmu))
      | (show WC _ _ _ _ _ _; first
        | refine WC.seq ?_
        | refine WC.region ?_
        | refine WC.exit ?_
        | refine WC.ret ?_
        | refine WC.condF rfl (decide_eq_false (by first | with_reducible assumption | omega)) ?_)
      | refine seqQ_n ?_
      | refine seqQ_x ?_
      | refine blkQ_hit rfl ?_
      | refine rndQ_x ?_)
    exact fin1r rfl rfl ⟨rfl, vs1, _, _, hrm, hdat, hnl.up (by omega) (by omega), hS.mutLp (by repeat (first | exact Pulls.nil | (apply Pulls.cons; focus (repeat (first | exact Pull.here | apply Pull.there)))))⟩
end
end Go.Proofs.YtnefkegefjldjaaGreatDoor

/- What is proved: the batch that the laws on versions begin with, and that they are awake. Conditions: the library's table of powers laid. -/
set_option linter.unusedSimpArgs false
set_option linter.unusedVariables false
namespace Go.Proofs.YtnefkegefjldjaaGreatDoor
open Go Go.J Go.RowKit

theorem ChIs.nil : ChIs [] [] [] 0 := ⟨by simp, by simp, by simp, fun k h => (by cases h), fun k _ => rfl, rfl, by simp, by simp, by simp, by simp, by simp, by simp⟩
theorem delC_data (vs : List Ver) (id : Nat) : (delC vs id).map idData = (vs.map idData).filter fun p => decide (p.1 ≠ id) := by
  unfold delC
  induction vs with
  | nil => rfl
  | cons a l ih =>
    rw [List.map_cons, List.filter_cons, List.filter_cons]
    have e : (idData a).1 = a.id := rfl
    by_cases h : a.id = id
    · rw [if_neg (by simp [h]), if_neg (by simp [e, h])]; exact ih
    · rw [if_pos (by simp [h]), if_pos (by simp [e, h]), List.map_cons, ih]
section
variable {rows : Rws} {m : Bch} {vs : List Ver} {N : Nat}
theorem ChIs.find (h : ChIs rows m vs N) {n : Nat} {data : List UInt8} (hd : (n, data) ∈ vs.map idData) : ∃ x ∈ vs, x.id = n ∧ x.data = data ∧ findC vs (n : Int) = some x := by
  obtain ⟨x, hx, e⟩ := List.mem_map.1 hd
  have e1 : x.id = n := congrArg Prod.fst e
  have e2 : x.data = data := congrArg Prod.snd e
  refine ⟨x, hx, e1, e2, ?_⟩
  rw [← e1]
  exact findC_of h.nd hx
theorem find_no {id : Int} (h : ∀ p ∈ vs.map idData, (p.1 : Int) ≠ id) : findC vs id = none := by
  cases hf : findC vs id with
  | none => rfl
  | some x =>
    obtain ⟨hx, e⟩ := findC_some hf
    exact absurd e (h _ (List.mem_map.2 ⟨x, hx, rfl⟩))
theorem ChIs.getv (h : ChIs rows m vs N) {n : Nat} {data : List UInt8} (hd : (n, data) ∈ vs.map idData) : cgetV vs (n : Int) = .tuple #[str data, .int .i64 0] := by
  obtain ⟨x, _, _, e2, e3⟩ := h.find hd
  unfold cgetV
  rw [e3, ← e2]
theorem getv_no {id : Int} (h : ∀ p ∈ vs.map idData, (p.1 : Int) ≠ id) : cgetV vs id = .tuple #[str [], .int .i64 11] := by unfold cgetV; rw [find_no h]
theorem LayOk.first {data : List UInt8} {base : Nat} {pay : List UInt8} (h : LayOk vs 0 data base pay) : base = 0 ∧ pay = data := by
  rcases h with h | ⟨_, h, _⟩
  · exact h
  · exact absurd rfl h
end
set_option maxHeartbeats 4000000 in
set_option maxRecDepth 100000 in
theorem chmade_c (w0 : World) : Cal Tryz.prog 6 [] w0 (fun v w' => ∃ B Tp q fb fp, v = .pointer (some ⟨B, 0, none⟩) ∧ MutL w0 w' [] [bchC B (some ⟨Tp, 0, none⟩) [] fb, tabC Tp q ⟨sysP, [], ⟨sysL, [], false⟩⟩ fp]) := by
  refine Cal.mkL (D := []) ⟨by simp, by simp, .nil⟩ (by kernel_rfl) Tryz.func6 rfl rfl fun hS => ?_
  repeat' (first
    | (show WL _ _ _ _ _ _ _; first
      | refine WL.pure rfl rfl rfl rfl ?_
      | refine WL.nil ?_
      | (refine WL.callG rfl rfl (dnew_c _) rfl rfl rfl ?_; rintro v w ⟨hu, q, mb, lb, rfl, hn⟩; replace hS := hS.new hu hn; clear hu hn)
      | (refine WL.callL (D := [dkC q mb lb Dk0]) hS (by repeat (first | exact Pulls.nil | (apply Pulls.cons; focus (repeat (first | exact Pull.here | apply Pull.there))))) rfl rfl (fun hI => topenFirst_c hI) rfl rfl rfl ?_; rintro v w ⟨Tp, fp, rfl, hmu⟩ hS; replace hS := hS _ hmu; clear hmu)
      | (refine WL.callG rfl rfl (begin_c _) rfl rfl rfl ?_; rintro v w ⟨hu, B, fb, rfl, hn⟩; replace hS := hS.new hu hn; clear hu hn))
    | (show WC _ _ _ _ _ _; first
      | refine WC.seq ?_
      | refine WC.region ?_
      | refine WC.skip ?_
      | refine WC.ret ?_
      | refine WC.condF rfl (by decide) ?_)
    | refine seqQ_n ?_)
  exact fin1r rfl rfl ⟨_, _, _, _, _, rfl, hS.mutLp (by repeat (first | exact Pulls.nil | (apply Pulls.cons; focus (repeat (first | exact Pull.here | apply Pull.there)))))⟩
def helloS : List UInt8 := [104, 101, 108, 108, 111, 32, 104, 101, 108, 108, 111, 32, 104, 101, 108, 108, 111]
def helloT : List UInt8 := [104, 101, 108, 108, 111, 32, 104, 101, 108, 108, 111, 32, 104, 101, 108, 108, 111, 33]
set_option maxHeartbeats 8000000 in
set_option maxRecDepth 100000 in
theorem chawake_c (w0 : World) (ht : powT w0) : Cal Tryz.prog 7 [] w0 (fun v w' => Upd [] w0 w' ∧ v = .bool true) := by
  refine Cal.mk' (by kernel_rfl) Tryz.func7 rfl rfl fun hS => ?_
  have hp := PowI.of ht
  repeat' (first
    | (show WL _ _ _ _ _ _ _; first
      | refine WL.pure rfl rfl rfl rfl ?_
      | refine WL.nil ?_
      | (refine WL.callL (D := []) hS .nil rfl rfl (fun hI => chmade_c _) rfl rfl rfl ?_; rintro v w ⟨B, Tp, q, fb, fp, rfl, hmu⟩ hS; replace hS := hS _ hmu; clear hmu)
      | (refine WL.callL (D := [bchC B (some ⟨Tp, 0, none⟩) [] fb, tabC Tp q ⟨sysP, [], ⟨sysL, [], false⟩⟩ fp]) hS (by repeat (first | exact Pulls.nil | (apply Pulls.cons; focus (repeat (first | exact Pull.here | apply Pull.there))))) rfl rfl (fun hI => cadd_c (vs := []) (N := 0) helloS 0 (by decide) (by decide) (by decide) hI (hp.pull hS (by repeat (first | exact Pulls.nil | (apply Pulls.cons; focus (repeat (first | exact Pull.here | apply Pull.there)))))) ChIs.nil (by decide) (by decide)) rfl rfl rfl ?_; rintro v w ⟨rfl, base1, pay1, m1, fb1, _, _, hc1, hl1, hmu⟩ hS; have hm1 : m1.length ≤ 2 := hl1.len; clear hl1; replace hc1 : ChIs [] m1 [⟨1, base1, pay1, helloS⟩] 1 := hc1; replace hS := hS _ hmu; clear hmu)
      | (refine WL.callL (D := [bchC B (some ⟨Tp, 0, none⟩) m1 fb1, tabC Tp q ⟨sysP, [], ⟨sysL, [], false⟩⟩ fp]) hS (by repeat (first | exact Pulls.nil | (apply Pulls.cons; focus (repeat (first | exact Pull.here | apply Pull.there))))) rfl rfl (fun hI => cadd_c (vs := [⟨1, base1, pay1, helloS⟩]) (N := 1) helloT ((1 : Nat) : Int) (by decide) (by decide) (by decide) hI (hp.pull hS (by repeat (first | exact Pulls.nil | (apply Pulls.cons; focus (repeat (first | exact Pull.here | apply Pull.there)))))) hc1 (by decide) (by omega)) rfl rfl rfl ?_; rintro v w ⟨rfl, base2, pay2, m2, fb2, _, _, hc2, hl2, hmu⟩ hS; have hm2 : m2.length ≤ 4 := (by have := hl2.len; omega); clear hl2; replace hc2 : ChIs [] m2 [⟨1, base1, pay1, helloS⟩, ⟨2, base2, pay2, helloT⟩] 2 := hc2; replace hS := hS _ hmu; clear hmu)
      | (refine WL.callL (D := [bchC B (some ⟨Tp, 0, none⟩) m2 fb2, tabC Tp q ⟨sysP, [], ⟨sysL, [], false⟩⟩ fp]) hS (by repeat (first | exact Pulls.nil | (apply Pulls.cons; focus (repeat (first | exact Pull.here | apply Pull.there))))) rfl rfl (fun hI => cdrop_c (N := 2) ⟨1, base1, pay1, helloS⟩ hI (hp.pull hS (by repeat (first | exact Pulls.nil | (apply Pulls.cons; focus (repeat (first | exact Pull.here | apply Pull.there)))))) hc2 (by decide) (by omega) (by decide) (List.mem_cons_self ..)) rfl rfl rfl ?_; rintro v w ⟨rfl, vs3, m3, fb3, hc3, hd3, hl3, hmu⟩ hS; have hg3 : cgetV (delC vs3 1) ((2 : Nat) : Int) = .tuple #[str helloT, .int .i64 0] := hc3.getv (by rw [delC_data, hd3]; simp [idData]); replace hS := hS _ hmu; clear hmu)
      | (refine WL.callL (D := [bchC B (some ⟨Tp, 0, none⟩) m3 fb3, tabC Tp q ⟨sysP, [], ⟨sysL, [], false⟩⟩ fp]) hS (by repeat (first | exact Pulls.nil | (apply Pulls.cons; focus (repeat (first | exact Pull.here | apply Pull.there))))) rfl rfl (fun hI => cgets_c (N := 2) (id := ((2 : Nat) : Int)) (by decide) (by decide) hI (hp.pull hS (by repeat (first | exact Pulls.nil | (apply Pulls.cons; focus (repeat (first | exact Pull.here | apply Pull.there)))))) hc3 (by decide)) rfl rfl rfl ?_; rintro v w ⟨rfl, hmu⟩ hS; rw [hg3]; replace hS := hS _ hmu; clear hmu))
    | (show WC _ _ _ _ _ _; first
      | refine WC.seq ?_
      | refine WC.region ?_
      | refine WC.skip ?_
      | refine WC.ret ?_
      | refine WC.condF rfl (by with_reducible rfl) ?_)
    | refine seqQ_n ?_)

  exact fin1r rfl rfl ⟨hS.upd, rfl⟩
end Go.Proofs.YtnefkegefjldjaaGreatDoor

/- What is proved: parts of rows, cut in a region that draws its order. Conditions: none beyond the rules' own. -/
set_option linter.unusedSimpArgs false
set_option linter.unusedVariables false
namespace Go.J
open Go Go.RowKit
section
variable {P : Program} {N : Nat} {f : Fr} {w w0 : World} {Q : Post} {ops : List Oper} {q : List Nat} {l : List Nat} {i : Nat} {S : World → Prop}
theorem WD.highV {pl : Qs} {t e : TypeId} {size g off n cap j : Nat} {x y : Operand} {k : IntKind} (ho : (ix ops i).op = .slice t x none (some y) none) (he : elemOf P t = some (e, size)) (hx : ev f x = .slice (some ⟨g, off, none⟩) n cap) (hy : ev f y = .int k (Int.ofNat j)) (hj : j ≤ cap)
    (hq : pl.contains i = true) (hg : wants ops f (ix ops i) = true) {d : Nat} (hd : (ix ops i).dst = some d) (hn : Nat.blt d N = true) (h : WD P N S ops pl l (up f d (.slice (some ⟨g, off, none⟩) j cap)) w Q) : WD P N S ops pl (i :: l) f w Q :=
  .take hq hd hn (.inl ⟨hg, fun _ _ => run_sliceHigh ho he hx hy hj⟩) h
theorem WD.lowV {pl : Qs} {t e : TypeId} {size n cap j : Nat} {A A' : Option Addr} {x y : Operand} {k : IntKind} (ho : (ix ops i).op = .slice t x (some y) none none) (he : elemOf P t = some (e, size)) (hx : ev f x = .slice A n cap) (hy : ev f y = .int k (Int.ofNat j)) (hj : j ≤ n) (hA : (if cap = j then A else A.map (·.add (j * size))) = A')
    (hq : pl.contains i = true) (hg : wants ops f (ix ops i) = true) {d : Nat} (hd : (ix ops i).dst = some d) (hn : Nat.blt d N = true) (h : WD P N S ops pl l (up f d (.slice A' (n - j) (cap - j))) w Q) : WD P N S ops pl (i :: l) f w Q :=
  .take hq hd hn (.inl ⟨hg, fun _ _ => hA ▸ run_sliceLow ho he hx hy hj⟩) h
variable {M : List Nat} {H0 H : List Chunk} {Z0 Z : List Snap}
/-- a look at what came within the region: in its place among the effects -/
theorem WD.loadE {pl : Qs} {ty : TypeId} {x : Operand} {a : Addr} {v : Value} (hS : St w0 M w H Z) (hM : More H0 Z0 H Z) (ho : (ix ops i).op = .load ty x) (hx : ev f x = .pointer (some a)) (hl : LdOk P H Z ty a v)
    (hq : pl.contains i = false) (hi : Nat.blt i ops.length = true) (hg : wants ops f (ix ops i) = true) {d : Nat} (hd : (ix ops i).dst = some d) (hn : Nat.blt d N = true) (h : WD P N (SS w0 M H0 Z0) ops pl l (up f d v) w Q) : WD P N (SS w0 M H0 Z0) ops pl (i :: l) f w Q :=
  .val hq hi hg hd hn (run_load ho hx (hl.more ((More.refl _ _).ss hS))) (hM.ss hS) h
end
end Go.J

/- What is proved: what the reference's list of versions does. Conditions: lists of bounded length. -/
set_option linter.unusedSimpArgs false
set_option linter.unusedVariables false
namespace Go.Proofs.YtnefkegefjldjaaGreatDoor
open Go Go.J Go.RowKit

def encV (p : Nat × List UInt8) : List Value := [.int .i64 (p.1 : Int), str p.2]
def verV (l : List (Nat × List UInt8)) : List Value := l.flatMap encV
theorem verV_len (l : List (Nat × List UInt8)) : (verV l).length = l.length * 2 := flat_len (enc := encV) (fun _ => rfl) l
theorem verV_at {l : List (Nat × List UInt8)} {i : Nat} (h : i < l.length) {j : Nat} (hj : j < 2) : (verV l)[i * 2 + j]? = (encV l[i])[j]? := flat_get (enc := encV) (sz := 2) (fun _ => rfl) l h hj
theorem verV_snoc (l : List (Nat × List UInt8)) (x : Nat × List UInt8) : verV l ++ encV x = verV (l ++ [x]) := by simp [verV]
theorem verV_take (l : List (Nat × List UInt8)) (k : Nat) : (verV l).take (k * 2) = verV (l.take k) := by
  induction l generalizing k with
  | nil => simp [verV]
  | cons a l ih =>
    cases k with
    | zero => rw [Nat.zero_mul]; rfl
    | succ k =>
      have e : verV (a :: l) = encV a ++ verV l := by unfold verV; rw [List.flatMap_cons]
      have e2 : verV ((a :: l).take (k + 1)) = encV a ++ verV (l.take k) := by rw [List.take_succ_cons]; unfold verV; rw [List.flatMap_cons]
      rw [e, e2, show (k + 1) * 2 = (encV a).length + k * 2 by show _ = 2 + k * 2; omega, List.take_length_add_append, ih]
theorem verV_drop (l : List (Nat × List UInt8)) (k : Nat) : (verV l).drop (k * 2) = verV (l.drop k) := by
  induction l generalizing k with
  | nil => simp [verV]
  | cons a l ih =>
    cases k with
    | zero => rw [Nat.zero_mul]; rfl
    | succ k =>
      have e : verV (a :: l) = encV a ++ verV l := by unfold verV; rw [List.flatMap_cons]
      rw [e, List.drop_succ_cons, show (k + 1) * 2 = (encV a).length + k * 2 by show _ = 2 + k * 2; omega, List.drop_length_add_append, ih]
theorem verV_one (l : List (Nat × List UInt8)) : Go.J.one (verV l) = true := by
  unfold verV
  induction l with
  | nil => rfl
  | cons x l ih => rw [List.flatMap_cons]; unfold Go.J.one at ih ⊢; rw [List.all_append, ih]; rfl
theorem erase_filter {l : List (Nat × List UInt8)} (hn : (l.map Prod.fst).Nodup) {i n : Nat} (hi : i < l.length) (he : l[i].1 = n) : l.take i ++ l.drop (i + 1) = l.filter fun p => decide (p.1 ≠ n) := by
  induction l generalizing i with
  | nil => exact absurd hi (Nat.not_lt_zero _)
  | cons a l ih =>
    simp only [List.map_cons, List.nodup_cons] at hn
    cases i with
    | zero =>
      have he : a.1 = n := he
      rw [List.take_zero, List.nil_append, List.drop_succ_cons, List.drop_zero, List.filter_cons, if_neg (by simp [he])]
      refine (List.filter_eq_self.2 fun p hp => ?_).symm
      simp only [decide_eq_true_eq]
      intro e
      refine hn.1 ?_
      rw [he, ← e]
      exact List.mem_map.2 ⟨p, hp, rfl⟩
    | succ i =>
      have hi : i < l.length := by simpa using hi
      have he : l[i].1 = n := he
      rw [List.take_succ_cons, List.drop_succ_cons, List.cons_append, ih hn.2 hi he, List.filter_cons, if_pos]
      simp only [decide_eq_true_eq]
      intro e
      refine hn.1 ?_
      rw [e, ← he]
      exact List.mem_map.2 ⟨l[i], List.getElem_mem hi, rfl⟩
section
variable {C : Nat} {AL : Option Addr} {cl last : Nat} {l : List (Nat × List UInt8)} {w0 : World}
def placeP (l : List (Nat × List UInt8)) (id : Int) (v : Value) : Prop := ((∀ p ∈ l, (p.1 : Int) ≠ id) ∧ v = .int .i64 (-1)) ∨ ∃ i, ∃ h : i < l.length, ((l[i].1 : Nat) : Int) = id ∧ v = .int .i64 (i : Int)
set_option maxHeartbeats 8000000 in
set_option maxRecDepth 100000 in
theorem cplace_c (id : Int) (hi : InL w0 [.box C 46 [.slice AL l.length cl, .int .i64 (last : Int)], .own (.slice AL l.length cl) 89 2 l.length (verV l)]) (hl : l.length ≤ 1048576) : Cal Tryz.prog 38 [.pointer (some ⟨C, 0, none⟩), .int .i64 id] w0 (fun v w' => placeP l id v ∧ MutL w0 w' [.box C 46 [.slice AL l.length cl, .int .i64 (last : Int)], .own (.slice AL l.length cl) 89 2 l.length (verV l)] [.box C 46 [.slice AL l.length cl, .int .i64 (last : Int)], .own (.slice AL l.length cl) 89 2 l.length (verV l)]) := by
  refine Cal.mkL hi (by kernel_rfl) Tryz.func38 rfl rfl fun hS => ?_
  repeat' (first
    | (show WL _ _ _ _ _ _ _; first
      | refine WL.pure rfl rfl rfl rfl ?_
      | refine WL.nil ?_)
    | (show WC _ _ _ _ _ _; first
      | refine WC.seq ?_
      | refine WC.region ?_
      | refine WC.block ?_)
    | refine seqQ_n ?_)
  refine WC.loop (σ := Nat) [0, 1] (fun i => [(5, .int .i64 (i : Int))]) (fun i w => (i ≤ l.length ∧ ∀ p ∈ l.take i, (p.1 : Int) ≠ id) ∧ St w0 (fps [.box C 46 [.slice AL l.length cl, .int .i64 (last : Int)], .own (.slice AL l.length cl) 89 2 l.length (verV l)]) w [.box C 46 [.slice AL l.length cl, .int .i64 (last : Int)], .own (.slice AL l.length cl) 89 2 l.length (verV l)] (ZL w0 [.box C 46 [.slice AL l.length cl, .int .i64 (last : Int)], .own (.slice AL l.length cl) 89 2 l.length (verV l)])) (fun i => l.length - i) 0 ⟨⟨Nat.zero_le _, by simp⟩, hS⟩ ⟨rfl, trivial⟩ ?_
  clear hS
  rintro i g w ⟨⟨hi2, hno⟩, hS⟩
  show WC _ _ _ (lf _ [(5, .int .i64 (i : Int))] _ _) _ _
  by_cases hlt : i < l.length
  · obtain ⟨kg, ko, rfl⟩ := hS.own_addr (A := AL) (n := l.length) (by repeat (first | exact List.Mem.head _ | apply List.Mem.tail)) (by omega)
    have h0 : (verV l)[i * 2 + 0]? = some (.int .i64 (l[i].1 : Int)) := verV_at hlt (by decide)
    by_cases he : (l[i].1 : Int) = id
    · subst he
      have hex : ∀ v, v = Value.int .i64 (i : Int) → placeP l (l[i].1 : Int) v := fun v hv => .inr ⟨i, hlt, rfl, hv⟩
      generalize l[i].1 = n at *
      clear hno
      repeat' (first
        | (show WL _ _ _ _ _ _ _; first
          | refine WL.pure rfl rfl rfl rfl ?_
          | refine WL.nil ?_
          | refine WL.load hS rfl rfl (LdOk.box (by repeat (first | exact List.Mem.head _ | apply List.Mem.tail)) rfl) rfl rfl rfl ?_
          | (refine WL.load hS rfl rfl (LdOk.ownAt (off := i * 2 + 0) (by repeat (first | exact List.Mem.head _ | apply List.Mem.tail)) rfl ⟨_, rfl⟩ h0 rfl) rfl rfl rfl ?_)
          | refine WL.index rfl rfl rfl rfl (by first | with_reducible assumption | omega) rfl rfl rfl rfl ?_)
        | (show WC _ _ _ _ _ _; first
          | refine WC.seq ?_
          | refine WC.region ?_
          | refine WC.block ?_
          | refine WC.skip ?_
          | refine WC.ret ?_
          | refine WC.condT rfl (decide_eq_true (by first | with_reducible assumption | omega)) ?_)
        | refine seqQ_n ?_
        | refine seqQ_r ?_
        | refine blkQ_r ?_
        | refine rndQ_r ?_)
      exact fin1r rfl rfl ⟨hex _ rfl, hS.mutLp (by repeat (first | exact Pulls.nil | (apply Pulls.cons; focus (repeat (first | exact Pull.here | apply Pull.there)))))⟩
    · have hno2 : ∀ p ∈ l.take (i + 1), (p.1 : Int) ≠ id := fun p hp => by
        rw [List.take_succ_eq_append_getElem hlt, List.mem_append, List.mem_singleton] at hp
        rcases hp with hp | rfl
        · exact hno p hp
        · exact he
      generalize l[i].1 = n at *
      clear hno
      repeat' (first
        | (show WL _ _ _ _ _ _ _; first
          | refine WL.pure rfl rfl rfl rfl ?_
          | refine WL.nil ?_
          | refine WL.load hS rfl rfl (LdOk.box (by repeat (first | exact List.Mem.head _ | apply List.Mem.tail)) rfl) rfl rfl rfl ?_
          | refine WL.add rfl rfl rfl (by omega) rfl rfl rfl ?_
          | (refine WL.load hS rfl rfl (LdOk.ownAt (off := i * 2 + 0) (by repeat (first | exact List.Mem.head _ | apply List.Mem.tail)) rfl ⟨_, rfl⟩ h0 rfl) rfl rfl rfl ?_)
          | refine WL.index rfl rfl rfl rfl (by first | with_reducible assumption | omega) rfl rfl rfl rfl ?_)
        | (show WC _ _ _ _ _ _; first
          | refine WC.seq ?_
          | refine WC.region ?_
          | refine WC.block ?_
          | refine WC.skip ?_
          | refine WC.condT rfl (decide_eq_true (by first | with_reducible assumption | omega)) ?_
          | refine WC.condF rfl (decide_eq_false (by first | with_reducible assumption | omega)) ?_)
        | refine seqQ_n ?_
        | refine blkQ_n ?_)
      exact rndQ_n (i + 1) ⟨⟨by omega, hno2⟩, hS⟩ (by show l.length - (i + 1) < l.length - i; omega) ⟨vint (by omega), trivial⟩ ⟨rfl, rfl, trivial⟩
  · have hie : i = l.length := by omega
    subst hie
    rw [List.take_length] at hno
    obtain ⟨HN, rfl⟩ : ∃ h : (∀ p ∈ l, (p.1 : Int) ≠ id), h = hno := ⟨_, rfl⟩
    repeat' (first
      | (show WL _ _ _ _ _ _ _; first
        | refine WL.pure rfl rfl rfl rfl ?_
        | refine WL.nil ?_
        | refine WL.load hS rfl rfl (LdOk.box (by repeat (first | exact List.Mem.head _ | apply List.Mem.tail)) rfl) rfl rfl rfl ?_)
      | (show WC _ _ _ _ _ _; first
        | refine WC.seq ?_
        | refine WC.region ?_
        | refine WC.exit ?_
        | refine WC.ret ?_
        | refine WC.condF rfl (decide_eq_false (by first | with_reducible assumption | omega)) ?_)
      | refine seqQ_n ?_
      | refine seqQ_x ?_
      | refine blkQ_hit rfl ?_
      | refine rndQ_x ?_)
    exact fin1r rfl rfl ⟨.inl ⟨HN, rfl⟩, hS.mutLp (by repeat (first | exact Pulls.nil | (apply Pulls.cons; focus (repeat (first | exact Pull.here | apply Pull.there)))))⟩
set_option maxHeartbeats 8000000 in
set_option maxRecDepth 100000 in
theorem cradd_c (data : List UInt8) (hi : InL w0 [.box C 46 [.slice AL l.length cl, .int .i64 (last : Int)], .own (.slice AL l.length cl) 89 2 l.length (verV l)]) (hl : l.length ≤ 1048576) (hla : last ≤ 1048576) : Cal Tryz.prog 16 [.pointer (some ⟨C, 0, none⟩), str data] w0
    (fun v w' => v = .int .i64 ((last + 1 : Nat) : Int) ∧ ∃ AL' cl', MutL w0 w' [.box C 46 [.slice AL l.length cl, .int .i64 (last : Int)], .own (.slice AL l.length cl) 89 2 l.length (verV l)] [.box C 46 [.slice AL' (l.length + 1) cl', .int .i64 ((last + 1 : Nat) : Int)], .own (.slice AL' (l.length + 1) cl') 89 2 (l.length + 1) (verV (l ++ [(last + 1, data)]))]) := by
  refine Cal.mkL hi (by kernel_rfl) Tryz.func16 rfl rfl fun hS => ?_
  have hcap := (hS.own_len (List.Mem.tail _ (List.Mem.head _))).2.2
  rw [← verV_snoc]
  repeat' (first
    | (show WL _ _ _ _ _ _ _; first
      | refine WL.pure rfl rfl rfl rfl ?_
      | refine WL.nil ?_
      | refine WL.load hS rfl rfl (LdOk.box (by repeat (first | exact List.Mem.head _ | apply List.Mem.tail)) rfl) rfl rfl rfl ?_
      | refine WL.add rfl rfl rfl (by omega) rfl rfl rfl ?_
      | (refine WL.store hS rfl rfl rfl (by repeat (first | exact StB.here rfl | apply StB.there)) rfl rfl rfl ?_; intro w hS))
    | (show WC _ _ _ _ _ _; first
      | refine WC.seq ?_
      | refine WC.region ?_
      | refine WC.ret ?_
      | (show WC _ _ (Code.region _ (List.toArray [_, _, _, _, _, _, _, _, _, _, _, _, _, _, _, _]) true) _ _ _; refine WC.drawLV [.own (.slice AL l.length cl) 89 2 l.length (verV l)] hS (by repeat (first | exact Pulls.nil | (apply Pulls.cons; focus (repeat (first | exact Pull.here | apply Pull.there))))) [0,1,2,3,4,5,6,7,8,9,10,13,14] [0,1,2,3,4,5,6,7,8,9,10,11,12,13,14] 15 [] (by kernel_rfl) (by kernel_rfl) ?_; clear hS; intro w hS hM))
    | (show WD _ _ _ _ _ _ _ _ _; first
      | refine WD.pure rfl rfl rfl rfl rfl ?_
      | refine WD.nil ?_
      | refine WD.load rfl rfl (LdOk.box (by repeat (first | exact List.Mem.head _ | apply List.Mem.tail)) rfl) rfl rfl rfl rfl ?_
      | (refine WD.app hS (by repeat (first | exact Pull.here | apply Pull.there)) (More.chunk (.refl _ _) _) rfl rfl rfl rfl (RdOk.box (by repeat (first | exact List.Mem.head _ | apply List.Mem.tail))) rfl rfl (by omega) rfl rfl rfl rfl rfl ?_; clear hS hM; intro A2 cap2 w hS hM)
      | (refine WD.pivStore hS rfl rfl rfl (by repeat (first | exact StB.here rfl | apply StB.there)) rfl rfl rfl rfl ?_; clear hS; intro w hS hM)
      | refine WD.build rfl rfl rfl rfl rfl rfl ?_
      | (refine WD.slit hS hM rfl rfl rfl rfl rfl rfl rfl ?_; intro w b hS hM))
    | refine seqQ_n ?_)
  exact fin1r rfl rfl ⟨vint (by omega), _, _, hS.mutLp (by repeat (first | exact Pulls.nil | (apply Pulls.cons; focus (repeat (first | exact Pull.here | apply Pull.there)))))⟩
set_option maxHeartbeats 8000000 in
set_option maxRecDepth 100000 in
theorem crdropNo_c (id : Int) (hno : ∀ p ∈ l, (p.1 : Int) ≠ id) (hi : InL w0 [.box C 46 [.slice AL l.length cl, .int .i64 (last : Int)], .own (.slice AL l.length cl) 89 2 l.length (verV l)]) (hl : l.length ≤ 1048576) : Cal Tryz.prog 17 [.pointer (some ⟨C, 0, none⟩), .int .i64 id] w0 (fun v w' => v = .bool false ∧ MutL w0 w' [.box C 46 [.slice AL l.length cl, .int .i64 (last : Int)], .own (.slice AL l.length cl) 89 2 l.length (verV l)] [.box C 46 [.slice AL l.length cl, .int .i64 (last : Int)], .own (.slice AL l.length cl) 89 2 l.length (verV l)]) := by
  refine Cal.mkL hi (by kernel_rfl) Tryz.func17 rfl rfl fun hS => ?_
  have hpc : ∀ {w0 : World} (hi : InL w0 [.box C 46 [.slice AL l.length cl, .int .i64 (last : Int)], .own (.slice AL l.length cl) 89 2 l.length (verV l)]), Cal Tryz.prog 38 [.pointer (some ⟨C, 0, none⟩), .int .i64 id] w0 (fun v w' => v = .int .i64 (-1) ∧ MutL w0 w' [.box C 46 [.slice AL l.length cl, .int .i64 (last : Int)], .own (.slice AL l.length cl) 89 2 l.length (verV l)] [.box C 46 [.slice AL l.length cl, .int .i64 (last : Int)], .own (.slice AL l.length cl) 89 2 l.length (verV l)]) := fun hi => (cplace_c id hi hl).mono fun v w' ⟨h1, h2⟩ => ⟨by
    rcases h1 with ⟨_, h1⟩ | ⟨i, h, e, _⟩
    · exact h1
    · exact absurd e (hno _ (List.getElem_mem h)), h2⟩
  obtain ⟨HN, rfl⟩ : ∃ h : (∀ p ∈ l, (p.1 : Int) ≠ id), h = hno := ⟨_, rfl⟩
  repeat' (first
    | (show WL _ _ _ _ _ _ _; first
      | refine WL.pure rfl rfl rfl rfl ?_
      | refine WL.nil ?_
      | (refine WL.callL (D := [.box C 46 [.slice AL l.length cl, .int .i64 (last : Int)], .own (.slice AL l.length cl) 89 2 l.length (verV l)]) hS (by repeat (first | exact Pulls.nil | (apply Pulls.cons; focus (repeat (first | exact Pull.here | apply Pull.there))))) rfl rfl (fun hI => hpc hI) rfl rfl rfl ?_; rintro v w ⟨rfl, hmu⟩ hS; replace hS := hS _ hmu; clear hmu))
    | (show WC _ _ _ _ _ _; first
      | refine WC.seq ?_
      | refine WC.region ?_
      | refine WC.ret ?_
      | refine WC.condT rfl (by decide) ?_)
    | refine seqQ_n ?_
    | refine seqQ_r ?_)
  exact fin1r rfl rfl ⟨rfl, hS.mutLp (by repeat (first | exact Pulls.nil | (apply Pulls.cons; focus (repeat (first | exact Pull.here | apply Pull.there)))))⟩
set_option maxHeartbeats 8000000 in
set_option maxRecDepth 100000 in
theorem crdrop_c (n : Nat) (hn : (l.map Prod.fst).Nodup) (hin : ∃ p ∈ l, p.1 = n) (hi : InL w0 [.box C 46 [.slice AL l.length cl, .int .i64 (last : Int)], .own (.slice AL l.length cl) 89 2 l.length (verV l)]) (hl : l.length ≤ 1048576) : Cal Tryz.prog 17 [.pointer (some ⟨C, 0, none⟩), .int .i64 (n : Int)] w0
    (fun v w' => v = .bool true ∧ ∃ l' AL' cl', l' = l.filter (fun p => decide (p.1 ≠ n)) ∧ MutL w0 w' [.box C 46 [.slice AL l.length cl, .int .i64 (last : Int)], .own (.slice AL l.length cl) 89 2 l.length (verV l)] [.box C 46 [.slice AL' l'.length cl', .int .i64 (last : Int)], .own (.slice AL' l'.length cl') 89 2 l'.length (verV l')]) := by
  refine Cal.mkL hi (by kernel_rfl) Tryz.func17 rfl rfl fun hS => ?_
  obtain ⟨p, hp, hpn⟩ := hin
  obtain ⟨i, hlt, rfl⟩ := List.getElem_of_mem hp
  have hef := erase_filter hn hlt hpn
  have hpc : ∀ {w0 : World} (hi : InL w0 [.box C 46 [.slice AL l.length cl, .int .i64 (last : Int)], .own (.slice AL l.length cl) 89 2 l.length (verV l)]), Cal Tryz.prog 38 [.pointer (some ⟨C, 0, none⟩), .int .i64 (n : Int)] w0 (fun v w' => v = .int .i64 (i : Int) ∧ MutL w0 w' [.box C 46 [.slice AL l.length cl, .int .i64 (last : Int)], .own (.slice AL l.length cl) 89 2 l.length (verV l)] [.box C 46 [.slice AL l.length cl, .int .i64 (last : Int)], .own (.slice AL l.length cl) 89 2 l.length (verV l)]) := fun hi => (cplace_c n hi hl).mono fun v w' ⟨h1, h2⟩ => ⟨by
    rcases h1 with ⟨h1, _⟩ | ⟨j, h, e, h1⟩
    · exact absurd (by rw [hpn]) (h1 _ (List.getElem_mem hlt))
    · have e2 : l[j].1 = l[i].1 := by omega
      have hpw := List.pairwise_iff_getElem.1 hn
      have : j = i := by
        rcases Nat.lt_trichotomy j i with h4 | h4 | h4
        · exact absurd (by rw [List.getElem_map, List.getElem_map]; exact e2) (hpw j i (by simpa using h) (by simpa using hlt) h4)
        · exact h4
        · exact absurd (by rw [List.getElem_map, List.getElem_map]; exact e2.symm) (hpw i j (by simpa using hlt) (by simpa using h) h4)
      rw [h1, this], h2⟩
  obtain ⟨kg, ko, rfl⟩ := hS.own_addr (A := AL) (n := l.length) (by repeat (first | exact List.Mem.head _ | apply List.Mem.tail)) (by omega)
  have hcap := (hS.own_len (List.Mem.tail _ (List.Mem.head _))).2.2
  have hn1 : ((verV l).drop 0).take (verV (l.take i)).length = verV (l.take i) := by
    rw [List.drop_zero, verV_len, List.length_take, Nat.min_eq_left (Nat.le_of_lt hlt), verV_take]
  have hl1 : (verV (l.take i)).length = i * 2 := by rw [verV_len, List.length_take, Nat.min_eq_left (Nat.le_of_lt hlt)]
  have hl2 : (verV (l.drop (i + 1))).length = (l.length - (i + 1)) * 2 := by rw [verV_len, List.length_drop]
  have hn2 : ((verV l).drop ((i + 1) * 2)).take (verV (l.drop (i + 1))).length = verV (l.drop (i + 1)) := by
    rw [verV_drop]
    exact List.take_length
  have ho1 := verV_one (l.take i)
  have ho2 := verV_one (l.drop (i + 1))
  have hla : verV (l.take i) ++ verV (l.drop (i + 1)) = verV (l.take i ++ l.drop (i + 1)) := by unfold verV; rw [List.flatMap_append]
  have hll : (l.take i ++ l.drop (i + 1)).length = i + (l.length - (i + 1)) := by rw [List.length_append, List.length_take, List.length_drop, Nat.min_eq_left (Nat.le_of_lt hlt)]
  rw [hef] at hla hll
  clear hp hef hn hpn
  generalize l.filter (fun p => decide (p.1 ≠ n)) = l' at *
  by_cases hcj : cl = i + 1
  · have hn3 : ((verV l).drop 0).take (verV (l.drop (i + 1))).length = verV (l.drop (i + 1)) := by
      rw [List.drop_eq_nil_of_le (show l.length ≤ i + 1 by omega)]; rfl
    repeat' (first
      | (show WL _ _ _ _ _ _ _; first
        | refine WL.pure rfl rfl rfl rfl ?_
        | refine WL.nil ?_
        | (refine WL.callL (D := [.box C 46 [.slice (some ⟨kg, ko, none⟩) l.length cl, .int .i64 (last : Int)], .own (.slice (some ⟨kg, ko, none⟩) l.length cl) 89 2 l.length (verV l)]) hS (by repeat (first | exact Pulls.nil | (apply Pulls.cons; focus (repeat (first | exact Pull.here | apply Pull.there))))) rfl rfl (fun hI => hpc hI) rfl rfl rfl ?_; rintro v w ⟨rfl, hmu⟩ hS; replace hS := hS _ hmu; clear hmu))
      | (show WC _ _ _ _ _ _; first
        | refine WC.seq ?_
        | refine WC.region ?_
        | refine WC.skip ?_
        | refine WC.ret ?_
        | (show WC _ _ (Code.region _ (List.toArray [_, _, _, _, _, _, _, _, _, _, _, _, _, _, _, _, _, _, _, _]) true) _ _ _; refine WC.drawV hS [0,2,3,4,5,6,7,9,10,11,12,13,14,15,17,18] [0,2,3,4,5,6,7,9,10,11,12,13,14,15,1,8,16,17,18] 19 [] (by kernel_rfl) (by kernel_rfl) ?_; clear hS; intro w hS hM)
        | refine WC.condF rfl (decide_eq_false (by first | with_reducible assumption | omega)) ?_)
      | (show WD _ _ _ _ _ _ _ _ _; first
        | refine WD.pure rfl rfl rfl rfl rfl ?_
        | refine WD.nil ?_
        | refine WD.load rfl rfl (LdOk.box (by repeat (first | exact List.Mem.head _ | apply List.Mem.tail)) rfl) rfl rfl rfl rfl ?_
        | refine WD.add rfl rfl rfl (by omega) rfl rfl rfl rfl ?_
        | (refine WD.highV rfl rfl rfl rfl (by omega) rfl rfl rfl rfl ?_)
        | (refine WD.lowV (j := i + 1) (A' := some ⟨kg, ko, none⟩) rfl rfl rfl rfl (by omega) (if_pos hcj) rfl rfl rfl rfl ?_)
        | (refine WD.slit (t := 44) hS hM rfl rfl rfl rfl rfl rfl rfl ?_; clear hS hM; intro w ob hS hM; replace hS := hS.boxRow (n := 0) (size := 2) .here rfl (Nat.zero_le _); clear hM)
        | (refine WD.app (news := verV (l.take i)) hS (by repeat (first | exact Pull.here | apply Pull.there)) (More.refl _ _) rfl rfl rfl rfl (RdOk.own (o := 0) (by repeat (first | exact List.Mem.head _ | apply List.Mem.tail)) hn1) hl1 ho1 (by omega) rfl rfl rfl rfl rfl ?_; clear hS; intro A2 cap2 w hS hM; clear hM)
        | (refine WD.app (news := verV (l.drop (i + 1))) hS (by repeat (first | exact Pull.here | apply Pull.there)) (More.refl _ _) rfl rfl rfl rfl (RdOk.own (o := 0) (by repeat (first | exact List.Mem.head _ | apply List.Mem.tail)) hn3) hl2 ho2 (by omega) rfl rfl rfl rfl rfl ?_; clear hS; intro A3 cap3 w hS hM)
        | (refine WD.pivStore hS rfl rfl rfl (by repeat (first | exact StB.here rfl | apply StB.there)) rfl rfl rfl rfl ?_; clear hS; intro w hS hM))
      | refine seqQ_n ?_)
    simp only [Nat.zero_add, show ∀ z, repZ z 0 = [] from fun _ => rfl, List.nil_append] at hS
    rw [hla, ← hll] at hS
    exact fin1r rfl rfl ⟨rfl, l', A3, cap3, rfl, hS.mutLp (by repeat (first | exact Pulls.nil | (apply Pulls.cons; focus (repeat (first | exact Pull.here | apply Pull.there)))))⟩
  · repeat' (first
      | (show WL _ _ _ _ _ _ _; first
        | refine WL.pure rfl rfl rfl rfl ?_
        | refine WL.nil ?_
        | (refine WL.callL (D := [.box C 46 [.slice (some ⟨kg, ko, none⟩) l.length cl, .int .i64 (last : Int)], .own (.slice (some ⟨kg, ko, none⟩) l.length cl) 89 2 l.length (verV l)]) hS (by repeat (first | exact Pulls.nil | (apply Pulls.cons; focus (repeat (first | exact Pull.here | apply Pull.there))))) rfl rfl (fun hI => hpc hI) rfl rfl rfl ?_; rintro v w ⟨rfl, hmu⟩ hS; replace hS := hS _ hmu; clear hmu))
      | (show WC _ _ _ _ _ _; first
        | refine WC.seq ?_
        | refine WC.region ?_
        | refine WC.skip ?_
        | refine WC.ret ?_
        | (show WC _ _ (Code.region _ (List.toArray [_, _, _, _, _, _, _, _, _, _, _, _, _, _, _, _, _, _, _, _]) true) _ _ _; refine WC.drawV hS [0,2,3,4,5,6,7,9,10,11,12,13,14,15,17,18] [0,2,3,4,5,6,7,9,10,11,12,13,14,15,1,8,16,17,18] 19 [] (by kernel_rfl) (by kernel_rfl) ?_; clear hS; intro w hS hM)
        | refine WC.condF rfl (decide_eq_false (by first | with_reducible assumption | omega)) ?_)
      | (show WD _ _ _ _ _ _ _ _ _; first
        | refine WD.pure rfl rfl rfl rfl rfl ?_
        | refine WD.nil ?_
        | refine WD.load rfl rfl (LdOk.box (by repeat (first | exact List.Mem.head _ | apply List.Mem.tail)) rfl) rfl rfl rfl rfl ?_
        | refine WD.add rfl rfl rfl (by omega) rfl rfl rfl rfl ?_
        | (refine WD.highV rfl rfl rfl rfl (by omega) rfl rfl rfl rfl ?_)
        | (refine WD.lowV (j := i + 1) (A' := some ⟨kg, ko + (i + 1) * 2, none⟩) rfl rfl rfl rfl (by omega) ((if_neg hcj).trans rfl) rfl rfl rfl rfl ?_)
        | (refine WD.slit (t := 44) hS hM rfl rfl rfl rfl rfl rfl rfl ?_; clear hS hM; intro w ob hS hM; replace hS := hS.boxRow (n := 0) (size := 2) .here rfl (Nat.zero_le _); clear hM)
        | (refine WD.app (news := verV (l.take i)) hS (by repeat (first | exact Pull.here | apply Pull.there)) (More.refl _ _) rfl rfl rfl rfl (RdOk.own (o := 0) (by repeat (first | exact List.Mem.head _ | apply List.Mem.tail)) hn1) hl1 ho1 (by omega) rfl rfl rfl rfl rfl ?_; clear hS; intro A2 cap2 w hS hM; clear hM)
        | (refine WD.app (news := verV (l.drop (i + 1))) hS (by repeat (first | exact Pull.here | apply Pull.there)) (More.refl _ _) rfl rfl rfl rfl (RdOk.own (o := (i + 1) * 2) (by repeat (first | exact List.Mem.head _ | apply List.Mem.tail)) hn2) hl2 ho2 (by omega) rfl rfl rfl rfl rfl ?_; clear hS; intro A3 cap3 w hS hM)
        | (refine WD.pivStore hS rfl rfl rfl (by repeat (first | exact StB.here rfl | apply StB.there)) rfl rfl rfl rfl ?_; clear hS; intro w hS hM))
      | refine seqQ_n ?_)
    simp only [Nat.zero_add, show ∀ z, repZ z 0 = [] from fun _ => rfl, List.nil_append] at hS
    rw [hla, ← hll] at hS
    exact fin1r rfl rfl ⟨rfl, l', A3, cap3, rfl, hS.mutLp (by repeat (first | exact Pulls.nil | (apply Pulls.cons; focus (repeat (first | exact Pull.here | apply Pull.there)))))⟩
end
end Go.Proofs.YtnefkegefjldjaaGreatDoor

/- What is proved: that the law's alike answers true where all is as the document says. Conditions: lists of bounded length; the library's table of powers laid. -/
set_option linter.unusedSimpArgs false
set_option linter.unusedVariables false
namespace Go.Proofs.YtnefkegefjldjaaGreatDoor
open Go Go.J Go.RowKit

def datS (vs : List Ver) : Nat := (vs.map fun v => v.data.length).sum
theorem datS_snoc {vs : List Ver} {j : Nat} (h : j < vs.length) : datS (vs.take (j + 1)) = datS (vs.take j) + vs[j].data.length := by
  unfold datS
  rw [List.take_succ_eq_append_getElem h, List.map_append, List.sum_append]
  simp
theorem pay_dat {rows : Rws} {m : Bch} {vs : List Ver} {N : Nat} (h : ChIs rows m vs N) : payS vs ≤ datS vs := by
  have h1 : ∀ v ∈ vs, v.pay.length ≤ v.data.length := fun v hv => by
    by_cases h0 : v.base = 0
    · rw [h.whole v hv h0]; exact Nat.le_refl _
    · exact Nat.le_of_lt (h.by_ v hv h0).2.2.1
  clear h
  induction vs with
  | nil => exact Nat.le_refl _
  | cons a l ih =>
    have h2 := ih fun v hv => h1 v (List.mem_cons_of_mem _ hv)
    have h3 := h1 a (List.mem_cons_self ..)
    unfold payS datS at *
    rw [List.map_cons, List.map_cons, List.sum_cons, List.sum_cons]
    omega
theorem datS_le {vs : List Ver} {K : Nat} (h : ∀ v ∈ vs, v.data.length ≤ K) : datS vs ≤ vs.length * K := by
  induction vs with
  | nil => simp [datS]
  | cons a l ih =>
    have h1 := ih fun v hv => h v (List.mem_cons_of_mem _ hv)
    have h2 := h a (List.mem_cons_self ..)
    unfold datS at *
    rw [List.map_cons, List.sum_cons, List.length_cons, Nat.add_mul, Nat.one_mul]
    omega
section
variable {B Tp q : Nat} {T : Tb} {m : Bch} {fb fp : List Nat} {vs : List Ver} {N : Nat} {w0 : World} {C : Nat} {AL : Option Addr} {cl last : Nat} {l : List (Nat × List UInt8)}
set_option maxHeartbeats 32000000 in
set_option maxRecDepth 100000 in
theorem calike_c (id : Int) (h0 : -9223372036854775808 ≤ id) (h1 : id ≤ 9223372036854775807) (hi : InL w0 [bchC B (some ⟨Tp, 0, none⟩) m fb, tabC Tp q T fp, .box C 46 [.slice AL l.length cl, .int .i64 (last : Int)], .own (.slice AL l.length cl) 89 2 l.length (verV l)]) (hp : PowI w0 (fps [bchC B (some ⟨Tp, 0, none⟩) m fb, tabC Tp q T fp, .box C 46 [.slice AL l.length cl, .int .i64 (last : Int)], .own (.slice AL l.length cl) 89 2 l.length (verV l)])) (hc : ChIs T.rows m vs N) (hN : N ≤ 262144) (hm : m.length ≤ 262144) (hr : T.rows.length ≤ 549755813888) (hl : l = vs.map idData) (hz : ∀ v ∈ vs, v.data.length ≤ 1048576) :
    Cal Tryz.prog 19 [.pointer (some ⟨B, 0, none⟩), .pointer (some ⟨C, 0, none⟩), .int .i64 id] w0 (fun v w' => v = .bool true ∧ MutL w0 w' [bchC B (some ⟨Tp, 0, none⟩) m fb, tabC Tp q T fp, .box C 46 [.slice AL l.length cl, .int .i64 (last : Int)], .own (.slice AL l.length cl) 89 2 l.length (verV l)] [bchC B (some ⟨Tp, 0, none⟩) m fb, tabC Tp q T fp, .box C 46 [.slice AL l.length cl, .int .i64 (last : Int)], .own (.slice AL l.length cl) 89 2 l.length (verV l)]) := by
  refine Cal.mkL hi (by kernel_rfl) Tryz.func19 rfl rfl fun hS => ?_
  have hvl := hc.len
  have hll : l.length = vs.length := by rw [hl, List.length_map]
  have hds := datS_le hz
  have hpd := pay_dat hc
  repeat' (first
    | (show WL _ _ _ _ _ _ _; first
      | refine WL.pure rfl rfl rfl rfl ?_
      | refine WL.nil ?_
      | refine WL.load hS rfl rfl (LdOk.box (by repeat (first | exact List.Mem.head _ | apply List.Mem.tail)) rfl) rfl rfl rfl ?_
      | (refine WL.callL (D := [bchC B (some ⟨Tp, 0, none⟩) m fb, tabC Tp q T fp]) hS (by repeat (first | exact Pulls.nil | (apply Pulls.cons; focus (repeat (first | exact Pull.here | apply Pull.there))))) rfl rfl (fun hI => cvers_c hI hc (by omega) (by omega) hr) rfl rfl rfl ?_; rintro v w ⟨AV, capV, rfl, hmu⟩ hS; replace hS := hS _ hmu; clear hmu))
    | (show WC _ _ _ _ _ _; first
      | refine WC.seq ?_
      | refine WC.region ?_
      | refine WC.block ?_
      | refine WC.skip ?_
      | refine WC.condF rfl (decide_eq_false (by first | with_reducible assumption | omega)) ?_)
    | refine seqQ_n ?_)
  refine WC.loop (σ := Nat) [0, 1, 2, 7] (fun j => [(8, .int .i64 (datS (vs.take j) : Int)), (9, .int .i64 (j : Int))])
    (fun j w => j ≤ vs.length ∧ St w0 (fps [bchC B (some ⟨Tp, 0, none⟩) m fb, tabC Tp q T fp, .box C 46 [.slice AL l.length cl, .int .i64 (last : Int)], .own (.slice AL l.length cl) 89 2 l.length (verV l)]) w [.own (.slice AV vs.length capV) 3 1 vs.length (ints (idsE vs)), bchC B (some ⟨Tp, 0, none⟩) m fb, tabC Tp q T fp, .box C 46 [.slice AL l.length cl, .int .i64 (last : Int)], .own (.slice AL l.length cl) 89 2 l.length (verV l)] (ZL w0 [bchC B (some ⟨Tp, 0, none⟩) m fb, tabC Tp q T fp, .box C 46 [.slice AL l.length cl, .int .i64 (last : Int)], .own (.slice AL l.length cl) 89 2 l.length (verV l)]))
    (fun j => vs.length - j) 0 ⟨Nat.zero_le _, hS.droplast2 (by repeat (first | exact Pulls.nil | (apply Pulls.cons; focus (repeat (first | exact Pull.here | apply Pull.there)))))⟩ ⟨rfl, rfl, trivial⟩ ?_
  clear hS
  rintro j g w ⟨hj, hS⟩
  show WC _ _ _ (lf _ [(8, .int .i64 (datS (vs.take j) : Int)), (9, .int .i64 (j : Int))] _ _) _ _
  by_cases hlt : j < vs.length
  · obtain ⟨kg, ko, rfl⟩ := hS.own_addr (A := AV) (n := vs.length) (by repeat (first | exact List.Mem.head _ | apply List.Mem.tail)) (by omega)
    obtain ⟨lg, lo, rfl⟩ := hS.own_addr (A := AL) (n := l.length) (by repeat (first | exact List.Mem.head _ | apply List.Mem.tail)) (by omega)
    have hkx : (ints (idsE vs))[j * 1]? = some (.int .i64 (vs[j].id : Int)) := by rw [Nat.mul_one]; exact idsE_get hlt
    have hx := List.getElem_mem hlt
    have hle : l[j]'(by omega) = (vs[j].id, vs[j].data) := by subst hl; rw [List.getElem_map]; rfl
    have hv0 : (verV l)[j * 2 + 0]? = some (.int .i64 (vs[j].id : Int)) := by rw [verV_at (by omega) (by decide), hle]; rfl
    have hv1 : (verV l)[j * 2 + 1]? = some (str vs[j].data) := by rw [verV_at (by omega) (by decide), hle]; rfl
    have hxi := hc.ids _ hx
    have hxd := hz _ hx
    have hsn := datS_snoc hlt
    have hdj := datS_le (vs := vs.take j) (K := 1048576) fun v hv => hz v (List.mem_of_mem_take hv)
    have hdj2 : datS (vs.take j) ≤ 262144 * 1048576 := by
      refine Nat.le_trans hdj (Nat.mul_le_mul_right _ ?_)
      rw [List.length_take]; omega
    obtain ⟨d, hd, ht⟩ := hc.told _ hx
    have hjl : j < l.length := by omega
    generalize vs[j] = x at *
    clear hz hle hdj hl
    repeat' (first
      | (show WL _ _ _ _ _ _ _; first
        | refine WL.pure rfl rfl rfl rfl ?_
        | refine WL.nil ?_
        | refine WL.add rfl rfl rfl (by omega) rfl rfl rfl ?_
        | (refine WL.load hS rfl rfl (LdOk.ownAt (by repeat (first | exact List.Mem.head _ | apply List.Mem.tail)) rfl ⟨_, rfl⟩ hkx rfl) rfl rfl rfl ?_)
        | (refine WL.callL (D := [bchC B (some ⟨Tp, 0, none⟩) m fb, tabC Tp q T fp]) hS (by repeat (first | exact Pulls.nil | (apply Pulls.cons; focus (repeat (first | exact Pull.here | apply Pull.there))))) rfl rfl (fun hI => cget_c d x hI (hp.pull hS (by repeat (first | exact Pulls.nil | (apply Pulls.cons; focus (repeat (first | exact Pull.here | apply Pull.there)))))) hc (by omega) hx ht) rfl rfl rfl ?_; rintro v w ⟨rfl, hmu⟩ hS; replace hS := hS _ hmu; clear hmu)
        | (refine WL.callL (D := [bchC B (some ⟨Tp, 0, none⟩) m fb, tabC Tp q T fp]) hS (by repeat (first | exact Pulls.nil | (apply Pulls.cons; focus (repeat (first | exact Pull.here | apply Pull.there))))) rfl rfl (fun hI => cdepth_c d x.id hI (hp.pull hS (by repeat (first | exact Pulls.nil | (apply Pulls.cons; focus (repeat (first | exact Pull.here | apply Pull.there)))))) hc (by omega) hd ht) rfl rfl rfl ?_; rintro v w ⟨rfl, hmu⟩ hS; replace hS := hS _ hmu; clear hmu)
        | refine WL.index rfl rfl rfl rfl (by first | with_reducible assumption | omega) rfl rfl rfl rfl ?_)
      | (show WC _ _ _ _ _ _; first
        | refine WC.seq ?_
        | refine WC.region ?_
        | refine WC.block ?_
        | refine WC.skip ?_
        | (show WC _ _ (Code.region _ (List.toArray [_, _, _, _, _, _, _, _, _, _, _, _, _, _, _, _, _, _, _, _, _, _, _, _, _, _, _, _, _, _, _, _, _, _, _, _, _]) true) _ _ _; refine WC.drawS hS [0, 1, 2, 3, 4, 5, 6, 7, 8, 9, 10, 11, 12, 13, 14, 15, 16, 17, 18, 19, 20, 21, 22, 23, 24, 25, 26, 27, 28, 29, 30, 31, 32, 33, 34, 35, 36] [0, 1, 2, 3, 4, 5, 6, 7, 8, 9, 10, 11, 12, 13, 14, 15, 16, 17, 18, 19, 20, 21, 22, 23, 24, 25, 26, 27, 28, 29, 30, 31, 32, 33, 34, 35, 36] (by kernel_rfl) (by kernel_rfl) ?_; clear hS; intro w hS hM)
        | refine WC.condT rfl (decide_eq_true (by first | with_reducible assumption | omega)) ?_
        | refine WC.condF rfl (decide_eq_false (by first | with_reducible assumption | omega)) ?_)
      | (show WD _ _ _ _ _ _ _ _ _; first
        | refine WD.pure rfl rfl rfl rfl rfl ?_
        | refine WD.nil ?_
        | refine WD.load rfl rfl (LdOk.box (by repeat (first | exact List.Mem.head _ | apply List.Mem.tail)) rfl) rfl rfl rfl rfl ?_
        | (refine WD.load rfl rfl (LdOk.ownAt (by repeat (first | exact List.Mem.head _ | apply List.Mem.tail)) rfl ⟨_, rfl⟩ hkx rfl) rfl rfl rfl rfl ?_)
        | (refine WD.load rfl rfl (LdOk.ownAt (off := j * 2 + 0) (by repeat (first | exact List.Mem.head _ | apply List.Mem.tail)) rfl ⟨_, rfl⟩ hv0 rfl) rfl rfl rfl rfl ?_)
        | (refine WD.load rfl rfl (LdOk.ownAt (off := j * 2 + 1) (by repeat (first | exact List.Mem.head _ | apply List.Mem.tail)) rfl ⟨_, rfl⟩ hv1 rfl) rfl rfl rfl rfl ?_)
        | refine WD.index rfl rfl rfl rfl (by first | with_reducible assumption | omega) rfl rfl rfl rfl rfl ?_
        | ((fail_if_success (refine WD.wanted rfl ?_)); refine WD.guard rfl rfl rfl (fun h => ?_) (fun h => ?_) <;> (try simp only [Classical.not_not, Bool.not_eq_true', Bool.not_eq_false', Bool.not_eq_eq_eq_not, Bool.not_true, Bool.not_false, beq_iff_eq, beq_eq_false_iff_ne, ne_eq, decide_eq_decide, decide_eq_true_eq, decide_eq_false_iff_not, Bool.and_eq_true, Bool.or_eq_true, Bool.and_eq_false_iff, Bool.or_eq_false_iff] at h) <;> (try (exfalso; first | omega | contradiction))))
      | refine seqQ_n ?_
      | refine blkQ_n ?_)
    exact rndQ_n (j + 1) ⟨by omega, hS.droplast2 (by repeat (first | exact Pulls.nil | (apply Pulls.cons; focus (repeat (first | exact Pull.here | apply Pull.there)))))⟩ (by show vs.length - (j + 1) < vs.length - j; omega) ⟨vint (by omega), vint (by omega), trivial⟩ ⟨rfl, rfl, rfl, rfl, trivial⟩
  have hje : j = vs.length := by omega
  subst hje
  rw [List.take_length]
  clear hlt hj
  have hfirst : ∀ (h0 : 0 < vs.length), (ints (idsE vs))[0 * 1]? = some (.int .i64 (vs[0].id : Int)) ∧ (verV l)[0 * 2 + 0]? = some (.int .i64 (vs[0].id : Int)) := fun h0 => ⟨idsE_get h0, by
    have hle : l[0]'(by omega) = (vs[0].id, vs[0].data) := by subst hl; rw [List.getElem_map]; rfl
    rw [verV_at (by omega) (by decide), hle]; rfl⟩
  have hpl := fun {w0 : World} (hi : InL w0 [.box C 46 [.slice AL l.length cl, .int .i64 (last : Int)], .own (.slice AL l.length cl) 89 2 l.length (verV l)]) => cplace_c id hi (by omega)
  have hcase : (findC vs id = none ∧ ∀ v, placeP l id v → v = .int .i64 (-1)) ∨ (∃ x, findC vs id = some x ∧ ∀ v, placeP l id v → ∃ i : Nat, v = .int .i64 (i : Int)) := by
    cases hf : findC vs id with
    | none =>
      refine .inl ⟨rfl, fun v hv => ?_⟩
      rcases hv with ⟨_, hv⟩ | ⟨i, hi, e, _⟩
      · exact hv
      · exfalso
        have hm := List.getElem_mem hi
        generalize l[i] = p at *
        rw [hl] at hm
        obtain ⟨y, hy, rfl⟩ := List.mem_map.1 hm
        have e : (y.id : Int) = id := e
        rw [← e, findC_of hc.nd hy] at hf
        cases hf
    | some x =>
      refine .inr ⟨x, rfl, fun v hv => ?_⟩
      rcases hv with ⟨h, _⟩ | ⟨i, _, _, hv⟩
      · exfalso
        obtain ⟨hx, e⟩ := findC_some hf
        exact h (idData x) (by rw [hl]; exact List.mem_map.2 ⟨x, hx, rfl⟩) e
      · exact ⟨i, hv⟩
  clear hl hz
  rcases hcase with ⟨hf, hpv⟩ | ⟨x, hf, hpv⟩
  case' inl =>
    have hgv : cgetV vs id = .tuple #[str [], .int .i64 11] := by unfold cgetV; rw [hf]
    repeat' (first
      | (show WL _ _ _ _ _ _ _; first
        | refine WL.pure rfl rfl rfl rfl ?_
        | refine WL.nil ?_
        | (refine WL.callL (D := [bchC B (some ⟨Tp, 0, none⟩) m fb, tabC Tp q T fp]) hS (by repeat (first | exact Pulls.nil | (apply Pulls.cons; focus (repeat (first | exact Pull.here | apply Pull.there))))) rfl rfl (fun hI => cgets_c h0 h1 hI (hp.pull hS (by repeat (first | exact Pulls.nil | (apply Pulls.cons; focus (repeat (first | exact Pull.here | apply Pull.there)))))) hc (by omega)) rfl rfl rfl ?_; rintro v w ⟨rfl, hmu⟩ hS; rw [hgv]; replace hS := hS _ hmu; clear hmu)
        | (refine WL.callL (D := [.box C 46 [.slice AL l.length cl, .int .i64 (last : Int)], .own (.slice AL l.length cl) 89 2 l.length (verV l)]) hS (by repeat (first | exact Pulls.nil | (apply Pulls.cons; focus (repeat (first | exact Pull.here | apply Pull.there))))) rfl rfl (fun hI => hpl hI) rfl rfl rfl ?_; rintro v w ⟨hv, hmu⟩ hS; obtain rfl := hpv _ hv; replace hS := hS _ hmu; clear hmu hv)
        | (refine WL.callL (D := [bchC B (some ⟨Tp, 0, none⟩) m fb, tabC Tp q T fp]) hS (by repeat (first | exact Pulls.nil | (apply Pulls.cons; focus (repeat (first | exact Pull.here | apply Pull.there))))) rfl rfl (fun hI => cdepthNo_c id h0 h1 hI (hp.pull hS (by repeat (first | exact Pulls.nil | (apply Pulls.cons; focus (repeat (first | exact Pull.here | apply Pull.there)))))) hc (by omega) hf) rfl rfl rfl ?_; rintro v w ⟨rfl, hmu⟩ hS; replace hS := hS _ hmu; clear hmu))
      | (show WC _ _ _ _ _ _; first
        | refine WC.seq ?_
        | refine WC.region ?_
        | refine WC.block ?_
        | refine WC.skip ?_
        | refine WC.exit ?_
        | refine WC.condF rfl (by decide) ?_
        | refine WC.condF rfl (decide_eq_false (by first | with_reducible assumption | omega)) ?_)
      | refine seqQ_n ?_
      | refine seqQ_x ?_
      | refine blkQ_hit rfl ?_
      | refine rndQ_x ?_)
  case' inr =>
    have hgv : cgetV vs id = .tuple #[str x.data, .int .i64 0] := by unfold cgetV; rw [hf]
    generalize x.data = dx at *
    repeat' (first
      | (show WL _ _ _ _ _ _ _; first
        | refine WL.pure rfl rfl rfl rfl ?_
        | refine WL.nil ?_
        | (refine WL.callL (D := [bchC B (some ⟨Tp, 0, none⟩) m fb, tabC Tp q T fp]) hS (by repeat (first | exact Pulls.nil | (apply Pulls.cons; focus (repeat (first | exact Pull.here | apply Pull.there))))) rfl rfl (fun hI => cgets_c h0 h1 hI (hp.pull hS (by repeat (first | exact Pulls.nil | (apply Pulls.cons; focus (repeat (first | exact Pull.here | apply Pull.there)))))) hc (by omega)) rfl rfl rfl ?_; rintro v w ⟨rfl, hmu⟩ hS; rw [hgv]; replace hS := hS _ hmu; clear hmu)
        | (refine WL.callL (D := [.box C 46 [.slice AL l.length cl, .int .i64 (last : Int)], .own (.slice AL l.length cl) 89 2 l.length (verV l)]) hS (by repeat (first | exact Pulls.nil | (apply Pulls.cons; focus (repeat (first | exact Pull.here | apply Pull.there))))) rfl rfl (fun hI => hpl hI) rfl rfl rfl ?_; rintro v w ⟨hv, hmu⟩ hS; obtain ⟨i, rfl⟩ := hpv _ hv; replace hS := hS _ hmu; clear hmu hv)
        | refine WL.skip rfl rfl rfl ?_)
      | (show WC _ _ _ _ _ _; first
        | refine WC.seq ?_
        | refine WC.region ?_
        | refine WC.block ?_
        | refine WC.skip ?_
        | refine WC.exit ?_
        | refine WC.condF rfl (by with_reducible rfl) ?_
        | refine WC.condF rfl (decide_eq_false (by first | with_reducible assumption | omega)) ?_)
      | refine seqQ_n ?_
      | refine seqQ_x ?_
      | refine blkQ_hit rfl ?_
      | refine rndQ_x ?_)
  all_goals
    clear hpv hpl hgv hf
    refine WC.loop (σ := Nat × List Value) [0, 1, 7, 8] (fun (j, _) => [(15, .int .i64 (j : Int))])
      (fun (j, ys) w => j ≤ vs.length ∧ St w0 (fps [bchC B (some ⟨Tp, 0, none⟩) m fb, tabC Tp q T fp, .box C 46 [.slice AL l.length cl, .int .i64 (last : Int)], .own (.slice AL l.length cl) 89 2 l.length (verV l)]) w [.own (.slice AV vs.length capV) 3 1 vs.length ys, bchC B (some ⟨Tp, 0, none⟩) m fb, tabC Tp q T fp, .box C 46 [.slice AL l.length cl, .int .i64 (last : Int)], .own (.slice AL l.length cl) 89 2 l.length (verV l)] (ZL w0 [bchC B (some ⟨Tp, 0, none⟩) m fb, tabC Tp q T fp, .box C 46 [.slice AL l.length cl, .int .i64 (last : Int)], .own (.slice AL l.length cl) 89 2 l.length (verV l)]))
      (fun (j, _) => vs.length - j) (0, _) ⟨Nat.zero_le _, hS.droplast2 (D := [.own (.slice AV vs.length capV) 3 1 vs.length (ints (idsE vs)), bchC B (some ⟨Tp, 0, none⟩) m fb, tabC Tp q T fp, .box C 46 [.slice AL l.length cl, .int .i64 (last : Int)], .own (.slice AL l.length cl) 89 2 l.length (verV l)]) (by repeat (first | exact Pulls.nil | (apply Pulls.cons; focus (repeat (first | exact Pull.here | apply Pull.there)))))⟩ ⟨rfl, trivial⟩ ?_
    clear hS
    rintro ⟨j, ys⟩ g2 w ⟨hj, hS⟩
    show WC _ _ _ (lf _ [(15, .int .i64 (j : Int))] _ _) _ _
    by_cases hlt : j < vs.length
    · obtain ⟨kg, ko, rfl⟩ := hS.own_addr (A := AV) (n := vs.length) (by repeat (first | exact List.Mem.head _ | apply List.Mem.tail)) (by omega)
      have hyl := (hS.own_len (List.Mem.head _)).1
      clear hfirst
      repeat' (first
        | (show WL _ _ _ _ _ _ _; first
          | refine WL.pure rfl rfl rfl rfl ?_
          | refine WL.nil ?_
          | refine WL.add rfl rfl rfl (by omega) rfl rfl rfl ?_
          | (refine WL.storeOwn (off := j * 1) (vs := [.int .i64 (-5)]) hS rfl rfl rfl (by repeat (first | exact Repl.here | apply Repl.there)) (by show j * 1 + 1 ≤ _; omega) rfl rfl rfl rfl ?_; intro w hS)
          | refine WL.index rfl rfl rfl rfl (by first | with_reducible assumption | omega) rfl rfl rfl rfl ?_)
        | (show WC _ _ _ _ _ _; first
          | refine WC.seq ?_
          | refine WC.region ?_
          | refine WC.block ?_
          | refine WC.skip ?_
          | refine WC.condT rfl (decide_eq_true (by first | with_reducible assumption | omega)) ?_)
        | refine seqQ_n ?_
        | refine blkQ_n ?_)
      exact rndQ_n (j + 1, _) ⟨by omega, hS⟩ (by show vs.length - (j + 1) < vs.length - j; omega) ⟨vint (by omega), trivial⟩ ⟨rfl, rfl, rfl, rfl, trivial⟩
    have hje : j = vs.length := by omega
    subst hje
    clear hlt hj
    by_cases hv0 : vs.length = 0
    · clear hfirst
      repeat' (first
        | (show WL _ _ _ _ _ _ _; first
          | refine WL.pure rfl rfl rfl rfl ?_
          | refine WL.nil ?_)
        | (show WC _ _ _ _ _ _; first
          | refine WC.seq ?_
          | refine WC.region ?_
          | refine WC.exit ?_
          | refine WC.ret ?_
          | (show WC _ _ (Code.region _ (List.toArray [_, _, _, _, _, _, _, _, _, _, _, _, _, _, _, _, _, _, _, _, _, _, _, _, _, _, _, _, _, _, _, _]) true) _ _ _; refine WC.drawL [bchC B (some ⟨Tp, 0, none⟩) m fb, tabC Tp q T fp] hS (by repeat (first | exact Pulls.nil | (apply Pulls.cons; focus (repeat (first | exact Pull.here | apply Pull.there))))) [0,2,3,4,5,7,8,9,10,11,12,13,14,15,16,17,19,21,22,23,24,25,26,27,28,29,30,31] [0,2,1,3,4,5,8,9,6,7,10,11,12,13,14,15,16,17,21,22,23,24,25,26,27,18,19,20,28,29,30,31] (by kernel_rfl) (by kernel_rfl) ?_; clear hS; intro w hS hM)
          | refine WC.condF rfl (decide_eq_false (by first | with_reducible assumption | omega)) ?_)
        | (show WD _ _ _ _ _ _ _ _ _; first
          | refine WD.pure rfl rfl rfl rfl rfl ?_
          | refine WD.nil ?_
          | (refine WD.callL (D := [bchC B (some ⟨Tp, 0, none⟩) m fb, tabC Tp q T fp]) hS (by repeat (first | exact Pulls.nil | (apply Pulls.cons; focus (repeat (first | exact Pull.here | apply Pull.there))))) (.refl _ _) rfl rfl (fun hI => cbytes_c hI (hp.pull hS (by repeat (first | exact Pulls.nil | (apply Pulls.cons; focus (repeat (first | exact Pull.here | apply Pull.there)))))) hc (by omega) (by omega) hr) rfl rfl rfl rfl rfl ?_; rintro v w ⟨rfl, hmu⟩; refine ⟨_, hmu, fun hS hM => ?_⟩; clear hmu)
          | (refine WD.callL (D := [bchC B (some ⟨Tp, 0, none⟩) m fb, tabC Tp q T fp]) hS (by repeat (first | exact Pulls.nil | (apply Pulls.cons; focus (repeat (first | exact Pull.here | apply Pull.there))))) (.refl _ _) rfl rfl (fun hI => cvers_c hI hc (by omega) (by omega) hr) rfl rfl rfl rfl rfl ?_; rintro v w ⟨AV2, capV2, rfl, hmu⟩; refine ⟨_, hmu, fun hS hM => ?_⟩; clear hmu)
          | refine WD.pass rfl rfl rfl rfl ?_
          | refine WD.skip rfl rfl rfl rfl rfl (hM.ss hS) ?_
          | ((fail_if_success (refine WD.wanted rfl ?_)); refine WD.guard rfl rfl rfl (fun h => ?_) (fun h => ?_) <;> (try simp only [Classical.not_not, Bool.not_eq_true', Bool.not_eq_false', Bool.not_eq_eq_eq_not, Bool.not_true, Bool.not_false, beq_iff_eq, beq_eq_false_iff_ne, ne_eq, decide_eq_decide, decide_eq_true_eq, decide_eq_false_iff_not, Bool.and_eq_true, Bool.or_eq_true, Bool.and_eq_false_iff, Bool.or_eq_false_iff] at h) <;> (try (exfalso; first | omega | contradiction))))
        | refine seqQ_n ?_
        | refine seqQ_x ?_
        | refine blkQ_hit rfl ?_
        | refine rndQ_x ?_)
      exact fin1r rfl rfl ⟨vbool (by first | rfl | (simp; omega) | (simp [hv0]; done)), hS.mutLp (by repeat (first | exact Pulls.nil | (apply Pulls.cons; focus (repeat (first | exact Pull.here | apply Pull.there)))))⟩
    · obtain ⟨hf1, hf2⟩ := hfirst (by omega)
      obtain ⟨lg, lo, rfl⟩ := hS.own_addr (A := AL) (n := l.length) (by repeat (first | exact List.Mem.head _ | apply List.Mem.tail)) (by omega)
      generalize vs[0].id = n0 at *
      clear hfirst
      repeat' (first
        | (show WL _ _ _ _ _ _ _; first
          | refine WL.pure rfl rfl rfl rfl ?_
          | refine WL.nil ?_)
        | (show WC _ _ _ _ _ _; first
          | refine WC.seq ?_
          | refine WC.region ?_
          | refine WC.exit ?_
          | refine WC.ret ?_
          | (show WC _ _ (Code.region _ (List.toArray [_, _, _, _, _, _, _, _, _, _, _, _, _, _, _, _, _, _, _, _, _, _, _, _, _, _, _, _, _, _, _, _]) true) _ _ _; refine WC.drawL [bchC B (some ⟨Tp, 0, none⟩) m fb, tabC Tp q T fp] hS (by repeat (first | exact Pulls.nil | (apply Pulls.cons; focus (repeat (first | exact Pull.here | apply Pull.there))))) [0,2,3,4,5,7,8,9,10,11,12,13,14,15,16,17,19,21,22,23,24,25,26,27,28,29,30,31] [0,2,1,3,4,5,8,9,6,7,10,11,12,13,14,15,16,17,21,22,23,24,25,26,27,18,19,20,28,29,30,31] (by kernel_rfl) (by kernel_rfl) ?_; clear hS; intro w hS hM)
          | refine WC.condF rfl (decide_eq_false (by first | with_reducible assumption | omega)) ?_)
        | (show WD _ _ _ _ _ _ _ _ _; first
          | refine WD.pure rfl rfl rfl rfl rfl ?_
          | refine WD.nil ?_
          | refine WD.load rfl rfl (LdOk.box (by repeat (first | exact List.Mem.head _ | apply List.Mem.tail)) rfl) rfl rfl rfl rfl ?_
          | (refine WD.callL (D := [bchC B (some ⟨Tp, 0, none⟩) m fb, tabC Tp q T fp]) hS (by repeat (first | exact Pulls.nil | (apply Pulls.cons; focus (repeat (first | exact Pull.here | apply Pull.there))))) (.refl _ _) rfl rfl (fun hI => cbytes_c hI (hp.pull hS (by repeat (first | exact Pulls.nil | (apply Pulls.cons; focus (repeat (first | exact Pull.here | apply Pull.there)))))) hc (by omega) (by omega) hr) rfl rfl rfl rfl rfl ?_; rintro v w ⟨rfl, hmu⟩; refine ⟨_, hmu, fun hS hM => ?_⟩; clear hmu)
          | (refine WD.callL (D := [bchC B (some ⟨Tp, 0, none⟩) m fb, tabC Tp q T fp]) hS (by repeat (first | exact Pulls.nil | (apply Pulls.cons; focus (repeat (first | exact Pull.here | apply Pull.there))))) (by first | exact .refl _ _ | exact .chunk (.refl _ _) _) rfl rfl (fun hI => cvers_c hI hc (by omega) (by omega) hr) rfl rfl rfl rfl rfl ?_; rintro v w ⟨AV2, capV2, rfl, hmu⟩; refine ⟨_, hmu, fun hS hM => ?_⟩; clear hmu; obtain ⟨kg2, ko2, rfl⟩ := hS.own_addr (A := AV2) (n := vs.length) (by repeat (first | exact List.Mem.head _ | apply List.Mem.tail)) (by omega))
          | (refine WD.loadE hS hM rfl rfl (LdOk.ownAt (by repeat (first | exact List.Mem.head _ | apply List.Mem.tail)) rfl ⟨_, rfl⟩ hf1 rfl) rfl rfl rfl rfl rfl ?_)
          | (refine WD.load rfl rfl (LdOk.ownAt (off := 0 * 2 + 0) (by repeat (first | exact List.Mem.head _ | apply List.Mem.tail)) rfl ⟨_, rfl⟩ hf2 rfl) rfl rfl rfl rfl ?_)
          | refine WD.index (j := 0) rfl rfl rfl rfl (by omega) rfl rfl rfl rfl rfl ?_
          | ((fail_if_success (refine WD.wanted rfl ?_)); refine WD.guard rfl rfl rfl (fun h => ?_) (fun h => ?_) <;> (try simp only [Classical.not_not, Bool.not_eq_true', Bool.not_eq_false', Bool.not_eq_eq_eq_not, Bool.not_true, Bool.not_false, beq_iff_eq, beq_eq_false_iff_ne, ne_eq, decide_eq_decide, decide_eq_true_eq, decide_eq_false_iff_not, Bool.and_eq_true, Bool.or_eq_true, Bool.and_eq_false_iff, Bool.or_eq_false_iff] at h) <;> (try (exfalso; first | omega | contradiction))))
        | refine seqQ_n ?_
        | refine seqQ_x ?_
        | refine blkQ_hit rfl ?_
        | refine rndQ_x ?_)

      exact fin1r rfl rfl ⟨vbool (by first | rfl | (simp; omega) | (simp [hv0]; done)), hS.mutLp (by repeat (first | exact Pulls.nil | (apply Pulls.cons; focus (repeat (first | exact Pull.here | apply Pull.there)))))⟩
theorem calikeN_c {n : Nat} (hn : n = l.length) (id : Int) (h0 : -9223372036854775808 ≤ id) (h1 : id ≤ 9223372036854775807) (hi : InL w0 [bchC B (some ⟨Tp, 0, none⟩) m fb, tabC Tp q T fp, .box C 46 [.slice AL n cl, .int .i64 (last : Int)], .own (.slice AL n cl) 89 2 n (verV l)]) (hp : PowI w0 (fps [bchC B (some ⟨Tp, 0, none⟩) m fb, tabC Tp q T fp, .box C 46 [.slice AL n cl, .int .i64 (last : Int)], .own (.slice AL n cl) 89 2 n (verV l)])) (hc : ChIs T.rows m vs N) (hN : N ≤ 262144) (hm : m.length ≤ 262144) (hr : T.rows.length ≤ 549755813888) (hl : l = vs.map idData) (hz : ∀ v ∈ vs, v.data.length ≤ 1048576) :
    Cal Tryz.prog 19 [.pointer (some ⟨B, 0, none⟩), .pointer (some ⟨C, 0, none⟩), .int .i64 id] w0 (fun v w' => v = .bool true ∧ MutL w0 w' [bchC B (some ⟨Tp, 0, none⟩) m fb, tabC Tp q T fp, .box C 46 [.slice AL n cl, .int .i64 (last : Int)], .own (.slice AL n cl) 89 2 n (verV l)] [bchC B (some ⟨Tp, 0, none⟩) m fb, tabC Tp q T fp, .box C 46 [.slice AL n cl, .int .i64 (last : Int)], .own (.slice AL n cl) 89 2 n (verV l)]) := by
  subst hn
  exact calike_c id h0 h1 hi hp hc hN hm hr hl hz
end
end Go.Proofs.YtnefkegefjldjaaGreatDoor

/- What is proved: the law ChainPlays answers true. Conditions: the statement's own bound on the bulk; the library's table of powers laid. -/
set_option linter.unusedSimpArgs false
set_option linter.unusedVariables false
namespace Go.Proofs.YtnefkegefjldjaaGreatDoor
open Go Go.J Go.RowKit

structure Stp where
  kind : Int
  id : Int
  text : List UInt8
def encStp (s : Stp) : List Value := [.int .i64 s.kind, .int .i64 s.id, str s.text]
def cStp : Cod Stp := .flat encStp 3 fun _ => rfl
theorem ChIs.commit {rows rows1 : Rws} {m : Bch} {vs : List Ver} {N : Nat} (h : ChIs rows m vs N) (hn : (rows1.map Prod.fst).Nodup) (hg : ∀ k, getE rows1 k = bgetE rows m k) : ChIs rows1 [] vs N := by
  have hb : ∀ k, bgetE rows1 [] k = bgetE rows m k := hg
  exact ⟨hn, by simp, fun v hv => by rw [hb]; exact h.has v hv, fun k hk => by rw [hb] at hk; exact h.only k hk, fun k hk => by rw [hb] at hk ⊢; exact h.blank k hk, by rw [hb]; exact h.next, h.ids, h.srt, h.told, h.whole, h.by_, h.size⟩
theorem TabSt.next {D : Dk} {bs : Option (List Chg)} {ls : List (List Chg)} (h : TabSt D bs ls) (hf : ls.length ≤ 15) (rows : Rws) (ops : List Chg) :
    ∃ D' bs' ls', tabCommit ⟨sysP, rows, ⟨sysL, ls.map recordE, false⟩⟩ D ops = (0, ⟨sysP, applyE rows ops, ⟨sysL, ls'.map recordE, false⟩⟩, D') ∧ TabSt D' bs' ls' ∧ ls'.length ≤ 15 := by
  by_cases hne : ops = []
  · subst hne
    exact ⟨D, bs, ls, rfl, h, hf⟩
  · by_cases hl : ls.length < 15
    · obtain ⟨D', hcm, hst⟩ := h.commit rows ops hne hl
      exact ⟨D', bs, ls ++ [ops], hcm, hst, by rw [List.length_append, List.length_singleton]; omega⟩
    · obtain ⟨D', hcm, hst⟩ := h.commit16 rows ops hne (by omega)
      exact ⟨D', _, [], hcm, hst, Nat.zero_le _⟩
/-- where the law stands -/
structure PlayIs (i : Nat) (rows : Rws) (m : Bch) (vs : List Ver) (N : Nat) (D : Dk) (ls : List (List Chg)) : Prop where
  is_ : ChIs rows m vs N
  hN : N ≤ i
  bok : BchOk m
  are : ∃ f, RowsAre rows f
  sz : szL (m.map Prod.snd) + szR rows ≤ i * 1400000
  cnt : m.length + rows.length ≤ i * 100
  st : ∃ bs, TabSt D bs ls
  few : ls.length ≤ 15
  sm : D.Sm (i * 1073742000)
  dat : ∀ v ∈ vs, v.data.length ≤ 1048576
section
variable {i N : Nat} {rows : Rws} {m m' : Bch} {vs vs' : List Ver} {D : Dk} {ls : List (List Chg)}
theorem PlayIs.up (h : PlayIs i rows m vs N D ls) : PlayIs (i + 1) rows m vs N D ls := by
  have h1 := h.hN
  have h2 := h.sz
  have h3 := h.cnt
  exact ⟨h.is_, by omega, h.bok, h.are, Nat.le_trans h2 (Nat.mul_le_mul_right _ (Nat.le_succ i)), by omega, h.st, h.few, h.sm.up (Nat.mul_le_mul_right _ (Nat.le_succ _)), h.dat⟩
theorem PlayIs.add (h : PlayIs i rows m vs N D ls) {base : Nat} {pay text : List UInt8} (ht : text.length ≤ 1048576) (hc : ChIs rows m' (vs ++ [⟨N + 1, base, pay, text⟩]) (N + 1)) (hg : Grew m m' 2 (text.length + 200)) : PlayIs (i + 1) rows m' (vs ++ [⟨N + 1, base, pay, text⟩]) (N + 1) D ls := by
  refine ⟨hc, by have := h.hN; omega, hg.ok h.bok, h.are, by have := h.sz; have := hg.sz; omega, by have := h.cnt; have := hg.len; omega, h.st, h.few, h.sm.up (Nat.mul_le_mul_right _ (Nat.le_succ _)), fun v hv => ?_⟩
  rcases List.mem_append.1 hv with hv | hv
  · exact h.dat v hv
  · rw [List.mem_singleton] at hv
    subst hv
    exact ht
theorem PlayIs.drop (h : PlayIs i rows m vs N D ls) (hi : i < 80) {id : Nat} (hc : ChIs rows m' (delC vs' id) N) (hd : vs'.map idData = vs.map idData) (hg : Grew m m' (vs.length + 1) ((vs.length + 1) * 4300)) : PlayIs (i + 1) rows m' (delC vs' id) N D ls := by
  have hvl := h.is_.len
  have hN := h.hN
  refine ⟨hc, by omega, hg.ok h.bok, h.are, by have := h.sz; have := hg.sz; omega, by have := h.cnt; have := hg.len; omega, h.st, h.few, h.sm.up (Nat.mul_le_mul_right _ (Nat.le_succ _)), fun v hv => ?_⟩
  have hv1 : idData v ∈ vs.map idData := by
    rw [← hd]
    exact List.mem_map.2 ⟨v, (List.mem_filter.1 hv).1, rfl⟩
  obtain ⟨u, hu, e⟩ := List.mem_map.1 hv1
  have e2 : u.data = v.data := congrArg Prod.snd e
  rw [← e2]
  exact h.dat u hu
/-- a commit -/
theorem PlayIs.commit (h : PlayIs i rows m vs N D ls) (hi : i < 80) : ∃ rows' D' ls', PlayIs (i + 1) rows' [] vs N D' ls' ∧ tabCommit ⟨sysP, rows, ⟨sysL, ls.map recordE, false⟩⟩ D (m.map Prod.snd) = (0, ⟨sysP, rows', ⟨sysL, ls'.map recordE, false⟩⟩, D') ∧
    (recordE (m.map Prod.snd)).length ≤ 1073741824 ∧ rows' = applyE rows (m.map Prod.snd) ∧ (recordE (packL rows')).length ≤ 549755813888 ∧ rows'.length ≤ 1048576 ∧ ∀ p ∈ rows', p.1.length ≤ 1099511627776 := by
  obtain ⟨bs, hst⟩ := h.st
  obtain ⟨D', bs', ls', hcm, hst', hl'⟩ := hst.next h.few rows (m.map Prod.snd)
  obtain ⟨f, hra⟩ := h.are
  have hge := getE_commit hra h.bok
  have hra' := hra.apply (l := m.map Prod.snd)
  have hsz := szR_apply (m.map Prod.snd) rows
  have hs := h.sz
  have hln := applyE_len (m.map Prod.snd) rows
  rw [List.length_map] at hln
  have hc := h.cnt
  obtain ⟨p1, p2⟩ := pack_small hra'.1 (B := 200000000) (by omega) (by decide)
  have rc := rec_small (l := m.map Prod.snd) (by omega)
  have hsm := tabCommit_sm (T := ⟨sysP, rows, ⟨sysL, ls.map recordE, false⟩⟩) (D := D) (ops := m.map Prod.snd) (B := i * 1073742000) h.sm rc (by dsimp only; omega)
  rw [hcm] at hsm
  refine ⟨_, D', ls', ⟨h.is_.commit hra'.1 hge, by have := h.hN; omega, BchOk.nil, ⟨_, hra'⟩, ?_, ?_, ⟨bs', hst'⟩, hl', hsm.up (by rw [Nat.succ_mul]; exact Nat.le_refl _), h.dat⟩, hcm, rc, rfl, by omega, by omega, fun p hp => by have := szR_mem hp; omega⟩
  · have : szL (([] : Bch).map Prod.snd) = 0 := rfl
    omega
  · have : ([] : Bch).length = 0 := rfl
    omega
end
set_option maxHeartbeats 64000000 in
set_option maxRecDepth 100000 in
theorem chainPlays_c (steps : List Stp) {A : Option Addr} {cap : Nat} {w0 : World} (h0 : SlAt cStp (Old w0) w0 A steps) (hz : ∀ s ∈ steps, s.text.length ≤ 1048576 ∧ -9223372036854775808 ≤ s.id ∧ s.id ≤ 9223372036854775807) (hsl : steps.length ≤ 1048576) (ht : powT w0) :
    Cal Tryz.prog 5 [.slice A steps.length cap] w0 (fun v w' => Upd [] w0 w' ∧ v = .bool true) := by
  refine Cal.mk' (by kernel_rfl) Tryz.func5 rfl rfl fun hS => ?_
  have hp := PowI.of ht
  repeat' (first
    | (show WL _ _ _ _ _ _ _; first
      | refine WL.pure rfl rfl rfl rfl ?_
      | refine WL.nil ?_
      | (refine WL.callG rfl rfl (dnew_c _) rfl rfl rfl ?_; rintro v w ⟨hu, q, mb, lb, rfl, hn⟩; replace hS := hS.new hu hn; clear hu hn)
      | (refine WL.callL (D := [dkC q mb lb Dk0]) hS (by repeat (first | exact Pulls.nil | (apply Pulls.cons; focus (repeat (first | exact Pull.here | apply Pull.there))))) rfl rfl (fun hI => topenFirst_c hI) rfl rfl rfl ?_; rintro v w ⟨Tp, fp, rfl, hmu⟩ hS; replace hS := hS _ hmu; clear hmu)
      | (refine WL.calls hS rfl rfl (chawake_c _ (hp.at hS)) rfl rfl rfl ?_; rintro v w rfl hS)
      | (refine WL.callG rfl rfl (begin_c _) rfl rfl rfl ?_; rintro v w ⟨hu, B, fb, rfl, hn⟩; replace hS := hS.new hu hn; clear hu hn)
      | (refine WL.box hS rfl rfl rfl rfl rfl ?_; intro w C hS; replace hS := hS.nilRow 89 2)
      | refine WL.build rfl rfl rfl rfl rfl ?_)
    | (show WC _ _ _ _ _ _; first
      | refine WC.seq ?_
      | refine WC.region ?_
      | refine WC.block ?_
      | refine WC.skip ?_
      | refine WC.condF rfl (by decide) ?_)
    | refine seqQ_n ?_)
  refine WC.loop (σ := Nat × Nat × List Ver × Bch × Nat × List Nat × Rws × Dk × List (List Chg) × List Nat × Option Addr × Nat) [0, 3, 6] (fun (i, _, _, _, B, _) => [(5, .pointer (some ⟨B, 0, none⟩)), (7, .int .i64 (i : Int))])
    (fun (i, N, vs, m, B, fb, rows, D, ls, fp, AL, cl) w => (i ≤ 80 ∧ PlayIs i rows m vs N D ls) ∧ St w0 [] w [bchC B (some ⟨Tp, 0, none⟩) m fb, tabC Tp q ⟨sysP, rows, ⟨sysL, ls.map recordE, false⟩⟩ fp, dkC q mb lb D, .box C 46 [.slice AL (vs.map idData).length cl, .int .i64 (N : Int)], .own (.slice AL (vs.map idData).length cl) 89 2 (vs.map idData).length (verV (vs.map idData))] [⟨w0, Old w0⟩])
    (fun (i, _) => steps.length - i) (0, 0, [], [], B, fb, [], Dt0, [], fp, none, 0) ⟨⟨Nat.zero_le _, ChIs.nil, Nat.le_refl _, BchOk.nil, ⟨_, RowsAre.nil⟩, Nat.le_refl _, Nat.le_refl _, ⟨none, Dt0_st⟩, Nat.zero_le _, Dt0_sm, by simp⟩, hS.droplast2 (by repeat (first | exact Pulls.nil | (apply Pulls.cons; focus (repeat (first | exact Pull.here | apply Pull.there)))))⟩ ⟨rfl, rfl, trivial⟩ ?_
  clear hS
  rintro ⟨i, N, vs, m, B, fb, rows, D, ls, fp, AL, cl⟩ g w ⟨⟨hi, hpi⟩, hS⟩
  show WC _ _ _ (lf _ [(5, .pointer (some ⟨B, 0, none⟩)), (7, .int .i64 (i : Int))] _ _) _ _
  by_cases hlt : i < steps.length
  rotate_left
  · repeat' (first
      | (show WL _ _ _ _ _ _ _; first
        | refine WL.pure rfl rfl rfl rfl ?_
        | refine WL.nil ?_
        | refine WL.skip rfl rfl rfl ?_
        | ((fail_if_success (refine WL.wanted rfl ?_)); refine WL.guard rfl rfl rfl (fun h => ?_) (fun h => ?_) <;> (try simp only [Classical.not_not, Bool.not_eq_true', Bool.not_eq_false', Bool.not_eq_eq_eq_not, Bool.not_true, Bool.not_false, beq_iff_eq, beq_eq_false_iff_ne, ne_eq, decide_eq_decide, decide_eq_true_eq, decide_eq_false_iff_not, Bool.and_eq_true, Bool.or_eq_true, Bool.and_eq_false_iff, Bool.or_eq_false_iff] at h) <;> (try (exfalso; first | omega | contradiction))))
      | (show WC _ _ _ _ _ _; first
        | refine WC.seq ?_
        | refine WC.region ?_
        | refine WC.exit ?_
        | refine WC.ret ?_
        | refine WC.condF rfl (by with_reducible rfl) ?_)
      | refine seqQ_n ?_
      | refine seqQ_x ?_
      | refine blkQ_hit rfl ?_
      | refine rndQ_x ?_)
    exact fin1r rfl rfl ⟨hS.upd, rfl⟩
  by_cases h80 : i < 80
  rotate_left
  · repeat' (first
      | (show WL _ _ _ _ _ _ _; first
        | refine WL.pure rfl rfl rfl rfl ?_
        | refine WL.nil ?_
        | ((fail_if_success (refine WL.wanted rfl ?_)); refine WL.guard rfl rfl rfl (fun h => ?_) (fun h => ?_) <;> (try simp only [Classical.not_not, Bool.not_eq_true', Bool.not_eq_false', Bool.not_eq_eq_eq_not, Bool.not_true, Bool.not_false, beq_iff_eq, beq_eq_false_iff_ne, ne_eq, decide_eq_decide, decide_eq_true_eq, decide_eq_false_iff_not, Bool.and_eq_true, Bool.or_eq_true, Bool.and_eq_false_iff, Bool.or_eq_false_iff] at h) <;> (try (exfalso; first | omega | contradiction))))
      | (show WC _ _ _ _ _ _; first
        | refine WC.seq ?_
        | refine WC.region ?_
        | refine WC.exit ?_
        | refine WC.ret ?_
        | refine WC.condF rfl (decide_eq_false (by first | with_reducible assumption | omega)) ?_)
      | refine seqQ_n ?_
      | refine seqQ_x ?_
      | refine blkQ_hit rfl ?_
      | refine rndQ_x ?_)
    exact fin1r rfl rfl ⟨hS.upd, rfl⟩
  obtain ⟨rb, ro, es, rfl, hF, hr, hes⟩ := h0.at_ hlt
  have hes : es = encStp steps[i] := hes
  subst hes
  have hr : w0.rangeAt rb (ro + i * 3) (encStp steps[i]) := hr
  obtain ⟨htl, hid⟩ := hz steps[i] (List.getElem_mem hlt)
  generalize steps[i] = sp at *
  obtain ⟨kind, id, text⟩ := sp
  have hr : w0.rangeAt rb (ro + i * 3) [.int .i64 kind, .int .i64 id, str text] := hr
  dsimp only at htl hid
  have hc := hpi.is_
  have hN := hpi.hN
  have hcnt := hpi.cnt
  have hvl := hc.len
  have hll : (vs.map idData).length ≤ 1048576 := by rw [List.length_map]; omega
  clear hz
  have hnd : ((vs.map idData).map Prod.fst).Nodup := by
    have := hc.nd
    rw [List.map_map]
    exact this
  by_cases k1 : kind = 1
  · subst k1
    have hadd := fun {base : Nat} {pay : List UInt8} {m2 : Bch} => hpi.add (base := base) (pay := pay) (m' := m2) (text := text) htl
    have hmap : ∀ {base : Nat} {pay : List UInt8}, (vs ++ [(⟨N + 1, base, pay, text⟩ : Ver)]).map idData = vs.map idData ++ [(N + 1, text)] := fun {base pay} => by rw [List.map_append]; rfl
    clear hpi
    repeat' (first
      | (show WL _ _ _ _ _ _ _; first
        | refine WL.pure rfl rfl rfl rfl ?_
        | refine WL.nil ?_
        | refine WL.load hS rfl rfl (LdOk.box (by repeat (first | exact List.Mem.head _ | apply List.Mem.tail)) rfl) rfl rfl rfl ?_
        | refine WL.add rfl rfl rfl (by omega) rfl rfl rfl ?_
        | (refine WL.load hS rfl rfl (LdOk.snap0 hF hr (by repeat (first | exact List.Mem.head _ | apply List.Mem.tail)) rfl) rfl rfl rfl ?_)
        | (refine WL.callL (D := [bchC B (some ⟨Tp, 0, none⟩) m2 fb2, tabC Tp q ⟨sysP, rows, ⟨sysL, ls.map recordE, false⟩⟩ fp, .box C 46 [.slice AL2 ((vs.map idData).length + 1) cl2, .int .i64 ((N + 1 : Nat) : Int)], .own (.slice AL2 ((vs.map idData).length + 1) cl2) 89 2 ((vs.map idData).length + 1) (verV (vs.map idData ++ [(N + 1, text)]))]) hS (by repeat (first | exact Pulls.nil | (apply Pulls.cons; focus (repeat (first | exact Pull.here | apply Pull.there))))) rfl rfl (fun hI => calikeN_c (T := ⟨sysP, rows, ⟨sysL, ls.map recordE, false⟩⟩) (l := vs.map idData ++ [(N + 1, text)]) (by rw [List.length_append]; rfl) id hid.1 hid.2 hI (hp.pull hS (by repeat (first | exact Pulls.nil | (apply Pulls.cons; focus (repeat (first | exact Pull.here | apply Pull.there)))))) hc2 (by omega) (by omega) (by show rows.length ≤ _; omega) hl2.symm hdt2) rfl rfl rfl ?_; rintro v w ⟨rfl, hmu⟩ hS; replace hS := hS _ hmu; clear hmu)
        | (refine WL.store hS rfl rfl rfl (by repeat (first | exact StB.here rfl | apply StB.there)) rfl rfl rfl ?_; intro w hS)
        | (refine WL.alloc hS rfl rfl rfl rfl rfl rfl ?_; intro w b hS)
        | refine WL.index rfl rfl rfl rfl (by first | with_reducible assumption | omega) rfl rfl rfl rfl ?_
        | ((fail_if_success (refine WL.wanted rfl ?_)); refine WL.guard rfl rfl rfl (fun h => ?_) (fun h => ?_) <;> (try simp only [Classical.not_not, Bool.not_eq_true', Bool.not_eq_false', Bool.not_eq_eq_eq_not, Bool.not_true, Bool.not_false, beq_iff_eq, beq_eq_false_iff_ne, ne_eq, decide_eq_decide, decide_eq_true_eq, decide_eq_false_iff_not, Bool.and_eq_true, Bool.or_eq_true, Bool.and_eq_false_iff, Bool.or_eq_false_iff] at h) <;> (try (exfalso; first | omega | contradiction))))
      | (show WC _ _ _ _ _ _; first
        | refine WC.seq ?_
        | refine WC.region ?_
        | refine WC.block ?_
        | refine WC.skip ?_
        | (show WC _ _ (Code.region _ (List.toArray [_, _, _, _, _, _, _, _, _, _, _]) true) _ _ _; refine WC.drawL [bchC B (some ⟨Tp, 0, none⟩) m fb, tabC Tp q ⟨sysP, rows, ⟨sysL, ls.map recordE, false⟩⟩ fp, .box C 46 [.slice AL (vs.map idData).length cl, .int .i64 (N : Int)], .own (.slice AL (vs.map idData).length cl) 89 2 (vs.map idData).length (verV (vs.map idData))] hS (by repeat (first | exact Pulls.nil | (apply Pulls.cons; focus (repeat (first | exact Pull.here | apply Pull.there))))) [0,1,2,3,4,6,7,8,10] [0,1,2,3,4,6,7,8,5,9,10] (by kernel_rfl) (by kernel_rfl) ?_; clear hS; intro w hS hM)
        | refine WC.condT rfl (by decide) ?_
        | refine WC.condF rfl (by decide) ?_
        | refine WC.condT rfl (decide_eq_true (by first | with_reducible assumption | omega)) ?_
        | refine WC.condF rfl (decide_eq_false (by first | with_reducible assumption | omega)) ?_)
      | (show WD _ _ _ _ _ _ _ _ _; first
        | refine WD.pure rfl rfl rfl rfl rfl ?_
        | refine WD.nil ?_
        | refine WD.load rfl rfl (LdOk.box (by repeat (first | exact List.Mem.head _ | apply List.Mem.tail)) rfl) rfl rfl rfl rfl ?_
        | (refine WD.callL (D := [bchC B (some ⟨Tp, 0, none⟩) m fb, tabC Tp q ⟨sysP, rows, ⟨sysL, ls.map recordE, false⟩⟩ fp]) hS (by repeat (first | exact Pulls.nil | (apply Pulls.cons; focus (repeat (first | exact Pull.here | apply Pull.there))))) (by first | exact .refl _ _ | exact .chunk (.chunk (.refl _ _) _) _) rfl rfl (fun hI => cadd_c (vs := vs) (N := N) text id (by omega) hid.1 hid.2 hI (hp.pull hS (by repeat (first | exact Pulls.nil | (apply Pulls.cons; focus (repeat (first | exact Pull.here | apply Pull.there)))))) hc (by omega) (by omega)) rfl rfl rfl rfl rfl ?_; rintro v w ⟨rfl, base, pay, m2, fb2, _, _, hc2, hg2, hmu⟩; refine ⟨_, hmu, fun hS hM => ?_⟩; clear hmu; have hpi2 := hadd hc2 hg2; have hml2 := hg2.len; have hdt2 := hpi2.dat; have hl2 := hmap (base := base) (pay := pay); generalize vs ++ [(⟨N + 1, base, pay, text⟩ : Ver)] = vs2 at *)
        | (refine WD.callL (D := [.box C 46 [.slice AL (vs.map idData).length cl, .int .i64 (N : Int)], .own (.slice AL (vs.map idData).length cl) 89 2 (vs.map idData).length (verV (vs.map idData))]) hS (by repeat (first | exact Pulls.nil | (apply Pulls.cons; focus (repeat (first | exact Pull.here | apply Pull.there))))) (by first | exact .refl _ _ | exact .chunk (.chunk (.refl _ _) _) _) rfl rfl (fun hI => cradd_c (last := N) text hI hll (by omega)) rfl rfl rfl rfl rfl ?_; rintro v w ⟨rfl, AL2, cl2, hmu⟩; refine ⟨_, hmu, fun hS hM => ?_⟩; clear hmu))
      | refine seqQ_n ?_
      | refine blkQ_n ?_)
    refine rndQ_n (i + 1, N + 1, vs2, m2, B, fb2, rows, D, ls, fp, AL2, cl2) ⟨⟨by omega, hpi2⟩, ?_⟩ (by show steps.length - (i + 1) < steps.length - i; omega) ⟨rfl, vint (by omega), trivial⟩ ⟨rfl, rfl, rfl, trivial⟩
    rw [hl2, List.length_append, List.length_singleton]
    exact hS.droplast2 (by repeat (first | exact Pulls.nil | (apply Pulls.cons; focus (repeat (first | exact Pull.here | apply Pull.there)))))
  by_cases k2 : kind = 2
  · subst k2
    cases hf : findC vs id with
    | none =>
      have hpi2 := hpi.up
      have hdt := hpi.dat
      have hno : ∀ p ∈ vs.map idData, (p.1 : Int) ≠ id := fun p hp e => by
        obtain ⟨x, hx, rfl⟩ := List.mem_map.1 hp
        have e : (x.id : Int) = id := e
        rw [← e, findC_of hc.nd hx] at hf
        cases hf
      obtain ⟨HN, rfl⟩ : ∃ h : (∀ p ∈ vs.map idData, (p.1 : Int) ≠ id), h = hno := ⟨_, rfl⟩
      repeat' (first
        | (show WL _ _ _ _ _ _ _; first
          | refine WL.pure rfl rfl rfl rfl ?_
          | refine WL.nil ?_
          | refine WL.load hS rfl rfl (LdOk.box (by repeat (first | exact List.Mem.head _ | apply List.Mem.tail)) rfl) rfl rfl rfl ?_
          | refine WL.add rfl rfl rfl (by omega) rfl rfl rfl ?_
          | (refine WL.load hS rfl rfl (LdOk.snap0 hF hr (by repeat (first | exact List.Mem.head _ | apply List.Mem.tail)) rfl) rfl rfl rfl ?_)
          | (refine WL.callL (D := [bchC B (some ⟨Tp, 0, none⟩) m fb, tabC Tp q ⟨sysP, rows, ⟨sysL, ls.map recordE, false⟩⟩ fp]) hS (by repeat (first | exact Pulls.nil | (apply Pulls.cons; focus (repeat (first | exact Pull.here | apply Pull.there))))) rfl rfl (fun hI => cdropNo_c (T := ⟨sysP, rows, ⟨sysL, ls.map recordE, false⟩⟩) id hid.1 hid.2 hI (hp.pull hS (by repeat (first | exact Pulls.nil | (apply Pulls.cons; focus (repeat (first | exact Pull.here | apply Pull.there)))))) hc (by omega) hf) rfl rfl rfl ?_; rintro v w ⟨rfl, hmu⟩ hS; replace hS := hS _ hmu; clear hmu)
          | (refine WL.callL (D := [.box C 46 [.slice AL (vs.map idData).length cl, .int .i64 (N : Int)], .own (.slice AL (vs.map idData).length cl) 89 2 (vs.map idData).length (verV (vs.map idData))]) hS (by repeat (first | exact Pulls.nil | (apply Pulls.cons; focus (repeat (first | exact Pull.here | apply Pull.there))))) rfl rfl (fun hI => crdropNo_c id HN hI hll) rfl rfl rfl ?_; rintro v w ⟨rfl, hmu⟩ hS; replace hS := hS _ hmu; clear hmu)
          | (refine WL.callL (D := [bchC B (some ⟨Tp, 0, none⟩) m fb, tabC Tp q ⟨sysP, rows, ⟨sysL, ls.map recordE, false⟩⟩ fp, .box C 46 [.slice AL (vs.map idData).length cl, .int .i64 (N : Int)], .own (.slice AL (vs.map idData).length cl) 89 2 (vs.map idData).length (verV (vs.map idData))]) hS (by repeat (first | exact Pulls.nil | (apply Pulls.cons; focus (repeat (first | exact Pull.here | apply Pull.there))))) rfl rfl (fun hI => calike_c (T := ⟨sysP, rows, ⟨sysL, ls.map recordE, false⟩⟩) (l := vs.map idData) id hid.1 hid.2 hI (hp.pull hS (by repeat (first | exact Pulls.nil | (apply Pulls.cons; focus (repeat (first | exact Pull.here | apply Pull.there)))))) hc (by omega) (by omega) (by show rows.length ≤ _; omega) rfl hdt) rfl rfl rfl ?_; rintro v w ⟨rfl, hmu⟩ hS; replace hS := hS _ hmu; clear hmu)
          | (refine WL.store hS rfl rfl rfl (by repeat (first | exact StB.here rfl | apply StB.there)) rfl rfl rfl ?_; intro w hS)
          | (refine WL.alloc hS rfl rfl rfl rfl rfl rfl ?_; intro w b hS)
          | refine WL.index rfl rfl rfl rfl (by first | with_reducible assumption | omega) rfl rfl rfl rfl ?_
          | ((fail_if_success (refine WL.wanted rfl ?_)); refine WL.guard rfl rfl rfl (fun h => ?_) (fun h => ?_) <;> (try simp only [Classical.not_not, Bool.not_eq_true', Bool.not_eq_false', Bool.not_eq_eq_eq_not, Bool.not_true, Bool.not_false, beq_iff_eq, beq_eq_false_iff_ne, ne_eq, decide_eq_decide, decide_eq_true_eq, decide_eq_false_iff_not, Bool.and_eq_true, Bool.or_eq_true, Bool.and_eq_false_iff, Bool.or_eq_false_iff] at h) <;> (try (exfalso; first | omega | contradiction))))
        | (show WC _ _ _ _ _ _; first
          | refine WC.seq ?_
          | refine WC.region ?_
          | refine WC.block ?_
          | refine WC.skip ?_
          | refine WC.condT rfl (by decide) ?_
          | refine WC.condF rfl (by decide) ?_
          | refine WC.condT rfl (decide_eq_true (by first | with_reducible assumption | omega)) ?_)
        | refine seqQ_n ?_
        | refine blkQ_n ?_)
      exact rndQ_n (i + 1, N, vs, m, B, fb, rows, D, ls, fp, AL, cl) ⟨⟨by omega, hpi2⟩, hS.droplast2 (by repeat (first | exact Pulls.nil | (apply Pulls.cons; focus (repeat (first | exact Pull.here | apply Pull.there)))))⟩ (by show steps.length - (i + 1) < steps.length - i; omega) ⟨rfl, vint (by omega), trivial⟩ ⟨rfl, rfl, rfl, trivial⟩
    | some y =>
      obtain ⟨hy, rfl⟩ := findC_some hf
      have hdrop := fun {m2 : Bch} {vs2 : List Ver} => hpi.drop (m' := m2) (vs' := vs2) h80 (id := y.id)
      have hin : ∃ p ∈ vs.map idData, p.1 = y.id := ⟨idData y, List.mem_map.2 ⟨y, hy, rfl⟩, rfl⟩
      clear hpi hf
      repeat' (first
        | (show WL _ _ _ _ _ _ _; first
          | refine WL.pure rfl rfl rfl rfl ?_
          | refine WL.nil ?_
          | refine WL.load hS rfl rfl (LdOk.box (by repeat (first | exact List.Mem.head _ | apply List.Mem.tail)) rfl) rfl rfl rfl ?_
          | refine WL.add rfl rfl rfl (by omega) rfl rfl rfl ?_
          | (refine WL.load hS rfl rfl (LdOk.snap0 hF hr (by repeat (first | exact List.Mem.head _ | apply List.Mem.tail)) rfl) rfl rfl rfl ?_)
          | (refine WL.callL (D := [bchC B (some ⟨Tp, 0, none⟩) m fb, tabC Tp q ⟨sysP, rows, ⟨sysL, ls.map recordE, false⟩⟩ fp]) hS (by repeat (first | exact Pulls.nil | (apply Pulls.cons; focus (repeat (first | exact Pull.here | apply Pull.there))))) rfl rfl (fun hI => cdrop_c (T := ⟨sysP, rows, ⟨sysL, ls.map recordE, false⟩⟩) y hI (hp.pull hS (by repeat (first | exact Pulls.nil | (apply Pulls.cons; focus (repeat (first | exact Pull.here | apply Pull.there)))))) hc (by omega) (by omega) (by show rows.length ≤ _; omega) hy) rfl rfl rfl ?_; rintro v w ⟨rfl, vs2, m2, fb2, hc2, hd2, hg2, hmu⟩ hS; replace hS := hS _ hmu; clear hmu; have hpi2 := hdrop hc2 hd2 hg2; have hml2 := hg2.len; have hdt2 := hpi2.dat)
          | (refine WL.callL (D := [.box C 46 [.slice AL (vs.map idData).length cl, .int .i64 (N : Int)], .own (.slice AL (vs.map idData).length cl) 89 2 (vs.map idData).length (verV (vs.map idData))]) hS (by repeat (first | exact Pulls.nil | (apply Pulls.cons; focus (repeat (first | exact Pull.here | apply Pull.there))))) rfl rfl (fun hI => crdrop_c y.id hnd hin hI hll) rfl rfl rfl ?_; rintro v w ⟨rfl, l2, AL2, cl2, hl2, hmu⟩ hS; replace hS := hS _ hmu; clear hmu; replace hl2 : l2 = (delC vs2 y.id).map idData := hl2.trans (by rw [delC_data, hd2]); generalize delC vs2 y.id = vs3 at *)
          | (refine WL.callL (D := [bchC B (some ⟨Tp, 0, none⟩) m2 fb2, tabC Tp q ⟨sysP, rows, ⟨sysL, ls.map recordE, false⟩⟩ fp, .box C 46 [.slice AL2 l2.length cl2, .int .i64 (N : Int)], .own (.slice AL2 l2.length cl2) 89 2 l2.length (verV l2)]) hS (by repeat (first | exact Pulls.nil | (apply Pulls.cons; focus (repeat (first | exact Pull.here | apply Pull.there))))) rfl rfl (fun hI => calike_c (T := ⟨sysP, rows, ⟨sysL, ls.map recordE, false⟩⟩) (l := l2) (y.id : Int) hid.1 hid.2 hI (hp.pull hS (by repeat (first | exact Pulls.nil | (apply Pulls.cons; focus (repeat (first | exact Pull.here | apply Pull.there)))))) hc2 (by omega) (by omega) (by show rows.length ≤ _; omega) hl2 hdt2) rfl rfl rfl ?_; rintro v w ⟨rfl, hmu⟩ hS; replace hS := hS _ hmu; clear hmu)
          | (refine WL.store hS rfl rfl rfl (by repeat (first | exact StB.here rfl | apply StB.there)) rfl rfl rfl ?_; intro w hS)
          | (refine WL.alloc hS rfl rfl rfl rfl rfl rfl ?_; intro w b hS)
          | refine WL.index rfl rfl rfl rfl (by first | with_reducible assumption | omega) rfl rfl rfl rfl ?_
          | refine WL.skip rfl rfl rfl ?_
          | ((fail_if_success (refine WL.wanted rfl ?_)); refine WL.guard rfl rfl rfl (fun h => ?_) (fun h => ?_) <;> (try simp only [Classical.not_not, Bool.not_eq_true', Bool.not_eq_false', Bool.not_eq_eq_eq_not, Bool.not_true, Bool.not_false, beq_iff_eq, beq_eq_false_iff_ne, ne_eq, decide_eq_decide, decide_eq_true_eq, decide_eq_false_iff_not, Bool.and_eq_true, Bool.or_eq_true, Bool.and_eq_false_iff, Bool.or_eq_false_iff] at h) <;> (try (exfalso; first | omega | contradiction))))
        | (show WC _ _ _ _ _ _; first
          | refine WC.seq ?_
          | refine WC.region ?_
          | refine WC.block ?_
          | refine WC.skip ?_
          | refine WC.condF rfl (by with_reducible rfl) ?_
          | refine WC.condT rfl (by decide) ?_
          | refine WC.condF rfl (by decide) ?_
          | refine WC.condT rfl (decide_eq_true (by first | with_reducible assumption | omega)) ?_)
        | refine seqQ_n ?_
        | refine blkQ_n ?_)
      refine rndQ_n (i + 1, N, vs3, m2, B, fb2, rows, D, ls, fp, AL2, cl2) ⟨⟨by omega, hpi2⟩, ?_⟩ (by show steps.length - (i + 1) < steps.length - i; omega) ⟨rfl, vint (by omega), trivial⟩ ⟨rfl, rfl, rfl, trivial⟩
      rw [← hl2]
      exact hS.droplast2 (by repeat (first | exact Pulls.nil | (apply Pulls.cons; focus (repeat (first | exact Pull.here | apply Pull.there)))))
  by_cases k3 : kind = 3
  · subst k3
    obtain ⟨rows2, D2, ls2, hpi2, hcm, rc, hrw, hr2, hn2, hk2⟩ := hpi.commit h80
    have hdt := hpi2.dat
    have hc2 := hpi2.is_
    have hcnt2 := hpi2.cnt
    have hsm := hpi.sm.up (C := 549755813888) (by omega)
    have hlr : (ls.map recordE).length ≤ 4194303 := by rw [List.length_map]; have := hpi.few; omega
    have hml : m.length ≤ 1048576 := by omega
    rw [hrw] at hr2 hn2 hk2
    clear hpi hrw
    repeat' (first
      | (show WL _ _ _ _ _ _ _; first
        | refine WL.pure rfl rfl rfl rfl ?_
        | refine WL.nil ?_
        | refine WL.load hS rfl rfl (LdOk.box (by repeat (first | exact List.Mem.head _ | apply List.Mem.tail)) rfl) rfl rfl rfl ?_
        | refine WL.add rfl rfl rfl (by omega) rfl rfl rfl ?_
        | (refine WL.load hS rfl rfl (LdOk.snap0 hF hr (by repeat (first | exact List.Mem.head _ | apply List.Mem.tail)) rfl) rfl rfl rfl ?_)
        | (refine WL.callL (D := [bchC B (some ⟨Tp, 0, none⟩) m fb, tabC Tp q ⟨sysP, rows, ⟨sysL, ls.map recordE, false⟩⟩ fp, dkC q mb lb D]) hS (by repeat (first | exact Pulls.nil | (apply Pulls.cons; focus (repeat (first | exact Pull.here | apply Pull.there))))) rfl rfl (fun hI => bcommit_c hI hcm (show sysP.length ≤ 1099511000 by decide) (show sysL.length ≤ 1099511620 by decide) hsm rc hlr hml hr2 hn2 hk2) rfl rfl rfl ?_; rintro v w ⟨rfl, fb2, fp2, hmu⟩ hS; replace hS := hS _ hmu; clear hmu)
        | (refine WL.callG rfl rfl (begin_c _) rfl rfl rfl ?_; rintro v w ⟨hu, B2, fb3, rfl, hn⟩; replace hS := hS.new hu hn; clear hu hn)
        | (refine WL.callL (D := [bchC B2 (some ⟨Tp, 0, none⟩) [] fb3, tabC Tp q ⟨sysP, rows2, ⟨sysL, ls2.map recordE, false⟩⟩ fp2, .box C 46 [.slice AL (vs.map idData).length cl, .int .i64 (N : Int)], .own (.slice AL (vs.map idData).length cl) 89 2 (vs.map idData).length (verV (vs.map idData))]) hS (by repeat (first | exact Pulls.nil | (apply Pulls.cons; focus (repeat (first | exact Pull.here | apply Pull.there))))) rfl rfl (fun hI => calike_c (T := ⟨sysP, rows2, ⟨sysL, ls2.map recordE, false⟩⟩) (l := vs.map idData) id hid.1 hid.2 hI (hp.pull hS (by repeat (first | exact Pulls.nil | (apply Pulls.cons; focus (repeat (first | exact Pull.here | apply Pull.there)))))) hc2 (by omega) (by decide) (by show rows2.length ≤ _; omega) rfl hdt) rfl rfl rfl ?_; rintro v w ⟨rfl, hmu⟩ hS; replace hS := hS _ hmu; clear hmu)
        | (refine WL.store hS rfl rfl rfl (by repeat (first | exact StB.here rfl | apply StB.there)) rfl rfl rfl ?_; intro w hS)
        | (refine WL.alloc hS rfl rfl rfl rfl rfl rfl ?_; intro w b hS)
        | refine WL.index rfl rfl rfl rfl (by first | with_reducible assumption | omega) rfl rfl rfl rfl ?_
        | ((fail_if_success (refine WL.wanted rfl ?_)); refine WL.guard rfl rfl rfl (fun h => ?_) (fun h => ?_) <;> (try simp only [Classical.not_not, Bool.not_eq_true', Bool.not_eq_false', Bool.not_eq_eq_eq_not, Bool.not_true, Bool.not_false, beq_iff_eq, beq_eq_false_iff_ne, ne_eq, decide_eq_decide, decide_eq_true_eq, decide_eq_false_iff_not, Bool.and_eq_true, Bool.or_eq_true, Bool.and_eq_false_iff, Bool.or_eq_false_iff] at h) <;> (try (exfalso; first | omega | contradiction))))
      | (show WC _ _ _ _ _ _; first
        | refine WC.seq ?_
        | refine WC.region ?_
        | refine WC.block ?_
        | refine WC.skip ?_
        | refine WC.condT rfl (by decide) ?_
        | refine WC.condF rfl (by decide) ?_
        | refine WC.condT rfl (decide_eq_true (by first | with_reducible assumption | omega)) ?_)
      | refine seqQ_n ?_
      | refine blkQ_n ?_)
    exact rndQ_n (i + 1, N, vs, [], B2, fb3, rows2, D2, ls2, fp2, AL, cl) ⟨⟨by omega, hpi2⟩, hS.droplast2 (by repeat (first | exact Pulls.nil | (apply Pulls.cons; focus (repeat (first | exact Pull.here | apply Pull.there)))))⟩ (by show steps.length - (i + 1) < steps.length - i; omega) ⟨rfl, vint (by omega), trivial⟩ ⟨rfl, rfl, rfl, trivial⟩
  have hpi2 := hpi.up
  have hdt := hpi.dat
  repeat' (first
    | (show WL _ _ _ _ _ _ _; first
      | refine WL.pure rfl rfl rfl rfl ?_
      | refine WL.nil ?_
      | refine WL.load hS rfl rfl (LdOk.box (by repeat (first | exact List.Mem.head _ | apply List.Mem.tail)) rfl) rfl rfl rfl ?_
      | refine WL.add rfl rfl rfl (by omega) rfl rfl rfl ?_
      | (refine WL.load hS rfl rfl (LdOk.snap0 hF hr (by repeat (first | exact List.Mem.head _ | apply List.Mem.tail)) rfl) rfl rfl rfl ?_)
      | (refine WL.callL (D := [bchC B (some ⟨Tp, 0, none⟩) m fb, tabC Tp q ⟨sysP, rows, ⟨sysL, ls.map recordE, false⟩⟩ fp, .box C 46 [.slice AL (vs.map idData).length cl, .int .i64 (N : Int)], .own (.slice AL (vs.map idData).length cl) 89 2 (vs.map idData).length (verV (vs.map idData))]) hS (by repeat (first | exact Pulls.nil | (apply Pulls.cons; focus (repeat (first | exact Pull.here | apply Pull.there))))) rfl rfl (fun hI => calike_c (T := ⟨sysP, rows, ⟨sysL, ls.map recordE, false⟩⟩) (l := vs.map idData) id hid.1 hid.2 hI (hp.pull hS (by repeat (first | exact Pulls.nil | (apply Pulls.cons; focus (repeat (first | exact Pull.here | apply Pull.there)))))) hc (by omega) (by omega) (by show rows.length ≤ _; omega) rfl hdt) rfl rfl rfl ?_; rintro v w ⟨rfl, hmu⟩ hS; replace hS := hS _ hmu; clear hmu)
      | (refine WL.store hS rfl rfl rfl (by repeat (first | exact StB.here rfl | apply StB.there)) rfl rfl rfl ?_; intro w hS)
      | (refine WL.alloc hS rfl rfl rfl rfl rfl rfl ?_; intro w b hS)
      | refine WL.index rfl rfl rfl rfl (by first | with_reducible assumption | omega) rfl rfl rfl rfl ?_
      | ((fail_if_success (refine WL.wanted rfl ?_)); refine WL.guard rfl rfl rfl (fun h => ?_) (fun h => ?_) <;> (try simp only [Classical.not_not, Bool.not_eq_true', Bool.not_eq_false', Bool.not_eq_eq_eq_not, Bool.not_true, Bool.not_false, beq_iff_eq, beq_eq_false_iff_ne, ne_eq, decide_eq_decide, decide_eq_true_eq, decide_eq_false_iff_not, Bool.and_eq_true, Bool.or_eq_true, Bool.and_eq_false_iff, Bool.or_eq_false_iff] at h) <;> (try (exfalso; first | omega | contradiction))))
    | (show WC _ _ _ _ _ _; first
      | refine WC.seq ?_
      | refine WC.region ?_
      | refine WC.block ?_
      | refine WC.skip ?_
      | refine WC.condF rfl (by decide) ?_
      | refine WC.condT rfl (decide_eq_true (by first | with_reducible assumption | omega)) ?_
      | refine WC.condF rfl (decide_eq_false (by first | with_reducible assumption | omega)) ?_)
    | refine seqQ_n ?_
    | refine blkQ_n ?_)
  exact rndQ_n (i + 1, N, vs, m, B, fb, rows, D, ls, fp, AL, cl) ⟨⟨by omega, hpi2⟩, hS.droplast2 (by repeat (first | exact Pulls.nil | (apply Pulls.cons; focus (repeat (first | exact Pull.here | apply Pull.there)))))⟩ (by show steps.length - (i + 1) < steps.length - i; omega) ⟨rfl, vint (by omega), trivial⟩ ⟨rfl, rfl, rfl, trivial⟩
end Go.Proofs.YtnefkegefjldjaaGreatDoor

/- What is proved: how the laws' arguments read. Conditions: none. -/
set_option linter.unusedSimpArgs false
set_option linter.unusedVariables false
namespace Go.Proofs.YtnefkegefjldjaaGreatDoor
open Go Go.J Go.RowKit

theorem arg_strs : Arg Tryz.prog 22 (ASl cStr) (QL QStr) := Arg.slice Tryz.underlying22 (Opens.slice Tryz.underlying22 (by kernel_rfl) (by decide) (Opens.str Tryz.underlying9))
theorem arg_ints : Arg Tryz.prog 23 (ASl cInt) (QL QInt) := Arg.slice Tryz.underlying23 (Opens.slice Tryz.underlying23 (by kernel_rfl) (by decide) (Opens.int Tryz.underlying3))
/-- each one is within the bulk, and so is their number -/
theorem ql_each {α : Type} {Q : α → Nat → Prop} {ys : List α} {b : Nat} (h : QL Q ys b) (h1 : ∀ y n, Q y n → 1 ≤ n) : (∀ y ∈ ys, ∃ n, n ≤ b ∧ Q y n) ∧ ys.length ≤ b := by
  obtain ⟨bs, hl, hq, hs⟩ := h
  have hsum : ∀ bs : List Nat, (∀ n ∈ bs, n ≤ bs.sum) := by
    intro bs
    induction bs with
    | nil => intro n hn; cases hn
    | cons a l ih =>
      intro n hn
      rw [List.sum_cons]
      rcases List.mem_cons.1 hn with rfl | hn
      · omega
      · have := ih n hn; omega
  have hcnt : ∀ bs : List Nat, (∀ n ∈ bs, 1 ≤ n) → bs.length ≤ bs.sum := by
    intro bs
    induction bs with
    | nil => intro _; exact Nat.zero_le _
    | cons a l ih =>
      intro hn
      rw [List.sum_cons, List.length_cons]
      have := ih fun n h => hn n (List.mem_cons_of_mem _ h)
      have := hn a (List.mem_cons_self ..)
      omega
  refine ⟨fun y hy => ?_, ?_⟩
  · obtain ⟨i, hi, rfl⟩ := List.getElem_of_mem hy
    have hi' : i < bs.length := by omega
    exact ⟨bs[i], by have := hsum bs _ (List.getElem_mem hi'); omega, hq i hi hi'⟩
  · have := hcnt bs fun n hn => by
      obtain ⟨i, hi, rfl⟩ := List.getElem_of_mem hn
      exact h1 _ _ (hq i (by omega) hi)
    omega
end Go.Proofs.YtnefkegefjldjaaGreatDoor

/- What is proved: the key of ChainPlays: with the table laid, the law answers true. Conditions: the statement's own bound on the bulk. -/
set_option linter.unusedSimpArgs false
set_option linter.unusedVariables false
namespace Go.Proofs.YtnefkegefjldjaaGreatDoor
open Go Go.J Go.RowKit

def QStp (s : Stp) (b : Nat) : Prop := s.text.length + 3 ≤ b ∧ -9223372036854775808 ≤ s.id ∧ s.id ≤ 9223372036854775807
theorem list3S {α : Type} {l : List α} (h : l.length = 3) : ∃ a b c, l = [a, b, c] := by match l, h with | [a, b, c], _ => exact ⟨a, b, c, rfl⟩
set_option maxRecDepth 100000 in
theorem open_stp : Opens Tryz.prog 48 cStp QStp := by
  intro H enc W fuel cs x h
  obtain ⟨xs, n, _, rfl, hlen, hxl, hf⟩ := DataW.trod_struct Tryz.underlying48 h
  obtain ⟨x0, x1, x2, rfl⟩ := list3S hxl
  obtain ⟨c0, c1, c2, rfl⟩ := list3S (hlen.trans (by kernel_rfl))
  obtain ⟨s0, e0, q0⟩ := Opens.int Tryz.underlying3 enc W n [c0] x0 (hf 0 _ rfl)
  obtain ⟨s1, e1, q1⟩ := Opens.int Tryz.underlying3 enc W n [c1] x1 (hf 1 _ rfl)
  obtain ⟨s2, e2, q2⟩ := Opens.str Tryz.underlying9 enc W n [c2] x2 (hf 2 _ rfl)
  have e0 : [c0] = [.int .i64 s0] := e0
  have e1 : [c1] = [.int .i64 s1] := e1
  have e2 : [c2] = [str s2] := e2
  simp only [List.cons.injEq, and_true] at e0 e1 e2
  subst e0 e1 e2
  refine ⟨⟨s0, s1, s2⟩, rfl, ?_⟩
  unfold QStp
  simp [Rows.uptoBulk, Rows.uptoBulkAll] at *
  omega
instance : Inhabited Stp := ⟨⟨0, 0, []⟩⟩
theorem arg_stps : Arg Tryz.prog 37 (ASl cStp) (QL QStp) := Arg.slice Tryz.underlying37 (Opens.slice Tryz.underlying37 (by kernel_rfl) (by decide) open_stp)
set_option maxRecDepth 100000 in
theorem pow_chainPlays (W : World) (h : laidMet Tryz.prog Rows.chainPlaysUptoRow.laid W) : powT W := by
  obtain ⟨a, b, r, he⟩ : ∃ a b r, Rows.chainPlaysUptoRow.laid = a :: b :: ("internal/strconv.uint64pow10", Lib.tabData .u64 Lib.pow10Tab) :: r := ⟨_, _, _, rfl⟩
  rw [he] at h
  have h1 := laidMet.tail (laidMet.tail h)
  exact Lib.tabIs_of_head (g := 2) (t := 209) (e := 97) (n := 20) (by kernel_rfl) (by kernel_rfl) (by kernel_rfl) (by kernel_rfl) (by kernel_rfl) (by kernel_rfl) h1
theorem chainPlays.key_chainPlays (W : World) (hL : laidMet Tryz.prog Rows.chainPlaysUptoRow.laid W) (v0 : Value) (y0 : List Stp) (b0 : Nat) (h0 : ASl cStp W v0 y0) (q0 : QL QStp y0 b0) (hb : b0 ≤ 1048576) :
    Cal Tryz.prog 5 [v0] W (fun v W' => Upd [] W W' ∧ v = .bool true) := by
  obtain ⟨A0, c0, rfl, _, h0⟩ := h0
  obtain ⟨e0, l0⟩ := ql_each q0 fun y n h => (by unfold QStp at h; omega)
  exact chainPlays_c y0 h0 (fun s hs => by obtain ⟨n, hn, h⟩ := e0 s hs; unfold QStp at h; exact ⟨by omega, h.2⟩) (by omega) (pow_chainPlays W hL)
end Go.Proofs.YtnefkegefjldjaaGreatDoor
