/- What is proved: contracts and plain facts that the law leans on (texts put together). Conditions: as each names them. -/
import Derived.Test.YtnefkegefjldjaaGreatDoorM4
import Derived.Lib.LaidTab
import Derived.Stop.LaidErr
/- What is proved: versions of contents, in plain lists. Conditions: as each names them. -/
set_option linter.unusedSimpArgs false
set_option linter.unusedVariables false
namespace Go.Proofs.YtnefkegefjldjaaGreatDoor
open Go Go.J Go.RowKit
open Go.Lib (decDigits)

/-- a version: its number, by which one it is told (0: whole), what is kept, what it says -/
structure Ver where
  id : Nat
  base : Nat
  pay : List UInt8
  data : List UInt8
def verK (id : Int) : List UInt8 := [118, 47] ++ Lib.itoa id
abbrev Ver.key (v : Ver) : List UInt8 := verK (v.id : Int)
def valC (base : Nat) (pay : List UInt8) : List UInt8 := putN base ++ textE pay
abbrev Ver.val (v : Ver) : List UInt8 := valC v.base v.pay
def nextK : List UInt8 := [110, 101, 120, 116]
def findC (vs : List Ver) (id : Int) : Option Ver := vs.find? fun v => decide ((v.id : Int) = id)
/-- by how many steps a version is told -/
def Told (vs : List Ver) : Nat → Nat → Prop
  | 0, id => ∃ v ∈ vs, v.id = id ∧ v.base = 0
  | d + 1, id => ∃ v ∈ vs, v.id = id ∧ v.base ≠ 0 ∧ Told vs d v.base
/-- what may be kept for a content near a version -/
def LayOk (vs : List Ver) (near : Nat) (data : List UInt8) (base : Nat) (pay : List UInt8) : Prop :=
  base = 0 ∧ pay = data ∨ base = near ∧ near ≠ 0 ∧ data.length ≤ 4096 ∧ pay.length < data.length ∧ (∃ d, d < 4 ∧ Told vs d near) ∧ ∃ u ∈ vs, u.id = near ∧ ∃ ps, pay = deltaE data.length ps ∧ DeltaOf u.data data ps
/-- a batch that holds versions up to a number -/
structure ChIs (rows : Rws) (m : Bch) (vs : List Ver) (N : Nat) : Prop where
  rnd : (rows.map Prod.fst).Nodup
  mnd : (m.map Prod.fst).Nodup
  has : ∀ v ∈ vs, bgetE rows m v.key = (v.val, true)
  only : ∀ k, (bgetE rows m k).2 = true → begB [118, 47] k = true → ∃ v ∈ vs, v.key = k
  blank : ∀ k, (bgetE rows m k).2 = false → (bgetE rows m k).1 = []
  next : bgetE rows m nextK = (if N = 0 then [] else putN N, decide (N ≠ 0))
  ids : ∀ v ∈ vs, 1 ≤ v.id ∧ v.id ≤ N
  srt : (vs.map Ver.id).Pairwise (· < ·)
  told : ∀ v ∈ vs, ∃ d, d ≤ 4 ∧ Told vs d v.id
  whole : ∀ v ∈ vs, v.base = 0 → v.pay = v.data
  by_ : ∀ v ∈ vs, v.base ≠ 0 → v.base < v.id ∧ v.data.length ≤ 4096 ∧ v.pay.length < v.data.length ∧ ∃ u ∈ vs, u.id = v.base ∧ ∃ ps, v.pay = deltaE v.data.length ps ∧ DeltaOf u.data v.data ps
  size : ∀ v ∈ vs, v.data.length ≤ 549755813888
theorem itoa_pos {a : Int} {b : Nat} (hb : 1 ≤ b) (h : Lib.itoa a = Lib.itoa (b : Int)) : a = b := by
  rw [itoa_nat] at h
  unfold Lib.itoa at h
  split at h
  · have hd := dec_dig b
    rw [← h] at hd
    simp [digB] at hd
  · rename_i h1
    have h2 := dec_inj h
    omega
theorem verK_inj {a : Int} {b : Nat} (hb : 1 ≤ b) (h : verK a = verK (b : Int)) : a = b := itoa_pos hb (List.append_cancel_left h)
theorem verK_beg (id : Int) : begB [118, 47] (verK id) = true := rfl
theorem nd_id {vs : List Ver} (h : (vs.map Ver.id).Nodup) {x y : Ver} (hx : x ∈ vs) (hy : y ∈ vs) (e : x.id = y.id) : x = y := by
  induction vs with
  | nil => cases hx
  | cons a l ih =>
    simp only [List.map_cons, List.nodup_cons] at h
    rcases List.mem_cons.1 hx with hx1 | hx1 <;> rcases List.mem_cons.1 hy with hy1 | hy1
    · rw [hx1, hy1]
    · exact absurd (List.mem_map.2 ⟨y, hy1, by rw [← e, hx1]⟩ : _ ∈ l.map _) h.1
    · exact absurd (List.mem_map.2 ⟨x, hx1, by rw [e, hy1]⟩ : _ ∈ l.map _) h.1
    · exact ih h.2 hx1 hy1
section
variable {rows : Rws} {m : Bch} {vs : List Ver} {N : Nat}
theorem ChIs.nd (h : ChIs rows m vs N) : (vs.map Ver.id).Nodup := h.srt.imp fun hab e => absurd e (Nat.ne_of_lt hab)
theorem findC_some {id : Int} {v : Ver} (h : findC vs id = some v) : v ∈ vs ∧ (v.id : Int) = id := ⟨List.mem_of_find?_eq_some h, by have := List.find?_some h; simpa using this⟩
theorem findC_of (hn : (vs.map Ver.id).Nodup) {v : Ver} (hv : v ∈ vs) : findC vs (v.id : Int) = some v := by
  unfold findC
  cases hf : vs.find? fun x => decide ((x.id : Int) = (v.id : Int)) with
  | none => exact absurd rfl (by simpa using (List.find?_eq_none.1 hf) v hv : ¬ v.id = v.id)
  | some y =>
    have h2 := List.find?_some hf
    have h2 : (y.id : Int) = v.id := by simpa using h2
    have h1 : y.id = v.id := by omega
    rw [nd_id hn (List.mem_of_find?_eq_some hf) hv h1]
theorem ChIs.get_some (h : ChIs rows m vs N) {id : Int} {v : Ver} (hf : findC vs id = some v) : bgetE rows m (verK id) = (v.val, true) ∧ 1 ≤ id := by
  obtain ⟨hv, rfl⟩ := findC_some hf
  exact ⟨h.has v hv, by have := h.ids v hv; omega⟩
theorem ChIs.get_none (h : ChIs rows m vs N) {id : Int} (hf : findC vs id = none) : (bgetE rows m (verK id)).2 = false := by
  cases h2 : (bgetE rows m (verK id)).2 with
  | false => rfl
  | true =>
    obtain ⟨v, hv, e⟩ := h.only _ h2 rfl
    have := verK_inj (h.ids v hv).1 e.symm
    exact absurd (List.find?_eq_none.1 hf v hv) (by simp [this])
theorem Told.mono {vs vs' : List Ver} (h : ∀ v ∈ vs, v ∈ vs') : ∀ {d id : Nat}, Told vs d id → Told vs' d id
  | 0, _, ⟨v, hv, e, h0⟩ => ⟨v, h v hv, e, h0⟩
  | d + 1, _, ⟨v, hv, e, h0, ht⟩ => ⟨v, h v hv, e, h0, Told.mono h ht⟩
theorem Told.mem {vs : List Ver} : ∀ {d id : Nat}, Told vs d id → ∃ v ∈ vs, v.id = id
  | 0, _, ⟨v, hv, e, _⟩ => ⟨v, hv, e⟩
  | _ + 1, _, ⟨v, hv, e, _, _⟩ => ⟨v, hv, e⟩
theorem Told.unique {vs : List Ver} (hn : (vs.map Ver.id).Nodup) : ∀ {d e id : Nat}, Told vs d id → Told vs e id → d = e
  | 0, 0, _, _, _ => rfl
  | 0, e + 1, _, ⟨v, hv, e1, h0⟩, ⟨u, hu, e2, h1, _⟩ => by have := nd_id hn hv hu (e1.trans e2.symm); subst this; exact absurd h0 h1
  | d + 1, 0, _, ⟨v, hv, e1, h0, _⟩, ⟨u, hu, e2, h1⟩ => by have := nd_id hn hv hu (e1.trans e2.symm); subst this; exact absurd h1 h0
  | d + 1, e + 1, _, ⟨v, hv, e1, _, h0⟩, ⟨u, hu, e2, _, h1⟩ => by have := nd_id hn hv hu (e1.trans e2.symm); subst this; rw [Told.unique hn h0 h1]
theorem blank_noted (h : ∀ k, (bgetE rows m k).2 = false → (bgetE rows m k).1 = []) {o : Chg} (ho : o.gone = true → o.val = []) : ∀ k, (bgetE rows (noteE m o) k).2 = false → (bgetE rows (noteE m o) k).1 = [] := fun k hk => by
  rw [bgetE_noted] at hk ⊢
  split
  · rename_i e
    rw [if_pos e] at hk
    exact ho (by simpa using hk)
  · rename_i e
    rw [if_neg e] at hk
    exact h k hk
/-- the next number is given out -/
theorem ChIs.num (h : ChIs rows m vs N) : ChIs rows (noteE m ⟨nextK, putN (N + 1), false⟩) vs (N + 1) := by
  have hne : ∀ v : Ver, v.key ≠ nextK := fun v e => by
    have := congrArg (List.take 1) e
    exact absurd this (by show ([118] : List UInt8) ≠ [110]; decide)
  refine ⟨h.rnd, note_nd h.mnd _, fun v hv => ?_, fun k hk hb => ?_, blank_noted h.blank (by simp), ?_, fun v hv => ?_, h.srt, h.told, h.whole, h.by_, h.size⟩
  · rw [bgetE_noted, if_neg (hne v)]; exact h.has v hv
  · rw [bgetE_noted, if_neg] at hk
    · exact h.only k hk hb
    · intro e
      rw [e] at hb
      exact absurd (show begB [118, 47] nextK = true from hb) (by decide)
  · rw [bgetE_noted, if_pos rfl]
    simp
  · have := h.ids v hv; omega
/-- a version comes -/
theorem ChIs.come (h : ChIs rows m vs N) {id base near : Nat} {pay data : List UInt8} (h1 : 1 ≤ id) (h2 : id ≤ N) (hn : ∀ v ∈ vs, v.id < id) (hl : LayOk vs near data base pay) (hs : data.length ≤ 549755813888) :
    ChIs rows (noteE m ⟨verK (id : Int), valC base pay, false⟩) (vs ++ [⟨id, base, pay, data⟩]) N := by
  have mem : ∀ {y : Ver}, y ∈ vs ++ [⟨id, base, pay, data⟩] → y ∈ vs ∨ y = ⟨id, base, pay, data⟩ := fun {y} hy => by simpa using hy
  have hk : ∀ v ∈ vs, v.key ≠ verK (id : Int) := fun v hv e => by
    have := verK_inj h1 e
    have := hn v hv
    omega
  have hsub : ∀ v ∈ vs, v ∈ vs ++ [⟨id, base, pay, data⟩] := fun v hv => List.mem_append_left _ hv
  have hnew : (⟨id, base, pay, data⟩ : Ver) ∈ vs ++ [⟨id, base, pay, data⟩] := List.mem_append_right _ (List.mem_singleton.2 rfl)
  refine ⟨h.rnd, note_nd h.mnd _, fun v hv => ?_, fun k hk2 hb => ?_, blank_noted h.blank (by simp), ?_, fun v hv => ?_, ?_, fun v hv => ?_, fun v hv h0 => ?_, fun v hv h0 => ?_, fun v hv => ?_⟩
  · rw [bgetE_noted]
    rcases mem hv with hv | rfl
    · rw [if_neg (hk v hv)]; exact h.has v hv
    · rw [if_pos rfl]; rfl
  · rw [bgetE_noted] at hk2
    split at hk2
    · rename_i e; exact ⟨_, hnew, e.symm⟩
    · obtain ⟨v, hv, e⟩ := h.only k hk2 hb
      exact ⟨v, hsub v hv, e⟩
  · rw [bgetE_noted, if_neg]
    · exact h.next
    · intro e
      have := congrArg (List.take 1) e
      exact absurd this (by show ([110] : List UInt8) ≠ [118]; decide)
  · rcases mem hv with hv | rfl
    · exact h.ids v hv
    · exact ⟨h1, h2⟩
  · rw [List.map_append, List.pairwise_append]
    refine ⟨h.srt, by simp, fun a ha b hb => ?_⟩
    obtain ⟨v, hv, rfl⟩ := List.mem_map.1 ha
    rw [List.map_singleton, List.mem_singleton] at hb
    subst hb
    exact hn v hv
  · rcases mem hv with hv | rfl
    · obtain ⟨d, hd, ht⟩ := h.told v hv
      exact ⟨d, hd, ht.mono hsub⟩
    · rcases hl with ⟨hl, _⟩ | ⟨rfl, hl, _, _, ⟨d, hd, ht⟩, _⟩
      · exact ⟨0, by omega, _, hnew, rfl, hl⟩
      · exact ⟨d + 1, by omega, _, hnew, rfl, hl, ht.mono hsub⟩
  · rcases mem hv with hv | rfl
    · exact h.whole v hv h0
    · rcases hl with ⟨_, hl⟩ | ⟨rfl, hl, _⟩
      · exact hl
      · exact absurd h0 hl
  · rcases mem hv with hv | rfl
    · obtain ⟨a, b, c, u, hu, d⟩ := h.by_ v hv h0
      exact ⟨a, b, c, u, hsub u hu, d⟩
    · rcases hl with ⟨hl, _⟩ | ⟨rfl, _, a, b, _, u, hu, d⟩
      · exact absurd hl h0
      · exact ⟨(by have h7 := hn u hu; have h8 := d.1; show base < id; omega), a, b, u, hsub u hu, d⟩
  · rcases mem hv with hv | rfl
    · exact h.size v hv
    · exact hs
end
end Go.Proofs.YtnefkegefjldjaaGreatDoor

/- What is proved: versions that are told otherwise, and that go; in plain lists. Conditions: as each names them. -/
set_option linter.unusedSimpArgs false
set_option linter.unusedVariables false
namespace Go.Proofs.YtnefkegefjldjaaGreatDoor
open Go Go.J Go.RowKit
open Go.Lib (decDigits)

/-- how a batch has grown -/
structure Grew (m m' : Bch) (n s : Nat) : Prop where
  len : m'.length ≤ m.length + n
  sz : szL (m'.map Prod.snd) ≤ szL (m.map Prod.snd) + s
  ok : BchOk m → BchOk m'
theorem Grew.refl (m : Bch) : Grew m m 0 0 := ⟨Nat.le_refl _, Nat.le_refl _, id⟩
theorem Grew.note {m m' : Bch} {n s : Nat} (h : Grew m m' n s) {o : Chg} {k : Nat} (hk : szO o ≤ k) (ho : o.gone = true → o.val = []) : Grew m (noteE m' o) (n + 1) (s + k) := by
  have h1 := szB_note m' o
  refine ⟨by have := h.len; omega, by have := h.sz; omega, fun hb => ?_⟩
  obtain ⟨key, val, gone⟩ := o
  cases gone with
  | false => exact (h.ok hb).note ⟨key, val, false⟩
  | true =>
    have hv : val = [] := ho rfl
    subst hv
    exact (h.ok hb).note ⟨key, [], true⟩
theorem Grew.up {m m' : Bch} {n s n' s' : Nat} (h : Grew m m' n s) (hn : n ≤ n') (hs : s ≤ s') : Grew m m' n' s' := ⟨by have := h.len; omega, by have := h.sz; omega, h.ok⟩
/-- a version told otherwise -/
def updC (vs : List Ver) (x : Ver) : List Ver := vs.map fun v => if v.id = x.id then x else v
def delC (vs : List Ver) (id : Nat) : List Ver := vs.filter fun v => decide (v.id ≠ id)
theorem mem_updC {vs : List Ver} {x v : Ver} (h : v ∈ updC vs x) : v = x ∨ v ∈ vs ∧ v.id ≠ x.id := by
  obtain ⟨u, hu, rfl⟩ := List.mem_map.1 h
  by_cases e : u.id = x.id
  · rw [if_pos e]; exact .inl rfl
  · rw [if_neg e]; exact .inr ⟨hu, e⟩
theorem updC_same {vs : List Ver} {x v : Ver} (h : v ∈ vs) (e : v.id ≠ x.id) : v ∈ updC vs x := List.mem_map.2 ⟨v, h, if_neg e⟩
theorem updC_new {vs : List Ver} {x y : Ver} (h : y ∈ vs) (e : y.id = x.id) : x ∈ updC vs x := List.mem_map.2 ⟨y, h, if_pos e⟩
theorem updC_ids (vs : List Ver) (x : Ver) : (updC vs x).map Ver.id = vs.map Ver.id := by
  unfold updC
  rw [List.map_map]
  exact List.map_congr_left fun v _ => by
    show Ver.id (if v.id = x.id then x else v) = v.id
    split
    · rename_i e; exact e.symm
    · rfl
theorem updC_len (vs : List Ver) (x : Ver) : (updC vs x).length = vs.length := by unfold updC; rw [List.length_map]
def idData (v : Ver) : Nat × List UInt8 := (v.id, v.data)
theorem updC_data {vs : List Ver} {x y : Ver} (hn : (vs.map Ver.id).Nodup) (hy : y ∈ vs) (e : y.id = x.id) (ed : y.data = x.data) : (updC vs x).map idData = vs.map idData := by
  unfold updC
  rw [List.map_map]
  refine List.map_congr_left fun v hv => ?_
  show idData (if v.id = x.id then x else v) = idData v
  split
  · rename_i e2
    have := nd_id hn hv hy (e2.trans e.symm)
    subst this
    show (x.id, x.data) = (v.id, v.data)
    rw [e, ed]
  · rfl
section
variable {rows : Rws} {m : Bch} {vs : List Ver} {N : Nat}
theorem key_next (id : Int) : verK id ≠ nextK := fun e => by
  have := congrArg (List.take 1) e
  exact absurd this (by show ([118] : List UInt8) ≠ [110]; decide)
/-- a version that was told by another one is told otherwise -/
theorem ChIs.relay (h : ChIs rows m vs N) {x y : Ver} (hx : x ∈ vs) (hy : y ∈ vs) (hxy : x.base = y.id) {base : Nat} {pay : List UInt8} (hl : LayOk vs y.base x.data base pay) :
    ChIs rows (noteE m ⟨x.key, valC base pay, false⟩) (updC vs ⟨x.id, base, pay, x.data⟩) N := by
  obtain ⟨x', hx'⟩ : ∃ x' : Ver, x' = ⟨x.id, base, pay, x.data⟩ := ⟨_, rfl⟩
  have e1 : x'.id = x.id := by rw [hx']
  have e2 : x'.base = base := by rw [hx']
  have e3 : x'.pay = pay := by rw [hx']
  have e4 : x'.data = x.data := by rw [hx']
  rw [← hx']
  have hyi := (h.ids y hy).1
  have hxb : x.base ≠ 0 := by omega
  have hlt := (h.by_ x hx hxb).1
  have hnew : x' ∈ updC vs x' := updC_new hx e1.symm
  have hbr : ∀ u ∈ vs, ∃ u' ∈ updC vs x', u'.id = u.id ∧ u'.data = u.data := fun u hu => by
    by_cases e : u.id = x'.id
    · have := nd_id h.nd hu hx (e.trans e1)
      subst this
      exact ⟨x', hnew, e1, e4⟩
    · exact ⟨u, updC_same hu e, rfl, rfl⟩
  have hk : ∀ v ∈ vs, v.id ≠ x'.id → v.key ≠ x.key := fun v hv hne e => hne (by have := verK_inj (h.ids x hx).1 e; omega)
  have htold : ∀ d, ∀ id, Told vs d id → ∃ d', d' ≤ d ∧ Told (updC vs x') d' id := by
    intro d
    induction d using Nat.strongRecOn with
    | ind d ih =>
      intro id ht
      by_cases hid : id = x.id
      · subst hid
        rcases hl with ⟨hl, _⟩ | ⟨hb1, hb2, _, _, ⟨d0, hd0, ht0⟩, _⟩
        · exact ⟨0, Nat.zero_le _, x', hnew, e1, e2.trans hl⟩
        · cases d with
          | zero =>
            obtain ⟨v, hv, e, h0⟩ := ht
            have := nd_id h.nd hv hx e
            subst this
            exact absurd h0 hxb
          | succ d1 =>
            obtain ⟨v, hv, e, h0, ht1⟩ := ht
            have := nd_id h.nd hv hx e
            subst this
            rw [hxy] at ht1
            cases d1 with
            | zero =>
              obtain ⟨v2, hv2, e5, h5⟩ := ht1
              have := nd_id h.nd hv2 hy e5
              subst this
              exact absurd h5 hb2
            | succ d2 =>
              obtain ⟨v2, hv2, e5, h5, ht2⟩ := ht1
              have := nd_id h.nd hv2 hy e5
              subst this
              obtain ⟨d', hd', ht'⟩ := ih d2 (by omega) _ ht2
              exact ⟨d' + 1, by omega, x', hnew, e1, by rw [e2, hb1]; exact hb2, by rw [e2, hb1]; exact ht'⟩
      · cases d with
        | zero =>
          obtain ⟨v, hv, e, h0⟩ := ht
          exact ⟨0, Nat.le_refl _, v, updC_same hv (by rw [e, e1]; exact hid), e, h0⟩
        | succ d1 =>
          obtain ⟨v, hv, e, h0, ht1⟩ := ht
          obtain ⟨d', hd', ht'⟩ := ih d1 (by omega) _ ht1
          exact ⟨d' + 1, by omega, v, updC_same hv (by rw [e, e1]; exact hid), e, h0, ht'⟩
  refine ⟨h.rnd, note_nd h.mnd _, fun v hv => ?_, fun k hk2 hb => ?_, blank_noted h.blank (by simp), ?_, fun v hv => ?_, by rw [updC_ids]; exact h.srt, fun v hv => ?_, fun v hv h0 => ?_, fun v hv h0 => ?_, fun v hv => ?_⟩
  · rw [bgetE_noted]
    rcases mem_updC hv with rfl | ⟨hv, hne⟩
    · rw [if_pos (show verK (v.id : Int) = verK (x.id : Int) by rw [e1])]
      show (valC base pay, true) = (valC v.base v.pay, true)
      rw [e2, e3]
    · rw [if_neg (hk v hv hne)]; exact h.has v hv
  · rw [bgetE_noted] at hk2
    split at hk2
    · rename_i e; exact ⟨_, hnew, by rw [e]; show verK (x'.id : Int) = verK (x.id : Int); rw [e1]⟩
    · obtain ⟨v, hv, e⟩ := h.only k hk2 hb
      obtain ⟨u, hu, e5, _⟩ := hbr v hv
      exact ⟨u, hu, by rw [← e]; show verK (u.id : Int) = verK (v.id : Int); rw [e5]⟩
  · rw [bgetE_noted, if_neg (fun e => key_next _ e.symm)]; exact h.next
  · rcases mem_updC hv with rfl | ⟨hv, hne⟩
    · rw [e1]; exact h.ids x hx
    · exact h.ids v hv
  · rcases mem_updC hv with rfl | ⟨hv, hne⟩
    · rw [e1]
      obtain ⟨d, hd, ht⟩ := h.told x hx
      obtain ⟨d', hd', ht'⟩ := htold d _ ht
      exact ⟨d', by omega, ht'⟩
    · obtain ⟨d, hd, ht⟩ := h.told v hv
      obtain ⟨d', hd', ht'⟩ := htold d _ ht
      exact ⟨d', by omega, ht'⟩
  · rcases mem_updC hv with rfl | ⟨hv, hne⟩
    · rcases hl with ⟨_, hl⟩ | ⟨hb1, hb2, _⟩
      · rw [e3, e4]; exact hl
      · rw [e2, hb1] at h0; exact absurd h0 hb2
    · exact h.whole v hv h0
  · rcases mem_updC hv with rfl | ⟨hv, hne⟩
    · rcases hl with ⟨hl, _⟩ | ⟨hb1, hb2, h5, h6, _, u, hu, hui, hd⟩
      · rw [e2] at h0; exact absurd hl h0
      · obtain ⟨u', hu', e5, e6⟩ := hbr u hu
        have hlt2 := (h.by_ y hy hb2).1
        exact ⟨by omega, by rw [e4]; exact h5, by rw [e3, e4]; exact h6, u', hu', by rw [e5, e2, hb1]; exact hui, by rw [e3, e4, e6]; exact hd⟩
    · obtain ⟨h5, h6, h7, u, hu, hui, hd⟩ := h.by_ v hv h0
      obtain ⟨u', hu', e5, e6⟩ := hbr u hu
      exact ⟨h5, h6, h7, u', hu', e5.trans hui, by rw [e6]; exact hd⟩
  · rcases mem_updC hv with rfl | ⟨hv, hne⟩
    · rw [e4]; exact h.size x hx
    · exact h.size v hv
/-- a version goes by which none is told -/
theorem ChIs.remove (h : ChIs rows m vs N) {id : Nat} (h1 : 1 ≤ id) (hno : ∀ v ∈ vs, v.base ≠ id) : ChIs rows (noteE m ⟨verK (id : Int), [], true⟩) (delC vs id) N := by
  have mem : ∀ {v : Ver}, v ∈ delC vs id ↔ v ∈ vs ∧ v.id ≠ id := fun {v} => by
    unfold delC; rw [List.mem_filter, decide_eq_true_eq]
  have hk : ∀ v ∈ vs, v.id ≠ id → v.key ≠ verK (id : Int) := fun v hv hne e => hne (by have := verK_inj h1 e; omega)
  have htold : ∀ d i, i ≠ id → Told vs d i → Told (delC vs id) d i := by
    intro d
    induction d with
    | zero => rintro i hi ⟨v, hv, e, h0⟩; exact ⟨v, mem.2 ⟨hv, by omega⟩, e, h0⟩
    | succ d ih => rintro i hi ⟨v, hv, e, h0, ht⟩; exact ⟨v, mem.2 ⟨hv, by omega⟩, e, h0, ih _ (hno v hv) ht⟩
  have hsub : (delC vs id).Sublist vs := List.filter_sublist
  refine ⟨h.rnd, note_nd h.mnd _, fun v hv => ?_, fun k hk2 hb => ?_, blank_noted h.blank (fun _ => rfl), ?_, fun v hv => h.ids v (mem.1 hv).1, h.srt.sublist (hsub.map _), fun v hv => ?_, fun v hv h0 => h.whole v (mem.1 hv).1 h0, fun v hv h0 => ?_, fun v hv => h.size v (mem.1 hv).1⟩
  · obtain ⟨hv, hne⟩ := mem.1 hv
    rw [bgetE_noted, if_neg (hk v hv hne)]; exact h.has v hv
  · rw [bgetE_noted] at hk2
    split at hk2
    · exact absurd hk2 (by simp)
    · rename_i hne
      obtain ⟨v, hv, e⟩ := h.only k hk2 hb
      exact ⟨v, mem.2 ⟨hv, fun e2 => hne (by rw [← e]; show verK (v.id : Int) = _; rw [e2])⟩, e⟩
  · rw [bgetE_noted, if_neg (fun e => key_next _ e.symm)]; exact h.next
  · obtain ⟨hv, hne⟩ := mem.1 hv
    obtain ⟨d, hd, ht⟩ := h.told v hv
    exact ⟨d, hd, htold d _ hne ht⟩
  · obtain ⟨hv, hne⟩ := mem.1 hv
    obtain ⟨h5, h6, h7, u, hu, hui, hd⟩ := h.by_ v hv h0
    exact ⟨h5, h6, h7, u, mem.2 ⟨hu, fun e => hno v hv (by omega)⟩, hui, hd⟩
/-- the keys of all versions -/
theorem ChIs.keys (h : ChIs rows m vs N) : ∃ ns : List Nat, bkeysP rows m [118, 47] = ns.map (fun (n : Nat) => verK (n : Int)) ∧ ns.Perm (vs.map Ver.id) := by
  have h1 : (bkeysP rows m [118, 47]).Perm ((vs.map Ver.id).map fun (n : Nat) => verK (n : Int)) := by
    refine (List.perm_ext_iff_of_nodup (nodup_bkeys h.rnd h.mnd _) ?_).2 fun k => ?_
    · refine List.Pairwise.map _ (fun a b (hab : a ≠ b ∧ 1 ≤ b) e => hab.1 (by have := verK_inj hab.2 e; omega)) ?_
      refine h.nd.imp_of_mem fun {a b} _ hb hab => ⟨hab, ?_⟩
      obtain ⟨v, hv, rfl⟩ := List.mem_map.1 hb
      exact (h.ids v hv).1
    · rw [mem_bkeys h.mnd, List.mem_map]
      constructor
      · rintro ⟨a, b⟩
        obtain ⟨v, hv, rfl⟩ := h.only k a b
        exact ⟨v.id, List.mem_map.2 ⟨v, hv, rfl⟩, rfl⟩
      · rintro ⟨n, hn, rfl⟩
        obtain ⟨v, hv, rfl⟩ := List.mem_map.1 hn
        exact ⟨by rw [h.has v hv], rfl⟩
  refine ⟨(bkeysP rows m [118, 47]).map fun k => valE (k.drop 2), ?_, ?_⟩
  · rw [List.map_map]
    conv => lhs; rw [← List.map_id (bkeysP rows m [118, 47])]
    refine List.map_congr_left fun k hk => ?_
    obtain ⟨n, hn, rfl⟩ := List.mem_map.1 (h1.mem_iff.1 hk)
    show verK (n : Int) = verK ((valE ((([118, 47] : List UInt8) ++ Lib.itoa (n : Int)).drop 2) : Nat) : Int)
    have e : (([118, 47] : List UInt8) ++ Lib.itoa (n : Int)).drop 2 = Lib.itoa (n : Int) := rfl
    rw [e, itoa_nat, dec_val]
  · have h2 := h1.map fun k => valE (k.drop 2)
    rw [List.map_map] at h2
    refine h2.trans (List.Perm.of_eq ?_)
    conv => rhs; rw [← List.map_id (vs.map Ver.id)]
    refine List.map_congr_left fun n _ => ?_
    show valE ((([118, 47] : List UInt8) ++ Lib.itoa (n : Int)).drop 2) = n
    have e : (([118, 47] : List UInt8) ++ Lib.itoa (n : Int)).drop 2 = Lib.itoa (n : Int) := rfl
    rw [e, itoa_nat, dec_val]
end
end Go.Proofs.YtnefkegefjldjaaGreatDoor

/- What is proved: how the package chain keeps and reads one version. Conditions: texts of bounded length; the library's table of powers laid. -/
set_option linter.unusedSimpArgs false
set_option linter.unusedVariables false
namespace Go.Proofs.YtnefkegefjldjaaGreatDoor
open Go Go.J Go.RowKit
open Go.Lib (decDigits)

set_option maxHeartbeats 4000000 in
set_option maxRecDepth 100000 in
theorem ckey_c (id : Int) (h0 : -9223372036854775808 ≤ id) (h1 : id ≤ 9223372036854775807) (w0 : World) (ht : powT w0) : Cal Tryz.prog 29 [.int .i64 id] w0 (fun v w' => Upd [] w0 w' ∧ v = str (verK id)) := by
  refine Cal.mk' (by kernel_rfl) Tryz.func29 rfl rfl fun hS => ?_
  have hl := Lib.itoa_length_le id h0 h1
  have e0 : ([118, 47] : List UInt8).length = 2 := rfl
  repeat' (first
    | (show WL _ _ _ _ _ _ _; first
      | refine WL.pure rfl rfl rfl rfl ?_
      | refine WL.nil ?_
      | (refine WL.calls hS rfl rfl (itoa_c id h0 h1 _ ht) rfl rfl rfl ?_; rintro v w rfl hS)
      | refine WL.cat rfl rfl rfl (by omega) rfl rfl rfl ?_)
    | (show WC _ _ _ _ _ _; first
      | refine WC.seq ?_
      | refine WC.region ?_
      | refine WC.ret ?_)
    | refine seqQ_n ?_)
  exact fin1r rfl rfl ⟨hS.upd, rfl⟩
/-- how much a kept version takes -/
theorem szV {id base : Nat} {pay : List UInt8} (h1 : id ≤ 1048576) (h2 : base ≤ 1048576) (h3 : pay.length ≤ 549755813888) : szO ⟨verK (id : Int), valC base pay, false⟩ ≤ pay.length + 100 := by
  have e1 := Lib.itoa_length_le (id : Int) (by omega) (by omega)
  have e2 := putN_len10 (n := base) (by omega)
  have e3 := putN_len10 (n := pay.length) (by omega)
  unfold szO verK valC textE
  simp only [List.length_append, List.length_cons, List.length_nil]
  omega
theorem szD {id : Nat} (h1 : id ≤ 1048576) : szO ⟨verK (id : Int), [], true⟩ ≤ 100 := by
  have e1 := Lib.itoa_length_le (id : Int) (by omega) (by omega)
  unfold szO verK
  simp only [List.length_append, List.length_cons, List.length_nil]
  omega
theorem LayOk.len {vs : List Ver} {near : Nat} {data : List UInt8} {base : Nat} {pay : List UInt8} (h : LayOk vs near data base pay) : pay.length ≤ data.length := by
  rcases h with ⟨_, rfl⟩ | ⟨_, _, _, h, _⟩
  · exact Nat.le_refl _
  · omega
theorem LayOk.base_le {rows : Rws} {m : Bch} {N : Nat} {vs : List Ver} (hc : ChIs rows m vs N) {near : Nat} {data : List UInt8} {base : Nat} {pay : List UInt8} (h : LayOk vs near data base pay) : base ≤ N := by
  rcases h with ⟨h, _⟩ | ⟨h, _, _, _, _, u, hu, hui, _⟩
  · omega
  · have := hc.ids u hu; omega
def loadV (vs : List Ver) (id : Int) : Value := match findC vs id with
  | some x => .tuple #[.int .i64 (x.base : Int), str x.pay, .bool true]
  | none => .tuple #[.int .i64 0, str [], .bool false]
theorem valC_uint {base : Nat} (pay : List UInt8) (h : base < 9223372036854775808) : uintE ((valC base pay).drop 0) = (base, (putN base).length, 0) := uintE_put base h (textE pay)
theorem valC_text {base : Nat} (pay : List UInt8) (h : pay.length < 9223372036854775808) : rtextE ((valC base pay).drop (0 + (putN base).length)) = (pay, pay.length + (putN pay.length).length, 0) := by
  unfold valC textE
  rw [Nat.zero_add, List.drop_left]
  have := rtextE_text pay [] h
  rwa [List.append_nil] at this
section
variable {B Tp q : Nat} {T : Tb} {m : Bch} {fb fp : List Nat} {vs : List Ver} {N : Nat} {w0 : World}
theorem ChIs.base_le {rows : Rws} (h : ChIs rows m vs N) (v : Ver) (hv : v ∈ vs) : v.base ≤ N := by
  by_cases h0 : v.base = 0
  · omega
  · have := (h.by_ v hv h0).1
    have := h.ids v hv
    omega
theorem ChIs.pay_len {rows : Rws} (h : ChIs rows m vs N) (v : Ver) (hv : v ∈ vs) : v.pay.length ≤ 549755813888 := by
  have hs := h.size v hv
  by_cases h0 : v.base = 0
  · rw [h.whole v hv h0]; exact hs
  · have := (h.by_ v hv h0).2.2.1
    omega
set_option maxHeartbeats 8000000 in
set_option maxRecDepth 100000 in
theorem cload_c (id : Int) (h0 : -9223372036854775808 ≤ id) (h1 : id ≤ 9223372036854775807) (hi : InL w0 [bchC B (some ⟨Tp, 0, none⟩) m fb, tabC Tp q T fp]) (hp : PowI w0 (fps [bchC B (some ⟨Tp, 0, none⟩) m fb, tabC Tp q T fp])) (hc : ChIs T.rows m vs N) (hN : N ≤ 1048576) :
    Cal Tryz.prog 26 [.pointer (some ⟨B, 0, none⟩), .int .i64 id] w0 (fun v w' => v = loadV vs id ∧ MutL w0 w' [bchC B (some ⟨Tp, 0, none⟩) m fb, tabC Tp q T fp] [bchC B (some ⟨Tp, 0, none⟩) m fb, tabC Tp q T fp]) := by
  refine Cal.mkL hi (by kernel_rfl) Tryz.func26 rfl rfl fun hS => ?_
  unfold loadV
  cases hf : findC vs id with
  | some x =>
    obtain ⟨hg, hpos⟩ := hc.get_some hf
    have hg : bgetE T.rows m (verK id) = (valC x.base x.pay, true) := hg
    obtain ⟨hx, hid⟩ := findC_some hf
    have hss := hc.size x hx
    have hb : x.base < 9223372036854775808 := by have := hc.base_le x hx; omega
    have hpl := hc.pay_len x hx
    have hu := valC_uint (base := x.base) x.pay hb
    have ht := valC_text (base := x.base) x.pay (by omega)
    have hvl : (valC x.base x.pay).length ≤ 549755813888 + 40 := by
      have h1 := putN_len10 (n := x.base) (by omega)
      have h2 := putN_len10 (n := x.pay.length) (by omega)
      unfold valC textE
      rw [List.length_append, List.length_append]
      omega
    have hul : (putN x.base).length ≤ (valC x.base x.pay).length := by unfold valC; simp
    clear hc hf
    dsimp only
    generalize x.base = base at *
    generalize x.pay = pay at *
    generalize valC base pay = s at *
    generalize (putN base).length = n at *
    repeat' (first
      | (show WL _ _ _ _ _ _ _; first
        | refine WL.pure rfl rfl rfl rfl ?_
        | refine WL.nil ?_
        | (refine WL.calls hS rfl rfl (ckey_c id h0 h1 _ (hp.at hS)) rfl rfl rfl ?_; rintro v w rfl hS)
        | (refine WL.callL (D := [bchC B (some ⟨Tp, 0, none⟩) m fb, tabC Tp q T fp]) hS (by repeat (first | exact Pulls.nil | (apply Pulls.cons; focus (repeat (first | exact Pull.here | apply Pull.there))))) rfl rfl (fun hI => bget_c (verK id) hI) rfl rfl rfl ?_; rintro v w ⟨rfl, hmu⟩ hS; rw [hg]; replace hS := hS _ hmu; clear hmu)
        | (refine WL.callG rfl rfl (wnew_c s _) rfl rfl rfl ?_; rintro v w ⟨hu', r, rfl, hn⟩; replace hS := hS.new hu' hn; clear hu' hn)
        | (refine WL.callG rfl rfl (uint_e hu (hS.holds _ (List.Mem.head _)) (hS.inB_of (List.Mem.head _)) (Nat.zero_le _) (by omega)) rfl rfl rfl ?_; rintro v w ⟨rfl, hm⟩; replace hS := hS.mut hm .here; clear hm)
        | (refine WL.callG rfl rfl (rtext_e ht (hS.holds _ (List.Mem.head _)) (hS.inB_of (List.Mem.head _)) (by omega) (by omega)) rfl rfl rfl ?_; rintro v w ⟨rfl, hm⟩; replace hS := hS.mut hm .here; clear hm))
      | (show WC _ _ _ _ _ _; first
        | refine WC.seq ?_
        | refine WC.region ?_
        | refine WC.ret ?_)
      | refine seqQ_n ?_)
    refine fin3r rfl rfl rfl rfl ⟨?_, hS.mutLp (by repeat (first | exact Pulls.nil | (apply Pulls.cons; focus (repeat (first | exact Pull.here | apply Pull.there)))))⟩
    rw [decide_eq_true (show id > 0 by omega)]
  | none =>
    have hg := hc.get_none hf
    have hbl := hc.blank _ hg
    have hg : bgetE T.rows m (verK id) = ([], false) := Prod.ext hbl hg
    clear hc hf hbl
    repeat' (first
      | (show WL _ _ _ _ _ _ _; first
        | refine WL.pure rfl rfl rfl rfl ?_
        | refine WL.nil ?_
        | (refine WL.calls hS rfl rfl (ckey_c id h0 h1 _ (hp.at hS)) rfl rfl rfl ?_; rintro v w rfl hS)
        | (refine WL.callL (D := [bchC B (some ⟨Tp, 0, none⟩) m fb, tabC Tp q T fp]) hS (by repeat (first | exact Pulls.nil | (apply Pulls.cons; focus (repeat (first | exact Pull.here | apply Pull.there))))) rfl rfl (fun hI => bget_c (verK id) hI) rfl rfl rfl ?_; rintro v w ⟨rfl, hmu⟩ hS; rw [hg]; replace hS := hS _ hmu; clear hmu)
        | (refine WL.callG rfl rfl (wnew_c [] _) rfl rfl rfl ?_; rintro v w ⟨hu', r, rfl, hn⟩; replace hS := hS.new hu' hn; clear hu' hn)
        | (refine WL.callG rfl rfl (uint_e (n := 0) (u := 0) (e := 2) rfl (hS.holds _ (List.Mem.head _)) (hS.inB_of (List.Mem.head _)) (Nat.zero_le _) (by decide)) rfl rfl rfl ?_; rintro v w ⟨rfl, hm⟩; replace hS := hS.mut hm .here; clear hm)
        | (refine WL.callG rfl rfl (rtext_e (u := 0) (t := []) (e := 2) rfl (hS.holds _ (List.Mem.head _)) (hS.inB_of (List.Mem.head _)) (Nat.zero_le _) (by decide)) rfl rfl rfl ?_; rintro v w ⟨rfl, hm⟩; replace hS := hS.mut hm .here; clear hm)
        | refine WL.skip rfl rfl rfl ?_)
      | (show WC _ _ _ _ _ _; first
        | refine WC.seq ?_
        | refine WC.region ?_
        | refine WC.ret ?_)
      | refine seqQ_n ?_)
    exact fin3r rfl rfl rfl rfl ⟨rfl, hS.mutLp (by repeat (first | exact Pulls.nil | (apply Pulls.cons; focus (repeat (first | exact Pull.here | apply Pull.there)))))⟩
end
end Go.Proofs.YtnefkegefjldjaaGreatDoor

/- What is proved: what Depth and Get of the package chain answer. Conditions: the library's table of powers laid. -/
set_option linter.unusedSimpArgs false
set_option linter.unusedVariables false
namespace Go.Proofs.YtnefkegefjldjaaGreatDoor
open Go Go.J Go.RowKit

section
variable {B Tp q : Nat} {T : Tb} {m : Bch} {fb fp : List Nat} {vs : List Ver} {N : Nat}
theorem loadV_none {id : Int} (h : findC vs id = none) : loadV vs id = .tuple #[.int .i64 0, str [], .bool false] := by unfold loadV; rw [h]
theorem loadV_of (hc : ChIs T.rows m vs N) {x : Ver} (hx : x ∈ vs) : loadV vs (x.id : Int) = .tuple #[.int .i64 (x.base : Int), str x.pay, .bool true] := by unfold loadV; rw [findC_of hc.nd hx]
set_option maxHeartbeats 8000000 in
set_option maxRecDepth 100000 in
theorem cdepthNo_c {w0 : World} (id : Int) (h0 : -9223372036854775808 ≤ id) (h1 : id ≤ 9223372036854775807) (hi : InL w0 [bchC B (some ⟨Tp, 0, none⟩) m fb, tabC Tp q T fp]) (hp : PowI w0 (fps [bchC B (some ⟨Tp, 0, none⟩) m fb, tabC Tp q T fp])) (hc : ChIs T.rows m vs N) (hN : N ≤ 1048576) (hf : findC vs id = none) :
    Cal Tryz.prog 11 [.pointer (some ⟨B, 0, none⟩), .int .i64 id] w0 (fun v w' => v = .int .i64 (-1) ∧ MutL w0 w' [bchC B (some ⟨Tp, 0, none⟩) m fb, tabC Tp q T fp] [bchC B (some ⟨Tp, 0, none⟩) m fb, tabC Tp q T fp]) := by
  refine Cal.mkL hi (by kernel_rfl) Tryz.func11 rfl rfl fun hS => ?_
  have hlv := loadV_none hf
  repeat' (first
    | (show WL _ _ _ _ _ _ _; first
      | refine WL.pure rfl rfl rfl rfl ?_
      | refine WL.nil ?_
      | (refine WL.callL (D := [bchC B (some ⟨Tp, 0, none⟩) m fb, tabC Tp q T fp]) hS (by repeat (first | exact Pulls.nil | (apply Pulls.cons; focus (repeat (first | exact Pull.here | apply Pull.there))))) rfl rfl (fun hI => cload_c (vs := vs) (N := N) _ (by omega) (by omega) hI (hp.pull hS (by repeat (first | exact Pulls.nil | (apply Pulls.cons; focus (repeat (first | exact Pull.here | apply Pull.there)))))) hc hN) rfl rfl rfl ?_; rintro v w ⟨rfl, hmu⟩ hS; rw [hlv]; replace hS := hS _ hmu; clear hmu))
    | (show WC _ _ _ _ _ _; first
      | refine WC.seq ?_
      | refine WC.region ?_
      | refine WC.block ?_
      | refine WC.ret ?_
      | refine WC.condT rfl (by decide) ?_)
    | refine seqQ_n ?_
    | refine seqQ_r ?_
    | refine blkQ_r ?_)
  exact fin1r rfl rfl ⟨rfl, hS.mutLp (by repeat (first | exact Pulls.nil | (apply Pulls.cons; focus (repeat (first | exact Pull.here | apply Pull.there)))))⟩
set_option maxHeartbeats 8000000 in
set_option maxRecDepth 100000 in
theorem cdepth_c : ∀ (d id : Nat) {w0 : World} (hi : InL w0 [bchC B (some ⟨Tp, 0, none⟩) m fb, tabC Tp q T fp]) (hp : PowI w0 (fps [bchC B (some ⟨Tp, 0, none⟩) m fb, tabC Tp q T fp])) (hc : ChIs T.rows m vs N) (hN : N ≤ 1048576) (hd : d ≤ 4) (ht : Told vs d id),
    Cal Tryz.prog 11 [.pointer (some ⟨B, 0, none⟩), .int .i64 (id : Int)] w0 (fun v w' => v = .int .i64 (d : Int) ∧ MutL w0 w' [bchC B (some ⟨Tp, 0, none⟩) m fb, tabC Tp q T fp] [bchC B (some ⟨Tp, 0, none⟩) m fb, tabC Tp q T fp])
  | 0, id, w0, hi, hp, hc, hN, hd, ht => by
    refine Cal.mkL hi (by kernel_rfl) Tryz.func11 rfl rfl fun hS => ?_
    obtain ⟨x, hx, rfl, hb0⟩ := ht
    have hlv := loadV_of hc hx
    have hid := hc.ids x hx
    rw [hb0] at hlv
    repeat' (first
      | (show WL _ _ _ _ _ _ _; first
        | refine WL.pure rfl rfl rfl rfl ?_
        | refine WL.nil ?_
        | (refine WL.callL (D := [bchC B (some ⟨Tp, 0, none⟩) m fb, tabC Tp q T fp]) hS (by repeat (first | exact Pulls.nil | (apply Pulls.cons; focus (repeat (first | exact Pull.here | apply Pull.there))))) rfl rfl (fun hI => cload_c (vs := vs) (N := N) _ (by omega) (by omega) hI (hp.pull hS (by repeat (first | exact Pulls.nil | (apply Pulls.cons; focus (repeat (first | exact Pull.here | apply Pull.there)))))) hc hN) rfl rfl rfl ?_; rintro v w ⟨rfl, hmu⟩ hS; rw [hlv]; replace hS := hS _ hmu; clear hmu))
      | (show WC _ _ _ _ _ _; first
        | refine WC.seq ?_
        | refine WC.region ?_
        | refine WC.block ?_
        | refine WC.ret ?_
        | refine WC.condT rfl (by decide) ?_
        | refine WC.condF rfl (by decide) ?_)
      | refine seqQ_n ?_
      | refine seqQ_r ?_
      | refine blkQ_r ?_)
    exact fin1r rfl rfl ⟨rfl, hS.mutLp (by repeat (first | exact Pulls.nil | (apply Pulls.cons; focus (repeat (first | exact Pull.here | apply Pull.there)))))⟩
  | d + 1, id, w0, hi, hp, hc, hN, hd, ht => by
    refine Cal.mkL hi (by kernel_rfl) Tryz.func11 rfl rfl fun hS => ?_
    obtain ⟨x, hx, rfl, hb0, htd⟩ := ht
    have hlv := loadV_of hc hx
    have hid := hc.ids x hx
    have hbl := hc.base_le x hx
    generalize x.base = base at *
    generalize x.id = id at *
    repeat' (first
      | (show WL _ _ _ _ _ _ _; first
        | refine WL.pure rfl rfl rfl rfl ?_
        | refine WL.nil ?_
        | refine WL.add rfl rfl rfl (by omega) rfl rfl rfl ?_
        | (refine WL.callL (D := [bchC B (some ⟨Tp, 0, none⟩) m fb, tabC Tp q T fp]) hS (by repeat (first | exact Pulls.nil | (apply Pulls.cons; focus (repeat (first | exact Pull.here | apply Pull.there))))) rfl rfl (fun hI => cload_c (vs := vs) (N := N) _ (by omega) (by omega) hI (hp.pull hS (by repeat (first | exact Pulls.nil | (apply Pulls.cons; focus (repeat (first | exact Pull.here | apply Pull.there)))))) hc hN) rfl rfl rfl ?_; rintro v w ⟨rfl, hmu⟩ hS; rw [hlv]; replace hS := hS _ hmu; clear hmu)
        | (refine WL.callL (D := [bchC B (some ⟨Tp, 0, none⟩) m fb, tabC Tp q T fp]) hS (by repeat (first | exact Pulls.nil | (apply Pulls.cons; focus (repeat (first | exact Pull.here | apply Pull.there))))) rfl rfl (fun hI => cdepth_c d base hI (hp.pull hS (by repeat (first | exact Pulls.nil | (apply Pulls.cons; focus (repeat (first | exact Pull.here | apply Pull.there)))))) hc hN (by omega) htd) rfl rfl rfl ?_; rintro v w ⟨rfl, hmu⟩ hS; replace hS := hS _ hmu; clear hmu))
      | (show WC _ _ _ _ _ _; first
        | refine WC.seq ?_
        | refine WC.region ?_
        | refine WC.block ?_
        | refine WC.skip ?_
        | refine WC.ret ?_
        | refine WC.condF rfl (by decide) ?_
        | refine WC.condF rfl (decide_eq_false (by first | with_reducible assumption | omega)) ?_)
      | refine seqQ_n ?_
      | refine blkQ_n ?_)
    exact fin1r rfl rfl ⟨vint (by omega), hS.mutLp (by repeat (first | exact Pulls.nil | (apply Pulls.cons; focus (repeat (first | exact Pull.here | apply Pull.there)))))⟩
set_option maxHeartbeats 8000000 in
set_option maxRecDepth 100000 in
theorem cgetNo_c {w0 : World} (id : Int) (h0 : -9223372036854775808 ≤ id) (h1 : id ≤ 9223372036854775807) (hi : InL w0 [bchC B (some ⟨Tp, 0, none⟩) m fb, tabC Tp q T fp]) (hp : PowI w0 (fps [bchC B (some ⟨Tp, 0, none⟩) m fb, tabC Tp q T fp])) (hc : ChIs T.rows m vs N) (hN : N ≤ 1048576) (hf : findC vs id = none) :
    Cal Tryz.prog 10 [.pointer (some ⟨B, 0, none⟩), .int .i64 id] w0 (fun v w' => v = .tuple #[str [], .int .i64 11] ∧ MutL w0 w' [bchC B (some ⟨Tp, 0, none⟩) m fb, tabC Tp q T fp] [bchC B (some ⟨Tp, 0, none⟩) m fb, tabC Tp q T fp]) := by
  refine Cal.mkL hi (by kernel_rfl) Tryz.func10 rfl rfl fun hS => ?_
  have hlv := loadV_none hf
  repeat' (first
    | (show WL _ _ _ _ _ _ _; first
      | refine WL.pure rfl rfl rfl rfl ?_
      | refine WL.nil ?_
      | (refine WL.callL (D := [bchC B (some ⟨Tp, 0, none⟩) m fb, tabC Tp q T fp]) hS (by repeat (first | exact Pulls.nil | (apply Pulls.cons; focus (repeat (first | exact Pull.here | apply Pull.there))))) rfl rfl (fun hI => cload_c (vs := vs) (N := N) _ (by omega) (by omega) hI (hp.pull hS (by repeat (first | exact Pulls.nil | (apply Pulls.cons; focus (repeat (first | exact Pull.here | apply Pull.there)))))) hc hN) rfl rfl rfl ?_; rintro v w ⟨rfl, hmu⟩ hS; rw [hlv]; replace hS := hS _ hmu; clear hmu))
    | (show WC _ _ _ _ _ _; first
      | refine WC.seq ?_
      | refine WC.region ?_
      | refine WC.ret ?_
      | refine WC.condT rfl (by decide) ?_)
    | refine seqQ_n ?_
    | refine seqQ_r ?_)
  exact fin2r rfl rfl rfl ⟨rfl, hS.mutLp (by repeat (first | exact Pulls.nil | (apply Pulls.cons; focus (repeat (first | exact Pull.here | apply Pull.there)))))⟩
set_option maxHeartbeats 8000000 in
set_option maxRecDepth 100000 in
theorem cget_c : ∀ (d : Nat) (x : Ver) {w0 : World} (hi : InL w0 [bchC B (some ⟨Tp, 0, none⟩) m fb, tabC Tp q T fp]) (hp : PowI w0 (fps [bchC B (some ⟨Tp, 0, none⟩) m fb, tabC Tp q T fp])) (hc : ChIs T.rows m vs N) (hN : N ≤ 1048576) (hx : x ∈ vs) (ht : Told vs d x.id),
    Cal Tryz.prog 10 [.pointer (some ⟨B, 0, none⟩), .int .i64 (x.id : Int)] w0 (fun v w' => v = .tuple #[str x.data, .int .i64 0] ∧ MutL w0 w' [bchC B (some ⟨Tp, 0, none⟩) m fb, tabC Tp q T fp] [bchC B (some ⟨Tp, 0, none⟩) m fb, tabC Tp q T fp])
  | 0, x, w0, hi, hp, hc, hN, hx, ht => by
    refine Cal.mkL hi (by kernel_rfl) Tryz.func10 rfl rfl fun hS => ?_
    obtain ⟨y, hy, hyx, hb0⟩ := ht
    obtain rfl := nd_id hc.nd hy hx hyx
    have hlv := loadV_of hc hx
    have hid := hc.ids y hx
    rw [hb0, hc.whole y hx hb0] at hlv
    repeat' (first
      | (show WL _ _ _ _ _ _ _; first
        | refine WL.pure rfl rfl rfl rfl ?_
        | refine WL.nil ?_
        | (refine WL.callL (D := [bchC B (some ⟨Tp, 0, none⟩) m fb, tabC Tp q T fp]) hS (by repeat (first | exact Pulls.nil | (apply Pulls.cons; focus (repeat (first | exact Pull.here | apply Pull.there))))) rfl rfl (fun hI => cload_c (vs := vs) (N := N) _ (by omega) (by omega) hI (hp.pull hS (by repeat (first | exact Pulls.nil | (apply Pulls.cons; focus (repeat (first | exact Pull.here | apply Pull.there)))))) hc hN) rfl rfl rfl ?_; rintro v w ⟨rfl, hmu⟩ hS; rw [hlv]; replace hS := hS _ hmu; clear hmu))
      | (show WC _ _ _ _ _ _; first
        | refine WC.seq ?_
        | refine WC.region ?_
        | refine WC.skip ?_
        | refine WC.ret ?_
        | refine WC.condT rfl (by decide) ?_
        | refine WC.condF rfl (by decide) ?_)
      | refine seqQ_n ?_
      | refine seqQ_r ?_)
    exact fin2r rfl rfl rfl ⟨rfl, hS.mutLp (by repeat (first | exact Pulls.nil | (apply Pulls.cons; focus (repeat (first | exact Pull.here | apply Pull.there)))))⟩
  | d + 1, x, w0, hi, hp, hc, hN, hx, ht => by
    refine Cal.mkL hi (by kernel_rfl) Tryz.func10 rfl rfl fun hS => ?_
    obtain ⟨y, hy, hyx, hb0, htd⟩ := ht
    obtain rfl := nd_id hc.nd hy hx hyx
    have hlv := loadV_of hc hx
    have hid := hc.ids y hx
    have hbl := hc.base_le y hx
    obtain ⟨_, hdl, _, u, hu, hui, ps, hps, hdo⟩ := hc.by_ y hx hb0
    have hus := hc.size u hu
    have hud : Told vs d u.id := by rw [hui]; exact htd
    rw [hps, ← hui] at hlv
    rw [← hui] at hb0 hbl
    clear hps htd hui
    repeat' (first
      | (show WL _ _ _ _ _ _ _; first
        | refine WL.pure rfl rfl rfl rfl ?_
        | refine WL.nil ?_
        | (refine WL.callL (D := [bchC B (some ⟨Tp, 0, none⟩) m fb, tabC Tp q T fp]) hS (by repeat (first | exact Pulls.nil | (apply Pulls.cons; focus (repeat (first | exact Pull.here | apply Pull.there))))) rfl rfl (fun hI => cload_c (vs := vs) (N := N) _ (by omega) (by omega) hI (hp.pull hS (by repeat (first | exact Pulls.nil | (apply Pulls.cons; focus (repeat (first | exact Pull.here | apply Pull.there)))))) hc hN) rfl rfl rfl ?_; rintro v w ⟨rfl, hmu⟩ hS; rw [hlv]; replace hS := hS _ hmu; clear hmu)
        | (refine WL.callL (D := [bchC B (some ⟨Tp, 0, none⟩) m fb, tabC Tp q T fp]) hS (by repeat (first | exact Pulls.nil | (apply Pulls.cons; focus (repeat (first | exact Pull.here | apply Pull.there))))) rfl rfl (fun hI => cget_c d u hI (hp.pull hS (by repeat (first | exact Pulls.nil | (apply Pulls.cons; focus (repeat (first | exact Pull.here | apply Pull.there)))))) hc hN hu hud) rfl rfl rfl ?_; rintro v w ⟨rfl, hmu⟩ hS; replace hS := hS _ hmu; clear hmu)
        | (refine WL.calls hS rfl rfl (dapply_c u.data y.data ps _ hus hdl hdo) rfl rfl rfl ?_; rintro v w rfl hS))
      | (show WC _ _ _ _ _ _; first
        | refine WC.seq ?_
        | refine WC.region ?_
        | refine WC.skip ?_
        | refine WC.ret ?_
        | refine WC.condF rfl (by decide) ?_
        | refine WC.condF rfl (decide_eq_false (by first | with_reducible assumption | omega)) ?_)
      | refine seqQ_n ?_)
    exact fin2r rfl rfl rfl ⟨rfl, hS.mutLp (by repeat (first | exact Pulls.nil | (apply Pulls.cons; focus (repeat (first | exact Pull.here | apply Pull.there)))))⟩
end
end Go.Proofs.YtnefkegefjldjaaGreatDoor

/- What is proved: what lay and Add of the package chain make of a batch. Conditions: texts of bounded length; the library's table of powers laid. -/
set_option linter.unusedSimpArgs false
set_option linter.unusedVariables false
namespace Go.Proofs.YtnefkegefjldjaaGreatDoor
open Go Go.J Go.RowKit

/-- a content that is the same as the one near it takes little -/
def SelfOk (vs : List Ver) (near : Nat) (data : List UInt8) (base : Nat) (pay : List UInt8) : Prop :=
  ∀ u ∈ vs, u.id = near → u.data = data → 16 ≤ data.length → data.length ≤ 4096 → (∃ d, d < 4 ∧ Told vs d near) → base = near ∧ pay.length ≤ 8
theorem self_len {n : Nat} (h : n ≤ 4096) : (deltaE n [.cpy 0 n]).length ≤ 8 := by
  have h1 := putN_len 1 n (by omega)
  have h2 := putN_len 1 (2 * n + 1) (by omega)
  have h3 := putN_len 0 0 (by omega)
  unfold deltaE pcBytes
  simp only [List.flatMap_cons, List.flatMap_nil, List.append_nil, Pc.bytes, List.length_append]
  omega
section
variable {B Tp q : Nat} {T : Tb} {m : Bch} {fb fp : List Nat} {vs : List Ver} {N : Nat} {w0 : World}
set_option maxHeartbeats 8000000 in
set_option maxRecDepth 100000 in
theorem cstore_c (id base : Nat) (pay : List UInt8) (hid : id ≤ 1048576) (hb : base ≤ 1048576) (hpl : pay.length ≤ 549755813888) (hi : InL w0 [bchC B (some ⟨Tp, 0, none⟩) m fb, tabC Tp q T fp]) (hp : PowI w0 (fps [bchC B (some ⟨Tp, 0, none⟩) m fb, tabC Tp q T fp])) (hm : m.length ≤ 1048576) :
    Cal Tryz.prog 47 [.pointer (some ⟨B, 0, none⟩), .int .i64 (id : Int), .int .i64 (base : Int), str pay] w0 (fun v w' => v = .tuple #[] ∧ ∃ fb', MutL w0 w' [bchC B (some ⟨Tp, 0, none⟩) m fb, tabC Tp q T fp] [bchC B (some ⟨Tp, 0, none⟩) (noteE m ⟨verK (id : Int), valC base pay, false⟩) fb', tabC Tp q T fp]) := by
  refine Cal.mkL hi (by kernel_rfl) Tryz.func47 rfl rfl fun hS => ?_
  have h1 := putN_len10 (n := base) (by omega)
  have h2 := textE_len pay
  have h3 := putN_len10 (n := pay.length) (by omega)
  repeat' (first
    | (show WL _ _ _ _ _ _ _; first
      | refine WL.pure rfl rfl rfl rfl ?_
      | refine WL.nil ?_
      | (refine WL.calls hS rfl rfl (wuint_c base _ (by omega)) rfl rfl rfl ?_; rintro v w rfl hS)
      | (refine WL.calls hS rfl rfl (ckey_c (id : Int) (by omega) (by omega) _ (hp.at hS)) rfl rfl rfl ?_; rintro v w rfl hS)
      | (refine WL.calls hS rfl rfl (wtext_c pay _ (by omega)) rfl rfl rfl ?_; rintro v w rfl hS)
      | (refine WL.callL (D := [bchC B (some ⟨Tp, 0, none⟩) m fb]) hS (by repeat (first | exact Pulls.nil | (apply Pulls.cons; focus (repeat (first | exact Pull.here | apply Pull.there))))) rfl rfl (fun hI => bput_c (verK (id : Int)) (valC base pay) hI.head hI.headB (by omega)) rfl rfl rfl ?_; rintro v w ⟨rfl, fb2, hmu⟩ hS; replace hS := hS _ (.of1 hmu); clear hmu)
      | refine WL.cat rfl rfl rfl (by omega) rfl rfl rfl ?_)
    | (show WC _ _ _ _ _ _; first
      | refine WC.seq ?_
      | refine WC.region ?_)
    | refine seqQ_n ?_)
  exact fin0n rfl ⟨rfl, _, hS.mutLp (by repeat (first | exact Pulls.nil | (apply Pulls.cons; focus (repeat (first | exact Pull.here | apply Pull.there)))))⟩
def depIs (vs : List Ver) (id : Int) (e : Int) : Prop := (findC vs id = none ∧ e = -1) ∨ ∃ d n : Nat, d ≤ 4 ∧ e = (d : Int) ∧ id = (n : Int) ∧ Told vs d n
theorem depIs.ex (hc : ChIs T.rows m vs N) (id : Int) : ∃ e, depIs vs id e := by
  cases hf : findC vs id with
  | none => exact ⟨-1, .inl ⟨hf, rfl⟩⟩
  | some x =>
    obtain ⟨hx, rfl⟩ := findC_some hf
    obtain ⟨d, hd, ht⟩ := hc.told x hx
    exact ⟨d, .inr ⟨d, x.id, hd, rfl, rfl, ht⟩⟩
theorem cdep_c {id e : Int} (he : depIs vs id e) (h0 : -9223372036854775808 ≤ id) (h1 : id ≤ 9223372036854775807) (hi : InL w0 [bchC B (some ⟨Tp, 0, none⟩) m fb, tabC Tp q T fp]) (hp : PowI w0 (fps [bchC B (some ⟨Tp, 0, none⟩) m fb, tabC Tp q T fp])) (hc : ChIs T.rows m vs N) (hN : N ≤ 1048576) :
    Cal Tryz.prog 11 [.pointer (some ⟨B, 0, none⟩), .int .i64 id] w0 (fun v w' => v = .int .i64 e ∧ MutL w0 w' [bchC B (some ⟨Tp, 0, none⟩) m fb, tabC Tp q T fp] [bchC B (some ⟨Tp, 0, none⟩) m fb, tabC Tp q T fp]) := by
  rcases he with ⟨hf, rfl⟩ | ⟨d, n, hd, rfl, rfl, ht⟩
  · exact cdepthNo_c id h0 h1 hi hp hc hN hf
  · exact cdepth_c d n hi hp hc hN hd ht
def cgetV (vs : List Ver) (id : Int) : Value := match findC vs id with
  | some x => .tuple #[str x.data, .int .i64 0]
  | none => .tuple #[str [], .int .i64 11]
theorem cgets_c {id : Int} (h0 : -9223372036854775808 ≤ id) (h1 : id ≤ 9223372036854775807) (hi : InL w0 [bchC B (some ⟨Tp, 0, none⟩) m fb, tabC Tp q T fp]) (hp : PowI w0 (fps [bchC B (some ⟨Tp, 0, none⟩) m fb, tabC Tp q T fp])) (hc : ChIs T.rows m vs N) (hN : N ≤ 1048576) :
    Cal Tryz.prog 10 [.pointer (some ⟨B, 0, none⟩), .int .i64 id] w0 (fun v w' => v = cgetV vs id ∧ MutL w0 w' [bchC B (some ⟨Tp, 0, none⟩) m fb, tabC Tp q T fp] [bchC B (some ⟨Tp, 0, none⟩) m fb, tabC Tp q T fp]) := by
  unfold cgetV
  cases hf : findC vs id with
  | none => exact cgetNo_c id h0 h1 hi hp hc hN hf
  | some x =>
    obtain ⟨hx, rfl⟩ := findC_some hf
    obtain ⟨d, hd, ht⟩ := hc.told x hx
    exact cget_c d x hi hp hc hN hx ht
set_option maxHeartbeats 8000000 in
set_option maxRecDepth 100000 in
theorem clay_c (id : Nat) (data : List UInt8) (near : Int) (hid : id ≤ 1048576) (hl : data.length ≤ 549755813888) (h0 : -9223372036854775808 ≤ near) (h1 : near ≤ 9223372036854775807) (hi : InL w0 [bchC B (some ⟨Tp, 0, none⟩) m fb, tabC Tp q T fp]) (hp : PowI w0 (fps [bchC B (some ⟨Tp, 0, none⟩) m fb, tabC Tp q T fp])) (hc : ChIs T.rows m vs N) (hN : N ≤ 1048576) (hm : m.length ≤ 1048576) :
    Cal Tryz.prog 25 [.pointer (some ⟨B, 0, none⟩), .int .i64 (id : Int), str data, .int .i64 near] w0 (fun v w' => v = .tuple #[] ∧ ∃ base pay, LayOk vs near.toNat data base pay ∧ SelfOk vs near.toNat data base pay ∧ ∃ fb', MutL w0 w' [bchC B (some ⟨Tp, 0, none⟩) m fb, tabC Tp q T fp] [bchC B (some ⟨Tp, 0, none⟩) (noteE m ⟨verK (id : Int), valC base pay, false⟩) fb', tabC Tp q T fp]) := by
  refine Cal.mkL hi (by kernel_rfl) Tryz.func25 rfl rfl fun hS => ?_
  obtain ⟨e, he⟩ := depIs.ex hc near
  by_cases hcase : 0 ≤ e ∧ e < 4 ∧ data.length ≤ 4096
  · obtain ⟨he1, he2, hdl⟩ := hcase
    rcases he with ⟨hf, rfl⟩ | ⟨d, n, hd, rfl, rfl, ht⟩
    · omega
    · obtain ⟨u, hu, hui⟩ := ht.mem
      have hus := hc.size u hu
      have hun := hc.ids u hu
      rw [show ((n : Int)).toNat = n from rfl]
      subst hui
      have hself : ∀ {ps : List Pc}, (u.data = data → 8 ≤ data.length → ps = [.cpy 0 data.length]) → (deltaE data.length ps).length < data.length → SelfOk vs u.id data u.id (deltaE data.length ps) := fun {ps} hs _ y hy hyi hyd h16 h40 _ => by
        obtain rfl := nd_id hc.nd hy hu hyi
        rw [hs hyd (by omega)]
        exact ⟨rfl, self_len h40⟩
      have hself2 : ∀ {ps : List Pc}, (u.data = data → 8 ≤ data.length → ps = [.cpy 0 data.length]) → ¬ (deltaE data.length ps).length < data.length → SelfOk vs u.id data 0 data := fun {ps} hs hlt y hy hyi hyd h16 h40 _ => by
        obtain rfl := nd_id hc.nd hy hu hyi
        rw [hs hyd (by omega)] at hlt
        have := self_len h40
        omega
      have hd4 : (d : Int) < 4 := he2
      repeat' (first
        | (show WL _ _ _ _ _ _ _; first
          | refine WL.pure rfl rfl rfl rfl ?_
          | refine WL.nil ?_
          | (refine WL.callL (D := [bchC B (some ⟨Tp, 0, none⟩) m fb, tabC Tp q T fp]) hS (by repeat (first | exact Pulls.nil | (apply Pulls.cons; focus (repeat (first | exact Pull.here | apply Pull.there))))) rfl rfl (fun hI => cdepth_c d u.id hI (hp.pull hS (by repeat (first | exact Pulls.nil | (apply Pulls.cons; focus (repeat (first | exact Pull.here | apply Pull.there)))))) hc hN hd ht) rfl rfl rfl ?_; rintro v w ⟨rfl, hmu⟩ hS; replace hS := hS _ hmu; clear hmu)
          | (refine WL.callL (D := [bchC B (some ⟨Tp, 0, none⟩) m fb, tabC Tp q T fp]) hS (by repeat (first | exact Pulls.nil | (apply Pulls.cons; focus (repeat (first | exact Pull.here | apply Pull.there))))) rfl rfl (fun hI => cget_c d u hI (hp.pull hS (by repeat (first | exact Pulls.nil | (apply Pulls.cons; focus (repeat (first | exact Pull.here | apply Pull.there)))))) hc hN hu ht) rfl rfl rfl ?_; rintro v w ⟨rfl, hmu⟩ hS; replace hS := hS _ hmu; clear hmu)
          | (refine WL.callG rfl rfl (dencode_c u.data data _ hus hdl) rfl rfl rfl ?_; rintro v w ⟨hup, ps, rfl, hps, hpl, hself0⟩; have hS := hS.upd0 hup; clear hup)
          | (refine WL.callL (D := [bchC B (some ⟨Tp, 0, none⟩) m fb, tabC Tp q T fp]) hS (by repeat (first | exact Pulls.nil | (apply Pulls.cons; focus (repeat (first | exact Pull.here | apply Pull.there))))) rfl rfl (fun hI => cstore_c id u.id (deltaE data.length ps) hid (by omega) (by omega) hI (hp.pull hS (by repeat (first | exact Pulls.nil | (apply Pulls.cons; focus (repeat (first | exact Pull.here | apply Pull.there)))))) hm) rfl rfl rfl ?_; rintro v w ⟨rfl, fb2, hmu⟩ hS; replace hS := hS _ hmu; clear hmu)
          | (refine WL.callL (D := [bchC B (some ⟨Tp, 0, none⟩) m fb, tabC Tp q T fp]) hS (by repeat (first | exact Pulls.nil | (apply Pulls.cons; focus (repeat (first | exact Pull.here | apply Pull.there))))) rfl rfl (fun hI => cstore_c id 0 data hid (by omega) (by omega) hI (hp.pull hS (by repeat (first | exact Pulls.nil | (apply Pulls.cons; focus (repeat (first | exact Pull.here | apply Pull.there)))))) hm) rfl rfl rfl ?_; rintro v w ⟨rfl, fb2, hmu⟩ hS; replace hS := hS _ hmu; clear hmu)
          | ((fail_if_success (refine WL.wanted rfl ?_)); refine WL.guard rfl rfl rfl (fun h => ?_) (fun h => ?_) <;> (try simp only [Classical.not_not, Bool.not_eq_true', Bool.not_eq_false', Bool.not_eq_eq_eq_not, Bool.not_true, Bool.not_false, beq_iff_eq, beq_eq_false_iff_ne, ne_eq, decide_eq_decide, decide_eq_true_eq, decide_eq_false_iff_not, Bool.and_eq_true, Bool.or_eq_true, Bool.and_eq_false_iff, Bool.or_eq_false_iff] at h) <;> (try (exfalso; first | omega | contradiction))))
        | (show WC _ _ _ _ _ _; first
          | refine WC.seq ?_
          | refine WC.region ?_
          | refine WC.skip ?_
          | refine WC.ret ?_
          | refine WC.condT rfl (decide_eq_true (by first | with_reducible assumption | omega)) ?_
          | (refine WC.cond rfl (fun h => ?_) (fun h => ?_) <;> (try simp only [Classical.not_not, Bool.not_eq_true', Bool.not_eq_false', Bool.not_eq_eq_eq_not, Bool.not_true, Bool.not_false, beq_iff_eq, beq_eq_false_iff_ne, ne_eq, decide_eq_decide, decide_eq_true_eq, decide_eq_false_iff_not, Bool.and_eq_true, Bool.or_eq_true, Bool.and_eq_false_iff, Bool.or_eq_false_iff] at h) <;> (try (exfalso; first | omega | contradiction))))
        | refine seqQ_n ?_
        | refine seqQ_r ?_)
      · exact fin0r rfl ⟨rfl, u.id, deltaE data.length ps, .inr ⟨rfl, by omega, hdl, by omega, ⟨d, by omega, ht⟩, u, hu, rfl, ps, rfl, hps⟩, hself hself0 (by omega), _, hS.mutLp (by repeat (first | exact Pulls.nil | (apply Pulls.cons; focus (repeat (first | exact Pull.here | apply Pull.there)))))⟩
      · exact fin0n rfl ⟨rfl, 0, data, .inl ⟨rfl, rfl⟩, hself2 hself0 (by omega), _, hS.mutLp (by repeat (first | exact Pulls.nil | (apply Pulls.cons; focus (repeat (first | exact Pull.here | apply Pull.there)))))⟩
  · have hso : SelfOk vs near.toNat data 0 data := fun u hu hui hud h16 h40 ⟨d, hd, ht⟩ => by
      exfalso
      rcases he with ⟨hf, rfl⟩ | ⟨d', n, hd', rfl, rfl, ht'⟩
      · have h2 := hc.ids u hu
        have h3 : near = (u.id : Int) := by omega
        rw [h3, findC_of hc.nd hu] at hf
        cases hf
      · rw [show ((n : Int)).toNat = n from rfl] at ht
        have := Told.unique hc.nd ht ht'
        omega
    by_cases hA : 0 ≤ e ∧ e < 4
    · have hB : ¬ data.length ≤ 4096 := fun h => hcase ⟨hA.1, hA.2, h⟩
      obtain ⟨hA1, hA2⟩ := hA
      clear hcase
      repeat' (first
        | (show WL _ _ _ _ _ _ _; first
          | refine WL.pure rfl rfl rfl rfl ?_
          | refine WL.nil ?_
          | (refine WL.callL (D := [bchC B (some ⟨Tp, 0, none⟩) m fb, tabC Tp q T fp]) hS (by repeat (first | exact Pulls.nil | (apply Pulls.cons; focus (repeat (first | exact Pull.here | apply Pull.there))))) rfl rfl (fun hI => cdep_c he h0 h1 hI (hp.pull hS (by repeat (first | exact Pulls.nil | (apply Pulls.cons; focus (repeat (first | exact Pull.here | apply Pull.there)))))) hc hN) rfl rfl rfl ?_; rintro v w ⟨rfl, hmu⟩ hS; replace hS := hS _ hmu; clear hmu)
          | (refine WL.callL (D := [bchC B (some ⟨Tp, 0, none⟩) m fb, tabC Tp q T fp]) hS (by repeat (first | exact Pulls.nil | (apply Pulls.cons; focus (repeat (first | exact Pull.here | apply Pull.there))))) rfl rfl (fun hI => cstore_c id 0 data hid (by omega) hl hI (hp.pull hS (by repeat (first | exact Pulls.nil | (apply Pulls.cons; focus (repeat (first | exact Pull.here | apply Pull.there)))))) hm) rfl rfl rfl ?_; rintro v w ⟨rfl, fb2, hmu⟩ hS; replace hS := hS _ hmu; clear hmu)
          | ((fail_if_success (refine WL.wanted rfl ?_)); refine WL.guard rfl rfl rfl (fun h => ?_) (fun h => ?_) <;> (try simp only [Classical.not_not, Bool.not_eq_true', Bool.not_eq_false', Bool.not_eq_eq_eq_not, Bool.not_true, Bool.not_false, beq_iff_eq, beq_eq_false_iff_ne, ne_eq, decide_eq_decide, decide_eq_true_eq, decide_eq_false_iff_not, Bool.and_eq_true, Bool.or_eq_true, Bool.and_eq_false_iff, Bool.or_eq_false_iff] at h) <;> (try (exfalso; first | omega | contradiction))))
        | (show WC _ _ _ _ _ _; first
          | refine WC.seq ?_
          | refine WC.region ?_
          | refine WC.skip ?_
          | refine WC.condF rfl (decide_eq_false (by first | with_reducible assumption | omega)) ?_)
        | refine seqQ_n ?_)
      exact fin0n rfl ⟨rfl, 0, data, .inl ⟨rfl, rfl⟩, hso, _, hS.mutLp (by repeat (first | exact Pulls.nil | (apply Pulls.cons; focus (repeat (first | exact Pull.here | apply Pull.there)))))⟩
    · have hA3 : e < 0 ∨ 4 ≤ e := by omega
      clear hcase hA
      rcases hA3 with hA3 | hA3
      all_goals
        repeat' (first
          | (show WL _ _ _ _ _ _ _; first
            | refine WL.pure rfl rfl rfl rfl ?_
            | refine WL.nil ?_
            | (refine WL.callL (D := [bchC B (some ⟨Tp, 0, none⟩) m fb, tabC Tp q T fp]) hS (by repeat (first | exact Pulls.nil | (apply Pulls.cons; focus (repeat (first | exact Pull.here | apply Pull.there))))) rfl rfl (fun hI => cdep_c he h0 h1 hI (hp.pull hS (by repeat (first | exact Pulls.nil | (apply Pulls.cons; focus (repeat (first | exact Pull.here | apply Pull.there)))))) hc hN) rfl rfl rfl ?_; rintro v w ⟨rfl, hmu⟩ hS; replace hS := hS _ hmu; clear hmu)
            | (refine WL.callL (D := [bchC B (some ⟨Tp, 0, none⟩) m fb, tabC Tp q T fp]) hS (by repeat (first | exact Pulls.nil | (apply Pulls.cons; focus (repeat (first | exact Pull.here | apply Pull.there))))) rfl rfl (fun hI => cstore_c id 0 data hid (by omega) hl hI (hp.pull hS (by repeat (first | exact Pulls.nil | (apply Pulls.cons; focus (repeat (first | exact Pull.here | apply Pull.there)))))) hm) rfl rfl rfl ?_; rintro v w ⟨rfl, fb2, hmu⟩ hS; replace hS := hS _ hmu; clear hmu)
            | refine WL.skip rfl rfl rfl ?_
            | ((fail_if_success (refine WL.wanted rfl ?_)); refine WL.guard rfl rfl rfl (fun h => ?_) (fun h => ?_) <;> (try simp only [Classical.not_not, Bool.not_eq_true', Bool.not_eq_false', Bool.not_eq_eq_eq_not, Bool.not_true, Bool.not_false, beq_iff_eq, beq_eq_false_iff_ne, ne_eq, decide_eq_decide, decide_eq_true_eq, decide_eq_false_iff_not, Bool.and_eq_true, Bool.or_eq_true, Bool.and_eq_false_iff, Bool.or_eq_false_iff] at h) <;> (try (exfalso; first | omega | contradiction))))
          | (show WC _ _ _ _ _ _; first
            | refine WC.seq ?_
            | refine WC.region ?_
            | refine WC.skip ?_
            | refine WC.condF rfl (by with_reducible rfl) ?_)
          | refine seqQ_n ?_)
        exact fin0n rfl ⟨rfl, 0, data, .inl ⟨rfl, rfl⟩, hso, _, hS.mutLp (by repeat (first | exact Pulls.nil | (apply Pulls.cons; focus (repeat (first | exact Pull.here | apply Pull.there)))))⟩
set_option maxHeartbeats 8000000 in
set_option maxRecDepth 100000 in
theorem cadd_c (data : List UInt8) (near : Int) (hl : data.length ≤ 549755813888) (h0 : -9223372036854775808 ≤ near) (h1 : near ≤ 9223372036854775807) (hi : InL w0 [bchC B (some ⟨Tp, 0, none⟩) m fb, tabC Tp q T fp]) (hp : PowI w0 (fps [bchC B (some ⟨Tp, 0, none⟩) m fb, tabC Tp q T fp])) (hc : ChIs T.rows m vs N) (hN : N < 1048576) (hm : m.length < 1048576) :
    Cal Tryz.prog 8 [.pointer (some ⟨B, 0, none⟩), str data, .int .i64 near] w0 (fun v w' => v = .int .i64 ((N + 1 : Nat) : Int) ∧ ∃ base pay m' fb', LayOk vs near.toNat data base pay ∧ SelfOk vs near.toNat data base pay ∧
      ChIs T.rows m' (vs ++ [⟨N + 1, base, pay, data⟩]) (N + 1) ∧ Grew m m' 2 (data.length + 200) ∧ MutL w0 w' [bchC B (some ⟨Tp, 0, none⟩) m fb, tabC Tp q T fp] [bchC B (some ⟨Tp, 0, none⟩) m' fb', tabC Tp q T fp]) := by
  refine Cal.mkL hi (by kernel_rfl) Tryz.func8 rfl rfl fun hS => ?_
  have hg := hc.next
  have hc1 := hc.num
  have hml1 := note_len m ⟨nextK, putN (N + 1), false⟩
  have hg1 := (Grew.refl m).note (o := ⟨nextK, putN (N + 1), false⟩) (k := 100) (by
    have := putN_len10 (n := N + 1) (by omega)
    unfold szO
    show 4 + (putN (N + 1)).length + 32 ≤ 100
    omega) (by simp)
  have hlt : ∀ v ∈ vs, v.id < N + 1 := fun v hv => by have := hc.ids v hv; omega
  have hcome := fun {base : Nat} {pay : List UInt8} (hl2 : LayOk vs near.toNat data base pay) => hc1.come (id := N + 1) (by omega) (Nat.le_refl _) hlt hl2 hl
  have hnl := fun {base : Nat} {pay : List UInt8} (hl2 : LayOk vs near.toNat data base pay) => hg1.note (o := ⟨verK ((N + 1 : Nat) : Int), valC base pay, false⟩) (szV (by omega) (Nat.le_trans (hl2.base_le hc) (by omega)) (Nat.le_trans hl2.len hl)) (by simp)
  have hu : ∃ s u e, bgetE T.rows m nextK = (s, decide (N ≠ 0)) ∧ s.length ≤ 10 ∧ uintE (s.drop 0) = (N, u, e) := by
    by_cases hN0 : N = 0
    · subst hN0
      exact ⟨[], 0, 2, hg, Nat.zero_le _, rfl⟩
    · rw [if_neg hN0] at hg
      refine ⟨putN N, (putN N).length, 0, hg, putN_len10 (by omega), ?_⟩
      have := uintE_put N (by omega) []
      rwa [List.append_nil] at this
  obtain ⟨s, u, e, hg1, hsl, hu⟩ := hu
  generalize hm1 : noteE m ⟨nextK, putN (N + 1), false⟩ = m1 at *
  clear hg hc hg1
  repeat' (first
    | (show WL _ _ _ _ _ _ _; first
      | refine WL.pure rfl rfl rfl rfl ?_
      | refine WL.nil ?_
      | refine WL.add rfl rfl rfl (by omega) rfl rfl rfl ?_
      | (refine WL.callL (D := [bchC B (some ⟨Tp, 0, none⟩) m fb, tabC Tp q T fp]) hS (by repeat (first | exact Pulls.nil | (apply Pulls.cons; focus (repeat (first | exact Pull.here | apply Pull.there))))) rfl rfl (fun hI => bget_c nextK hI) rfl rfl rfl ?_; rintro v w ⟨rfl, hmu⟩ hS; rw [hg1]; replace hS := hS _ hmu; clear hmu)
      | (refine WL.callG rfl rfl (wnew_c s _) rfl rfl rfl ?_; rintro v w ⟨hu', r, rfl, hn⟩; replace hS := hS.new hu' hn; clear hu' hn)
      | (refine WL.callG rfl rfl (uint_e hu (hS.holds _ (List.Mem.head _)) (hS.inB_of (List.Mem.head _)) (Nat.zero_le _) (by omega)) rfl rfl rfl ?_; rintro v w ⟨rfl, hm⟩; replace hS := hS.mut hm .here; clear hm)
      | (refine WL.calls hS rfl rfl (wuint_c (N + 1) _ (by omega)) rfl rfl rfl ?_; rintro v w rfl hS)
      | (refine WL.callL (D := [bchC B (some ⟨Tp, 0, none⟩) m fb]) hS (by repeat (first | exact Pulls.nil | (apply Pulls.cons; focus (repeat (first | exact Pull.here | apply Pull.there))))) rfl rfl (fun hI => bput_c nextK (putN (N + 1)) hI.head hI.headB (by omega)) rfl rfl rfl ?_; rintro v w ⟨rfl, fb2, hmu⟩ hS; rw [hm1] at hmu; replace hS := hS _ (.of1 hmu); clear hmu)
      | (refine WL.callL (D := [bchC B (some ⟨Tp, 0, none⟩) m1 fb2, tabC Tp q T fp]) hS (by repeat (first | exact Pulls.nil | (apply Pulls.cons; focus (repeat (first | exact Pull.here | apply Pull.there))))) rfl rfl (fun hI => clay_c (N + 1) data near (by omega) hl h0 h1 hI (hp.pull hS (by repeat (first | exact Pulls.nil | (apply Pulls.cons; focus (repeat (first | exact Pull.here | apply Pull.there)))))) hc1 (by omega) (by omega)) rfl rfl rfl ?_; rintro v w ⟨rfl, base, pay, hlo, hse, fb3, hmu⟩ hS; replace hS := hS _ hmu; clear hmu))
    | (show WC _ _ _ _ _ _; first
      | refine WC.seq ?_
      | refine WC.region ?_
      | refine WC.ret ?_)
    | refine seqQ_n ?_)
  exact fin1r rfl rfl ⟨rfl, base, pay, _, _, hlo, hse, hcome hlo, (hnl hlo).up (by omega) (by have := hlo.len; omega), hS.mutLp (by repeat (first | exact Pulls.nil | (apply Pulls.cons; focus (repeat (first | exact Pull.here | apply Pull.there)))))⟩
end
end Go.Proofs.YtnefkegefjldjaaGreatDoor

/- What is proved: 'slices.Sort' of a row of numbers that the caller owns. Conditions: bounded length. -/
set_option linter.unusedSimpArgs false
set_option linter.unusedVariables false
namespace Go.Proofs.YtnefkegefjldjaaGreatDoor
open Go Go.J Go.RowKit Go.Maps Go.Sort Go.Shelf

def ints (l : List Int) : List Value := l.map (Value.int .i64)
theorem ints_len (l : List Int) : (ints l).length = l.length := by unfold ints; rw [List.length_map]
theorem ints_at {l : List Int} {k : Nat} (h : k < l.length) : (ints l)[k]? = some (.int .i64 l[k]) := by unfold ints; rw [List.getElem?_map, List.getElem?_eq_getElem h]; rfl
theorem ints_snoc (l : List Int) (x : Int) : ints l ++ [.int .i64 x] = ints (l ++ [x]) := by unfold ints; rw [List.map_append]; rfl
theorem RowAt.putI {w : World} {e : TypeId} {g off n cap : Nat} {xs : List Value} (h : RowAt w e 1 (.slice (some ⟨g, off, none⟩) n cap) n xs) (ys : List Int) (hy : ys.length = n) (k : Nat) (os : Array Obj) :
    RowAt (grow (putRow (Value.int .i64) (Sort.ahead w k) g off ys.toArray) os) e 1 (.slice (some ⟨g, off, none⟩) n cap) n (ints ys) ∧ Upd [g] w (grow (putRow (Value.int .i64) (Sort.ahead w k) g off ys.toArray) os) := by
  rcases h.2 with ⟨e0, _⟩ | ⟨g', off', cap', cur, e0, hg, hn, hm, hs, ht⟩
  · cases e0
  · simp only [Value.slice.injEq, Option.some.injEq, Addr.mk.injEq, true_and, and_true] at e0
    obtain ⟨⟨rfl, rfl⟩, rfl⟩ := e0
    have hlt : g < w.heap.size := (Array.getElem?_eq_some_iff.1 hg).1
    have hsz : (putRow (Value.int .i64) (Sort.ahead w k) g off ys.toArray).heap.size = w.heap.size := by rw [Go.Sort.size_putRow]; rfl
    have hput : (putRow (Value.int .i64) (Sort.ahead w k) g off ys.toArray).heap[g]? = some (.cells (putCells (Value.int .i64) off ys.toArray ⟨cur⟩) e (0, 0)) := by
      simp [putRow, mapBlock, Sort.ahead, Array.getElem?_modify, hg, onCells]
    have hgr : ∀ b, b < w.heap.size → (grow (putRow (Value.int .i64) (Sort.ahead w k) g off ys.toArray) os).heap[b]? = (putRow (Value.int .i64) (Sort.ahead w k) g off ys.toArray).heap[b]? := fun b hb => by
      show ((putRow (Value.int .i64) (Sort.ahead w k) g off ys.toArray).heap ++ os)[b]? = _
      rw [Array.getElem?_append_left (by rw [hsz]; exact hb)]
    refine ⟨⟨by rw [ints_len, hy, Nat.mul_one], .inr ⟨g, off, cap, (putCells (Value.int .i64) off ys.toArray ⟨cur⟩).toList, rfl, ?_, hn, hm, ?_, ?_⟩⟩, ⟨rfl, rfl, rfl, ?_, fun b hb hnb => ?_⟩⟩
    · rw [hgr g hlt, hput]
    · simpa [putCells] using hs
    · apply List.ext_getElem?
      intro j
      rw [List.getElem?_take, List.getElem?_drop, Array.getElem?_toList, ints, List.getElem?_map]
      by_cases hj : j < n
      · have hjc : off + j < cur.length := by omega
        simp only [Nat.mul_one, if_pos hj, putCells, Array.getElem?_mapIdx]
        rw [show (Array.mk cur)[off + j]? = some cur[off + j] from by rw [show (Array.mk cur) = cur.toArray from rfl, List.getElem?_toArray]; exact List.getElem?_eq_getElem hjc]
        simp only [Option.map_some]
        rw [if_pos (by simp; omega), List.getElem?_eq_getElem (by omega)]
        simp [getElem!_pos, show j < ys.length by omega]
      · rw [if_neg (by omega), List.getElem?_eq_none (by omega)]
        rfl
    · show w.heap.size ≤ ((putRow (Value.int .i64) (Sort.ahead w k) g off ys.toArray).heap ++ os).size
      rw [Array.size_append, hsz]
      exact Nat.le_add_right _ _
    · rw [hgr b hb]
      have hne : ¬ g = b := fun e => hnb (by rw [← e]; exact List.mem_cons_self ..)
      simp [putRow, mapBlock, Sort.ahead, Array.getElem?_modify, hne]
theorem RowAt.holdsI {w : World} {e : TypeId} {g off n cap : Nat} {l : List Int} (h : RowAt w e 1 (.slice (some ⟨g, off, none⟩) n cap) n (ints l)) (hl : l.length = n) : Holds (Value.int .i64) w g off l.toArray := by
  intro j hj
  have hj' : j < l.length := by simpa using hj
  rcases h.2 with ⟨e0, _⟩ | ⟨g', off', cap', cur, e0, hg, hn, hm, hs, ht⟩
  · cases e0
  · simp only [Value.slice.injEq, Option.some.injEq, Addr.mk.injEq, true_and, and_true] at e0
    obtain ⟨⟨rfl, rfl⟩, rfl⟩ := e0
    refine ⟨?_, by simp [World.frozen?, hg]⟩
    have hc := h.cells j (.int .i64 l[j]) (by rw [ints_at hj'])
    rw [hc]
    simp [getElem!_pos, hj']
/-- a row of texts sorted -/
theorem sortI_c {A : Option Addr} {cap : Nat} {l : List Int} {w0 : World} (hc : (Chunk.own (.slice A l.length cap) 3 1 l.length (ints l)).holds w0) (hi : inB (.own (.slice A l.length cap) 3 1 l.length (ints l)) w0) (hl : l.length ≤ 1099511627776) :
    Cal Tryz.prog 52 [.slice A l.length cap] w0 (fun v w' => v = .tuple #[] ∧ Mut w0 w' (.own (.slice A l.length cap) 3 1 l.length (ints l)) (.own (.slice A l.length cap) 3 1 l.length (ints (l.mergeSort (fun x y => decide (x ≤ y)))))) := by
  rcases l with _ | ⟨x, l⟩
  · exact ⟨by kernel_rfl, (AnyM.slices_Sort_int_none Tryz.sortIL A cap w0).mono fun e w' ⟨h1, h2⟩ => ⟨_, h1, rfl, by rw [h2, List.mergeSort_nil]; exact ⟨.refl _ _, hc, fun b hb => .inl hb⟩⟩⟩
  · generalize hll : x :: l = ll at *
    have hpos : 0 < ll.length := by rw [← hll]; simp
    have hA : ∃ g off, A = some ⟨g, off, none⟩ := by
      rcases hc.2 with ⟨e0, hz⟩ | ⟨g, off, cap', cur, e0, _⟩
      · omega
      · simp only [Value.slice.injEq] at e0; exact ⟨g, off, e0.1⟩
    obtain ⟨g, off, rfl⟩ := hA
    have hg : g < w0.heap.size := hi g (by simp [Chunk.fp, Value.ownBlock])
    refine ⟨by kernel_rfl, (AnyM.slices_Sort_int Tryz.sortIL g off cap ll w0 (RowAt.holdsI hc rfl) hg (by omega)).mono fun e w' ⟨h1, n, os, h2⟩ => ⟨_, h1, rfl, ?_⟩⟩
    subst h2
    have hlen : (ll.mergeSort (fun x y => decide (x ≤ y))).length = ll.length := (List.mergeSort_perm _ _).length_eq
    obtain ⟨r1, r2⟩ := RowAt.putI hc (ll.mergeSort (fun x y => decide (x ≤ y))) hlen n os
    exact ⟨by simpa [Chunk.fp, Value.ownBlock] using r2, r1, fun b hb => .inl hb⟩
end Go.Proofs.YtnefkegefjldjaaGreatDoor

/- What is proved: what Versions, Bytes and Drop of the package chain answer and make of a batch. Conditions: texts and lists of bounded length; the library's table of powers laid. -/
set_option linter.unusedSimpArgs false
set_option linter.unusedVariables false
namespace Go.Proofs.YtnefkegefjldjaaGreatDoor
open Go Go.J Go.RowKit
open Go.Lib (decDigits)

def natI (n : Nat) : Int := n
def idsE (vs : List Ver) : List Int := vs.map fun v => (v.id : Int)
theorem idsE_len (vs : List Ver) : (idsE vs).length = vs.length := by unfold idsE; rw [List.length_map]
theorem idsE_get {vs : List Ver} {j : Nat} (h : j < vs.length) : (ints (idsE vs))[j]? = some (.int .i64 (vs[j].id : Int)) := by
  rw [ints_at (by rw [idsE_len]; exact h)]
  unfold idsE
  rw [List.getElem_map]
theorem sorted_ids {ns : List Nat} {vs : List Ver} (hp : ns.Perm (vs.map Ver.id)) (hs : (vs.map Ver.id).Pairwise (· < ·)) : (ns.map natI).mergeSort (fun x y => decide (x ≤ y)) = idsE vs := by
  have tr : ∀ a b c : Int, decide (a ≤ b) = true → decide (b ≤ c) = true → decide (a ≤ c) = true := fun a b c h1 h2 => by simp only [decide_eq_true_eq] at *; exact Int.le_trans h1 h2
  have to : ∀ a b : Int, (decide (a ≤ b) || decide (b ≤ a)) = true := fun a b => by simp only [Bool.or_eq_true, decide_eq_true_eq]; exact Int.le_total a b
  have h2 : (idsE vs).Pairwise fun a b => decide (a ≤ b) = true := by
    unfold idsE
    rw [List.pairwise_map]
    rw [List.pairwise_map] at hs
    exact hs.imp fun {a b} h => decide_eq_true (by omega)
  have h3 : (ns.map natI).Perm (idsE vs) := by
    have := hp.map natI
    rwa [List.map_map] at this
  refine List.Perm.eq_of_pairwise (le := fun a b => decide (a ≤ b) = true) (fun a b _ _ h1 h2 => ?_) (List.pairwise_mergeSort tr to _) h2 ((List.mergeSort_perm _ _).trans h3)
  simp only [decide_eq_true_eq] at h1 h2
  exact Int.le_antisymm h1 h2
set_option maxHeartbeats 4000000 in
set_option maxRecDepth 100000 in
theorem litePre_c (s p : List UInt8) (w0 : World) : Cal Tryz.prog 100 [str s, str p] w0 (fun v w' => Upd [] w0 w' ∧ v = .bool (decide (s.take p.length = p))) := by
  refine Cal.mk' (by kernel_rfl) Tryz.func100 rfl rfl fun hS => ?_
  by_cases hl : p.length ≤ s.length
  · repeat' (first
      | (show WL _ _ _ _ _ _ _; first
        | refine WL.pure rfl rfl rfl rfl ?_
        | refine WL.nil ?_
        | refine WL.highS rfl rfl rfl rfl (by omega) rfl rfl rfl ?_
        | ((fail_if_success (refine WL.wanted rfl ?_)); refine WL.guard rfl rfl rfl (fun h => ?_) (fun h => ?_) <;> (try simp only [Classical.not_not, Bool.not_eq_true', Bool.not_eq_false', Bool.not_eq_eq_eq_not, Bool.not_true, Bool.not_false, beq_iff_eq, beq_eq_false_iff_ne, ne_eq, decide_eq_decide, decide_eq_true_eq, decide_eq_false_iff_not, Bool.and_eq_true, Bool.or_eq_true, Bool.and_eq_false_iff, Bool.or_eq_false_iff] at h) <;> (try (exfalso; first | omega | contradiction))))
      | (show WC _ _ _ _ _ _; first
        | refine WC.seq ?_
        | refine WC.region ?_
        | refine WC.ret ?_)
      | refine seqQ_n ?_)
    exact fin1r rfl rfl ⟨hS.upd, rfl⟩
  · have hne : decide (s.take p.length = p) = false := decide_eq_false fun e => hl (by rw [← e]; simp; omega)
    rw [hne]
    repeat' (first
      | (show WL _ _ _ _ _ _ _; first
        | refine WL.pure rfl rfl rfl rfl ?_
        | refine WL.nil ?_
        | refine WL.skip rfl rfl rfl ?_
        | ((fail_if_success (refine WL.wanted rfl ?_)); refine WL.guard rfl rfl rfl (fun h => ?_) (fun h => ?_) <;> (try simp only [Classical.not_not, Bool.not_eq_true', Bool.not_eq_false', Bool.not_eq_eq_eq_not, Bool.not_true, Bool.not_false, beq_iff_eq, beq_eq_false_iff_ne, ne_eq, decide_eq_decide, decide_eq_true_eq, decide_eq_false_iff_not, Bool.and_eq_true, Bool.or_eq_true, Bool.and_eq_false_iff, Bool.or_eq_false_iff] at h) <;> (try (exfalso; first | omega | contradiction))))
      | (show WC _ _ _ _ _ _; first
        | refine WC.seq ?_
        | refine WC.region ?_
        | refine WC.ret ?_)
      | refine seqQ_n ?_)
    exact fin1r rfl rfl ⟨hS.upd, rfl⟩
set_option maxHeartbeats 4000000 in
set_option maxRecDepth 100000 in
theorem trimPre_c (p r : List UInt8) (w0 : World) : Cal Tryz.prog 51 [str (p ++ r), str p] w0 (fun v w' => Upd [] w0 w' ∧ v = str r) := by
  have hd : decide ((p ++ r).take p.length = p) = true := by rw [List.take_left]; exact decide_eq_true rfl
  have hr : (p ++ r).drop p.length = r := List.drop_left
  have hl : p.length ≤ (p ++ r).length := by rw [List.length_append]; omega
  generalize p ++ r = s at *
  have h0 : ∀ w0, Cal Tryz.prog 82 [str s, str p] w0 (fun v w' => Upd [] w0 w' ∧ v = str r) := by
    intro w0
    refine Cal.mk' (by kernel_rfl) Tryz.func82 rfl rfl fun hS => ?_
    repeat' (first
      | (show WL _ _ _ _ _ _ _; first
        | refine WL.pure rfl rfl rfl rfl ?_
        | refine WL.nil ?_
        | (refine WL.calls hS rfl rfl (litePre_c s p _) rfl rfl rfl ?_; rintro v w rfl hS; rw [hd])
        | refine WL.lowS rfl rfl rfl rfl (by omega) rfl rfl rfl ?_)
      | (show WC _ _ _ _ _ _; first
        | refine WC.seq ?_
        | refine WC.region ?_
        | refine WC.ret ?_
        | refine WC.condT rfl (by with_reducible rfl) ?_)
      | refine seqQ_n ?_
      | refine seqQ_r ?_)
    rw [hr]
    exact fin1r rfl rfl ⟨hS.upd, rfl⟩
  refine Cal.mk' (by kernel_rfl) Tryz.func51 rfl rfl fun hS => ?_
  repeat' (first
    | (show WL _ _ _ _ _ _ _; first
      | refine WL.pure rfl rfl rfl rfl ?_
      | refine WL.nil ?_
      | (refine WL.calls hS rfl rfl (h0 _) rfl rfl rfl ?_; rintro v w rfl hS))
    | (show WC _ _ _ _ _ _; first
      | refine WC.seq ?_
      | refine WC.region ?_
      | refine WC.ret ?_)
    | refine seqQ_n ?_)
  exact fin1r rfl rfl ⟨hS.upd, rfl⟩
section
variable {B Tp q : Nat} {T : Tb} {m : Bch} {fb fp : List Nat} {vs : List Ver} {N : Nat} {w0 : World}
theorem ChIs.len {rows : Rws} (h : ChIs rows m vs N) : vs.length ≤ N := by
  have h1 := h.nd.length_le_of_subset (l₂ := List.range' 1 N) fun n hn => by
    obtain ⟨v, hv, rfl⟩ := List.mem_map.1 hn
    have := h.ids v hv
    rw [List.mem_range'_1]; omega
  rwa [List.length_map, List.length_range'] at h1
set_option maxHeartbeats 8000000 in
set_option maxRecDepth 100000 in
theorem cvers_c (hi : InL w0 [bchC B (some ⟨Tp, 0, none⟩) m fb, tabC Tp q T fp]) (hc : ChIs T.rows m vs N) (hN : N ≤ 1048576) (hm : m.length ≤ 549755813888) (hr : T.rows.length ≤ 549755813888) :
    Cal Tryz.prog 27 [.pointer (some ⟨B, 0, none⟩)] w0 (fun v w' => ∃ A cap, v = .slice A vs.length cap ∧ MutL w0 w' [bchC B (some ⟨Tp, 0, none⟩) m fb, tabC Tp q T fp] [bchC B (some ⟨Tp, 0, none⟩) m fb, tabC Tp q T fp, .own (.slice A vs.length cap) 3 1 vs.length (ints (idsE vs))]) := by
  refine Cal.mkL hi (by kernel_rfl) Tryz.func27 rfl rfl fun hS => ?_
  obtain ⟨ns, hks, hpe⟩ := hc.keys
  have hnl : ns.length = vs.length := by have := hpe.length_eq; rwa [List.length_map] at this
  have hso := sorted_ids hpe hc.srt
  have hnN : ∀ n ∈ ns, n ≤ N := fun n hn => by
    obtain ⟨v, hv, rfl⟩ := List.mem_map.1 (hpe.mem_iff.1 hn)
    exact (hc.ids v hv).2
  have hvl := hc.len
  have hbk := fun (w0 : World) (hi : InL w0 [bchC B (some ⟨Tp, 0, none⟩) m fb, tabC Tp q T fp]) => bkeys_c [118, 47] hi hr hm
  rw [hks, List.length_map] at hbk
  rw [← hnl]
  clear hpe hc hks
  repeat' (first
    | (show WL _ _ _ _ _ _ _; first
      | refine WL.pure rfl rfl rfl rfl ?_
      | refine WL.nil ?_
      | (refine WL.slit (t := 23) hS rfl rfl rfl rfl rfl ?_; intro w ob hS; have hS := hS.boxRow (n := 0) (size := 1) .here rfl (Nat.zero_le _))
      | (refine WL.callL (D := [bchC B (some ⟨Tp, 0, none⟩) m fb, tabC Tp q T fp]) hS (by repeat (first | exact Pulls.nil | (apply Pulls.cons; focus (repeat (first | exact Pull.here | apply Pull.there))))) rfl rfl (fun hI => hbk _ hI) rfl rfl rfl ?_; rintro v w ⟨AK, capK, rfl, hmu⟩ hS; replace hS := hS _ hmu; clear hmu))
    | (show WC _ _ _ _ _ _; first
      | refine WC.seq ?_
      | refine WC.region ?_
      | refine WC.block ?_)
    | refine seqQ_n ?_)
  clear hbk
  replace hS := hS.droplast2 (D := [.own (.slice (some ⟨ob, 0, none⟩) 0 0) 3 1 0 (ints []), .own (.slice AK ns.length capK) 9 1 ns.length (strs (ns.map fun (n : Nat) => verK (n : Int))), bchC B (some ⟨Tp, 0, none⟩) m fb, tabC Tp q T fp]) (by repeat (first | exact Pulls.nil | (apply Pulls.cons; focus (repeat (first | exact Pull.here | apply Pull.there)))))
  refine WC.loop (σ := Nat × Option Addr × Nat) [10, 11] (fun (j, OA, oc) => [(3, .slice OA j oc), (12, .int .i64 (j : Int))])
    (fun (j, OA, oc) w => j ≤ ns.length ∧ St w0 (fps [bchC B (some ⟨Tp, 0, none⟩) m fb, tabC Tp q T fp]) w [.own (.slice OA j oc) 3 1 j (ints ((ns.map natI).take j)), .own (.slice AK ns.length capK) 9 1 ns.length (strs (ns.map fun (n : Nat) => verK (n : Int))), bchC B (some ⟨Tp, 0, none⟩) m fb, tabC Tp q T fp] (ZL w0 [bchC B (some ⟨Tp, 0, none⟩) m fb, tabC Tp q T fp]))
    (fun (j, _) => ns.length - j) (0, _, 0) ⟨Nat.zero_le _, hS⟩ ⟨rfl, rfl, trivial⟩ ?_
  clear hS
  rintro ⟨j, OA, oc⟩ g w ⟨hj, hS⟩
  show WC _ _ _ (lf _ [(3, .slice OA j oc), (12, .int .i64 (j : Int))] _ _) _ _
  by_cases hlt : j < ns.length
  · have hkx : (strs (ns.map fun (n : Nat) => verK (n : Int)))[j * 1]? = some (str ([118, 47] ++ Lib.itoa (ns[j] : Int))) := by
      rw [Nat.mul_one]
      have h2 : j < (ns.map fun (n : Nat) => verK (n : Int)).length := by rw [List.length_map]; exact hlt
      rw [strs_at h2, List.getElem_map]
      rfl
    obtain ⟨kg, ko, rfl⟩ := hS.own_addr (A := AK) (n := ns.length) (by repeat (first | exact List.Mem.head _ | apply List.Mem.tail)) (Nat.lt_of_le_of_lt (Nat.zero_le j) hlt)
    have htk : ints ((ns.map natI).take j) ++ [.int .i64 (ns[j] : Int)] = ints ((ns.map natI).take (j + 1)) := by
      rw [ints_snoc, List.take_succ_eq_append_getElem (by rw [List.length_map]; exact hlt), List.getElem_map]
      rfl
    have hnj := hnN _ (List.getElem_mem hlt)
    have hit := itoa_nat ns[j]
    have hval := dec_val ns[j]
    have hdig := dec_dig ns[j]
    have hdne := decDigits_ne ns[j]
    have hdlen := dec_len (n := ns[j]) (k := 12) (by omega)
    rw [← hit] at hval hdig hdne hdlen
    have hcap := (hS.own_len (List.Mem.head _)).2.2
    generalize ns[j] = n at *
    generalize Lib.itoa (n : Int) = s at *
    clear hso hnN hit
    repeat' (first
      | (show WL _ _ _ _ _ _ _; first
        | refine WL.pure rfl rfl rfl rfl ?_
        | refine WL.nil ?_
        | refine WL.add rfl rfl rfl (by omega) rfl rfl rfl ?_
        | (refine WL.load hS rfl rfl (LdOk.ownAt (by repeat (first | exact List.Mem.head _ | apply List.Mem.tail)) rfl ⟨_, rfl⟩ hkx rfl) rfl rfl rfl ?_)
        | (refine WL.calls hS rfl rfl (trimPre_c [118, 47] s _) rfl rfl rfl ?_; rintro v w rfl hS)
        | (refine WL.calls hS rfl rfl (atoi_c s hdne hdlen hdig _) rfl rfl rfl ?_; rintro v w rfl hS; rw [hval])
        | (refine WL.app hS rfl rfl rfl rfl (RdOk.box (by repeat (first | exact List.Mem.head _ | apply List.Mem.tail))) rfl rfl (fun A cap => by repeat (first | exact Repl.here | apply Repl.there)) (by omega) rfl rfl rfl ?_; intro A3 cap3 w hS)
        | refine WL.index rfl rfl rfl rfl (by first | with_reducible assumption | omega) rfl rfl rfl rfl ?_
        | (refine WL.slit hS rfl rfl rfl rfl rfl ?_; intro w b hS))
      | (show WC _ _ _ _ _ _; first
        | refine WC.seq ?_
        | refine WC.region ?_
        | refine WC.block ?_
        | refine WC.skip ?_
        | refine WC.condT rfl (decide_eq_true (by first | with_reducible assumption | omega)) ?_)
      | refine seqQ_n ?_
      | refine blkQ_n ?_)
    refine rndQ_n (j + 1, A3, cap3) ⟨by omega, ?_⟩ (by show ns.length - (j + 1) < ns.length - j; omega) ⟨rfl, vint (by omega), trivial⟩ ⟨rfl, rfl, trivial⟩
    rw [← htk]
    exact hS.droplast2 (D := [.own (.slice A3 (j + 1) cap3) 3 1 (j + 1) (ints ((ns.map natI).take j) ++ [.int .i64 (n : Int)]), .own (.slice (some ⟨kg, ko, none⟩) ns.length capK) 9 1 ns.length (strs (ns.map fun (n : Nat) => verK (n : Int))), bchC B (some ⟨Tp, 0, none⟩) m fb, tabC Tp q T fp]) (by repeat (first | exact Pulls.nil | (apply Pulls.cons; focus (repeat (first | exact Pull.here | apply Pull.there)))))
  · have hje : j = ns.length := by omega
    subst hje
    have htk : (ns.map natI).take ns.length = ns.map natI := by
      rw [show ns.length = (ns.map natI).length by rw [List.length_map], List.take_length]
    rw [htk] at hS
    have hsl : (ns.map natI).length = ns.length := List.length_map ..
    have hsc := fun (w0 : World) h1 h2 => sortI_c (A := OA) (cap := oc) (l := ns.map natI) (w0 := w0) h1 h2 (by rw [hsl]; omega)
    rw [hso, hsl] at hsc
    clear hso hnN
    repeat' (first
      | (show WL _ _ _ _ _ _ _; first
        | refine WL.pure rfl rfl rfl rfl ?_
        | refine WL.nil ?_
        | (refine WL.callG rfl rfl (hsc _ (hS.holds _ (List.Mem.head _)) (hS.inB_of (List.Mem.head _))) rfl rfl rfl ?_; rintro v w ⟨rfl, hmut⟩; have hS := hS.mut hmut .here; clear hmut))
      | (show WC _ _ _ _ _ _; first
        | refine WC.seq ?_
        | refine WC.region ?_
        | refine WC.exit ?_
        | refine WC.ret ?_
        | refine WC.condF rfl (decide_eq_false (by first | with_reducible assumption | omega)) ?_)
      | refine seqQ_n ?_
      | refine seqQ_x ?_
      | refine blkQ_hit rfl ?_
      | refine rndQ_x ?_)
    exact fin1r rfl rfl ⟨_, _, rfl, hS.mutLp (by repeat (first | exact Pulls.nil | (apply Pulls.cons; focus (repeat (first | exact Pull.here | apply Pull.there)))))⟩
def payS (vs : List Ver) : Nat := (vs.map fun v => v.pay.length).sum
theorem payS_snoc {vs : List Ver} {j : Nat} (h : j < vs.length) : payS (vs.take (j + 1)) = payS (vs.take j) + vs[j].pay.length := by
  unfold payS
  rw [List.take_succ_eq_append_getElem h, List.map_append, List.sum_append]
  simp
theorem payS_le {vs : List Ver} {K : Nat} (h : ∀ v ∈ vs, v.pay.length ≤ K) : payS vs ≤ vs.length * K := by
  induction vs with
  | nil => simp [payS]
  | cons a l ih =>
    have h1 := ih fun v hv => h v (List.mem_cons_of_mem _ hv)
    have h2 := h a (List.mem_cons_self ..)
    unfold payS at *
    rw [List.map_cons, List.sum_cons, List.length_cons, Nat.add_mul, Nat.one_mul]
    omega
set_option maxHeartbeats 8000000 in
set_option maxRecDepth 100000 in
theorem cbytes_c (hi : InL w0 [bchC B (some ⟨Tp, 0, none⟩) m fb, tabC Tp q T fp]) (hp : PowI w0 (fps [bchC B (some ⟨Tp, 0, none⟩) m fb, tabC Tp q T fp])) (hc : ChIs T.rows m vs N) (hN : N ≤ 1048576) (hm : m.length ≤ 549755813888) (hr : T.rows.length ≤ 549755813888) :
    Cal Tryz.prog 12 [.pointer (some ⟨B, 0, none⟩)] w0 (fun v w' => v = .int .i64 (payS vs : Int) ∧ MutL w0 w' [bchC B (some ⟨Tp, 0, none⟩) m fb, tabC Tp q T fp] [bchC B (some ⟨Tp, 0, none⟩) m fb, tabC Tp q T fp]) := by
  refine Cal.mkL hi (by kernel_rfl) Tryz.func12 rfl rfl fun hS => ?_
  have hvl := hc.len
  repeat' (first
    | (show WL _ _ _ _ _ _ _; first
      | refine WL.pure rfl rfl rfl rfl ?_
      | refine WL.nil ?_
      | (refine WL.callL (D := [bchC B (some ⟨Tp, 0, none⟩) m fb, tabC Tp q T fp]) hS (by repeat (first | exact Pulls.nil | (apply Pulls.cons; focus (repeat (first | exact Pull.here | apply Pull.there))))) rfl rfl (fun hI => cvers_c hI hc hN hm hr) rfl rfl rfl ?_; rintro v w ⟨AV, capV, rfl, hmu⟩ hS; replace hS := hS _ hmu; clear hmu))
    | (show WC _ _ _ _ _ _; first
      | refine WC.seq ?_
      | refine WC.region ?_
      | refine WC.block ?_)
    | refine seqQ_n ?_)
  refine WC.loop (σ := Nat) [0, 10, 11] (fun j => [(3, .int .i64 (payS (vs.take j) : Int)), (12, .int .i64 (j : Int))])
    (fun j w => j ≤ vs.length ∧ St w0 (fps [bchC B (some ⟨Tp, 0, none⟩) m fb, tabC Tp q T fp]) w [bchC B (some ⟨Tp, 0, none⟩) m fb, tabC Tp q T fp, .own (.slice AV vs.length capV) 3 1 vs.length (ints (idsE vs))] (ZL w0 [bchC B (some ⟨Tp, 0, none⟩) m fb, tabC Tp q T fp]))
    (fun j => vs.length - j) 0 ⟨Nat.zero_le _, hS.droplast2 (by repeat (first | exact Pulls.nil | (apply Pulls.cons; focus (repeat (first | exact Pull.here | apply Pull.there)))))⟩ ⟨rfl, rfl, trivial⟩ ?_
  clear hS
  rintro j g w ⟨hj, hS⟩
  show WC _ _ _ (lf _ [(3, .int .i64 (payS (vs.take j) : Int)), (12, .int .i64 (j : Int))] _ _) _ _
  have hpl := fun v (hv : v ∈ vs.take j) => hc.pay_len v (List.mem_of_mem_take hv)
  have hps := payS_le hpl
  rw [List.length_take] at hps
  by_cases hlt : j < vs.length
  · obtain ⟨kg, ko, rfl⟩ := hS.own_addr (A := AV) (n := vs.length) (by repeat (first | exact List.Mem.head _ | apply List.Mem.tail)) (Nat.lt_of_le_of_lt (Nat.zero_le j) hlt)
    have hkx : (ints (idsE vs))[j * 1]? = some (.int .i64 (vs[j].id : Int)) := by rw [Nat.mul_one]; exact idsE_get hlt
    have hx := List.getElem_mem hlt
    have hlv := loadV_of hc hx
    have hxi := hc.ids _ hx
    have hxp := hc.pay_len _ hx
    have hsn := payS_snoc hlt
    generalize payS (vs.take j) = sm at *
    generalize vs[j].pay = pay at *
    generalize vs[j].base = base at *
    generalize vs[j].id = id at *
    have hsm : sm ≤ 1048576 * 549755813888 := by
      refine Nat.le_trans hps (Nat.mul_le_mul_right _ ?_)
      omega
    clear hpl hps
    repeat' (first
      | (show WL _ _ _ _ _ _ _; first
        | refine WL.pure rfl rfl rfl rfl ?_
        | refine WL.nil ?_
        | refine WL.add rfl rfl rfl (by omega) rfl rfl rfl ?_
        | (refine WL.load hS rfl rfl (LdOk.ownAt (by repeat (first | exact List.Mem.head _ | apply List.Mem.tail)) rfl ⟨_, rfl⟩ hkx rfl) rfl rfl rfl ?_)
        | (refine WL.callL (D := [bchC B (some ⟨Tp, 0, none⟩) m fb, tabC Tp q T fp]) hS (by repeat (first | exact Pulls.nil | (apply Pulls.cons; focus (repeat (first | exact Pull.here | apply Pull.there))))) rfl rfl (fun hI => cload_c (vs := vs) (N := N) (id : Int) (by omega) (by omega) hI (hp.pull hS (by repeat (first | exact Pulls.nil | (apply Pulls.cons; focus (repeat (first | exact Pull.here | apply Pull.there)))))) hc hN) rfl rfl rfl ?_; rintro v w ⟨rfl, hmu⟩ hS; rw [hlv]; replace hS := hS _ hmu; clear hmu)
        | refine WL.index rfl rfl rfl rfl (by first | with_reducible assumption | omega) rfl rfl rfl rfl ?_)
      | (show WC _ _ _ _ _ _; first
        | refine WC.seq ?_
        | refine WC.region ?_
        | refine WC.block ?_
        | refine WC.skip ?_
        | refine WC.condT rfl (decide_eq_true (by first | with_reducible assumption | omega)) ?_)
      | refine seqQ_n ?_
      | refine blkQ_n ?_)
    exact rndQ_n (j + 1) ⟨by omega, hS.droplast2 (by repeat (first | exact Pulls.nil | (apply Pulls.cons; focus (repeat (first | exact Pull.here | apply Pull.there)))))⟩ (by show vs.length - (j + 1) < vs.length - j; omega) ⟨vint (by omega), vint (by omega), trivial⟩ ⟨rfl, rfl, rfl, trivial⟩
  · have hje : j = vs.length := by omega
    subst hje
    rw [List.take_length]
    clear hpl hps
    repeat' (first
      | (show WL _ _ _ _ _ _ _; first
        | refine WL.pure rfl rfl rfl rfl ?_
        | refine WL.nil ?_)
      | (show WC _ _ _ _ _ _; first
        | refine WC.seq ?_
        | refine WC.region ?_
        | refine WC.exit ?_
        | refine WC.ret ?_
        | refine WC.condF rfl (decide_eq_false (by first | with_reducible assumption | omega)) ?_)
      | refine seqQ_n ?_
      | refine seqQ_x ?_
      | refine blkQ_hit rfl ?_
      | refine rndQ_x ?_)
    exact fin1r rfl rfl ⟨rfl, hS.mutLp (by repeat (first | exact Pulls.nil | (apply Pulls.cons; focus (repeat (first | exact Pull.here | apply Pull.there)))))⟩
end
end Go.Proofs.YtnefkegefjldjaaGreatDoor

/- What is proved: what Drop of the package chain makes of a batch. Conditions: texts and lists of bounded length; the library's table of powers laid. -/
set_option linter.unusedSimpArgs false
set_option linter.unusedVariables false
namespace Go.Proofs.YtnefkegefjldjaaGreatDoor
open Go Go.J Go.RowKit

/-- where Drop stands: the versions up to a place are told by others -/
structure DropIs (rows : Rws) (m0 : Bch) (vs0 : List Ver) (y : Ver) (N j : Nat) (vs : List Ver) (m : Bch) : Prop where
  is_ : ChIs rows m vs N
  dat : vs.map idData = vs0.map idData
  yin : y ∈ vs
  done : ∀ v ∈ vs, v.base = y.id → ∀ i (h : i < vs0.length), i < j → vs0[i].id ≠ v.id
  grew : Grew m0 m j (j * 4300)
theorem ids_of_data {a b : List Ver} (h : a.map idData = b.map idData) : a.map Ver.id = b.map Ver.id := by
  have := congrArg (List.map Prod.fst) h
  rwa [List.map_map, List.map_map] at this
section
variable {rows : Rws} {m0 : Bch} {vs0 vs : List Ver} {y : Ver} {N j : Nat} {m : Bch}
theorem DropIs.at_ (h : DropIs rows m0 vs0 y N j vs m) (hj : j < vs0.length) : ∃ x ∈ vs, x.id = vs0[j].id ∧ x.data = vs0[j].data := by
  have h1 := congrArg (fun l => l[j]?) h.dat
  have hl : vs.length = vs0.length := by have := congrArg List.length h.dat; rwa [List.length_map, List.length_map] at this
  rw [List.getElem?_map, List.getElem?_map, List.getElem?_eq_getElem hj, List.getElem?_eq_getElem (by omega)] at h1
  have h1 := Option.some.inj h1
  exact ⟨vs[j], List.getElem_mem _, congrArg Prod.fst h1, congrArg Prod.snd h1⟩
theorem DropIs.keep (h : DropIs rows m0 vs0 y N j vs m) (hj : j < vs0.length) {x : Ver} (hx : x ∈ vs) (hxi : x.id = vs0[j].id) (hb : x.base ≠ y.id) : DropIs rows m0 vs0 y N (j + 1) vs m := by
  refine ⟨h.is_, h.dat, h.yin, fun v hv hvb i hi hij e => ?_, h.grew.up (by omega) (by omega)⟩
  rcases Nat.lt_or_ge i j with hl | hg
  · exact h.done v hv hvb i hi hl e
  · obtain rfl : i = j := by omega
    have := nd_id h.is_.nd hx hv (hxi.trans e)
    subst this
    exact hb hvb
theorem DropIs.lay (h : DropIs rows m0 vs0 y N j vs m) (hj : j < vs0.length) {x : Ver} (hx : x ∈ vs) (hxi : x.id = vs0[j].id) (hxb : x.base = y.id) (hN : N ≤ 1048576) {base : Nat} {pay : List UInt8} (hl : LayOk vs y.base x.data base pay) :
    DropIs rows m0 vs0 y N (j + 1) (updC vs ⟨x.id, base, pay, x.data⟩) (noteE m ⟨x.key, valC base pay, false⟩) := by
  have hyi := (h.is_.ids y h.yin).1
  have hlt := (h.is_.by_ x hx (by omega)).1
  have hx40 := (h.is_.by_ x hx (by omega)).2.1
  have hxi2 := h.is_.ids x hx
  have hbl := hl.base_le h.is_
  have hpl := hl.len
  have hnl := h.grew.note (o := ⟨x.key, valC base pay, false⟩) (k := 4300) (Nat.le_trans (szV (by omega) (by omega) (by omega)) (by omega)) (by simp)
  refine ⟨h.is_.relay hx h.yin hxb hl, (updC_data (x := ⟨x.id, base, pay, x.data⟩) h.is_.nd hx rfl rfl).trans h.dat, updC_same h.yin (by show y.id ≠ x.id; omega), fun v hv hvb i hi hij e => ?_, hnl.up (by omega) (by omega)⟩
  rcases mem_updC hv with rfl | ⟨hv, hne⟩
  · have hvb : base = y.id := hvb
    rcases hl with ⟨hl, _⟩ | ⟨hl, hl2, _⟩
    · omega
    · have := (h.is_.by_ y h.yin (by omega)).1
      omega
  · have hne : v.id ≠ x.id := hne
    rcases Nat.lt_or_ge i j with hl | hg
    · exact h.done v hv hvb i hi hl e
    · obtain rfl : i = j := by omega
      exact hne (e.symm.trans hxi.symm)
theorem DropIs.fin (h : DropIs rows m0 vs0 y N vs0.length vs m) : ∀ v ∈ vs, v.base ≠ y.id := fun v hv e => by
  have h1 := ids_of_data h.dat
  have h2 : v.id ∈ vs0.map Ver.id := by rw [← h1]; exact List.mem_map.2 ⟨v, hv, rfl⟩
  obtain ⟨u, hu, e2⟩ := List.mem_map.1 h2
  obtain ⟨i, hi, rfl⟩ := List.getElem_of_mem hu
  exact h.done v hv e i hi hi e2
end
section
variable {B Tp q : Nat} {T : Tb} {m : Bch} {fb fp : List Nat} {vs : List Ver} {N : Nat} {w0 : World}
set_option maxHeartbeats 8000000 in
set_option maxRecDepth 100000 in
theorem cdropNo_c (id : Int) (h0 : -9223372036854775808 ≤ id) (h1 : id ≤ 9223372036854775807) (hi : InL w0 [bchC B (some ⟨Tp, 0, none⟩) m fb, tabC Tp q T fp]) (hp : PowI w0 (fps [bchC B (some ⟨Tp, 0, none⟩) m fb, tabC Tp q T fp])) (hc : ChIs T.rows m vs N) (hN : N ≤ 1048576) (hf : findC vs id = none) :
    Cal Tryz.prog 9 [.pointer (some ⟨B, 0, none⟩), .int .i64 id] w0 (fun v w' => v = .int .i64 11 ∧ MutL w0 w' [bchC B (some ⟨Tp, 0, none⟩) m fb, tabC Tp q T fp] [bchC B (some ⟨Tp, 0, none⟩) m fb, tabC Tp q T fp]) := by
  refine Cal.mkL hi (by kernel_rfl) Tryz.func9 rfl rfl fun hS => ?_
  have hlv := loadV_none hf
  repeat' (first
    | (show WL _ _ _ _ _ _ _; first
      | refine WL.pure rfl rfl rfl rfl ?_
      | refine WL.nil ?_
      | (refine WL.callL (D := [bchC B (some ⟨Tp, 0, none⟩) m fb, tabC Tp q T fp]) hS (by repeat (first | exact Pulls.nil | (apply Pulls.cons; focus (repeat (first | exact Pull.here | apply Pull.there))))) rfl rfl (fun hI => cload_c (vs := vs) (N := N) id h0 h1 hI (hp.pull hS (by repeat (first | exact Pulls.nil | (apply Pulls.cons; focus (repeat (first | exact Pull.here | apply Pull.there)))))) hc hN) rfl rfl rfl ?_; rintro v w ⟨rfl, hmu⟩ hS; rw [hlv]; replace hS := hS _ hmu; clear hmu))
    | (show WC _ _ _ _ _ _; first
      | refine WC.seq ?_
      | refine WC.region ?_
      | refine WC.ret ?_
      | refine WC.condT rfl (by decide) ?_)
    | refine seqQ_n ?_
    | refine seqQ_r ?_)
  exact fin1r rfl rfl ⟨rfl, hS.mutLp (by repeat (first | exact Pulls.nil | (apply Pulls.cons; focus (repeat (first | exact Pull.here | apply Pull.there)))))⟩
set_option maxHeartbeats 8000000 in
set_option maxRecDepth 100000 in
theorem cdrop_c (y : Ver) (hi : InL w0 [bchC B (some ⟨Tp, 0, none⟩) m fb, tabC Tp q T fp]) (hp : PowI w0 (fps [bchC B (some ⟨Tp, 0, none⟩) m fb, tabC Tp q T fp])) (hc : ChIs T.rows m vs N) (hN : N ≤ 262144) (hm : m.length ≤ 262144) (hr : T.rows.length ≤ 549755813888) (hy : y ∈ vs) :
    Cal Tryz.prog 9 [.pointer (some ⟨B, 0, none⟩), .int .i64 (y.id : Int)] w0 (fun v w' => v = .int .i64 0 ∧ ∃ vs' m' fb', ChIs T.rows m' (delC vs' y.id) N ∧ vs'.map idData = vs.map idData ∧ Grew m m' (vs.length + 1) ((vs.length + 1) * 4300) ∧ MutL w0 w' [bchC B (some ⟨Tp, 0, none⟩) m fb, tabC Tp q T fp] [bchC B (some ⟨Tp, 0, none⟩) m' fb', tabC Tp q T fp]) := by
  refine Cal.mkL hi (by kernel_rfl) Tryz.func9 rfl rfl fun hS => ?_
  have hlv := loadV_of hc hy
  have hyi := hc.ids y hy
  have hyb := hc.base_le y hy
  have hvl := hc.len
  repeat' (first
    | (show WL _ _ _ _ _ _ _; first
      | refine WL.pure rfl rfl rfl rfl ?_
      | refine WL.nil ?_
      | (refine WL.callL (D := [bchC B (some ⟨Tp, 0, none⟩) m fb, tabC Tp q T fp]) hS (by repeat (first | exact Pulls.nil | (apply Pulls.cons; focus (repeat (first | exact Pull.here | apply Pull.there))))) rfl rfl (fun hI => cload_c (vs := vs) (N := N) (y.id : Int) (by omega) (by omega) hI (hp.pull hS (by repeat (first | exact Pulls.nil | (apply Pulls.cons; focus (repeat (first | exact Pull.here | apply Pull.there)))))) hc (by omega)) rfl rfl rfl ?_; rintro v w ⟨rfl, hmu⟩ hS; rw [hlv]; replace hS := hS _ hmu; clear hmu)
      | (refine WL.callL (D := [bchC B (some ⟨Tp, 0, none⟩) m fb, tabC Tp q T fp]) hS (by repeat (first | exact Pulls.nil | (apply Pulls.cons; focus (repeat (first | exact Pull.here | apply Pull.there))))) rfl rfl (fun hI => cvers_c hI hc (by omega) (by omega) hr) rfl rfl rfl ?_; rintro v w ⟨AV, capV, rfl, hmu⟩ hS; replace hS := hS _ hmu; clear hmu))
    | (show WC _ _ _ _ _ _; first
      | refine WC.seq ?_
      | refine WC.region ?_
      | refine WC.block ?_
      | refine WC.skip ?_
      | refine WC.condF rfl (by decide) ?_)
    | refine seqQ_n ?_)
  clear hlv
  refine WC.loop (σ := Nat × List Ver × Bch × List Nat) [0, 1, 5, 25, 26] (fun (j, _) => [(27, .int .i64 (j : Int))])
    (fun (j, vs1, m1, fb1) w => (j ≤ vs.length ∧ DropIs T.rows m vs y N j vs1 m1) ∧ St w0 (fps [bchC B (some ⟨Tp, 0, none⟩) m fb, tabC Tp q T fp]) w [bchC B (some ⟨Tp, 0, none⟩) m1 fb1, tabC Tp q T fp, .own (.slice AV vs.length capV) 3 1 vs.length (ints (idsE vs))] (ZL w0 [bchC B (some ⟨Tp, 0, none⟩) m fb, tabC Tp q T fp]))
    (fun (j, _) => vs.length - j) (0, vs, m, fb) ⟨⟨Nat.zero_le _, hc, rfl, hy, fun v hv e i hi hij => absurd hij (Nat.not_lt_zero _), (Grew.refl m).up (by omega) (by omega)⟩, hS.droplast2 (by repeat (first | exact Pulls.nil | (apply Pulls.cons; focus (repeat (first | exact Pull.here | apply Pull.there)))))⟩ ⟨rfl, trivial⟩ ?_
  clear hS
  rintro ⟨j, vs1, m1, fb1⟩ g w ⟨⟨hj, hdr⟩, hS⟩
  show WC _ _ _ (lf _ [(27, .int .i64 (j : Int))] _ _) _ _
  have hml := hdr.grew.len
  have hc1 := hdr.is_
  by_cases hlt : j < vs.length
  · obtain ⟨kg, ko, rfl⟩ := hS.own_addr (A := AV) (n := vs.length) (by repeat (first | exact List.Mem.head _ | apply List.Mem.tail)) (Nat.lt_of_le_of_lt (Nat.zero_le j) hlt)
    obtain ⟨x, hx, hxi, hxd⟩ := hdr.at_ hlt
    have hkx : (ints (idsE vs))[j * 1]? = some (.int .i64 (x.id : Int)) := by rw [Nat.mul_one, hxi]; exact idsE_get hlt
    have hlx := loadV_of hc1 hx
    have hxid := hc1.ids _ hx
    have hxs := hc1.size _ hx
    by_cases hb : x.base = y.id
    · have hlay := fun {base : Nat} {pay : List UInt8} (hl : LayOk vs1 ((y.base : Int)).toNat x.data base pay) => hdr.lay hlt hx hxi hb (by omega) hl
      obtain ⟨d, hd, ht⟩ := hc1.told x hx
      rw [hb] at hlx
      clear hdr hb
      repeat' (first
        | (show WL _ _ _ _ _ _ _; first
          | refine WL.pure rfl rfl rfl rfl ?_
          | refine WL.nil ?_
          | refine WL.add rfl rfl rfl (by omega) rfl rfl rfl ?_
          | (refine WL.load hS rfl rfl (LdOk.ownAt (by repeat (first | exact List.Mem.head _ | apply List.Mem.tail)) rfl ⟨_, rfl⟩ hkx rfl) rfl rfl rfl ?_)
          | (refine WL.callL (D := [bchC B (some ⟨Tp, 0, none⟩) m1 fb1, tabC Tp q T fp]) hS (by repeat (first | exact Pulls.nil | (apply Pulls.cons; focus (repeat (first | exact Pull.here | apply Pull.there))))) rfl rfl (fun hI => cload_c (vs := vs1) (N := N) (x.id : Int) (by omega) (by omega) hI (hp.pull hS (by repeat (first | exact Pulls.nil | (apply Pulls.cons; focus (repeat (first | exact Pull.here | apply Pull.there)))))) hc1 (by omega)) rfl rfl rfl ?_; rintro v w ⟨rfl, hmu⟩ hS; rw [hlx]; replace hS := hS _ hmu; clear hmu)
          | (refine WL.callL (D := [bchC B (some ⟨Tp, 0, none⟩) m1 fb1, tabC Tp q T fp]) hS (by repeat (first | exact Pulls.nil | (apply Pulls.cons; focus (repeat (first | exact Pull.here | apply Pull.there))))) rfl rfl (fun hI => cget_c d x hI (hp.pull hS (by repeat (first | exact Pulls.nil | (apply Pulls.cons; focus (repeat (first | exact Pull.here | apply Pull.there)))))) hc1 (by omega) hx ht) rfl rfl rfl ?_; rintro v w ⟨rfl, hmu⟩ hS; replace hS := hS _ hmu; clear hmu)
          | (refine WL.callL (D := [bchC B (some ⟨Tp, 0, none⟩) m1 fb1, tabC Tp q T fp]) hS (by repeat (first | exact Pulls.nil | (apply Pulls.cons; focus (repeat (first | exact Pull.here | apply Pull.there))))) rfl rfl (fun hI => clay_c x.id x.data (y.base : Int) (by omega) hxs (by omega) (by omega) hI (hp.pull hS (by repeat (first | exact Pulls.nil | (apply Pulls.cons; focus (repeat (first | exact Pull.here | apply Pull.there)))))) hc1 (by omega) (by omega)) rfl rfl rfl ?_; rintro v w ⟨rfl, nb, pay, hlo, _, fb2, hmu⟩ hS; replace hS := hS _ hmu; clear hmu)
          | refine WL.index rfl rfl rfl rfl (by first | with_reducible assumption | omega) rfl rfl rfl rfl ?_)
        | (show WC _ _ _ _ _ _; first
          | refine WC.seq ?_
          | refine WC.region ?_
          | refine WC.block ?_
          | refine WC.skip ?_
          | refine WC.condF rfl (by decide) ?_
          | refine WC.condT rfl (decide_eq_true (by first | with_reducible assumption | omega)) ?_)
        | refine seqQ_n ?_
        | refine blkQ_n ?_)
      exact rndQ_n (j + 1, _, _, fb2) ⟨⟨by omega, hlay hlo⟩, hS.droplast2 (by repeat (first | exact Pulls.nil | (apply Pulls.cons; focus (repeat (first | exact Pull.here | apply Pull.there)))))⟩ (by show vs.length - (j + 1) < vs.length - j; omega) ⟨vint (by omega), trivial⟩ ⟨rfl, rfl, rfl, rfl, rfl, trivial⟩
    · have hdr2 := hdr.keep hlt hx hxi hb
      clear hdr
      repeat' (first
        | (show WL _ _ _ _ _ _ _; first
          | refine WL.pure rfl rfl rfl rfl ?_
          | refine WL.nil ?_
          | refine WL.add rfl rfl rfl (by omega) rfl rfl rfl ?_
          | (refine WL.load hS rfl rfl (LdOk.ownAt (by repeat (first | exact List.Mem.head _ | apply List.Mem.tail)) rfl ⟨_, rfl⟩ hkx rfl) rfl rfl rfl ?_)
          | (refine WL.callL (D := [bchC B (some ⟨Tp, 0, none⟩) m1 fb1, tabC Tp q T fp]) hS (by repeat (first | exact Pulls.nil | (apply Pulls.cons; focus (repeat (first | exact Pull.here | apply Pull.there))))) rfl rfl (fun hI => cload_c (vs := vs1) (N := N) (x.id : Int) (by omega) (by omega) hI (hp.pull hS (by repeat (first | exact Pulls.nil | (apply Pulls.cons; focus (repeat (first | exact Pull.here | apply Pull.there)))))) hc1 (by omega)) rfl rfl rfl ?_; rintro v w ⟨rfl, hmu⟩ hS; rw [hlx]; replace hS := hS _ hmu; clear hmu)
          | refine WL.index rfl rfl rfl rfl (by first | with_reducible assumption | omega) rfl rfl rfl rfl ?_)
        | (show WC _ _ _ _ _ _; first
          | refine WC.seq ?_
          | refine WC.region ?_
          | refine WC.block ?_
          | refine WC.skip ?_
          | refine WC.condT rfl (decide_eq_true (by first | with_reducible assumption | omega)) ?_
          | refine WC.condF rfl (decide_eq_false (by first | with_reducible assumption | omega)) ?_)
        | refine seqQ_n ?_
        | refine blkQ_n ?_)
      exact rndQ_n (j + 1, vs1, m1, fb1) ⟨⟨by omega, hdr2⟩, hS.droplast2 (by repeat (first | exact Pulls.nil | (apply Pulls.cons; focus (repeat (first | exact Pull.here | apply Pull.there)))))⟩ (by show vs.length - (j + 1) < vs.length - j; omega) ⟨vint (by omega), trivial⟩ ⟨rfl, rfl, rfl, rfl, rfl, trivial⟩
  · have hje : j = vs.length := by omega
    subst hje
    have hrm := hc1.remove hyi.1 hdr.fin
    have hdat := hdr.dat
    have hnl := hdr.grew.note (o := ⟨verK (y.id : Int), [], true⟩) (k := 4300) (Nat.le_trans (szD (by omega)) (by omega)) (fun _ => rfl)
    clear hdr
    repeat' (first
      | (show WL _ _ _ _ _ _ _; first
        | refine WL.pure rfl rfl rfl rfl ?_
        | refine WL.nil ?_
        | (refine WL.calls hS rfl rfl (ckey_c (y.id : Int) (by omega) (by omega) _ (hp.at hS)) rfl rfl rfl ?_; rintro v w rfl hS)
        | (refine WL.callL (D := [bchC B (some ⟨Tp, 0, none⟩) m1 fb1]) hS (by repeat (first | exact Pulls.nil | (apply Pulls.cons; focus (repeat (first | exact Pull.here | apply Pull.there))))) rfl rfl (fun hI => bdrop_c (verK (y.id : Int)) hI.head hI.headB (by omega)) rfl rfl rfl ?_; rintro v w ⟨rfl, fb2, hmu⟩ hS; replace hS := hS _ (.of1 hmu); clear hmu))
      | (show WC _ _ _ _ _ _; first
        | refine WC.seq ?_
        | refine WC.region ?_
        | refine WC.exit ?_
        | refine WC.ret ?_
        | refine WC.condF rfl (decide_eq_false (by first | with_reducible assumption | omega)) ?_)
      | refine seqQ_n ?_
      | refine seqQ_x ?_
      | refine blkQ_hit rfl ?_
      | refine rndQ_x ?_)
    exact fin1r rfl rfl ⟨rfl, vs1, _, _, hrm, hdat, hnl.up (by omega) (by omega), hS.mutLp (by repeat (first | exact Pulls.nil | (apply Pulls.cons; focus (repeat (first | exact Pull.here | apply Pull.there)))))⟩
end
end Go.Proofs.YtnefkegefjldjaaGreatDoor

/- What is proved: the batch that the laws on versions begin with, and that they are awake. Conditions: the library's table of powers laid. -/
set_option linter.unusedSimpArgs false
set_option linter.unusedVariables false
namespace Go.Proofs.YtnefkegefjldjaaGreatDoor
open Go Go.J Go.RowKit

theorem ChIs.nil : ChIs [] [] [] 0 := ⟨by simp, by simp, by simp, fun k h => (by cases h), fun k _ => rfl, rfl, by simp, by simp, by simp, by simp, by simp, by simp⟩
theorem delC_data (vs : List Ver) (id : Nat) : (delC vs id).map idData = (vs.map idData).filter fun p => decide (p.1 ≠ id) := by
  unfold delC
  induction vs with
  | nil => rfl
  | cons a l ih =>
    rw [List.map_cons, List.filter_cons, List.filter_cons]
    have e : (idData a).1 = a.id := rfl
    by_cases h : a.id = id
    · rw [if_neg (by simp [h]), if_neg (by simp [e, h])]; exact ih
    · rw [if_pos (by simp [h]), if_pos (by simp [e, h]), List.map_cons, ih]
section
variable {rows : Rws} {m : Bch} {vs : List Ver} {N : Nat}
theorem ChIs.find (h : ChIs rows m vs N) {n : Nat} {data : List UInt8} (hd : (n, data) ∈ vs.map idData) : ∃ x ∈ vs, x.id = n ∧ x.data = data ∧ findC vs (n : Int) = some x := by
  obtain ⟨x, hx, e⟩ := List.mem_map.1 hd
  have e1 : x.id = n := congrArg Prod.fst e
  have e2 : x.data = data := congrArg Prod.snd e
  refine ⟨x, hx, e1, e2, ?_⟩
  rw [← e1]
  exact findC_of h.nd hx
theorem find_no {id : Int} (h : ∀ p ∈ vs.map idData, (p.1 : Int) ≠ id) : findC vs id = none := by
  cases hf : findC vs id with
  | none => rfl
  | some x =>
    obtain ⟨hx, e⟩ := findC_some hf
    exact absurd e (h _ (List.mem_map.2 ⟨x, hx, rfl⟩))
theorem ChIs.getv (h : ChIs rows m vs N) {n : Nat} {data : List UInt8} (hd : (n, data) ∈ vs.map idData) : cgetV vs (n : Int) = .tuple #[str data, .int .i64 0] := by
  obtain ⟨x, _, _, e2, e3⟩ := h.find hd
  unfold cgetV
  rw [e3, ← e2]
theorem getv_no {id : Int} (h : ∀ p ∈ vs.map idData, (p.1 : Int) ≠ id) : cgetV vs id = .tuple #[str [], .int .i64 11] := by unfold cgetV; rw [find_no h]
theorem LayOk.first {data : List UInt8} {base : Nat} {pay : List UInt8} (h : LayOk vs 0 data base pay) : base = 0 ∧ pay = data := by
  rcases h with h | ⟨_, h, _⟩
  · exact h
  · exact absurd rfl h
end
set_option maxHeartbeats 4000000 in
set_option maxRecDepth 100000 in
theorem chmade_c (w0 : World) : Cal Tryz.prog 6 [] w0 (fun v w' => ∃ B Tp q fb fp, v = .pointer (some ⟨B, 0, none⟩) ∧ MutL w0 w' [] [bchC B (some ⟨Tp, 0, none⟩) [] fb, tabC Tp q ⟨sysP, [], ⟨sysL, [], false⟩⟩ fp]) := by
  refine Cal.mkL (D := []) ⟨by simp, by simp, .nil⟩ (by kernel_rfl) Tryz.func6 rfl rfl fun hS => ?_
  repeat' (first
    | (show WL _ _ _ _ _ _ _; first
      | refine WL.pure rfl rfl rfl rfl ?_
      | refine WL.nil ?_
      | (refine WL.callG rfl rfl (dnew_c _) rfl rfl rfl ?_; rintro v w ⟨hu, q, mb, lb, rfl, hn⟩; replace hS := hS.new hu hn; clear hu hn)
      | (refine WL.callL (D := [dkC q mb lb Dk0]) hS (by repeat (first | exact Pulls.nil | (apply Pulls.cons; focus (repeat (first | exact Pull.here | apply Pull.there))))) rfl rfl (fun hI => topenFirst_c hI) rfl rfl rfl ?_; rintro v w ⟨Tp, fp, rfl, hmu⟩ hS; replace hS := hS _ hmu; clear hmu)
      | (refine WL.callG rfl rfl (begin_c _) rfl rfl rfl ?_; rintro v w ⟨hu, B, fb, rfl, hn⟩; replace hS := hS.new hu hn; clear hu hn))
    | (show WC _ _ _ _ _ _; first
      | refine WC.seq ?_
      | refine WC.region ?_
      | refine WC.skip ?_
      | refine WC.ret ?_
      | refine WC.condF rfl (by decide) ?_)
    | refine seqQ_n ?_)
  exact fin1r rfl rfl ⟨_, _, _, _, _, rfl, hS.mutLp (by repeat (first | exact Pulls.nil | (apply Pulls.cons; focus (repeat (first | exact Pull.here | apply Pull.there)))))⟩
def helloS : List UInt8 := [104, 101, 108, 108, 111, 32, 104, 101, 108, 108, 111, 32, 104, 101, 108, 108, 111]
def helloT : List UInt8 := [104, 101, 108, 108, 111, 32, 104, 101, 108, 108, 111, 32, 104, 101, 108, 108, 111, 33]
set_option maxHeartbeats 8000000 in
set_option maxRecDepth 100000 in
theorem chawake_c (w0 : World) (ht : powT w0) : Cal Tryz.prog 7 [] w0 (fun v w' => Upd [] w0 w' ∧ v = .bool true) := by
  refine Cal.mk' (by kernel_rfl) Tryz.func7 rfl rfl fun hS => ?_
  have hp := PowI.of ht
  repeat' (first
    | (show WL _ _ _ _ _ _ _; first
      | refine WL.pure rfl rfl rfl rfl ?_
      | refine WL.nil ?_
      | (refine WL.callL (D := []) hS .nil rfl rfl (fun hI => chmade_c _) rfl rfl rfl ?_; rintro v w ⟨B, Tp, q, fb, fp, rfl, hmu⟩ hS; replace hS := hS _ hmu; clear hmu)
      | (refine WL.callL (D := [bchC B (some ⟨Tp, 0, none⟩) [] fb, tabC Tp q ⟨sysP, [], ⟨sysL, [], false⟩⟩ fp]) hS (by repeat (first | exact Pulls.nil | (apply Pulls.cons; focus (repeat (first | exact Pull.here | apply Pull.there))))) rfl rfl (fun hI => cadd_c (vs := []) (N := 0) helloS 0 (by decide) (by decide) (by decide) hI (hp.pull hS (by repeat (first | exact Pulls.nil | (apply Pulls.cons; focus (repeat (first | exact Pull.here | apply Pull.there)))))) ChIs.nil (by decide) (by decide)) rfl rfl rfl ?_; rintro v w ⟨rfl, base1, pay1, m1, fb1, _, _, hc1, hl1, hmu⟩ hS; have hm1 : m1.length ≤ 2 := hl1.len; clear hl1; replace hc1 : ChIs [] m1 [⟨1, base1, pay1, helloS⟩] 1 := hc1; replace hS := hS _ hmu; clear hmu)
      | (refine WL.callL (D := [bchC B (some ⟨Tp, 0, none⟩) m1 fb1, tabC Tp q ⟨sysP, [], ⟨sysL, [], false⟩⟩ fp]) hS (by repeat (first | exact Pulls.nil | (apply Pulls.cons; focus (repeat (first | exact Pull.here | apply Pull.there))))) rfl rfl (fun hI => cadd_c (vs := [⟨1, base1, pay1, helloS⟩]) (N := 1) helloT ((1 : Nat) : Int) (by decide) (by decide) (by decide) hI (hp.pull hS (by repeat (first | exact Pulls.nil | (apply Pulls.cons; focus (repeat (first | exact Pull.here | apply Pull.there)))))) hc1 (by decide) (by omega)) rfl rfl rfl ?_; rintro v w ⟨rfl, base2, pay2, m2, fb2, _, _, hc2, hl2, hmu⟩ hS; have hm2 : m2.length ≤ 4 := (by have := hl2.len; omega); clear hl2; replace hc2 : ChIs [] m2 [⟨1, base1, pay1, helloS⟩, ⟨2, base2, pay2, helloT⟩] 2 := hc2; replace hS := hS _ hmu; clear hmu)
      | (refine WL.callL (D := [bchC B (some ⟨Tp, 0, none⟩) m2 fb2, tabC Tp q ⟨sysP, [], ⟨sysL, [], false⟩⟩ fp]) hS (by repeat (first | exact Pulls.nil | (apply Pulls.cons; focus (repeat (first | exact Pull.here | apply Pull.there))))) rfl rfl (fun hI => cdrop_c (N := 2) ⟨1, base1, pay1, helloS⟩ hI (hp.pull hS (by repeat (first | exact Pulls.nil | (apply Pulls.cons; focus (repeat (first | exact Pull.here | apply Pull.there)))))) hc2 (by decide) (by omega) (by decide) (List.mem_cons_self ..)) rfl rfl rfl ?_; rintro v w ⟨rfl, vs3, m3, fb3, hc3, hd3, hl3, hmu⟩ hS; have hg3 : cgetV (delC vs3 1) ((2 : Nat) : Int) = .tuple #[str helloT, .int .i64 0] := hc3.getv (by rw [delC_data, hd3]; simp [idData]); replace hS := hS _ hmu; clear hmu)
      | (refine WL.callL (D := [bchC B (some ⟨Tp, 0, none⟩) m3 fb3, tabC Tp q ⟨sysP, [], ⟨sysL, [], false⟩⟩ fp]) hS (by repeat (first | exact Pulls.nil | (apply Pulls.cons; focus (repeat (first | exact Pull.here | apply Pull.there))))) rfl rfl (fun hI => cgets_c (N := 2) (id := ((2 : Nat) : Int)) (by decide) (by decide) hI (hp.pull hS (by repeat (first | exact Pulls.nil | (apply Pulls.cons; focus (repeat (first | exact Pull.here | apply Pull.there)))))) hc3 (by decide)) rfl rfl rfl ?_; rintro v w ⟨rfl, hmu⟩ hS; rw [hg3]; replace hS := hS _ hmu; clear hmu))
    | (show WC _ _ _ _ _ _; first
      | refine WC.seq ?_
      | refine WC.region ?_
      | refine WC.skip ?_
      | refine WC.ret ?_
      | refine WC.condF rfl (by with_reducible rfl) ?_)
    | refine seqQ_n ?_)

  exact fin1r rfl rfl ⟨hS.upd, rfl⟩
end Go.Proofs.YtnefkegefjldjaaGreatDoor

/- What is proved: the law ChainSmall answers true. Conditions: the library's table of powers laid. -/
set_option linter.unusedSimpArgs false
set_option linter.unusedVariables false
namespace Go.Proofs.YtnefkegefjldjaaGreatDoor
open Go Go.J Go.RowKit

/-- versions of one content, each near the one ahead -/
structure SmallIs (text : List UInt8) (i : Nat) (vs : List Ver) (m : Bch) : Prop where
  is_ : ChIs [] m vs i
  last : ∃ u ∈ vs, u.id = i ∧ u.data = text
  told : Told vs (i - 1) i
  pay : payS vs + 8 ≤ text.length + 8 * i
  len : m.length ≤ 2 * i
theorem SmallIs.step {text : List UInt8} {i : Nat} {vs : List Ver} {m m' : Bch} (h : SmallIs text i vs m) (h1 : 1 ≤ i) (h4 : i ≤ 4) (h16 : 16 ≤ text.length) (h40 : text.length ≤ 4096) {base : Nat} {pay : List UInt8} (hse : SelfOk vs i text base pay) (hc : ChIs [] m' (vs ++ [⟨i + 1, base, pay, text⟩]) (i + 1)) (hl : m'.length ≤ m.length + 2) :
    SmallIs text (i + 1) (vs ++ [⟨i + 1, base, pay, text⟩]) m' := by
  obtain ⟨u, hu, hui, hud⟩ := h.last
  obtain ⟨rfl, hp⟩ := hse u hu hui hud h16 h40 ⟨i - 1, by omega, h.told⟩
  have hnew : (⟨base + 1, base, pay, text⟩ : Ver) ∈ vs ++ [⟨base + 1, base, pay, text⟩] := List.mem_append_right _ (List.mem_singleton.2 rfl)
  refine ⟨hc, ⟨_, hnew, rfl, rfl⟩, ?_, ?_, by have := h.len; omega⟩
  · rw [show base + 1 - 1 = (base - 1) + 1 by omega]
    exact ⟨_, hnew, rfl, by show base ≠ 0; omega, h.told.mono fun v hv => List.mem_append_left _ hv⟩
  · have := h.pay
    unfold payS at *
    rw [List.map_append, List.sum_append]
    simp only [List.map_cons, List.map_nil, List.sum_cons, List.sum_nil]
    omega
theorem small_last {vs : List Ver} {i : Nat} {data pay : List UInt8} {base : Nat} (hn : (vs.map Ver.id).Nodup) (ht : Told vs 4 i) (hl : LayOk vs i data base pay) : base = 0 := by
  rcases hl with ⟨h, _⟩ | ⟨_, _, _, _, ⟨d, hd, ht2⟩, _⟩
  · exact h
  · have := Told.unique hn ht ht2
    omega
set_option maxHeartbeats 16000000 in
set_option maxRecDepth 100000 in
theorem chainSmall_c (text : List UInt8) (n : Int) (hn0 : -9223372036854775808 ≤ n) (hn1 : n ≤ 9223372036854775807) {w0 : World} (ht : powT w0) :
    Cal Tryz.prog 4 [str text, .int .i64 n] w0 (fun v w' => Upd [] w0 w' ∧ v = .bool true) := by
  refine Cal.mk' (by kernel_rfl) Tryz.func4 rfl rfl fun hS => ?_
  have hp := PowI.of ht
  by_cases hb : 16 ≤ text.length ∧ text.length ≤ 4096
  · obtain ⟨hb1, hb2⟩ := hb
    repeat' (first
      | (show WL _ _ _ _ _ _ _; first
        | refine WL.pure rfl rfl rfl rfl ?_
        | refine WL.nil ?_
        | (refine WL.callL (D := []) hS .nil rfl rfl (fun hI => chmade_c _) rfl rfl rfl ?_; rintro v w ⟨B, Tp, q, fb, fp, rfl, hmu⟩ hS; replace hS := hS _ hmu; clear hmu)
        | (refine WL.calls hS rfl rfl (chawake_c _ (hp.at hS)) rfl rfl rfl ?_; rintro v w rfl hS)
        | (refine WL.callL (D := [bchC B (some ⟨Tp, 0, none⟩) [] fb, tabC Tp q ⟨sysP, [], ⟨sysL, [], false⟩⟩ fp]) hS (by repeat (first | exact Pulls.nil | (apply Pulls.cons; focus (repeat (first | exact Pull.here | apply Pull.there))))) rfl rfl (fun hI => cadd_c (vs := []) (N := 0) text 0 (by omega) (by decide) (by decide) hI (hp.pull hS (by repeat (first | exact Pulls.nil | (apply Pulls.cons; focus (repeat (first | exact Pull.here | apply Pull.there)))))) ChIs.nil (by decide) (by decide)) rfl rfl rfl ?_; rintro v w ⟨rfl, base, pay, m, fb1, hlo, _, hc1, hl1, hmu⟩ hS; obtain ⟨rfl, rfl⟩ := LayOk.first hlo; replace hc1 : ChIs [] m [⟨1, 0, pay, pay⟩] 1 := hc1; replace hl1 : m.length ≤ 2 := hl1.len; replace hS := hS _ hmu; clear hmu)
        | (refine WL.callL (D := [bchC B (some ⟨Tp, 0, none⟩) m fb1, tabC Tp q ⟨sysP, [], ⟨sysL, [], false⟩⟩ fp]) hS (by repeat (first | exact Pulls.nil | (apply Pulls.cons; focus (repeat (first | exact Pull.here | apply Pull.there))))) rfl rfl (fun hI => cbytes_c (vs := [⟨1, 0, pay, pay⟩]) (N := 1) hI (hp.pull hS (by repeat (first | exact Pulls.nil | (apply Pulls.cons; focus (repeat (first | exact Pull.here | apply Pull.there)))))) hc1 (by decide) (by omega) (by decide)) rfl rfl rfl ?_; rintro v w ⟨rfl, hmu⟩ hS; rw [show payS [⟨1, 0, pay, pay⟩] = pay.length from rfl]; replace hS := hS _ hmu; clear hmu)
        | (refine WL.callL (D := [bchC B (some ⟨Tp, 0, none⟩) m fb1, tabC Tp q ⟨sysP, [], ⟨sysL, [], false⟩⟩ fp]) hS (by repeat (first | exact Pulls.nil | (apply Pulls.cons; focus (repeat (first | exact Pull.here | apply Pull.there))))) rfl rfl (fun hI => cdepth_c (vs := [⟨1, 0, pay, pay⟩]) 0 1 hI (hp.pull hS (by repeat (first | exact Pulls.nil | (apply Pulls.cons; focus (repeat (first | exact Pull.here | apply Pull.there)))))) hc1 (by decide) (by decide) ⟨_, List.mem_singleton.2 rfl, rfl, rfl⟩) rfl rfl rfl ?_; rintro v w ⟨rfl, hmu⟩ hS; replace hS := hS _ hmu; clear hmu)
        | ((fail_if_success (refine WL.wanted rfl ?_)); refine WL.guard rfl rfl rfl (fun h => ?_) (fun h => ?_) <;> (try simp only [Classical.not_not, Bool.not_eq_true', Bool.not_eq_false', Bool.not_eq_eq_eq_not, Bool.not_true, Bool.not_false, beq_iff_eq, beq_eq_false_iff_ne, ne_eq, decide_eq_decide, decide_eq_true_eq, decide_eq_false_iff_not, Bool.and_eq_true, Bool.or_eq_true, Bool.and_eq_false_iff, Bool.or_eq_false_iff] at h) <;> (try (exfalso; first | omega | contradiction))))
      | (show WC _ _ _ _ _ _; first
        | refine WC.seq ?_
        | refine WC.region ?_
        | refine WC.block ?_
        | refine WC.skip ?_
        | refine WC.condF rfl (by decide) ?_
        | refine WC.condF rfl (decide_eq_false (by first | with_reducible assumption | omega)) ?_)
      | refine seqQ_n ?_)
    refine WC.loop (σ := Nat × List Ver × Bch × List Nat) [0, 1, 5] (fun (i, _) => [(6, .int .i64 (i : Int)), (7, .int .i64 (i : Int))])
      (fun (i, vs, m, fb1) w => (1 ≤ i ∧ i ≤ 5 ∧ SmallIs pay i vs m) ∧ St w0 [] w [bchC B (some ⟨Tp, 0, none⟩) m fb1, tabC Tp q ⟨sysP, [], ⟨sysL, [], false⟩⟩ fp] [⟨w0, Old w0⟩])
      (fun (i, _) => 5 - i) (1, [⟨1, 0, pay, pay⟩], m, fb1) ⟨⟨by decide, by decide, hc1, ⟨_, List.mem_singleton.2 rfl, rfl, rfl⟩, ⟨_, List.mem_singleton.2 rfl, rfl, rfl⟩, by show pay.length + 8 ≤ _; omega, hl1⟩, hS.droplast2 (by repeat (first | exact Pulls.nil | (apply Pulls.cons; focus (repeat (first | exact Pull.here | apply Pull.there)))))⟩ ⟨rfl, rfl, trivial⟩ ?_
    clear hS hc1 hl1 hlo
    rintro ⟨i, vs, m, fb1⟩ g w ⟨⟨hi1, hi5, hsm⟩, hS⟩
    show WC _ _ _ (lf _ [(6, .int .i64 (i : Int)), (7, .int .i64 (i : Int))] _ _) _ _
    have hc := hsm.is_
    have hml := hsm.len
    by_cases hlt : i ≤ 4
    · have hst := fun {base : Nat} {pay2 : List UInt8} {m2 : Bch} => hsm.step (base := base) (pay := pay2) (m' := m2) hi1 hlt hb1 hb2
      have hmi : (8 : Int) * ((i : Nat) : Int) = ((8 * i : Nat) : Int) := by omega
      clear hsm
      repeat' (first
        | (show WL _ _ _ _ _ _ _; first
          | refine WL.pure rfl rfl rfl rfl ?_
          | refine WL.nil ?_
          | refine WL.add rfl rfl rfl (by omega) rfl rfl rfl ?_
          | (refine WL.mul rfl rfl rfl (by omega) rfl rfl rfl ?_)
          | (refine WL.callL (D := [bchC B (some ⟨Tp, 0, none⟩) m fb1, tabC Tp q ⟨sysP, [], ⟨sysL, [], false⟩⟩ fp]) hS (by repeat (first | exact Pulls.nil | (apply Pulls.cons; focus (repeat (first | exact Pull.here | apply Pull.there))))) rfl rfl (fun hI => cadd_c (vs := vs) (N := i) pay (i : Int) (by omega) (by omega) (by omega) hI (hp.pull hS (by repeat (first | exact Pulls.nil | (apply Pulls.cons; focus (repeat (first | exact Pull.here | apply Pull.there)))))) hc (by omega) (by omega)) rfl rfl rfl ?_; rintro v w ⟨rfl, base, pay2, m2, fb2, hlo, hse, hc2, hl2, hmu⟩ hS; have hsm2 := hst hse hc2 hl2.len; have hml2 := hsm2.len; have hpa2 := hsm2.pay; have hto2 := hsm2.told; rw [Nat.add_sub_cancel] at hto2; generalize vs ++ [⟨i + 1, base, pay2, pay⟩] = vs2 at *; replace hS := hS _ hmu; clear hmu)
          | (refine WL.callL (D := [bchC B (some ⟨Tp, 0, none⟩) m2 fb2, tabC Tp q ⟨sysP, [], ⟨sysL, [], false⟩⟩ fp]) hS (by repeat (first | exact Pulls.nil | (apply Pulls.cons; focus (repeat (first | exact Pull.here | apply Pull.there))))) rfl rfl (fun hI => cdepth_c i (i + 1) hI (hp.pull hS (by repeat (first | exact Pulls.nil | (apply Pulls.cons; focus (repeat (first | exact Pull.here | apply Pull.there)))))) hc2 (by omega) (by omega) hto2) rfl rfl rfl ?_; rintro v w ⟨rfl, hmu⟩ hS; replace hS := hS _ hmu; clear hmu)
          | (refine WL.callL (D := [bchC B (some ⟨Tp, 0, none⟩) m2 fb2, tabC Tp q ⟨sysP, [], ⟨sysL, [], false⟩⟩ fp]) hS (by repeat (first | exact Pulls.nil | (apply Pulls.cons; focus (repeat (first | exact Pull.here | apply Pull.there))))) rfl rfl (fun hI => cbytes_c hI (hp.pull hS (by repeat (first | exact Pulls.nil | (apply Pulls.cons; focus (repeat (first | exact Pull.here | apply Pull.there)))))) hc2 (by omega) (by omega) (by decide)) rfl rfl rfl ?_; rintro v w ⟨rfl, hmu⟩ hS; replace hS := hS _ hmu; clear hmu)
          | ((fail_if_success (refine WL.wanted rfl ?_)); refine WL.guard rfl rfl rfl (fun h => ?_) (fun h => ?_) <;> (try simp only [Classical.not_not, Bool.not_eq_true', Bool.not_eq_false', Bool.not_eq_eq_eq_not, Bool.not_true, Bool.not_false, beq_iff_eq, beq_eq_false_iff_ne, ne_eq, decide_eq_decide, decide_eq_true_eq, decide_eq_false_iff_not, Bool.and_eq_true, Bool.or_eq_true, Bool.and_eq_false_iff, Bool.or_eq_false_iff] at h) <;> (try (exfalso; first | omega | contradiction))))
        | (show WC _ _ _ _ _ _; first
          | refine WC.seq ?_
          | refine WC.region ?_
          | refine WC.block ?_
          | refine WC.skip ?_
          | refine WC.condT rfl (decide_eq_true (by first | with_reducible assumption | omega)) ?_
          | refine WC.condF rfl (decide_eq_false (by first | with_reducible assumption | omega)) ?_)
        | refine seqQ_n ?_
        | refine blkQ_n ?_)
      exact rndQ_n (i + 1, vs2, m2, fb2) ⟨⟨by omega, by omega, hsm2⟩, hS⟩ (by show 5 - (i + 1) < 5 - i; omega) ⟨rfl, vint (by omega), trivial⟩ ⟨rfl, rfl, rfl, trivial⟩
    · obtain rfl : i = 5 := by omega
      have hto := hsm.told
      clear hsm
      repeat' (first
        | (show WL _ _ _ _ _ _ _; first
          | refine WL.pure rfl rfl rfl rfl ?_
          | refine WL.nil ?_
          | (refine WL.callL (D := [bchC B (some ⟨Tp, 0, none⟩) m fb1, tabC Tp q ⟨sysP, [], ⟨sysL, [], false⟩⟩ fp]) hS (by repeat (first | exact Pulls.nil | (apply Pulls.cons; focus (repeat (first | exact Pull.here | apply Pull.there))))) rfl rfl (fun hI => cadd_c (vs := vs) (N := 5) pay ((5 : Nat) : Int) (by omega) (by decide) (by decide) hI (hp.pull hS (by repeat (first | exact Pulls.nil | (apply Pulls.cons; focus (repeat (first | exact Pull.here | apply Pull.there)))))) hc (by decide) (by omega)) rfl rfl rfl ?_; rintro v w ⟨rfl, base, pay2, m2, fb2, hlo, hse, hc2, hl2, hmu⟩ hS; obtain rfl := small_last hc.nd hto hlo; have hto2 : Told (vs ++ [⟨5 + 1, 0, pay2, pay⟩]) 0 6 := ⟨_, List.mem_append_right _ (List.mem_singleton.2 rfl), rfl, rfl⟩; generalize vs ++ [⟨5 + 1, 0, pay2, pay⟩] = vs2 at *; obtain ⟨e, he⟩ := depIs.ex hc2 n; have he4 : e ≤ 4 := (by rcases he with ⟨_, rfl⟩ | ⟨d, _, hd, rfl, _⟩ <;> omega); replace hS := hS _ hmu; clear hmu)
          | (refine WL.callL (D := [bchC B (some ⟨Tp, 0, none⟩) m2 fb2, tabC Tp q ⟨sysP, [], ⟨sysL, [], false⟩⟩ fp]) hS (by repeat (first | exact Pulls.nil | (apply Pulls.cons; focus (repeat (first | exact Pull.here | apply Pull.there))))) rfl rfl (fun hI => cdepth_c 0 6 hI (hp.pull hS (by repeat (first | exact Pulls.nil | (apply Pulls.cons; focus (repeat (first | exact Pull.here | apply Pull.there)))))) hc2 (by omega) (by omega) hto2) rfl rfl rfl ?_; rintro v w ⟨rfl, hmu⟩ hS; replace hS := hS _ hmu; clear hmu)
          | (refine WL.callL (D := [bchC B (some ⟨Tp, 0, none⟩) m2 fb2, tabC Tp q ⟨sysP, [], ⟨sysL, [], false⟩⟩ fp]) hS (by repeat (first | exact Pulls.nil | (apply Pulls.cons; focus (repeat (first | exact Pull.here | apply Pull.there))))) rfl rfl (fun hI => cdep_c he hn0 hn1 hI (hp.pull hS (by repeat (first | exact Pulls.nil | (apply Pulls.cons; focus (repeat (first | exact Pull.here | apply Pull.there)))))) hc2 (by omega)) rfl rfl rfl ?_; rintro v w ⟨rfl, hmu⟩ hS; replace hS := hS _ hmu; clear hmu))
        | (show WC _ _ _ _ _ _; first
          | refine WC.seq ?_
          | refine WC.region ?_
          | refine WC.exit ?_
          | refine WC.ret ?_
          | refine WC.condF rfl (by decide) ?_)
        | refine seqQ_n ?_
        | refine seqQ_x ?_
        | refine blkQ_hit rfl ?_
        | refine rndQ_x ?_)
      exact fin1r rfl rfl ⟨hS.upd, vbool (by first | rfl | exact decide_eq_true he4)⟩
  · have hb3 : text.length < 16 ∨ 4096 < text.length := by omega
    clear hb
    rcases hb3 with hb3 | hb3
    all_goals
      repeat' (first
        | (show WL _ _ _ _ _ _ _; first
          | refine WL.pure rfl rfl rfl rfl ?_
          | refine WL.nil ?_
          | (refine WL.callL (D := []) hS .nil rfl rfl (fun hI => chmade_c _) rfl rfl rfl ?_; rintro v w ⟨B, Tp, q, fb, fp, rfl, hmu⟩ hS; replace hS := hS _ hmu; clear hmu)
          | (refine WL.calls hS rfl rfl (chawake_c _ (hp.at hS)) rfl rfl rfl ?_; rintro v w rfl hS)
          | refine WL.skip rfl rfl rfl ?_
          | ((fail_if_success (refine WL.wanted rfl ?_)); refine WL.guard rfl rfl rfl (fun h => ?_) (fun h => ?_) <;> (try simp only [Classical.not_not, Bool.not_eq_true', Bool.not_eq_false', Bool.not_eq_eq_eq_not, Bool.not_true, Bool.not_false, beq_iff_eq, beq_eq_false_iff_ne, ne_eq, decide_eq_decide, decide_eq_true_eq, decide_eq_false_iff_not, Bool.and_eq_true, Bool.or_eq_true, Bool.and_eq_false_iff, Bool.or_eq_false_iff] at h) <;> (try (exfalso; first | omega | contradiction))))
        | (show WC _ _ _ _ _ _; first
          | refine WC.seq ?_
          | refine WC.region ?_
          | refine WC.ret ?_
          | refine WC.condT rfl (by with_reducible rfl) ?_
          | refine WC.condT rfl (decide_eq_true (by first | with_reducible assumption | omega)) ?_)
        | refine seqQ_n ?_
        | refine seqQ_r ?_)
      exact fin1r rfl rfl ⟨hS.upd, vbool (by decide)⟩
end Go.Proofs.YtnefkegefjldjaaGreatDoor

/- What is proved: the key of ChainSmall: with the table laid, the law answers true. Conditions: the statement's own bound on the bulk. -/
set_option linter.unusedSimpArgs false
set_option linter.unusedVariables false
namespace Go.Proofs.YtnefkegefjldjaaGreatDoor
open Go Go.J Go.RowKit

set_option maxRecDepth 100000 in
theorem pow_chainSmall (W : World) (h : laidMet Tryz.prog Rows.chainSmallUptoRow.laid W) : powT W := by
  obtain ⟨a, b, r, he⟩ : ∃ a b r, Rows.chainSmallUptoRow.laid = a :: b :: ("internal/strconv.uint64pow10", Lib.tabData .u64 Lib.pow10Tab) :: r := ⟨_, _, _, rfl⟩
  rw [he] at h
  have h1 := laidMet.tail (laidMet.tail h)
  exact Lib.tabIs_of_head (g := 2) (t := 209) (e := 97) (n := 20) (by kernel_rfl) (by kernel_rfl) (by kernel_rfl) (by kernel_rfl) (by kernel_rfl) (by kernel_rfl) h1
theorem chainSmall.key_chainSmall (W : World) (hL : laidMet Tryz.prog Rows.chainSmallUptoRow.laid W) (v0 v1 : Value) (y0 : List UInt8) (y1 : Int) (b0 b1 : Nat) (h0 : AStr W v0 y0) (h1 : AInt W v1 y1) (q0 : QStr y0 b0) (q1 : QInt y1 b1) (hb : b0 + b1 ≤ 1048576) :
    Cal Tryz.prog 4 [v0, v1] W (fun v W' => Upd [] W W' ∧ v = .bool true) := by
  obtain rfl := h0
  obtain rfl := h1
  obtain ⟨q1, q2, _⟩ := q1
  exact chainSmall_c y0 y1 q1 q2 (pow_chainSmall W hL)
end Go.Proofs.YtnefkegefjldjaaGreatDoor

/- What is proved: the law ChainHolds answers true. Conditions: the statement's own bound on the bulk; the library's table of powers laid. -/
set_option linter.unusedSimpArgs false
set_option linter.unusedVariables false
namespace Go.Proofs.YtnefkegefjldjaaGreatDoor
open Go Go.J Go.RowKit

def bools (l : List Bool) : List Value := l.map Value.bool
theorem bools_at {l : List Bool} {k : Nat} {g : Bool} (h : l[k]? = some g) : (bools l)[k]? = some (.bool g) := by unfold bools; rw [List.getElem?_map, h]; rfl
theorem bools_set {l : List Bool} {k : Nat} (g : Bool) (h : k < l.length) : (bools l).take k ++ [.bool g] ++ (bools l).drop (k + 1) = bools (l.set k g) := by
  unfold bools
  rw [List.set_eq_take_append_cons_drop, if_pos h, List.map_append, List.map_cons, List.map_take, List.map_drop]
  simp
theorem bools_rep : ∀ n, repZ [.bool false] n = bools (List.replicate n false)
  | 0 => rfl
  | n + 1 => by
    rw [List.replicate_succ]
    show [.bool false] ++ repZ [.bool false] n = .bool false :: bools (List.replicate n false)
    rw [bools_rep n]
    rfl
/-- which versions are there -/
structure Hl (texts : List (List UInt8)) (vs : List Ver) (gone : List Bool) : Prop where
  ids : ∀ p ∈ vs.map idData, 1 ≤ p.1 ∧ p.1 ≤ texts.length
  inn : ∀ k (h : k < texts.length), gone[k + 1]? = some false → (k + 1, texts[k]) ∈ vs.map idData
  out : ∀ k, gone[k + 1]? = some true → ∀ p ∈ vs.map idData, p.1 ≠ k + 1
  len : gone.length = texts.length + 1
section
variable {texts : List (List UInt8)} {vs vs' : List Ver} {gone : List Bool} {m : Bch} {N : Nat}
theorem Hl.no (h : Hl texts vs gone) {d : Int} (hd : d < 1 ∨ (texts.length : Int) < d) : findC vs d = none := find_no fun p hp e => by
  have := h.ids p hp
  omega
theorem Hl.gone_ (h : Hl texts vs gone) {k : Nat} (hg : gone[k + 1]? = some true) : findC vs ((k + 1 : Nat) : Int) = none := find_no fun p hp e => h.out k hg p hp (by omega)
theorem Hl.there (h : Hl texts vs gone) (hc : ChIs [] m vs N) {k : Nat} (hk : k < texts.length) (hg : gone[k + 1]? = some false) : ∃ y ∈ vs, y.id = k + 1 := by
  obtain ⟨y, hy, e, _⟩ := hc.find (h.inn k hk hg)
  exact ⟨y, hy, e⟩
theorem Hl.drop (h : Hl texts vs gone) {k : Nat} (hk : k < texts.length) (hd : vs'.map idData = vs.map idData) : Hl texts (delC vs' (k + 1)) (gone.set (k + 1) true) := by
  have hmem : ∀ p, p ∈ (delC vs' (k + 1)).map idData ↔ p ∈ vs.map idData ∧ p.1 ≠ k + 1 := fun p => by
    rw [delC_data, hd, List.mem_filter, decide_eq_true_eq]
  refine ⟨fun p hp => h.ids p ((hmem p).1 hp).1, fun j hj hg => ?_, fun j hg p hp => ?_, by rw [List.length_set]; exact h.len⟩
  · rw [List.getElem?_set] at hg
    split at hg
    · split at hg <;> cases hg
    · rename_i hne
      exact (hmem _).2 ⟨h.inn j hj hg, fun e => hne e.symm⟩
  · rw [List.getElem?_set] at hg
    split at hg
    · rename_i e
      rw [← e]
      exact ((hmem p).1 hp).2
    · exact h.out j hg p ((hmem p).1 hp).1
theorem Hl.getv (h : Hl texts vs gone) (hc : ChIs [] m vs N) {k : Nat} (hk : k < texts.length) (hg : gone[k + 1]? = some false) : cgetV vs ((k + 1 : Nat) : Int) = .tuple #[str texts[k], .int .i64 0] := hc.getv (h.inn k hk hg)
theorem Hl.getn (h : Hl texts vs gone) {k : Nat} (hg : gone[k + 1]? = some true) : cgetV vs ((k + 1 : Nat) : Int) = .tuple #[str [], .int .i64 11] := getv_no fun p hp e => h.out k hg p hp (by omega)
/-- the first versions, one for each text -/
theorem first_snoc {k base : Nat} {pay : List UInt8} (hk : k < texts.length) (h : vs.map idData = (texts.take k).mapIdx fun i s => (i + 1, s)) : (vs ++ [(⟨k + 1, base, pay, texts[k]⟩ : Ver)]).map idData = (texts.take (k + 1)).mapIdx fun i s => (i + 1, s) := by
  rw [List.map_append, h, List.take_succ_eq_append_getElem hk, List.mapIdx_append]
  rw [List.length_take, Nat.min_eq_left (Nat.le_of_lt hk)]
  show _ ++ [(k + 1, texts[k])] = _ ++ [(0 + k + 1, texts[k])]
  rw [Nat.zero_add]
theorem Hl.start (h : vs.map idData = texts.mapIdx fun i s => (i + 1, s)) : Hl texts vs (List.replicate (texts.length + 1) false) := by
  refine ⟨fun p hp => ?_, fun k hk _ => ?_, fun k hg => ?_, List.length_replicate ..⟩
  · rw [h] at hp
    obtain ⟨i, hi, e⟩ := List.mem_iff_getElem.1 hp
    rw [List.getElem_mapIdx] at e
    rw [List.length_mapIdx] at hi
    subst e
    exact ⟨by show 1 ≤ i + 1; omega, hi⟩
  · rw [h, List.mem_iff_getElem]
    exact ⟨k, by rw [List.length_mapIdx]; exact hk, by rw [List.getElem_mapIdx]⟩
  · rw [List.getElem?_replicate] at hg
    split at hg <;> cases hg
end
set_option maxHeartbeats 64000000 in
set_option maxRecDepth 100000 in
theorem chainHolds_c (texts : List (List UInt8)) (drops : List Int) {A A2 : Option Addr} {cap cap2 : Nat} {w0 : World} (h0 : SlAt cStr (Old w0) w0 A texts) (h1 : SlAt cInt (Old w0) w0 A2 drops) (hz : ∀ s ∈ texts, s.length ≤ 549755813888) (hdb : ∀ d ∈ drops, -9223372036854775808 ≤ d ∧ d ≤ 9223372036854775807)
    (hl1 : texts.length ≤ 1048576) (hl2 : drops.length ≤ 1048576) (ht : powT w0) :
    Cal Tryz.prog 3 [.slice A texts.length cap, .slice A2 drops.length cap2] w0 (fun v w' => Upd [] w0 w' ∧ v = .bool true) := by
  refine Cal.mk' (by kernel_rfl) Tryz.func3 rfl rfl fun hS => ?_
  have hp := PowI.of ht
  by_cases hsm : texts.length ≤ 60 ∧ drops.length ≤ 60
  rotate_left
  · have hb3 : 60 < texts.length ∨ 60 < drops.length := by omega
    clear hsm
    rcases hb3 with hb3 | hb3
    all_goals
      repeat' (first
        | (show WL _ _ _ _ _ _ _; first
          | refine WL.pure rfl rfl rfl rfl ?_
          | refine WL.nil ?_
          | (refine WL.callL (D := []) hS .nil rfl rfl (fun hI => chmade_c _) rfl rfl rfl ?_; rintro v w ⟨B, Tp, q, fb, fp, rfl, hmu⟩ hS; replace hS := hS _ hmu; clear hmu)
          | (refine WL.calls hS rfl rfl (chawake_c _ (hp.at hS)) rfl rfl rfl ?_; rintro v w rfl hS)
          | refine WL.skip rfl rfl rfl ?_
          | ((fail_if_success (refine WL.wanted rfl ?_)); refine WL.guard rfl rfl rfl (fun h => ?_) (fun h => ?_) <;> (try simp only [Classical.not_not, Bool.not_eq_true', Bool.not_eq_false', Bool.not_eq_eq_eq_not, Bool.not_true, Bool.not_false, beq_iff_eq, beq_eq_false_iff_ne, ne_eq, decide_eq_decide, decide_eq_true_eq, decide_eq_false_iff_not, Bool.and_eq_true, Bool.or_eq_true, Bool.and_eq_false_iff, Bool.or_eq_false_iff] at h) <;> (try (exfalso; first | omega | contradiction))))
        | (show WC _ _ _ _ _ _; first
          | refine WC.seq ?_
          | refine WC.region ?_
          | refine WC.ret ?_
          | refine WC.condT rfl (by with_reducible rfl) ?_
          | refine WC.condT rfl (decide_eq_true (by first | with_reducible assumption | omega)) ?_)
        | refine seqQ_n ?_
        | refine seqQ_r ?_)
      all_goals exact fin1r rfl rfl ⟨hS.upd, vbool (by decide)⟩
  obtain ⟨ht60, hd60⟩ := hsm
  repeat' (first
    | (show WL _ _ _ _ _ _ _; first
      | refine WL.pure rfl rfl rfl rfl ?_
      | refine WL.nil ?_
      | (refine WL.callL (D := []) hS .nil rfl rfl (fun hI => chmade_c _) rfl rfl rfl ?_; rintro v w ⟨B, Tp, q, fb, fp, rfl, hmu⟩ hS; replace hS := hS _ hmu; clear hmu)
      | (refine WL.calls hS rfl rfl (chawake_c _ (hp.at hS)) rfl rfl rfl ?_; rintro v w rfl hS)
      | ((fail_if_success (refine WL.wanted rfl ?_)); refine WL.guard rfl rfl rfl (fun h => ?_) (fun h => ?_) <;> (try simp only [Classical.not_not, Bool.not_eq_true', Bool.not_eq_false', Bool.not_eq_eq_eq_not, Bool.not_true, Bool.not_false, beq_iff_eq, beq_eq_false_iff_ne, ne_eq, decide_eq_decide, decide_eq_true_eq, decide_eq_false_iff_not, Bool.and_eq_true, Bool.or_eq_true, Bool.and_eq_false_iff, Bool.or_eq_false_iff] at h) <;> (try (exfalso; first | omega | contradiction))))
    | (show WC _ _ _ _ _ _; first
      | refine WC.seq ?_
      | refine WC.region ?_
      | refine WC.block ?_
      | refine WC.skip ?_
      | refine WC.condF rfl (decide_eq_false (by first | with_reducible assumption | omega)) ?_)
    | refine seqQ_n ?_)
  refine WC.loop (σ := Nat × List Ver × Bch × List Nat) [0, 1, 5] (fun (k, _) => [(6, .int .i64 (k : Int)), (7, .int .i64 (k : Int))])
    (fun (k, vs, m, fb) w => (k ≤ texts.length ∧ ChIs [] m vs k ∧ vs.map idData = (texts.take k).mapIdx (fun i s => (i + 1, s)) ∧ m.length ≤ 2 * k) ∧ St w0 [] w [bchC B (some ⟨Tp, 0, none⟩) m fb, tabC Tp q ⟨sysP, [], ⟨sysL, [], false⟩⟩ fp] [⟨w0, Old w0⟩])
    (fun (k, _) => texts.length - k) (0, [], [], fb) ⟨⟨Nat.zero_le _, ChIs.nil, rfl, Nat.le_refl _⟩, hS⟩ ⟨rfl, rfl, trivial⟩ ?_
  clear hS
  rintro ⟨k, vs, m, fb⟩ g w ⟨⟨hk, hc, hdt, hml⟩, hS⟩
  show WC _ _ _ (lf _ [(6, .int .i64 (k : Int)), (7, .int .i64 (k : Int))] _ _) _ _
  by_cases hlt : k < texts.length
  · obtain ⟨rb, ro, es, rfl, hF, hr, hes⟩ := h0.at_ hlt
    have hes : es = [str texts[k]] := hes
    subst hes
    have hr : w0.rangeAt rb (ro + k * 1) [str texts[k]] := hr
    have hxl := hz texts[k] (List.getElem_mem hlt)
    have hsn := fun {base : Nat} {pay : List UInt8} => first_snoc (base := base) (pay := pay) hlt hdt
    generalize texts[k] = x at *
    clear hdt hz hdb
    repeat' (first
      | (show WL _ _ _ _ _ _ _; first
        | refine WL.pure rfl rfl rfl rfl ?_
        | refine WL.nil ?_
        | refine WL.add rfl rfl rfl (by omega) rfl rfl rfl ?_
        | (refine WL.load hS rfl rfl (LdOk.snap0 hF hr (by repeat (first | exact List.Mem.head _ | apply List.Mem.tail)) rfl) rfl rfl rfl ?_)
        | (refine WL.callL (D := [bchC B (some ⟨Tp, 0, none⟩) m fb, tabC Tp q ⟨sysP, [], ⟨sysL, [], false⟩⟩ fp]) hS (by repeat (first | exact Pulls.nil | (apply Pulls.cons; focus (repeat (first | exact Pull.here | apply Pull.there))))) rfl rfl (fun hI => cadd_c (vs := vs) (N := k) x (k : Int) (by omega) (by omega) (by omega) hI (hp.pull hS (by repeat (first | exact Pulls.nil | (apply Pulls.cons; focus (repeat (first | exact Pull.here | apply Pull.there)))))) hc (by omega) (by omega)) rfl rfl rfl ?_; rintro v w ⟨rfl, base, pay, m2, fb2, hlo, hse, hc2, hgr2, hmu⟩ hS; have hml2 := hgr2.len; replace hS := hS _ hmu; clear hmu)
        | refine WL.index rfl rfl rfl rfl (by first | with_reducible assumption | omega) rfl rfl rfl rfl ?_)
      | (show WC _ _ _ _ _ _; first
        | refine WC.seq ?_
        | refine WC.region ?_
        | refine WC.block ?_
        | refine WC.skip ?_
        | refine WC.condT rfl (decide_eq_true (by first | with_reducible assumption | omega)) ?_
        | refine WC.condF rfl (decide_eq_false (by first | with_reducible assumption | omega)) ?_)
      | refine seqQ_n ?_
      | refine blkQ_n ?_)
    exact rndQ_n (k + 1, _, m2, fb2) ⟨⟨by omega, hc2, hsn, by omega⟩, hS.droplast2 (by repeat (first | exact Pulls.nil | (apply Pulls.cons; focus (repeat (first | exact Pull.here | apply Pull.there)))))⟩ (by show texts.length - (k + 1) < texts.length - k; omega) ⟨rfl, vint (by omega), trivial⟩ ⟨rfl, rfl, rfl, trivial⟩
  have hke : k = texts.length := by omega
  subst hke
  rw [List.take_length] at hdt
  have hH := Hl.start hdt
  clear hdt hlt hk
  repeat' (first
    | (show WL _ _ _ _ _ _ _; first
      | refine WL.pure rfl rfl rfl rfl ?_
      | refine WL.nil ?_
      | refine WL.add rfl rfl rfl (by omega) rfl rfl rfl ?_
      | (refine WL.mkS (n := texts.length + 1) (zs := [.bool false]) hS rfl rfl ⟨_, rfl, rfl⟩ rfl rfl (by omega) rfl rfl rfl ?_; intro w gb hS; rw [bools_rep] at hS))
    | (show WC _ _ _ _ _ _; first
      | refine WC.seq ?_
      | refine WC.region ?_
      | refine WC.block ?_
      | refine WC.exit ?_
      | refine WC.condF rfl (decide_eq_false (by first | with_reducible assumption | omega)) ?_)
    | refine seqQ_n ?_
    | refine seqQ_x ?_
    | refine blkQ_hit rfl ?_
    | refine rndQ_x ?_)
  refine WC.loop (σ := Nat × List Ver × Bch × List Nat × List Bool) [0, 1, 5, 8] (fun (i, _) => [(9, .int .i64 (i : Int))])
    (fun (i, vs, m, fb, gone) w => (i ≤ drops.length ∧ ChIs [] m vs texts.length ∧ Hl texts vs gone ∧ m.length ≤ 120 + 61 * i) ∧ St w0 [] w [.own (.slice (some ⟨gb, 0, none⟩) (texts.length + 1) (texts.length + 1)) 4 1 (texts.length + 1) (bools gone), bchC B (some ⟨Tp, 0, none⟩) m fb, tabC Tp q ⟨sysP, [], ⟨sysL, [], false⟩⟩ fp] [⟨w0, Old w0⟩])
    (fun (i, _) => drops.length - i) (0, vs, m, fb, _) ⟨⟨Nat.zero_le _, hc, hH, by omega⟩, hS.droplast2 (by repeat (first | exact Pulls.nil | (apply Pulls.cons; focus (repeat (first | exact Pull.here | apply Pull.there)))))⟩ ⟨rfl, trivial⟩ ?_
  clear hS hc hH hml
  rintro ⟨i, vs, m, fb, gone⟩ g2 w ⟨⟨hi, hc, hH, hml⟩, hS⟩
  show WC _ _ _ (lf _ [(9, .int .i64 (i : Int))] _ _) _ _
  by_cases hlt : i < drops.length
  rotate_left
  · repeat' (first
      | (show WL _ _ _ _ _ _ _; first
        | refine WL.pure rfl rfl rfl rfl ?_
        | refine WL.nil ?_)
      | (show WC _ _ _ _ _ _; first
        | refine WC.seq ?_
        | refine WC.region ?_
        | refine WC.exit ?_
        | refine WC.ret ?_
        | refine WC.condF rfl (decide_eq_false (by first | with_reducible assumption | omega)) ?_)
      | refine seqQ_n ?_
      | refine seqQ_x ?_
      | refine blkQ_hit rfl ?_
      | refine rndQ_x ?_)
    exact fin1r rfl rfl ⟨hS.upd, rfl⟩
  obtain ⟨rb, ro, es, rfl, hF, hr, hes⟩ := h1.at_ hlt
  have hes : es = [.int .i64 drops[i]] := hes
  subst hes
  have hr : w0.rangeAt rb (ro + i * 1) [.int .i64 drops[i]] := hr
  have hd12 := hdb drops[i] (List.getElem_mem hlt)
  generalize drops[i] = d at *
  have hvl := hc.len
  have hgl := hH.len
  have hcase : (∃ k, k < texts.length ∧ d = ((k + 1 : Nat) : Int) ∧ gone[k + 1]? = some false) ∨ (∃ k, k < texts.length ∧ d = ((k + 1 : Nat) : Int) ∧ gone[k + 1]? = some true) ∨ (d < 1 ∨ (texts.length : Int) < d) := by
    by_cases ho : d < 1 ∨ (texts.length : Int) < d
    · exact .inr (.inr ho)
    · obtain ⟨k, hk⟩ : ∃ k : Nat, d = ((k + 1 : Nat) : Int) := ⟨(d - 1).toNat, by omega⟩
      have hkl : k + 1 < gone.length := by omega
      cases hg : gone[k + 1] with
      | false => exact .inl ⟨k, by omega, hk, by rw [List.getElem?_eq_getElem hkl, hg]⟩
      | true => exact .inr (.inl ⟨k, by omega, hk, by rw [List.getElem?_eq_getElem hkl, hg]⟩)
  rcases hcase with ⟨k, hk, rfl, hg⟩ | ⟨k, hk, rfl, hg⟩ | ho
  case' inl =>
    obtain ⟨y, hy, hyi⟩ := hH.there hc hk hg
    have hgx := bools_at hg
    have hgx : (bools gone)[(k + 1) * 1]? = some (.bool false) := by rw [Nat.mul_one]; exact hgx
    have hset : (bools gone).take ((k + 1) * 1) ++ [.bool true] ++ (bools gone).drop ((k + 1) * 1 + 1) = bools (gone.set (k + 1) true) := by rw [Nat.mul_one]; exact bools_set (l := gone) true (by omega)
    have hbl : (bools gone).length = texts.length + 1 := by unfold bools; rw [List.length_map]; exact hgl
    have hdrop := fun {vs' : List Ver} (hd : vs'.map idData = vs.map idData) => hH.drop hk hd
    rw [← hyi] at hdrop hset
    clear hH hdb hz hd12 hg
    repeat' (first
      | (show WL _ _ _ _ _ _ _; first
        | refine WL.pure rfl rfl rfl rfl ?_
        | refine WL.nil ?_
        | (refine WL.load hS rfl rfl (LdOk.snap0 hF hr (by repeat (first | exact List.Mem.head _ | apply List.Mem.tail)) rfl) rfl rfl rfl ?_)
        | (refine WL.callL (D := [bchC B (some ⟨Tp, 0, none⟩) m fb, tabC Tp q ⟨sysP, [], ⟨sysL, [], false⟩⟩ fp]) hS (by repeat (first | exact Pulls.nil | (apply Pulls.cons; focus (repeat (first | exact Pull.here | apply Pull.there))))) rfl (congrArg (fun n : Nat => [Value.pointer (some ⟨B, 0, none⟩), Value.int IntKind.i64 (n : Int)]) hyi.symm) (fun hI => cdrop_c y hI (hp.pull hS (by repeat (first | exact Pulls.nil | (apply Pulls.cons; focus (repeat (first | exact Pull.here | apply Pull.there)))))) hc (by omega) (by omega) (by decide) hy) rfl rfl rfl ?_; rintro v w ⟨rfl, vs', m', fb', hc', hd', hgr', hmu⟩ hS; have hl' := hgr'.len; clear hgr'; replace hS := hS _ hmu; clear hmu)
        | (refine WL.load hS rfl rfl (LdOk.ownAt (by repeat (first | exact List.Mem.head _ | apply List.Mem.tail)) rfl ⟨_, rfl⟩ hgx rfl) rfl rfl rfl ?_)
        | (refine WL.storeOwn (off := (k + 1) * 1) (vs := [.bool true]) hS rfl rfl rfl (by repeat (first | exact Repl.here | apply Repl.there)) (by show (k + 1) * 1 + 1 ≤ _; omega) rfl rfl rfl rfl ?_; intro w hS)
        | refine WL.index rfl rfl rfl rfl (by first | with_reducible assumption | omega) rfl rfl rfl rfl ?_
        | ((fail_if_success (refine WL.wanted rfl ?_)); refine WL.guard rfl rfl rfl (fun h => ?_) (fun h => ?_) <;> (try simp only [Classical.not_not, Bool.not_eq_true', Bool.not_eq_false', Bool.not_eq_eq_eq_not, Bool.not_true, Bool.not_false, beq_iff_eq, beq_eq_false_iff_ne, ne_eq, decide_eq_decide, decide_eq_true_eq, decide_eq_false_iff_not, Bool.and_eq_true, Bool.or_eq_true, Bool.and_eq_false_iff, Bool.or_eq_false_iff] at h) <;> (try (exfalso; first | omega | contradiction))))
      | (show WC _ _ _ _ _ _; first
        | refine WC.seq ?_
        | refine WC.region ?_
        | refine WC.block ?_
        | refine WC.skip ?_
        | refine WC.condT rfl (by decide) ?_
        | refine WC.condF rfl (by decide) ?_
        | refine WC.condT rfl (decide_eq_true (by first | with_reducible assumption | omega)) ?_)
      | refine seqQ_n ?_)
    obtain ⟨vs1, m1, fb1, gone1, hc1, hH1, hml1, hS⟩ : ∃ vs1 m1 fb1 gone1, ChIs [] m1 vs1 texts.length ∧ Hl texts vs1 gone1 ∧ m1.length ≤ 120 + 61 * (i + 1) ∧ St w0 [] w [.own (.slice (some ⟨gb, 0, none⟩) (texts.length + 1) (texts.length + 1)) 4 1 (texts.length + 1) (bools gone1), bchC B (some ⟨Tp, 0, none⟩) m1 fb1, tabC Tp q ⟨sysP, [], ⟨sysL, [], false⟩⟩ fp] [⟨w0, Old w0⟩] :=
      ⟨delC vs' y.id, m', fb', gone.set y.id true, hc', hdrop hd', by omega, by
        rw [← hset, hyi]
        exact hS.droplast2 (by repeat (first | exact Pulls.nil | (apply Pulls.cons; focus (repeat (first | exact Pull.here | apply Pull.there)))))⟩
    clear hc' hdrop hset hgx hy hyi hd' hl' hbl
  case' inr.inl =>
    have hf := hH.gone_ hg
    have hgx := bools_at hg
    have hgx : (bools gone)[(k + 1) * 1]? = some (.bool true) := by rw [Nat.mul_one]; exact hgx
    clear hdb hz hg
    repeat' (first
      | (show WL _ _ _ _ _ _ _; first
        | refine WL.pure rfl rfl rfl rfl ?_
        | refine WL.nil ?_
        | (refine WL.load hS rfl rfl (LdOk.snap0 hF hr (by repeat (first | exact List.Mem.head _ | apply List.Mem.tail)) rfl) rfl rfl rfl ?_)
        | (refine WL.callL (D := [bchC B (some ⟨Tp, 0, none⟩) m fb, tabC Tp q ⟨sysP, [], ⟨sysL, [], false⟩⟩ fp]) hS (by repeat (first | exact Pulls.nil | (apply Pulls.cons; focus (repeat (first | exact Pull.here | apply Pull.there))))) rfl rfl (fun hI => cdropNo_c ((k + 1 : Nat) : Int) hd12.1 hd12.2 hI (hp.pull hS (by repeat (first | exact Pulls.nil | (apply Pulls.cons; focus (repeat (first | exact Pull.here | apply Pull.there)))))) hc (by omega) hf) rfl rfl rfl ?_; rintro v w ⟨rfl, hmu⟩ hS; replace hS := hS _ hmu; clear hmu)
        | (refine WL.load hS rfl rfl (LdOk.ownAt (by repeat (first | exact List.Mem.head _ | apply List.Mem.tail)) rfl ⟨_, rfl⟩ hgx rfl) rfl rfl rfl ?_)
        | refine WL.index rfl rfl rfl rfl (by first | with_reducible assumption | omega) rfl rfl rfl rfl ?_
        | ((fail_if_success (refine WL.wanted rfl ?_)); refine WL.guard rfl rfl rfl (fun h => ?_) (fun h => ?_) <;> (try simp only [Classical.not_not, Bool.not_eq_true', Bool.not_eq_false', Bool.not_eq_eq_eq_not, Bool.not_true, Bool.not_false, beq_iff_eq, beq_eq_false_iff_ne, ne_eq, decide_eq_decide, decide_eq_true_eq, decide_eq_false_iff_not, Bool.and_eq_true, Bool.or_eq_true, Bool.and_eq_false_iff, Bool.or_eq_false_iff] at h) <;> (try (exfalso; first | omega | contradiction))))
      | (show WC _ _ _ _ _ _; first
        | refine WC.seq ?_
        | refine WC.region ?_
        | refine WC.block ?_
        | refine WC.skip ?_
        | refine WC.condF rfl (by decide) ?_
        | refine WC.condT rfl (decide_eq_true (by first | with_reducible assumption | omega)) ?_)
      | refine seqQ_n ?_)
    obtain ⟨vs1, m1, fb1, gone1, hc1, hH1, hml1, hS⟩ : ∃ vs1 m1 fb1 gone1, ChIs [] m1 vs1 texts.length ∧ Hl texts vs1 gone1 ∧ m1.length ≤ 120 + 61 * (i + 1) ∧ St w0 [] w [.own (.slice (some ⟨gb, 0, none⟩) (texts.length + 1) (texts.length + 1)) 4 1 (texts.length + 1) (bools gone1), bchC B (some ⟨Tp, 0, none⟩) m1 fb1, tabC Tp q ⟨sysP, [], ⟨sysL, [], false⟩⟩ fp] [⟨w0, Old w0⟩] :=
      ⟨vs, m, fb, gone, hc, hH, by omega, hS.droplast2 (by repeat (first | exact Pulls.nil | (apply Pulls.cons; focus (repeat (first | exact Pull.here | apply Pull.there)))))⟩
    clear hf hgx
  case' inr.inr =>
    have hf := hH.no ho
    clear hdb hz
    rcases ho with ho | ho
    all_goals
      repeat' (first
        | (show WL _ _ _ _ _ _ _; first
          | refine WL.pure rfl rfl rfl rfl ?_
          | refine WL.nil ?_
          | (refine WL.load hS rfl rfl (LdOk.snap0 hF hr (by repeat (first | exact List.Mem.head _ | apply List.Mem.tail)) rfl) rfl rfl rfl ?_)
          | (refine WL.callL (D := [bchC B (some ⟨Tp, 0, none⟩) m fb, tabC Tp q ⟨sysP, [], ⟨sysL, [], false⟩⟩ fp]) hS (by repeat (first | exact Pulls.nil | (apply Pulls.cons; focus (repeat (first | exact Pull.here | apply Pull.there))))) rfl rfl (fun hI => cdropNo_c d hd12.1 hd12.2 hI (hp.pull hS (by repeat (first | exact Pulls.nil | (apply Pulls.cons; focus (repeat (first | exact Pull.here | apply Pull.there)))))) hc (by omega) hf) rfl rfl rfl ?_; rintro v w ⟨rfl, hmu⟩ hS; replace hS := hS _ hmu; clear hmu)
          | refine WL.index rfl rfl rfl rfl (by first | with_reducible assumption | omega) rfl rfl rfl rfl ?_
          | refine WL.skip rfl rfl rfl ?_
          | ((fail_if_success (refine WL.wanted rfl ?_)); refine WL.guard rfl rfl rfl (fun h => ?_) (fun h => ?_) <;> (try simp only [Classical.not_not, Bool.not_eq_true', Bool.not_eq_false', Bool.not_eq_eq_eq_not, Bool.not_true, Bool.not_false, beq_iff_eq, beq_eq_false_iff_ne, ne_eq, decide_eq_decide, decide_eq_true_eq, decide_eq_false_iff_not, Bool.and_eq_true, Bool.or_eq_true, Bool.and_eq_false_iff, Bool.or_eq_false_iff] at h) <;> (try (exfalso; first | omega | contradiction))))
        | (show WC _ _ _ _ _ _; first
          | refine WC.seq ?_
          | refine WC.region ?_
          | refine WC.block ?_
          | refine WC.skip ?_
          | refine WC.condF rfl (by with_reducible rfl) ?_
          | refine WC.condF rfl (by decide) ?_
          | refine WC.condT rfl (decide_eq_true (by first | with_reducible assumption | omega)) ?_)
        | refine seqQ_n ?_)
      obtain ⟨vs1, m1, fb1, gone1, hc1, hH1, hml1, hS⟩ : ∃ vs1 m1 fb1 gone1, ChIs [] m1 vs1 texts.length ∧ Hl texts vs1 gone1 ∧ m1.length ≤ 120 + 61 * (i + 1) ∧ St w0 [] w [.own (.slice (some ⟨gb, 0, none⟩) (texts.length + 1) (texts.length + 1)) 4 1 (texts.length + 1) (bools gone1), bchC B (some ⟨Tp, 0, none⟩) m1 fb1, tabC Tp q ⟨sysP, [], ⟨sysL, [], false⟩⟩ fp] [⟨w0, Old w0⟩] :=
        ⟨vs, m, fb, gone, hc, hH, by omega, hS.droplast2 (by repeat (first | exact Pulls.nil | (apply Pulls.cons; focus (repeat (first | exact Pull.here | apply Pull.there)))))⟩
      clear hf
  all_goals
    clear hml hvl
    refine WC.loop (σ := Nat × List Nat) [0, 1, 5, 8, 9] (fun (j, _) => [(12, .int .i64 ((j + 1 : Nat) : Int))]) (fun (j, fb1) w => j ≤ texts.length ∧ St w0 [] w [.own (.slice (some ⟨gb, 0, none⟩) (texts.length + 1) (texts.length + 1)) 4 1 (texts.length + 1) (bools gone1), bchC B (some ⟨Tp, 0, none⟩) m1 fb1, tabC Tp q ⟨sysP, [], ⟨sysL, [], false⟩⟩ fp] [⟨w0, Old w0⟩])
      (fun (j, _) => texts.length - j) (0, fb1) ⟨Nat.zero_le _, hS⟩ ⟨rfl, trivial⟩ ?_
    clear hS
    rintro ⟨j, fb1⟩ g3 w ⟨hj, hS⟩
    show WC _ _ _ (lf _ [(12, .int .i64 ((j + 1 : Nat) : Int))] _ _) _ _
    by_cases hjl : j < texts.length
    rotate_left
    · repeat' (first
        | (show WL _ _ _ _ _ _ _; first
          | refine WL.pure rfl rfl rfl rfl ?_
          | refine WL.nil ?_
          | refine WL.add rfl rfl rfl (by omega) rfl rfl rfl ?_)
        | (show WC _ _ _ _ _ _; first
          | refine WC.seq ?_
          | refine WC.region ?_
          | refine WC.exit ?_
          | refine WC.condF rfl (decide_eq_false (by first | with_reducible assumption | omega)) ?_)
        | refine seqQ_n ?_
        | refine blkQ_n ?_
        | refine seqQ_x ?_
        | refine blkQ_hit rfl ?_
        | refine rndQ_x ?_)
      exact rndQ_n (i + 1, vs1, m1, fb1, gone1) ⟨⟨by omega, hc1, hH1, hml1⟩, hS⟩ (by show drops.length - (i + 1) < drops.length - i; omega) ⟨vint (by omega), trivial⟩ ⟨rfl, rfl, rfl, rfl, trivial⟩
    have hgl1 := hH1.len
    have hjg : j + 1 < gone1.length := by omega
    cases hgj : gone1[j + 1] with
    | true =>
      have hgj2 : gone1[j + 1]? = some true := by rw [List.getElem?_eq_getElem hjg, hgj]
      have hgx2 : (bools gone1)[(j + 1) * 1]? = some (.bool true) := by rw [Nat.mul_one]; exact bools_at hgj2
      have hgv := hH1.getn hgj2
      clear hgj hgj2 hgl1 hjg
      repeat' (first
        | (show WL _ _ _ _ _ _ _; first
          | refine WL.pure rfl rfl rfl rfl ?_
          | refine WL.nil ?_
          | refine WL.add rfl rfl rfl (by omega) rfl rfl rfl ?_
          | (refine WL.callL (D := [bchC B (some ⟨Tp, 0, none⟩) m1 fb1, tabC Tp q ⟨sysP, [], ⟨sysL, [], false⟩⟩ fp]) hS (by repeat (first | exact Pulls.nil | (apply Pulls.cons; focus (repeat (first | exact Pull.here | apply Pull.there))))) rfl rfl (fun hI => cgets_c (vs := vs1) (N := texts.length) (id := ((j + 1 : Nat) : Int)) (by omega) (by omega) hI (hp.pull hS (by repeat (first | exact Pulls.nil | (apply Pulls.cons; focus (repeat (first | exact Pull.here | apply Pull.there)))))) hc1 (by omega)) rfl rfl rfl ?_; rintro v w ⟨rfl, hmu⟩ hS; rw [hgv]; replace hS := hS _ hmu; clear hmu)
          | (refine WL.load hS rfl rfl (LdOk.ownAt (by repeat (first | exact List.Mem.head _ | apply List.Mem.tail)) rfl ⟨_, rfl⟩ hgx2 rfl) rfl rfl rfl ?_)
          | refine WL.index rfl rfl rfl rfl (by first | with_reducible assumption | omega) rfl rfl rfl rfl ?_
          | refine WL.skip rfl rfl rfl ?_)
        | (show WC _ _ _ _ _ _; first
          | refine WC.seq ?_
          | refine WC.region ?_
          | refine WC.block ?_
          | refine WC.skip ?_
          | refine WC.condF rfl (by with_reducible rfl) ?_
          | refine WC.condT rfl (decide_eq_true (by first | with_reducible assumption | omega)) ?_)
        | refine seqQ_n ?_
        | refine blkQ_n ?_)
      exact rndQ_n (j + 1, fb1) ⟨by omega, hS.droplast2 (by repeat (first | exact Pulls.nil | (apply Pulls.cons; focus (repeat (first | exact Pull.here | apply Pull.there)))))⟩ (by show texts.length - (j + 1) < texts.length - j; omega) ⟨vint (by omega), trivial⟩ ⟨rfl, rfl, rfl, rfl, rfl, trivial⟩
    | false =>
      have hgj2 : gone1[j + 1]? = some false := by rw [List.getElem?_eq_getElem hjg, hgj]
      have hgx2 : (bools gone1)[(j + 1) * 1]? = some (.bool false) := by rw [Nat.mul_one]; exact bools_at hgj2
      have hgv := hH1.getv hc1 hjl hgj2
      obtain ⟨e, he⟩ := depIs.ex (T := ⟨sysP, [], ⟨sysL, [], false⟩⟩) hc1 ((j + 1 : Nat) : Int)
      have he4 : e ≤ 4 := (by rcases he with ⟨_, rfl⟩ | ⟨d, _, hd, rfl, _⟩ <;> omega)
      obtain ⟨tb, to, es, rfl, hF2, hr2, hes2⟩ := h0.at_ hjl
      have hes2 : es = [str texts[j]] := hes2
      subst hes2
      have hr2 : w0.rangeAt tb (to + j * 1) [str texts[j]] := hr2
      generalize texts[j] = x at *
      clear hgj hgj2 hgl1 hjg
      repeat' (first
        | (show WL _ _ _ _ _ _ _; first
          | refine WL.pure rfl rfl rfl rfl ?_
          | refine WL.nil ?_
          | refine WL.add rfl rfl rfl (by omega) rfl rfl rfl ?_
          | refine WL.sub rfl rfl rfl (by omega) rfl rfl rfl ?_
          | (refine WL.callL (D := [bchC B (some ⟨Tp, 0, none⟩) m1 fb1, tabC Tp q ⟨sysP, [], ⟨sysL, [], false⟩⟩ fp]) hS (by repeat (first | exact Pulls.nil | (apply Pulls.cons; focus (repeat (first | exact Pull.here | apply Pull.there))))) rfl rfl (fun hI => cgets_c (vs := vs1) (N := texts.length) (id := ((j + 1 : Nat) : Int)) (by omega) (by omega) hI (hp.pull hS (by repeat (first | exact Pulls.nil | (apply Pulls.cons; focus (repeat (first | exact Pull.here | apply Pull.there)))))) hc1 (by omega)) rfl rfl rfl ?_; rintro v w ⟨rfl, hmu⟩ hS; rw [hgv]; replace hS := hS _ hmu; clear hmu)
          | (refine WL.load hS rfl rfl (LdOk.ownAt (by repeat (first | exact List.Mem.head _ | apply List.Mem.tail)) rfl ⟨_, rfl⟩ hgx2 rfl) rfl rfl rfl ?_)
          | (refine WL.index (j := j) rfl rfl rfl (vint (show ((j + 1 : Nat) : Int) - 1 = Int.ofNat j by show _ = (j : Int); omega)) hjl rfl rfl rfl rfl ?_)
          | (refine WL.load hS rfl rfl (LdOk.snap0 hF2 hr2 (by repeat (first | exact List.Mem.head _ | apply List.Mem.tail)) rfl) rfl rfl rfl ?_)
          | (refine WL.callL (D := [bchC B (some ⟨Tp, 0, none⟩) m1 fb1, tabC Tp q ⟨sysP, [], ⟨sysL, [], false⟩⟩ fp]) hS (by repeat (first | exact Pulls.nil | (apply Pulls.cons; focus (repeat (first | exact Pull.here | apply Pull.there))))) rfl rfl (fun hI => cdep_c he (by omega) (by omega) hI (hp.pull hS (by repeat (first | exact Pulls.nil | (apply Pulls.cons; focus (repeat (first | exact Pull.here | apply Pull.there)))))) hc1 (by omega)) rfl rfl rfl ?_; rintro v w ⟨rfl, hmu⟩ hS; replace hS := hS _ hmu; clear hmu)
          | refine WL.index rfl rfl rfl rfl (by first | with_reducible assumption | omega) rfl rfl rfl rfl ?_
          | refine WL.skip rfl rfl rfl ?_
          | ((fail_if_success (refine WL.wanted rfl ?_)); refine WL.guard rfl rfl rfl (fun h => ?_) (fun h => ?_) <;> (try simp only [Classical.not_not, Bool.not_eq_true', Bool.not_eq_false', Bool.not_eq_eq_eq_not, Bool.not_true, Bool.not_false, beq_iff_eq, beq_eq_false_iff_ne, ne_eq, decide_eq_decide, decide_eq_true_eq, decide_eq_false_iff_not, Bool.and_eq_true, Bool.or_eq_true, Bool.and_eq_false_iff, Bool.or_eq_false_iff] at h) <;> (try (exfalso; first | omega | contradiction))))
        | (show WC _ _ _ _ _ _; first
          | refine WC.seq ?_
          | refine WC.region ?_
          | refine WC.block ?_
          | refine WC.skip ?_
          | refine WC.condT rfl (decide_eq_true (by first | with_reducible assumption | omega)) ?_
          | refine WC.condF rfl (decide_eq_false (by first | with_reducible assumption | omega)) ?_)
        | refine seqQ_n ?_
        | refine blkQ_n ?_)
      exact rndQ_n (j + 1, fb1) ⟨by omega, hS.droplast2 (by repeat (first | exact Pulls.nil | (apply Pulls.cons; focus (repeat (first | exact Pull.here | apply Pull.there)))))⟩ (by show texts.length - (j + 1) < texts.length - j; omega) ⟨vint (by omega), trivial⟩ ⟨rfl, rfl, rfl, rfl, rfl, trivial⟩
end Go.Proofs.YtnefkegefjldjaaGreatDoor

/- What is proved: how the laws' arguments read. Conditions: none. -/
set_option linter.unusedSimpArgs false
set_option linter.unusedVariables false
namespace Go.Proofs.YtnefkegefjldjaaGreatDoor
open Go Go.J Go.RowKit

theorem arg_strs : Arg Tryz.prog 22 (ASl cStr) (QL QStr) := Arg.slice Tryz.underlying22 (Opens.slice Tryz.underlying22 (by kernel_rfl) (by decide) (Opens.str Tryz.underlying9))
theorem arg_ints : Arg Tryz.prog 23 (ASl cInt) (QL QInt) := Arg.slice Tryz.underlying23 (Opens.slice Tryz.underlying23 (by kernel_rfl) (by decide) (Opens.int Tryz.underlying3))
/-- each one is within the bulk, and so is their number -/
theorem ql_each {α : Type} {Q : α → Nat → Prop} {ys : List α} {b : Nat} (h : QL Q ys b) (h1 : ∀ y n, Q y n → 1 ≤ n) : (∀ y ∈ ys, ∃ n, n ≤ b ∧ Q y n) ∧ ys.length ≤ b := by
  obtain ⟨bs, hl, hq, hs⟩ := h
  have hsum : ∀ bs : List Nat, (∀ n ∈ bs, n ≤ bs.sum) := by
    intro bs
    induction bs with
    | nil => intro n hn; cases hn
    | cons a l ih =>
      intro n hn
      rw [List.sum_cons]
      rcases List.mem_cons.1 hn with rfl | hn
      · omega
      · have := ih n hn; omega
  have hcnt : ∀ bs : List Nat, (∀ n ∈ bs, 1 ≤ n) → bs.length ≤ bs.sum := by
    intro bs
    induction bs with
    | nil => intro _; exact Nat.zero_le _
    | cons a l ih =>
      intro hn
      rw [List.sum_cons, List.length_cons]
      have := ih fun n h => hn n (List.mem_cons_of_mem _ h)
      have := hn a (List.mem_cons_self ..)
      omega
  refine ⟨fun y hy => ?_, ?_⟩
  · obtain ⟨i, hi, rfl⟩ := List.getElem_of_mem hy
    have hi' : i < bs.length := by omega
    exact ⟨bs[i], by have := hsum bs _ (List.getElem_mem hi'); omega, hq i hi hi'⟩
  · have := hcnt bs fun n hn => by
      obtain ⟨i, hi, rfl⟩ := List.getElem_of_mem hn
      exact h1 _ _ (hq i (by omega) hi)
    omega
end Go.Proofs.YtnefkegefjldjaaGreatDoor

/- What is proved: the key of ChainHolds: with the table laid, the law answers true. Conditions: the statement's own bound on the bulk. -/
set_option linter.unusedSimpArgs false
set_option linter.unusedVariables false
namespace Go.Proofs.YtnefkegefjldjaaGreatDoor
open Go Go.J Go.RowKit

set_option maxRecDepth 100000 in
theorem pow_chainHolds (W : World) (h : laidMet Tryz.prog Rows.chainHoldsUptoRow.laid W) : powT W := by
  obtain ⟨a, b, r, he⟩ : ∃ a b r, Rows.chainHoldsUptoRow.laid = a :: b :: ("internal/strconv.uint64pow10", Lib.tabData .u64 Lib.pow10Tab) :: r := ⟨_, _, _, rfl⟩
  rw [he] at h
  have h1 := laidMet.tail (laidMet.tail h)
  exact Lib.tabIs_of_head (g := 2) (t := 209) (e := 97) (n := 20) (by kernel_rfl) (by kernel_rfl) (by kernel_rfl) (by kernel_rfl) (by kernel_rfl) (by kernel_rfl) h1
theorem chainHolds.key_chainHolds (W : World) (hL : laidMet Tryz.prog Rows.chainHoldsUptoRow.laid W) (v0 v1 : Value) (y0 : List (List UInt8)) (y1 : List Int) (b0 b1 : Nat) (h0 : ASl cStr W v0 y0) (h1 : ASl cInt W v1 y1) (q0 : QL QStr y0 b0) (q1 : QL QInt y1 b1) (hb : b0 + b1 ≤ 1048576) :
    Cal Tryz.prog 3 [v0, v1] W (fun v W' => Upd [] W W' ∧ v = .bool true) := by
  obtain ⟨A0, c0, rfl, _, h0⟩ := h0
  obtain ⟨A1, c1, rfl, _, h1⟩ := h1
  obtain ⟨e0, l0⟩ := ql_each q0 fun y n h => (by unfold QStr at h; omega)
  obtain ⟨e1, l1⟩ := ql_each q1 fun y n h => h.2.2
  exact chainHolds_c y0 y1 h0 h1 (fun s hs => by obtain ⟨n, hn, h⟩ := e0 s hs; unfold QStr at h; omega) (fun d hd => by obtain ⟨n, hn, h⟩ := e1 d hd; exact ⟨h.1, h.2.1⟩) (by omega) (by omega) (pow_chainHolds W hL)
end Go.Proofs.YtnefkegefjldjaaGreatDoor
